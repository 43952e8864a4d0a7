/- Gear: isEnd, ends, Ends by both. -/
import Derived.Test.YtoelekhkgknneaaDoorGg
set_option linter.unusedSimpArgs false
set_option linter.unusedVariables false
namespace Go.Proofs.YtoelekhkgknneaaDoor
open Go.RowKit Go.Maps

def isE (r : List Lk) (i : Int) : Bool := !(r.any fun x => x.fr == i)
def endN (r : List Lk) (k : Nat) : List Nat := (List.range k).filter fun i => isE r i
theorem endN_yes {r : List Lk} {k : Nat} (h : isE r k = true) : endN r (k + 1) = endN r k ++ [k] := by
  unfold endN; rw [List.range_succ, List.filter_append]; simp [h]
theorem endN_no {r : List Lk} {k : Nat} (h : isE r k = false) : endN r (k + 1) = endN r k := by
  unfold endN; rw [List.range_succ, List.filter_append]; simp [h]
theorem endN_len (r : List Lk) (k : Nat) : (endN r k).length ≤ k := by
  have := List.length_filter_le (fun i : Nat => isE r i) (List.range k)
  simpa [endN] using this
theorem p_isEnd1 (x : Lk) (n : Int) (bx : Nat) (w : World) (hc : w.cell? ⟨bx, 0, none⟩ = some (.int .i64 n)) (hb : bx < w.heap.size) :
    Calls Tryd.prog 114 #[lkV x, .pointer (some ⟨bx, 0, none⟩)] w fun e w' => e = .returned (.bool (x.fr == n)) ∧ Below w.heap.size w w' := by
  have hne : bx ≠ w.heap.size := by omega
  go_enter Tryd.func114, Tryd.ntmps114
  go_wp2
  go_ret
  exact ⟨rfl, by (repeat' (first | assumption | exact below_refl _ | refine bl_alloc ?_ _ | refine Below.setCell ?_ ?_ _ | refine below_draw ?_ | refine below_drewN ?_ _ | refine below_tr ?_ (by assumption))) <;> (first | omega | (simp; done) | (simp; omega))⟩
set_option maxRecDepth 20000 in
theorem p_isEnd (B : Option Addr) (r : List Lk) (d : Nat) (n : Int) (w : World) (hn : r.length ≤ 100000) (hS : Rd Lk.cs 2 w B r) :
    Calls Tryd.prog 73 #[.slice B r.length d, .int .i64 n] w fun e w' => e = .returned (.bool (isE r n)) ∧ Below w.heap.size w w' := by
  have HC := Lib.hid (fun W (h : Below w.heap.size w W) (hb : Blk W w.heap.size 3 #[.int .i64 n]) => c_containsL B r d (fun x => x.fr == n) 114 #[.pointer (some ⟨w.heap.size, 0, none⟩)] W hn (hS.on h) (fun _ _ => rfl)
    (fun V x hV _ => p_isEnd1 x n w.heap.size V ((hb.below hV hb.lt).cell 0) (hb.below hV hb.lt).lt))
  clear hS
  go_enter Tryd.func73, Tryd.ntmps73
  go_wp2_with (go_at_call 113; refine (HC.out _ (bl_alloc (below_refl _) _) (Blk.new _ _ _)).mono ?_; rintro e w1 ⟨rfl, hb1⟩; have hz1 := hb1.size; (try simp at hz1))
  go_ret
  exact ⟨rfl, by (repeat' (first | assumption | exact below_refl _ | refine bl_alloc ?_ _ | refine Below.setCell ?_ ?_ _ | refine below_draw ?_ | refine below_drewN ?_ _ | refine below_tr ?_ (by assumption))) <;> (first | omega | (simp; done) | (simp; omega))⟩
theorem p_isEndV {B : Option Addr} {r : List Lk} {d : Nat} {n : Int} {w : World} {b : Bool} (h : isE r n = b) (hn : r.length ≤ 100000) (hS : Rd Lk.cs 2 w B r) :
    Calls Tryd.prog 73 #[.slice B r.length d, .int .i64 n] w fun e w' => e = .returned (.bool b) ∧ Below w.heap.size w w' := h ▸ p_isEnd B r d n w hn hS
set_option maxHeartbeats 1000000 in
set_option maxRecDepth 20000 in
theorem p_ends (B : Option Addr) (r : List Lk) (d : Nat) (w : World) (hn : r.length ≤ 100000) (hS : Rd Lk.cs 2 w B r) :
    Calls Tryd.prog 70 #[.slice B r.length d] w fun e w' => ∃ v, e = .returned v ∧ w'.ownsRow w.heap.size 3 1 v (endN r r.length).length (fl nC (endN r r.length)) ∧ Below w.heap.size w w' := by
  obtain ⟨i0, hi, hi1, hi2, hi3⟩ := info_int2
  go_enter Tryd.func70, Tryd.ntmps70
  go_wp2
  go_loopw [3, 7] (fun v i wr => ∃ k : Nat, k ≤ r.length ∧ i = .int .i64 k ∧ Below w.heap.size w wr ∧ wr.ownsRow w.heap.size 3 1 v (endN r k).length (fl nC (endN r k))) (fun _ i _ => r.length - (intOf i).toNat)
  case atStart => exact ⟨0, by omega, rfl, Below.refl _ _, World.ownsRow_nil w _ _ _⟩
  case round =>
    obtain ⟨k, hk, rfl, hbw, hown⟩ := hrel
    obtain ⟨ad, cp, rfl⟩ := own_slice hown
    have hlen := endN_len r k
    by_cases hlt : k < r.length
    · have k0 : (0 : Int) ≤ (k : Int) := Int.natCast_nonneg _
      have k1 : (k : Int) < (r.length : Int) := by omega
      cases he : isE r k
      · have HE := Lib.hid (p_isEndV (d := d) he hn (hS.on hbw))
        have HST := Lib.hid (endN_no he)
        clear he
        go_wp2_with (go_at_call 73; ((with_reducible refine (HE.out).mono ?_); rintro e w1 ⟨rfl, hb1⟩; obtain ⟨hc1, hf1⟩ := bcell hb1; have hz1 := hb1.size; (try simp [sz_drew, sz_drewN] at hz1); (try simp only [sz_drew, sz_drewN] at hc1 hf1)))
        go_roundw
        case rel => exact ⟨k + 1, by omega, by go_num, by (repeat' (first | assumption | exact below_refl _ | refine bl_alloc ?_ _ | refine Below.setCell ?_ ?_ _ | refine below_draw ?_ | refine below_drewN ?_ _ | refine below_tr ?_ (by assumption))) <;> (first | omega | (simp; done) | (simp; omega)), by rw [HST.out]; exact own_on hown hb1⟩
        case measure => simp [intOf]; omega
      · have HE := Lib.hid (p_isEndV (d := d) he hn (hS.on hbw))
        have HST := Lib.hid (endN_yes he)
        clear he
        go_wp2_with (first
          | ((go_at_call 73; ((with_reducible refine (HE.out).mono ?_); rintro e w1 ⟨rfl, hb1⟩; obtain ⟨hc1, hf1⟩ := bcell hb1; have hz1 := hb1.size; (try simp [sz_drew, sz_drewN] at hz1); (try simp only [sz_drew, sz_drewN] at hc1 hf1))); have hown1 := own_on hown hb1; have hbw1 : Below w.heap.size w w1 := (by (repeat' (first | assumption | exact below_refl _ | refine bl_alloc ?_ _ | refine Below.setCell ?_ ?_ _ | refine below_draw ?_ | refine below_drewN ?_ _ | refine below_tr ?_ (by assumption))) <;> (first | omega | (simp; done) | (simp; omega))))
          | (at_builtin; refine wpList_append_own _ rfl _ _ 32 rfl w.heap.size 3 i0 (.int .i64 0) 1 8 (by kernel_rfl) hi hi1 hi2 hi3 rfl (by omega) _ _ _ rfl (hown1.alloc _) ⟨w1.heap.size, 0, none⟩ 1 1 [.int .i64 k] rfl rfl (cells_new w1 [.int .i64 k] 3) (fun u hu => by simp at hu; subst hu; rfl) (by unfold maxLen; omega) (by omega) (by simp; have := hbw1.size; omega) ?_; intro v' w4 hown4 hgrow _))
        go_roundw
        case rel => exact ⟨k + 1, by omega, by go_num, bl_app hbw1 hown1 hgrow (Nat.le_refl _) hbw1.size, by rw [HST.out, fl_snoc, List.length_append]; exact hown4⟩
        case measure => simp [intOf]; omega
    · obtain rfl : k = r.length := by omega
      go_wp2
      go_ret
      exact ⟨_, rfl, hown, hbw⟩
theorem isE_no {r : List Lk} {k : Nat} {x : Lk} {n : Int} (hx : r[k]? = some x) (h : x.fr = n) : isE r n = false := by
  unfold isE; simp; exact ⟨x, List.mem_of_getElem? hx, h⟩
theorem isE_cut (r : List Lk) (n : Int) (k : Nat) (x : Lk) (hx : r[k]? = some x) : (!((r.take (k + 1)).any fun x => x.fr == n)) = (!((r.take k).any fun x => x.fr == n) && x.fr != n) := by
  rw [List.take_add_one, hx]; simp [Bool.not_or]; rfl
end Go.Proofs.YtoelekhkgknneaaDoor
