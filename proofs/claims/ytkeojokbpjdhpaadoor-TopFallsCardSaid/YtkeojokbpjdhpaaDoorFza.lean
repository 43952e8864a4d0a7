/- Fell: in a zone, by the reference. -/
import Derived.Test.YtkeojokbpjdhpaaDoorFy
import Derived.Test.YtkeojokbpjdhpaaDoorFe
import Derived.Test.YtkeojokbpjdhpaaDoorFkq
import Derived.Deep.DeepCutAuto
import Derived.Outline
namespace Go.Proofs.YtkeojokbpjdhpaaDoor
open Go.RowKit

end Go.Proofs.YtkeojokbpjdhpaaDoor
namespace Go.Proofs.YtkeojokbpjdhpaaDoor
open Go.RowKit

def htP (z : Zn) (l : List Sp) (k : Nat) : Bool := inZ z (gl l k)
def HitP (z : Zn) (l : List Sp) (w : World) (e : Ending) (w' : World) : Prop := ∃ A c, e = .returned (.slice A (fN (htP z l) l.length).length c) ∧ GotW w' (.slice A (fN (htP z l) l.length).length c) (fZ (htP z l) l.length) ∧ Below w.heap.size w w'
set_option maxHeartbeats 4000000 in
set_option maxRecDepth 20000 in
theorem p_hit (z : Zn) (A : Option Addr) (l : List Sp) (c : Nat) (w : World) (hz : ZB z) (z0 : 0 ≤ z.w) (z1 : z.w ≤ 1000) (hl : l.length ≤ 100000) (hbd : ∀ x ∈ l, Bd 10000 x) (hR : Rd Sp.cs 2 w A l) :
    Calls Tryd.prog 60 #[znV z, .slice A l.length c] w (HitP z l w) := by
  have HBD := Lib.hid hbd
  have HIN := Lib.hid (fun x (hx : Bd 10000 x) W => p_in z x W hz z0 z1 hx)
  have HNO := Lib.hid (fun k (h : htP z l k = false) => fN_no h)
  have HYES := Lib.hid (fun k (h : htP z l k = true) => fN_yes h)
  have HLN := Lib.hid (fun k => fN_len (htP z l) k)
  have HG := Lib.hid (fun k x (hx : l[k]? = some x) => (show htP z l k = inZ z x by unfold htP; rw [gl_of hx]))
  obtain ⟨i0, hi, hi1, hi2, hi3⟩ := info_int2
  have x0 := Blk.new w 48 (znC z)
  have B0 := bl_alloc (below_refl w) (.cells (znC z) 48)
  clear hbd hz z0 z1
  unfold HitP
  generalize htP z l = P at *
  go_enter Tryd.func60, Tryd.ntmps60
  go_wp2_with fail
  go_loopw [5, 10] (fun v i wr => ∃ k : Nat, k ≤ l.length ∧ i = .int .i64 k ∧ Below w.heap.size w wr ∧ Blk wr w.heap.size 48 (znC z) ∧ wr.ownsRow (w.heap.size + 1) 3 1 v (fN P k).length (fl nC (fN P k))) (fun _ i _ => l.length - (intOf i).toNat)
  case atStart => exact ⟨0, by omega, rfl, B0, x0, World.ownsRow_nil _ _ _ _⟩
  case round =>
    clear x0 B0
    obtain ⟨k, hk, rfl, hbw, xb, hown⟩ := hrel
    obtain ⟨ad, cp, rfl⟩ := own_slice hown
    have k0 : (0 : Int) ≤ (k : Int) := Int.natCast_nonneg _
    have hlen := HLN.out k
    by_cases hlt : k < l.length
    · have k1 : (k : Int) < (l.length : Int) := by omega
      obtain ⟨x, b, off, hx, rfl, hb, c0, c1⟩ := rdS (hR.on hbw) hlt
      have Q := Lib.hid (HIN.out x (HBD.out x (List.mem_of_getElem? hx)))
      have HP := Lib.hid (HG.out k x hx)
      clear hx
      have hbw2 := bl_alloc hbw (.cells (spA x) 24)
      have xb2 := xb.alloc (.cells (spA x) 24)
      have hrow2 := own_on hown (bl_alloc (below_refl wr) (.cells (spA x) 24))
      have q0 := xb.cell 0
      have q1 := xb.cell 1
      have q2 := xb.cell 2
      have q3 := xb.cell 3
      have q4 := xb.cell 4
      have q5 := xb.cell 5
      simp only [List.getElem?_toArray, List.getElem?_cons_zero, List.getElem?_cons_succ] at q0 q1 q2 q3 q4 q5
      have zl := xb.lt
      cases hin : inZ z x
      · rw [hin] at Q HP
        have HN := Lib.hid (HNO.out k HP.out)
        clear hin HP
        go_wp2_with fail
        refine (Q.out _).mono ?_
        rintro e w2 ⟨rfl, hb2⟩
        go_wp2
        go_roundw
        case rel => exact ⟨k + 1, by omega, by go_num, below_tr hbw2 hb2, xb2.below hb2 xb2.lt, by rw [HN.out]; exact own_on hrow2 hb2⟩
        case measure => simp [intOf]; omega
      · rw [hin] at Q HP
        have HN := Lib.hid (HYES.out k HP.out)
        clear hin HP
        go_wp2_with fail
        refine (Q.out _).mono ?_
        rintro e w2 ⟨rfl, hb2⟩
        have hbw3 := below_tr hbw2 hb2
        have xb3 := xb2.below hb2 xb2.lt
        have hrow3 := own_on hrow2 hb2
        have hws := xb3.lt
        clear hbw hbw2 xb xb2 hown hrow2 hb2 q0 q1 q2 q3 q4 q5 zl c0 c1
        go_wp2_with (at_builtin; refine wpList_append_own _ rfl _ _ 25 rfl (w.heap.size + 1) 3 i0 (.int .i64 0) 1 8 (by kernel_rfl) hi hi1 hi2 hi3 rfl (by omega) _ _ _ rfl (hrow3.alloc _) ⟨w2.heap.size, 0, none⟩ 1 1 [.int .i64 (k : Int)] rfl rfl (cells_new w2 [.int .i64 (k : Int)] 3) (fun u hu => by simp at hu; subst hu; rfl) (by unfold maxLen; omega) (by omega) (by simp; omega) ?_; intro v' w9 hown9 hgrow _)
        go_roundw
        case rel => exact ⟨k + 1, by omega, by go_num, bl_app hbw3 hrow3 hgrow (by omega) hbw3.size, (xb3.alloc _).grown hgrow (own_ne hrow3 (by omega)), by rw [HN.out, fl_snoc, List.length_append]; exact hown9⟩
        case measure => simp [intOf]; omega
    · obtain rfl : k = l.length := by omega
      have HGOT := Lib.hid (got_fN hown)
      go_wp2
      go_ret
      exact ⟨_, _, rfl, HGOT.out, hbw⟩
end Go.Proofs.YtkeojokbpjdhpaaDoor
