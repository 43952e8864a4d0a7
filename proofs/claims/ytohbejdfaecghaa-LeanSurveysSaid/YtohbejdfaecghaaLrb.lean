/- Lean: turned surveys, by both. -/
import Derived.Test.YtohbejdfaecghaaLra
import Derived.RegionTactic
import Derived.BigRegion
set_option linter.unusedSimpArgs false
set_option linter.unusedVariables false
namespace Go.Proofs.Ytohbejdfaecghaa
open Go.RowKit

def quart (q : Int) : Nat := ((q.tmod 4 + 4).tmod 4).toNat
theorem quart_lt (q : Int) : quart q < 4 := by
  have h1 := Int.tmod_lt_of_pos (q.tmod 4 + 4) (show (0 : Int) < 4 by omega)
  unfold quart; omega
theorem quart_mod (q : Int) : (quart q : Int) = q % 4 := by
  have h1 : -4 < q.tmod 4 := Int.lt_tmod_of_pos q (by omega)
  unfold quart
  rw [Int.tmod_eq_emod_of_nonneg (a := q.tmod 4 + 4) (by omega)]
  have h2 := Int.tmod_add_mul_tdiv q 4
  omega
theorem and3 (q : Int) : Value.int .i64 (bits .and .i64 q 3) = .int .i64 ((quart q - 0 : Nat) : Int) := by
  rw [Nat.sub_zero, quart_mod]
  have h3 : (BitVec.ofInt 64 3).toNat = 2 ^ 2 - 1 := by decide
  have key : (BitVec.ofInt 64 q &&& BitVec.ofInt 64 3).toNat = (q % ((2 ^ 64 : Nat) : Int)).toNat % 2 ^ 2 := by
    rw [BitVec.toNat_and, BitVec.toNat_ofInt, h3, Nat.and_two_pow_sub_one_eq_mod]
  refine int_eq ?_
  show IntKind.i64.wrap ((BitVec.ofInt 64 q &&& BitVec.ofInt 64 3).toNat : Nat) = q % 4
  rw [key, IntKind.wrap_i64]
  omega
def turn (m : Mk) : Mk := ⟨m.h, -m.n, m.e⟩
def turnK : Nat → Mk → Mk
  | 0, m => m
  | k + 1, m => turn (turnK k m)
theorem turn_h (k : Nat) (m : Mk) : (turnK k m).h = m.h := by
  induction k with
  | zero => rfl
  | succ k ih => simpa [turnK, turn] using ih
theorem turn_sm {k : Nat} {m : Mk} (h : SM m) : SM (turnK k m) := by
  induction k with
  | zero => exact h
  | succ k ih =>
    obtain ⟨a, b, c, d, e, f⟩ := ih
    exact ⟨a, b, by show -10000 ≤ -_; omega, by show -_ ≤ 10000; omega, c, d⟩
theorem sm_mkd {m : Mk} (h : SM m) : mkd m = true := by
  obtain ⟨a, b, c, d, e, f⟩ := h
  simp only [mkd, Bool.and_eq_true, wn_iff]
  omega
theorem mkAt_map {l : List Mk} {f : Mk → Mk} {i : Nat} (hi : i < l.length) : mkAt (l.map f) i = f (mkAt l i) := by
  rw [mkAt_of (l := l.map f) (p := f (l[i])) (by rw [List.getElem?_map, List.getElem?_eq_getElem hi]; rfl), mkAt_of (List.getElem?_eq_getElem hi)]
theorem vldM_at {l : List Mk} (h : vldM l = true) {k : Nat} (hk : k < l.length) : SM (mkAt l k) := by
  unfold vldM at h
  rw [Bool.and_eq_true, List.all_eq_true] at h
  have := h.2 k (by simpa using hk)
  unfold okM at this
  rw [Bool.and_eq_true] at this
  exact sm_of this.1
theorem vldM_turn {l : List Mk} {k : Nat} (h : vldM l = true) : vldM (l.map (turnK k)) = true := by
  have h2 := h
  unfold vldM at h ⊢
  rw [Bool.and_eq_true, List.all_eq_true] at h ⊢
  rw [List.length_map]
  refine ⟨h.1, fun i hi => ?_⟩
  have hi' : i < l.length := by simpa using hi
  have := h.2 i hi
  unfold okM at this ⊢
  rw [Bool.and_eq_true] at this ⊢
  rw [mkAt_map hi']
  refine ⟨sm_mkd (turn_sm (vldM_at h2 hi')), ?_⟩
  rw [Bool.or_eq_true] at this ⊢
  rcases this.2 with h3 | h3
  · exact .inl h3
  · right
    rw [mkAt_map (by omega), turn_h, turn_h]
    exact h3
def trnL (l : List Mk) (q : Int) : List Mk := if vldM l = true then l.map (turnK (quart q)) else []
/-- what Turned gives back -/
def GotT (w' : World) (v : Value) (l : List Mk) (q : Int) : Prop := ∃ A c, v = .slice A (trnL l q).length c ∧ Rd Mk.cs 3 w' A (trnL l q)
theorem gotT_no {w' : World} {l : List Mk} {q : Int} (h : vldM l = false) : GotT w' (.slice none 0 0) l q := by
  unfold GotT trnL; rw [if_neg (by simp [h])]; exact ⟨none, 0, rfl, Rd.nil_⟩
theorem Mk.cs_len (m : Mk) : m.cs.length = 3 := rfl
theorem info_mark : ∃ i : TypeInfo, Try.prog.info? 48 = some i ∧ i.zero = some (.agg #[.int .i64 0, .int .i64 0, .int .i64 0]) ∧ i.size = 3 ∧ i.bytes = 24 := info_parts (by kernel_rfl)
theorem map_take {f : Mk → Mk} {l : List Mk} {k : Nat} {m : Mk} (h : l[k]? = some m) : (l.take (k + 1)).map f = (l.take k).map f ++ [f m] := by
  rw [List.take_add_one, h]; simp
set_option maxHeartbeats 4000000 in
set_option maxRecDepth 20000 in
theorem p_Turned (A : Option Addr) (l : List Mk) (c : Nat) (q : Int) (w : World) (hl : l.length ≤ 100000) (hR : Rd Mk.cs 3 w A l) :
    Calls Try.prog 48 #[.slice A l.length c, .int .i64 q] w fun e w' => ∃ v, e = .returned (.tuple #[v, .int .i64 (ptsE l)]) ∧ GotT w' v l q ∧ Below w.heap.size w w' := by
  have HV := Lib.hid (fun W (h : Below w.heap.size w W) => p_validM A l c W hl (hR.on h))
  cases hv : vldM l
  · have HE := Lib.hid (show ptsE l = 1 by simp [ptsE, hv])
    go_enter Try.func48, Try.ntmps48
    go_wp2_with (go_at_call 44; ((with_reducible refine (calls_bool hv (HV.out _ (below_refl _))).mono ?_); rintro e w1 ⟨rfl, hb1⟩; obtain ⟨hc1, hf1⟩ := bcell hb1; have hz1 := hb1.size; (try simp [sz_drew, sz_drewN] at hz1); (try simp only [sz_drew, sz_drewN] at hc1 hf1)))
    go_ret2
    exact ⟨_, by rw [HE.out]; rfl, gotT_no hv, by (repeat' (first | assumption | exact below_refl _ | refine bl_alloc ?_ _ | refine Below.setCell ?_ ?_ _ | refine below_draw ?_ | refine below_drewN ?_ _ | refine below_tr ?_ (by assumption))) <;> (first | omega | (simp; done) | (simp; omega))⟩
  · have HE := Lib.hid (show ptsE l = 0 by simp [ptsE, hv])
    have HVV := Lib.hid hv
    obtain ⟨h1, h2⟩ := vldM_len' hv
    obtain ⟨i0, hi, hi1, hi2, hi3⟩ := info_mark
    have HSA := Lib.hid (fun (k : Nat) (hk : k < l.length) => vldM_at hv hk)
    have hq0 : 0 ≤ (q.tmod 4 + 4).tmod 4 := Int.tmod_nonneg _ (by have := Int.lt_tmod_of_pos q (show (0 : Int) < 4 by omega); omega)
    have hq1 : (q.tmod 4 + 4).tmod 4 = (quart q : Int) := by unfold quart; omega
    have hq2 : quart q < 4 := quart_lt q
    have hq3 : -4 < q.tmod 4 := Int.lt_tmod_of_pos q (by omega)
    have hq4 : q.tmod 4 < 4 := Int.tmod_lt_of_pos q (by omega)
    go_enter Try.func48, Try.ntmps48
    go_wp2_with ((go_at_call 44; ((with_reducible refine (calls_bool hv (HV.out _ (below_refl _))).mono ?_); rintro e w1 ⟨rfl, hb1⟩; obtain ⟨hc1, hf1⟩ := bcell hb1; have hz1 := hb1.size; (try simp [sz_drew, sz_drewN] at hz1); (try simp only [sz_drew, sz_drewN] at hc1 hf1))); have B1 : Below w.heap.size w w1 := (by (repeat' (first | assumption | exact below_refl _ | refine bl_alloc ?_ _ | refine Below.setCell ?_ ?_ _ | refine below_draw ?_ | refine below_drewN ?_ _ | refine below_tr ?_ (by assumption))) <;> (first | omega | (simp; done) | (simp; omega))))
    go_loopw [6, 14] (fun v i wr => ∃ k : Nat, k ≤ l.length ∧ i = .int .i64 k ∧ Below w.heap.size w wr ∧ wr.ownsRow w.heap.size 48 3 v k (fl Mk.cs ((l.take k).map (turnK (quart q))))) (fun _ i _ => l.length - (intOf i).toNat)
    case atStart => exact ⟨0, by omega, rfl, B1, by simpa [fl] using World.ownsRow_nil w1 _ _ _⟩
    case round =>
      obtain ⟨k, hk, rfl, hbw, hown⟩ := hrel
      obtain ⟨ad, cp, rfl⟩ := own_slice hown
      by_cases hlt : k < l.length
      · have k0 : (0 : Int) ≤ (k : Int) := Int.natCast_nonneg _
        have k1 : (k : Int) < (l.length : Int) := by omega
        obtain ⟨m, ab, off, hx, rfl, hab, c0, c1, c2⟩ := rdM (hR.on hbw) hlt
        have HST := Lib.hid (map_take (f := turnK (quart q)) hx)
        have hsm := HSA.out k hlt
        rw [mkAt_of hx] at hsm
        have HSM := Lib.hid hsm
        have hwn : w.heap.size ≤ wr.heap.size := hbw.size
        have HGE := Lib.hid (fun b hb => own_ge hown b hb)
        obtain ⟨wo, rfl⟩ : ∃ wo : World, wo = wr := ⟨_, rfl⟩
        clear hx hsm
        go_wp2
        go_loopw [22] (fun i wr => ∃ j : Nat, j ≤ quart q ∧ i = .int .i64 j ∧ Below w.heap.size w wr ∧ Hid (Blk wr wo.heap.size 48 #[.int .i64 (turnK j m).h, .int .i64 (turnK j m).e, .int .i64 (turnK j m).n]) ∧ wr.ownsRow w.heap.size 48 3 (.slice ad k cp) k (fl Mk.cs ((l.take k).map (turnK (quart q))))) (fun i _ => 4 - (intOf i).toNat)
        case atStart => exact ⟨0, by omega, rfl, by (repeat' (first | assumption | exact below_refl _ | refine bl_alloc ?_ _ | refine Below.setCell ?_ ?_ _ | refine below_draw ?_ | refine below_drewN ?_ _ | refine below_tr ?_ (by assumption))) <;> (first | omega | (simp; done) | (simp; omega)), Lib.hid (Blk.new _ _ _), hown.alloc _⟩
        case round =>
          obtain ⟨j, hj, rfl, hbw2, D0, hown2⟩ := hrel
          have hgl := D0.out.lt
          obtain ⟨g0, g1, g2, f0, f1, f2⟩ : wr.cell? ⟨wo.heap.size, 0, none⟩ = some (.int .i64 (turnK j m).h) ∧ wr.cell? ⟨wo.heap.size, 1, none⟩ = some (.int .i64 (turnK j m).e) ∧ wr.cell? ⟨wo.heap.size, 2, none⟩ = some (.int .i64 (turnK j m).n) ∧ wr.frozen? ⟨wo.heap.size, 0, none⟩ = false ∧ wr.frozen? ⟨wo.heap.size, 1, none⟩ = false ∧ wr.frozen? ⟨wo.heap.size, 2, none⟩ = false := ⟨D0.out.cell 0, D0.out.cell 1, D0.out.cell 2, D0.out.frozen 0, D0.out.frozen 1, D0.out.frozen 2⟩
          have hj0 : (0 : Int) ≤ (j : Int) := Int.natCast_nonneg _
          by_cases hlt2 : j < quart q
          · have hlt3 : (j : Int) < (quart q : Int) := by omega
            have HT1 := Lib.hid (show turnK (j + 1) m = ⟨(turnK j m).h, -(turnK j m).n, (turnK j m).e⟩ from rfl)
            obtain ⟨b0, b1, b2, b3, b4, b5⟩ := turn_sm (k := j) HSM.out
            generalize turnK j m = M at *
            obtain ⟨Mh, Me, Mn⟩ := M
            dsimp only at *
            go_wp2
            go_roundw
            case rel => exact ⟨j + 1, by omega, by go_num, (hbw2.setCell hwn _).setCell hwn _, Lib.hid (by rw [HT1.out]; exact (D0.out.set_ 1 _).set_ 2 _), own_far (own_far hown2 (fun b hb => by have := (HGE.out b hb).2; show b ≠ wo.heap.size; omega)) (fun b hb => by have := (HGE.out b hb).2; show b ≠ wo.heap.size; omega)⟩
            case measure => simp [intOf]; omega
          · obtain rfl : j = quart q := by omega
            have HTL := Lib.hid (Mk.cs_len (turnK (quart q) m))
            generalize hT : turnK (quart q) m = M at *
            have HT := Lib.hid hT
            clear hT
            obtain ⟨Mh, Me, Mn⟩ := M
            dsimp only at *
            go_wp2_with (at_builtin; refine wpList_append_own _ rfl _ _ 53 rfl w.heap.size 48 i0 (.agg #[.int .i64 0, .int .i64 0, .int .i64 0]) 3 24 (by kernel_rfl) hi hi1 hi2 hi3 rfl (by omega) _ _ _ rfl (hown2.alloc _) ⟨wr.heap.size, 0, none⟩ 1 1 [.int .i64 Mh, .int .i64 Me, .int .i64 Mn] rfl rfl (cells_new _ _ _) (fun u hu => by simp at hu; rcases hu with rfl | rfl | rfl <;> rfl) (by unfold maxLen; omega) (by omega) (by simp; have := hbw2.size; omega) ?_; intro v' w4 hown4 hgrow _)
            go_roundw
            case rel => exact ⟨k + 1, by omega, by go_num, bl_app hbw2 hown2 hgrow (Nat.le_refl _) hbw2.size, by rw [HST.out, fl_snoc]; exact hown4⟩
            case measure => simp [intOf]; omega
      · obtain rfl : k = l.length := by omega
        have ht : trnL l q = (l.take l.length).map (turnK (quart q)) := by unfold trnL; rw [if_pos HVV.out, List.take_length]
        have HO := Lib.hid (show GotT wr (.slice ad l.length cp) l q by
          unfold GotT
          rw [ht]
          have := own_rd Mk.cs_len (l := (l.take l.length).map (turnK (quart q))) (v := .slice ad l.length cp) (by simpa using hown)
          exact this)
        clear hown ht
        go_wp2
        go_ret2
        exact ⟨_, by rw [HE.out]; rfl, HO.out, hbw⟩
end Go.Proofs.Ytohbejdfaecghaa
