/- Lean: Worst, by both. -/
import Derived.Test.YtohbejdfaecghaaLtw
set_option linter.unusedSimpArgs false
set_option linter.unusedVariables false
namespace Go.Proofs.Ytohbejdfaecghaa
open Go.RowKit

set_option maxHeartbeats 1000000 in
set_option maxRecDepth 20000 in
theorem p_worst (a b d : Int) (A : Option Addr) (l : List Pt) (c : Nat) (w : World) (hl : LB a b d) (hs : ∀ p ∈ l, SP p) (hR : Rd Pt.cs 2 w A l) (h1 : 1 ≤ l.length) (hn : l.length ≤ 40) :
    Calls Try.prog 73 #[lineV a b d, .slice A l.length c] w fun e w' => e = .returned (.tuple #[.int .i64 (wst (a, b, d) l : Nat), .int .i64 (eMax l (a, b, d))]) ∧ Below w.heap.size w w' := by
  have hlt := wst_lt (x := (a, b, d)) h1
  obtain ⟨p, ab, off, hx, rfl, hab, c0, c1⟩ := rdP hR hlt
  have HR := Lib.hid hR
  have sp : SP p := hs p (List.mem_of_getElem? hx)
  have HG := Lib.hid (fun W hB h => p_greatest a b d (some ⟨ab, off, none⟩) l c w.heap.size W hB hl hs h h1 hn)
  have HW := Lib.hid (fun (W w' : World) (hS : Kq W w') hB => p_worst1 a b d p w.heap.size hS hB hl sp)
  have he : eMax l (a, b, d) = farV a b d p := by unfold eMax; rw [ptAt_of hx]
  rw [he]
  generalize farV a b d p = P at *
  generalize wst (a, b, d) l = m at *
  have m1 : (0 : Int) ≤ (m : Int) := Int.natCast_nonneg _
  have m2 : (m : Int) < (l.length : Int) := by omega
  have BX := Blk.new w 30 #[.int .i64 a, .int .i64 b, .int .i64 d]
  have HX := Lib.hid BX
  clear hx he hs hl BX hR sp
  go_enter Try.func73, Try.ntmps73
  go_wp2_with (first
    | (go_at_call 93; ((with_reducible refine (HG.out _ HX.out (HR.out.on (below_alloc _ _))).mono ?_); rintro e w1 ⟨rfl, hb1⟩; obtain ⟨hc1, hf1⟩ := bcell hb1; have hz1 := hb1.size; (try simp [sz_drew, sz_drewN] at hz1); (try simp only [sz_drew, sz_drewN] at hc1 hf1); have z1_0 : w.heap.size < w1.heap.size := (by omega)))
    | (go_at_call 92; ((with_reducible refine (HW.out _ _ (kq_of hb1) HX.out).mono ?_); rintro e w2 ⟨rfl, hb2⟩; obtain ⟨hc2, hf2⟩ := bcell hb2; have hz2 := hb2.size; (try simp [sz_drew, sz_drewN] at hz2); (try simp only [sz_drew, sz_drewN] at hc2 hf2); have z2_0 : w.heap.size < w2.heap.size := (by omega))))
  go_ret2
  exact ⟨rfl, by (repeat' (first | assumption | exact below_refl _ | refine bl_alloc ?_ _ | refine Below.setCell ?_ ?_ _ | refine below_draw ?_ | refine below_drewN ?_ _ | refine below_tr ?_ (by assumption))) <;> (first | omega | (simp; done) | (simp; omega))⟩

def wrstL (x : Ln) (l : List Pt) : Int × (Int × Int) × Int := if vldL x.1 x.2.1 x.2.2 = true ∧ vldP l = true then ((wst x l : Nat), (gN (eMax l x) x.2.2, gD (eMax l x) x.2.2), 0) else (0, (0, 0), 1)
theorem vld_sp {l : List Pt} (h : vldP l = true) : ∀ p ∈ l, SP p := fun p hp => sp_of (List.all_eq_true.1 (vld_snd h) p hp)
theorem eMax_bd {x : Ln} {l : List Pt} (h : vldP l = true) (hv : vldL x.1 x.2.1 x.2.2 = true) : 0 ≤ eMax l x ∧ eMax l x ≤ 310000000000000000 := by
  obtain ⟨h1, _⟩ := vld_len h
  have hlt := wst_lt (x := x) h1
  obtain ⟨p, hp⟩ := get_lt hlt
  unfold eMax
  rw [ptAt_of hp]
  exact far_bd (lb_of (vld_in hv)) (vld_sp h p (List.mem_of_getElem? hp))
set_option maxHeartbeats 1000000 in
set_option maxRecDepth 20000 in
theorem p_Worst (a b d : Int) (A : Option Addr) (l : List Pt) (c : Nat) (w : World) (hR : Rd Pt.cs 2 w A l) (hn : l.length ≤ 100000) :
    Calls Try.prog 28 #[lineV a b d, .slice A l.length c] w fun e w' => e = .returned (.tuple #[.int .i64 (wrstL (a, b, d) l).1, frV (wrstL (a, b, d) l).2.1, .int .i64 (wrstL (a, b, d) l).2.2]) ∧ Below w.heap.size w w' := by
  have HV := Lib.hid (fun W (h : Below w.heap.size w W) => p_validPoints A l c W hn (hR.on h))
  have HR := Lib.hid hR
  clear hR
  cases hv : vldL a b d
  · rw [show wrstL (a, b, d) l = (0, (0, 0), 1) by simp [wrstL, hv]]
    go_enter Try.func28, Try.ntmps28
    go_wp2_with (go_at_call 23; ((with_reducible refine (calls_bool hv (p_validLine a b d _)).mono ?_); rintro e w1 ⟨rfl, hb1⟩; obtain ⟨hc1, hf1⟩ := bcell hb1; have hz1 := hb1.size; (try simp [sz_drew, sz_drewN] at hz1); (try simp only [sz_drew, sz_drewN] at hc1 hf1); have z1_0 : w.heap.size < w1.heap.size := (by omega); have z1_1 : w.heap.size + 1 < w1.heap.size := (by omega)))
    (refine bodyPost_ret (v := .tuple #[.int .i64 0, .agg #[.int .i64 0, .int .i64 0], .int .i64 1]) (by simp [results, Try.results28, go_sem, *]) rfl ⟨rfl, ?_⟩; (repeat' (first | assumption | exact below_refl _ | refine bl_alloc ?_ _ | refine Below.setCell ?_ ?_ _ | refine below_draw ?_ | refine below_drewN ?_ _ | refine below_tr ?_ (by assumption))) <;> (first | omega | (simp; done) | (simp; omega)))
  · cases hp : vldP l
    · rw [show wrstL (a, b, d) l = (0, (0, 0), 1) by simp [wrstL, hp]]
      go_enter Try.func28, Try.ntmps28
      go_wp2_with (first
        | ((go_at_call 23; ((with_reducible refine (calls_bool hv (p_validLine a b d _)).mono ?_); rintro e w1 ⟨rfl, hb1⟩; obtain ⟨hc1, hf1⟩ := bcell hb1; have hz1 := hb1.size; (try simp [sz_drew, sz_drewN] at hz1); (try simp only [sz_drew, sz_drewN] at hc1 hf1); have z1_0 : w.heap.size < w1.heap.size := (by omega); have z1_1 : w.heap.size + 1 < w1.heap.size := (by omega))); have B1 : Below w.heap.size w w1 := (by (repeat' (first | assumption | exact below_refl _ | refine bl_alloc ?_ _ | refine Below.setCell ?_ ?_ _ | refine below_draw ?_ | refine below_drewN ?_ _ | refine below_tr ?_ (by assumption))) <;> (first | omega | (simp; done) | (simp; omega))))
        | (go_at_call 30; ((with_reducible refine (calls_bool hp (HV.out _ B1)).mono ?_); rintro e w2 ⟨rfl, hb2⟩; obtain ⟨hc2, hf2⟩ := bcell hb2; have hz2 := hb2.size; (try simp [sz_drew, sz_drewN] at hz2); (try simp only [sz_drew, sz_drewN] at hc2 hf2); have z2_0 : w.heap.size < w2.heap.size := (by omega); have z2_1 : w.heap.size + 1 < w2.heap.size := (by omega))))
      (refine bodyPost_ret (v := .tuple #[.int .i64 0, .agg #[.int .i64 0, .int .i64 0], .int .i64 1]) (by simp [results, Try.results28, go_sem, *]) rfl ⟨rfl, ?_⟩; (repeat' (first | assumption | exact below_refl _ | refine bl_alloc ?_ _ | refine Below.setCell ?_ ?_ _ | refine below_draw ?_ | refine below_drewN ?_ _ | refine below_tr ?_ (by assumption))) <;> (first | omega | (simp; done) | (simp; omega)))
    · rw [show wrstL (a, b, d) l = (((wst (a, b, d) l : Nat) : Int), (gN (eMax l (a, b, d)) d, gD (eMax l (a, b, d)) d), 0) by simp [wrstL, hv, hp]]
      have hb := eMax_bd (x := (a, b, d)) hp hv
      have hl := lb_of (vld_in hv)
      obtain ⟨h1, h2⟩ := vld_len hp
      have HW := Lib.hid (fun W (h : Below w.heap.size w W) => p_worst a b d A l c W hl (vld_sp hp) (HR.out.on h) h1 h2)
      have d0 := hl.d0
      have d1 := hl.d1
      clear hl
      generalize eMax l (a, b, d) = E at *
      generalize wst (a, b, d) l = m at *
      obtain ⟨e0, e1⟩ := hb
      have HL := Lib.hid (fun W => p_lowest E d W ⟨by omega, by omega⟩ ⟨by omega, by omega⟩ (by omega))
      go_enter Try.func28, Try.ntmps28
      go_wp2_with (first
        | ((go_at_call 23; ((with_reducible refine (calls_bool hv (p_validLine a b d _)).mono ?_); rintro e w1 ⟨rfl, hb1⟩; obtain ⟨hc1, hf1⟩ := bcell hb1; have hz1 := hb1.size; (try simp [sz_drew, sz_drewN] at hz1); (try simp only [sz_drew, sz_drewN] at hc1 hf1); have z1_0 : w.heap.size < w1.heap.size := (by omega); have z1_1 : w.heap.size + 1 < w1.heap.size := (by omega))); have B1 : Below w.heap.size w w1 := (by (repeat' (first | assumption | exact below_refl _ | refine bl_alloc ?_ _ | refine Below.setCell ?_ ?_ _ | refine below_draw ?_ | refine below_drewN ?_ _ | refine below_tr ?_ (by assumption))) <;> (first | omega | (simp; done) | (simp; omega))))
        | ((go_at_call 30; ((with_reducible refine (calls_bool hp (HV.out _ B1)).mono ?_); rintro e w2 ⟨rfl, hb2⟩; obtain ⟨hc2, hf2⟩ := bcell hb2; have hz2 := hb2.size; (try simp [sz_drew, sz_drewN] at hz2); (try simp only [sz_drew, sz_drewN] at hc2 hf2); have z2_0 : w.heap.size < w2.heap.size := (by omega); have z2_1 : w.heap.size + 1 < w2.heap.size := (by omega))); have B2 : Below w.heap.size w w2 := below_tr B1 hb2)
        | (go_at_call 73; ((with_reducible refine (HW.out _ B2).mono ?_); rintro e w3 ⟨rfl, hb3⟩; obtain ⟨hc3, hf3⟩ := bcell hb3; have hz3 := hb3.size; (try simp [sz_drew, sz_drewN] at hz3); (try simp only [sz_drew, sz_drewN] at hc3 hf3); have z3_0 : w.heap.size < w3.heap.size := (by omega); have z3_1 : w.heap.size + 1 < w3.heap.size := (by omega)))
        | (go_at_call 64; ((with_reducible refine (HL.out _).mono ?_); rintro e w4 ⟨rfl, hb4⟩; obtain ⟨hc4, hf4⟩ := bcell hb4; have hz4 := hb4.size; (try simp [sz_drew, sz_drewN] at hz4); (try simp only [sz_drew, sz_drewN] at hc4 hf4); have z4_0 : w.heap.size < w4.heap.size := (by omega); have z4_1 : w.heap.size + 1 < w4.heap.size := (by omega))))
      (refine bodyPost_ret (v := .tuple #[.int .i64 m, .agg #[.int .i64 (gN E d), .int .i64 (gD E d)], .int .i64 0]) (by simp [results, Try.results28, go_sem, *]) rfl ⟨rfl, ?_⟩; (repeat' (first | assumption | exact below_refl _ | refine bl_alloc ?_ _ | refine Below.setCell ?_ ?_ _ | refine below_draw ?_ | refine below_drewN ?_ _ | refine below_tr ?_ (by assumption))) <;> (first | omega | (simp; done) | (simp; omega)))
end Go.Proofs.Ytohbejdfaecghaa
