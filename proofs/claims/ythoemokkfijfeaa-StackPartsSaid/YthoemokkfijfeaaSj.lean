/- Stack: closed and holding beds, by the program. -/
import Derived.Test.YthoemokkfijfeaaSh
import Derived.Test.YthoemokkfijfeaaWide
import Derived.Deep.RegionWith
namespace Go.Proofs.Ythoemokkfijfeaa
open Go.RowKit

def closedB (x : Course) (s : List Course) (p side : Int) : Bool :=
  decide (((armE x s p side).natAbs + (armN x s p side).natAbs) * (3 * x.o).toNat ≤ (x.o * x.o + x.i * x.i).toNat * (wts s * 9810000).toNat)
def holdsB (x : Course) (s : List Course) (p side : Int) : Bool :=
  decide ((armE x s p side).natAbs ≤ x.o.toNat * (wts s * 9810000).toNat) && decide ((armN x s p side).natAbs ≤ x.o.toNat * (wts s * 9810000).toNat)

theorem s_times' (a b : Int) (w : World) (ha : 0 ≤ a) (hb : 0 ≤ b) (ha' : Fits a) (hb' : Fits b) :
    Calls Try.prog 83 #[.int .i64 a, .int .i64 b] w fun e w' => e = .returned (wideV (a.toNat * b.toNat)) ∧ Below w.heap.size w w' := by
  obtain ⟨n, rfl⟩ := Int.eq_ofNat_of_zero_le ha
  obtain ⟨m, rfl⟩ := Int.eq_ofNat_of_zero_le hb
  unfold Fits at *
  simpa using s_times n m w (by omega) (by omega)
theorem wide_bound {a b c d : Int} (ha : 0 ≤ a) (hb : 0 ≤ b) (hc : 0 ≤ c) (hd : 0 ≤ d) (h1 : Fits a) (h2 : Fits b) (h3 : Fits c) (h4 : Fits d) : a.toNat * b.toNat + c.toNat * d.toNat < Q64 * Q64 := by
  unfold Fits at *
  have e1 : a.toNat * b.toNat ≤ 9000000000000000000 * 9000000000000000000 := Nat.mul_le_mul (by omega) (by omega)
  have e2 : c.toNat * d.toNat ≤ 9000000000000000000 * 9000000000000000000 := Nat.mul_le_mul (by omega) (by omega)
  unfold Q64
  omega
theorem fits_natAbs {a : Int} (h : Fits a) : Fits (a.natAbs : Nat) ∧ (0 : Int) ≤ (a.natAbs : Nat) := by unfold Fits at *; omega
structure OB (x : Course) (s : List Course) : Prop where
  t0 : 0 ≤ 3 * x.o
  t1 : Fits (3 * x.o)
  q0 : 0 ≤ x.o * x.o
  q1 : x.o * x.o ≤ 25000000
  q2 : 0 ≤ x.i * x.i
  q3 : x.i * x.i ≤ 25000000
  r0 : 0 ≤ x.o * x.o + x.i * x.i
  r1 : Fits (x.o * x.o + x.i * x.i)
  w0 : 0 ≤ wts s * 9810000
  w1 : Fits (wts s * 9810000)
  o0 : 0 ≤ x.o
  o1 : Fits x.o
theorem ob_of {x : Course} {s : List Course} {p : Int} (hx : CB x) (hb : AB x s p) : OB x s := by
  obtain ⟨d1, d2, d3, d4, d5, d6, d7, d8, d9, d10, d11⟩ := hx
  obtain ⟨b1, b2, b3, b4, b5, b6, b7, b8, b9, b10, b11, b12, b13, b14⟩ := hb
  have m1 := mul_bd0 (a := x.o) (b := x.o) (A := 5000) (B := 5000) (by omega) (by omega) (by omega) (by omega)
  have m2 := mul_bd0 (a := x.i) (b := x.i) (A := 5000) (B := 5000) (by omega) (by omega) (by omega) (by omega)
  refine ⟨?_, ?_, ?_, ?_, ?_, ?_, ?_, ?_, ?_, ?_, ?_, ?_⟩ <;> first | omega | (unfold Fits; omega)

set_option maxHeartbeats 2000000 in
set_option maxRecDepth 20000 in
theorem s_closed (x : Course) (s : List Course) (p side : Int) (w : World) (hp0 : 0 ≤ p) (hp1 : p ≤ 10000) (hs0 : 0 ≤ side) (hs1 : side ≤ 3) (hb : AB x s p) (hx : CB x) :
    Calls Try.prog 71 #[.agg #[.int .i64 x.h, .int .i64 x.o, .int .i64 x.i, .int .i64 x.wt, .int .i64 x.e, .int .i64 x.n],
      .agg #[.int .i64 (wts s), .int .i64 (es s), .int .i64 (ns s), .int .i64 (hs s), .int .i64 (push s)], .int .i64 p, .int .i64 side] w fun e w' =>
      e = .returned (.bool (closedB x s p side)) ∧ Below w.heap.size w w' := by
  have HA := Lib.hid (fun W => s_arms x s p side W hp0 hp1 hs0 hs1 hb)
  obtain ⟨f1, f2, f3⟩ := arm_fits hb hs0 hs1
  obtain ⟨t0, t1, q0, q1, q2, q3, r0, r1, w0, w1, o0, o1⟩ := ob_of hx hb
  obtain ⟨g1, g2⟩ := fits_natAbs f1
  obtain ⟨g3, g4⟩ := fits_natAbs f2
  have hW := wide_bound g2 t0 g4 t0 g1 t1 g3 t1
  have hT : closedB x s p side = !decide ((wts s * 9810000).toNat * (x.o * x.o + x.i * x.i).toNat < ((armE x s p side).natAbs : Int).toNat * (3 * x.o).toNat + ((armN x s p side).natAbs : Int).toNat * (3 * x.o).toNat) := by
    unfold closedB
    rw [← Nat.add_mul, Nat.mul_comm (wts s * 9810000).toNat]
    simp only [Int.toNat_natCast]
    rw [Bool.eq_iff_iff]; simp
  have HT := Lib.hid hT
  clear hT hb hx
  have k1 : IntKind.i64.wrap (wts s * 9810000) = wts s * 9810000 := fits_wrap w1
  have k2 : IntKind.i64.wrap (x.o * x.o) = x.o * x.o := fits_wrap (by unfold Fits; omega)
  have k3 : IntKind.i64.wrap (x.i * x.i) = x.i * x.i := fits_wrap (by unfold Fits; omega)
  have k4 : IntKind.i64.wrap (x.o * x.o + x.i * x.i) = x.o * x.o + x.i * x.i := fits_wrap r1
  have k5 : IntKind.i64.wrap (3 * x.o) = 3 * x.o := fits_wrap t1
  have b1 : 3 * x.o ≤ 9000000000000000000 := t1.2
  go_enter Try.func71, Try.ntmps71
  go_wp2_with (go_at_call 68; refine (HA.out _).mono ?_; rintro e w1 ⟨rfl, hb1⟩; obtain ⟨hc1, hf1⟩ := bcell hb1)
  have hB1 := below_tr (below_tr (below_alloc w (.cells #[.int .i64 x.h, .int .i64 x.o, .int .i64 x.i, .int .i64 x.wt, .int .i64 x.e, .int .i64 x.n] 35)) (below_alloc _ (.cells #[.int .i64 (wts s), .int .i64 (es s), .int .i64 (ns s), .int .i64 (hs s), .int .i64 (push s)] 62))) hb1
  have hBd := hB1.drew
  have hs1 : w.heap.size + 1 < w1.heap.size := by have := hb1.size; simp at this; omega
  have hs' : w.heap.size < w1.heap.size := by omega
  have d0 := ((Blk.new w 35 #[.int .i64 x.h, .int .i64 x.o, .int .i64 x.i, .int .i64 x.wt, .int .i64 x.e, .int .i64 x.n]).alloc (.cells #[.int .i64 (wts s), .int .i64 (es s), .int .i64 (ns s), .int .i64 (hs s), .int .i64 (push s)] 62)).below hb1 (by simp; omega)
  have d1 := (Blk.new (w.alloc (.cells #[.int .i64 x.h, .int .i64 x.o, .int .i64 x.i, .int .i64 x.wt, .int .i64 x.e, .int .i64 x.n] 35)) 62 #[.int .i64 (wts s), .int .i64 (es s), .int .i64 (ns s), .int .i64 (hs s), .int .i64 (push s)]).below hb1 (by simp)
  rw [World.size_alloc] at d1
  have u0 := d0.cell 1
  have u1 := d0.cell 2
  have u2 := d1.cell 0
  simp only [List.getElem?_toArray, List.getElem?_cons_zero, List.getElem?_cons_succ] at u0 u1 u2
  go_region_held3 (fun w' => w'.cell? ⟨w.heap.size, 1, none⟩ = some (.int .i64 x.o) ∧ w'.cell? ⟨w.heap.size, 2, none⟩ = some (.int .i64 x.i) ∧ w'.cell? ⟨w.heap.size + 1, 0, none⟩ = some (.int .i64 (wts s)))
    (first | (go_keep; done) | (go_split_ands; refine ⟨?_, ?_, ?_⟩ <;> (first | assumption | (rw [hc2 _ _ (by first | assumption | (simp; omega))]; assumption))))
    (first
      | (go_at_call 84; refine (s_size _ _ (by assumption)).mono ?_; rintro e w2 ⟨rfl, rfl⟩)
      | (go_at_call 83; refine (s_times' _ _ _ (by assumption) (by assumption) (by assumption) (by assumption)).mono ?_; rintro e w2 ⟨rfl, hb2⟩; obtain ⟨hc2, hf2⟩ := bcell hb2; have hBB : Below w.heap.size w w2 := below_tr (by assumption) hb2; have hss : w.heap.size + 1 < w2.heap.size := (by have := hb2.size; (try simp at this); omega); have hss' : w.heap.size < w2.heap.size := (by omega))
      | (go_at_call 85; refine (s_plus _ _ _ hW).mono ?_; rintro e w2 ⟨rfl, hb2⟩; obtain ⟨hc2, hf2⟩ := bcell hb2; have hBB : Below w.heap.size w w2 := below_tr (by assumption) hb2; have hss : w.heap.size + 1 < w2.heap.size := (by have := hb2.size; (try simp at this); omega); have hss' : w.heap.size < w2.heap.size := (by omega))
      | (go_at_call 86; refine (s_above _ _ _).mono ?_; rintro e w2 ⟨rfl, hb2⟩; obtain ⟨hc2, hf2⟩ := bcell hb2; have hBB : Below w.heap.size w w2 := below_tr (by assumption) hb2; have hss : w.heap.size + 1 < w2.heap.size := (by have := hb2.size; (try simp at this); omega); have hss' : w.heap.size < w2.heap.size := (by omega)))
  go_wp2
  go_ret
  exact ⟨ret_bool HT.out.symm, hBB⟩

set_option maxHeartbeats 2000000 in
set_option maxRecDepth 20000 in
theorem s_holds (x : Course) (s : List Course) (p side : Int) (w : World) (hp0 : 0 ≤ p) (hp1 : p ≤ 10000) (hs0 : 0 ≤ side) (hs1 : side ≤ 3) (hb : AB x s p) (hx : CB x) :
    Calls Try.prog 73 #[.agg #[.int .i64 x.h, .int .i64 x.o, .int .i64 x.i, .int .i64 x.wt, .int .i64 x.e, .int .i64 x.n],
      .agg #[.int .i64 (wts s), .int .i64 (es s), .int .i64 (ns s), .int .i64 (hs s), .int .i64 (push s)], .int .i64 p, .int .i64 side] w fun e w' =>
      e = .returned (.bool (holdsB x s p side)) ∧ Below w.heap.size w w' := by
  have HA := Lib.hid (fun W => s_arms x s p side W hp0 hp1 hs0 hs1 hb)
  obtain ⟨f1, f2, f3⟩ := arm_fits hb hs0 hs1
  obtain ⟨t0, t1, q0, q1, q2, q3, r0, r1, w0, w1, o0, o1⟩ := ob_of hx hb
  obtain ⟨g1, g2⟩ := fits_natAbs f1
  obtain ⟨g3, g4⟩ := fits_natAbs f2
  have i0 : (0 : Int) ≤ 1 := by omega
  have i1 : Fits 1 := by unfold Fits; omega
  have hT : holdsB x s p side = (!decide ((wts s * 9810000).toNat * x.o.toNat < (armE x s p side).natAbs) && !decide ((wts s * 9810000).toNat * x.o.toNat < (armN x s p side).natAbs)) := by
    unfold holdsB
    rw [Nat.mul_comm (wts s * 9810000).toNat]
    rw [Bool.eq_iff_iff]; simp
  have k1 : wts s * 9810000 ≤ 9000000000000000000 := w1.2
  cases hE : decide ((wts s * 9810000).toNat * x.o.toNat < (armE x s p side).natAbs)
  all_goals
    rw [hE] at hT
    have HT := Lib.hid hT
    have HE := Lib.hid hE
    clear hT hE
    go_enter Try.func73, Try.ntmps73
    go_wp2_with (first
      | (go_at_call 68; refine (HA.out _).mono ?_; rintro e w1 ⟨rfl, hb1⟩; obtain ⟨hc1, hf1⟩ := bcell hb1; have hs1 : w.heap.size + 1 < w1.heap.size := (by have := hb1.size; simp at this; omega); have hs1' : w.heap.size < w1.heap.size := (by omega))
      | (go_at_call 83; refine (s_times' _ _ _ (by assumption) (by assumption) (by assumption) (by assumption)).mono ?_; rintro e w2 ⟨rfl, hb2⟩; obtain ⟨hc2, hf2⟩ := bcell hb2))
    have hB1 := below_tr (below_tr (below_tr (below_tr (below_alloc w (.cells #[.int .i64 x.h, .int .i64 x.o, .int .i64 x.i, .int .i64 x.wt, .int .i64 x.e, .int .i64 x.n] 35)) (below_alloc _ (.cells #[.int .i64 (wts s), .int .i64 (es s), .int .i64 (ns s), .int .i64 (hs s), .int .i64 (push s)] 62))) hb1) hb2)
      (below_alloc w2 (.cells #[.int .u64 (hi64 ((wts s * 9810000).toNat * x.o.toNat) : Nat), .int .u64 (lo64 ((wts s * 9810000).toNat * x.o.toNat) : Nat)] 96))
    have hBd := hB1.drew
    have d0 := Blk.new w2 96 #[.int .u64 (hi64 ((wts s * 9810000).toNat * x.o.toNat) : Nat), .int .u64 (lo64 ((wts s * 9810000).toNat * x.o.toNat) : Nat)]
    have u0 := d0.cell 0
    have u1 := d0.cell 1
    simp only [List.getElem?_toArray, List.getElem?_cons_zero, List.getElem?_cons_succ] at u0 u1
    clear d0
    generalize hW3 : w2.alloc (.cells #[.int .u64 (hi64 ((wts s * 9810000).toNat * x.o.toNat) : Nat), .int .u64 (lo64 ((wts s * 9810000).toNat * x.o.toNat) : Nat)] 96) = w3 at *
    have hz3 : w2.heap.size < w3.heap.size := by rw [← hW3]; simp
    clear hW3 hc1 hf1 hc2 hf2
  · go_region_held3 (fun w' => w'.cell? ⟨w2.heap.size, 0, none⟩ = some (.int .u64 (hi64 ((wts s * 9810000).toNat * x.o.toNat) : Nat)) ∧ w'.cell? ⟨w2.heap.size, 1, none⟩ = some (.int .u64 (lo64 ((wts s * 9810000).toNat * x.o.toNat) : Nat)))
          (first | (go_keep; done) | (go_split_ands; refine ⟨?_, ?_⟩ <;> (first | assumption | (rw [hc4 _ _ (by first | assumption | (simp; omega))]; assumption))))
          (first
            | (go_at_call 84; refine (s_size _ _ (by assumption)).mono ?_; rintro e w4 ⟨rfl, rfl⟩)
            | (go_at_call 83; refine (s_times' _ _ _ (by assumption) (by assumption) (by assumption) (by assumption)).mono ?_; rintro e w4 ⟨rfl, hb4⟩; obtain ⟨hc4, hf4⟩ := bcell hb4; have hBB : Below w.heap.size w w4 := below_tr (by assumption) hb4; have hss : w2.heap.size < w4.heap.size := (by have := hb4.size; (try simp at this); omega))
            | (go_at_call 86; refine (s_above _ _ _).mono ?_; rintro e w4 ⟨rfl, hb4⟩; (try rw [HE.out]); obtain ⟨hc4, hf4⟩ := bcell hb4; have hBB : Below w.heap.size w w4 := below_tr (by assumption) hb4; have hss : w2.heap.size < w4.heap.size := (by have := hb4.size; (try simp at this); omega)))
    go_wp2
    go_ret
    exact ⟨ret_bool (by rw [HT.out]; simp), hBB⟩
  · first
      | (go_region_with (first
            | (go_at_call 84; refine (s_size _ _ (by assumption)).mono ?_; rintro e w4 ⟨rfl, rfl⟩)
            | (go_at_call 83; refine (s_times' _ _ _ (by assumption) (by assumption) (by assumption) (by assumption)).mono ?_; rintro e w4 ⟨rfl, hb4⟩; obtain ⟨hc4, hf4⟩ := bcell hb4; have hBB : Below w.heap.size w w4 := below_tr (by assumption) hb4; have hss : w2.heap.size < w4.heap.size := (by have := hb4.size; (try simp at this); omega); have q0 : w4.cell? ⟨w2.heap.size, 0, none⟩ = some (.int .u64 (hi64 ((wts s * 9810000).toNat * x.o.toNat) : Nat)) := (hc4 _ _ (by first | assumption | (simp; omega))).trans (by assumption); have q1 : w4.cell? ⟨w2.heap.size, 1, none⟩ = some (.int .u64 (lo64 ((wts s * 9810000).toNat * x.o.toNat) : Nat)) := (hc4 _ _ (by first | assumption | (simp; omega))).trans (by assumption))
            | (go_at_call 86; refine (s_above _ _ _).mono ?_; rintro e w4 ⟨rfl, hb4⟩; (try rw [HE.out]); obtain ⟨hc4, hf4⟩ := bcell hb4; have hBB : Below w.heap.size w w4 := below_tr (by assumption) hb4; have hss : w2.heap.size < w4.heap.size := (by have := hb4.size; (try simp at this); omega); have q0 : w4.cell? ⟨w2.heap.size, 0, none⟩ = some (.int .u64 (hi64 ((wts s * 9810000).toNat * x.o.toNat) : Nat)) := (hc4 _ _ (by first | assumption | (simp; omega))).trans (by assumption); have q1 : w4.cell? ⟨w2.heap.size, 1, none⟩ = some (.int .u64 (lo64 ((wts s * 9810000).toNat * x.o.toNat) : Nat)) := (hc4 _ _ (by first | assumption | (simp; omega))).trans (by assumption))))
      | fail
    all_goals go_wp2
    all_goals go_ret
    all_goals exact ⟨ret_bool (by rw [HT.out]; simp), hBB⟩
end Go.Proofs.Ythoemokkfijfeaa
