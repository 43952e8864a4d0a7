/- Stack: arms, closed and holding beds, by the reference. -/
import Derived.Test.YthoemokkfijfeaaSj
namespace Go.Proofs.Ythoemokkfijfeaa
open Go.RowKit

set_option maxHeartbeats 2000000 in
set_option maxRecDepth 20000 in
theorem r_armv (A : Option Addr) (l : List Course) (c n : Nat) (p side : Int) (w : World) (hv : validC l = true) (hn : n < l.length) (hR : Rd Course.cs 6 w A l) (hp0 : 0 ≤ p) (hp1 : p ≤ 10000) (hs0 : 0 ≤ side) (hs1 : side ≤ 3) :
    Calls Try.prog 69 #[.slice A l.length c, .int .i64 n, .int .i64 p, .int .i64 side] w fun e w' =>
      e = .returned (.tuple #[.int .i64 (armE (bedC l n) (l.drop n) p side), .int .i64 (armN (bedC l n) (l.drop n) p side), .int .i64 (wts (l.drop n) * 9810000)]) ∧ Below w.heap.size w w' := by
  obtain ⟨hall, hl1, hl2⟩ := valid_all hv
  obtain ⟨x, ab, off, hx, rfl, hab, k0, k1, k2, k3, k4, k5⟩ := rdC hR hn
  have hcb : CB x := cb_of (List.all_eq_true.1 hall x (List.mem_of_getElem? hx))
  have hAB := ab_of hcb (all_drop hall n) (by simp; omega) hp0 hp1
  obtain ⟨f1, f2, f3⟩ := arm_fits hAB hs0 hs1
  rw [bed_at hx]
  obtain ⟨b1, b2, b3, b4, b5, b6, b7, b8, b9, b10, b11, b12, b13, b14⟩ := hAB
  have HV := Lib.hid hv
  clear hv hall hx hcb
  have e1 : x.e * wts (l.drop n) = wts (l.drop n) * x.e := Int.mul_comm _ _
  have e2 : x.n * wts (l.drop n) = wts (l.drop n) * x.n := Int.mul_comm _ _
  have g1 : IntKind.i64.wrap (x.e * wts (l.drop n)) = wts (l.drop n) * x.e := by rw [e1]; exact fits_wrap (by unfold Fits; omega)
  have g2 : IntKind.i64.wrap (x.n * wts (l.drop n)) = wts (l.drop n) * x.n := by rw [e2]; exact fits_wrap (by unfold Fits; omega)
  have g3 : IntKind.i64.wrap (es (l.drop n) - wts (l.drop n) * x.e) = es (l.drop n) - wts (l.drop n) * x.e := fits_wrap (by unfold Fits; omega)
  have g4 : IntKind.i64.wrap (ns (l.drop n) - wts (l.drop n) * x.n) = ns (l.drop n) - wts (l.drop n) * x.n := fits_wrap (by unfold Fits; omega)
  have g5 : IntKind.i64.wrap ((es (l.drop n) - wts (l.drop n) * x.e) * 9810000) = (es (l.drop n) - wts (l.drop n) * x.e) * 9810000 := fits_wrap (by unfold Fits; omega)
  have g6 : IntKind.i64.wrap ((ns (l.drop n) - wts (l.drop n) * x.n) * 9810000) = (ns (l.drop n) - wts (l.drop n) * x.n) * 9810000 := fits_wrap (by unfold Fits; omega)
  have g7 : IntKind.i64.wrap (9810000 * wts (l.drop n)) = 9810000 * wts (l.drop n) := fits_wrap (by unfold Fits; omega)
  have hn0 : (0 : Int) ≤ (n : Int) := Int.natCast_nonneg _
  have hn1 : (n : Int) < (l.length : Int) := by omega
  clear e1 e2
  rcases (by omega : side = 0 ∨ side = 1 ∨ side = 2 ∨ side = 3) with rfl | rfl | rfl | rfl
  all_goals
    go_enter Try.func69, Try.ntmps69
    go_wp2_with (go_at_call 63; refine (r_over _ l c n _ HV.out hn hR).mono ?_; rintro e w1 ⟨rfl, hb1⟩; obtain ⟨hc1, hf1⟩ := bcell hb1; have hz1 : ab < w1.heap.size := (by have := hb1.size; omega))
    go_quiet (fail)
    go_wp2
    go_quiet (fail)
    go_wp2
    go_quiet (fail)
    go_wp2
    go_ret3
    refine ⟨ret_tup3 (int_eq ?_) (int_eq ?_) (int_eq (Int.mul_comm _ _)), below_drewN (below_drewN (below_tr hb1 (below_alloc _ _)) _) _⟩
    · simp [armE, mvE, Int.sub_eq_add_neg, Int.neg_mul]
    · simp [armN, mvN, Int.sub_eq_add_neg, Int.neg_mul]

set_option maxHeartbeats 400000 in
set_option maxRecDepth 20000 in
theorem r_closed (A : Option Addr) (l : List Course) (c n : Nat) (p side : Int) (w : World) (hv : validC l = true) (hn : n < l.length) (hR : Rd Course.cs 6 w A l) (hp0 : 0 ≤ p) (hp1 : p ≤ 10000) (hs0 : 0 ≤ side) (hs1 : side ≤ 3) :
    Calls Try.prog 72 #[.slice A l.length c, .int .i64 n, .int .i64 p, .int .i64 side] w fun e w' =>
      e = .returned (.bool (closedB (bedC l n) (l.drop n) p side)) ∧ Below w.heap.size w w' := by
  have HA := Lib.hid (r_armv A l c n p side w hv hn hR hp0 hp1 hs0 hs1)
  obtain ⟨hall, hl1, hl2⟩ := valid_all hv
  obtain ⟨x, ab, off, hx, rfl, hab, k0, k1, k2, k3, k4, k5⟩ := rdC hR hn
  have hcb : CB x := cb_of (List.all_eq_true.1 hall x (List.mem_of_getElem? hx))
  have hb := ab_of hcb (all_drop hall n) (by simp; omega) hp0 hp1
  rw [bed_at hx] at HA ⊢
  obtain ⟨f1, f2, f3⟩ := arm_fits hb hs0 hs1
  obtain ⟨t0, t1, q0, q1, q2, q3, r0, r1, w0, w1, o0, o1⟩ := ob_of hcb hb
  obtain ⟨g1, g2⟩ := fits_natAbs f1
  obtain ⟨g3, g4⟩ := fits_natAbs f2
  have hW := wide_bound g2 t0 g4 t0 g1 t1 g3 t1
  rw [← Nat.add_mul] at hW
  simp only [Int.toNat_natCast] at hW
  have hQ : ∀ {n : Int}, 0 ≤ n → Fits n → n.toNat < Q64 := fun h0 h1 => by unfold Fits at h1; unfold Q64; omega
  have cv : ∀ {n : Int}, 0 ≤ n → Fits n → IntKind.u64.wrap n = (n.toNat : Int) := fun h0 h1 => by unfold Fits at h1; rw [IntKind.wrap_u64]; omega
  have HM := Lib.hid (fun W => r_atMost (armE x (l.drop n) p side).natAbs (armN x (l.drop n) p side).natAbs (3 * x.o).toNat (x.o * x.o + x.i * x.i).toNat (wts (l.drop n) * 9810000).toNat W
    (by have := hQ g2 g1; simpa using this) (by have := hQ g4 g3; simpa using this) (hQ t0 t1) (hQ r0 r1) (hQ w0 w1) hW)
  have c1 := cv t0 t1
  have c2 := cv r0 r1
  have c3 := cv w0 w1
  have HG := Lib.hid (show closedB x (l.drop n) p side = decide (((armE x (l.drop n) p side).natAbs + (armN x (l.drop n) p side).natAbs) * (3 * x.o).toNat ≤ (x.o * x.o + x.i * x.i).toNat * (wts (l.drop n) * 9810000).toNat) from rfl)
  generalize (3 * x.o).toNat = T at *
  generalize (x.o * x.o + x.i * x.i).toNat = U at *
  generalize (wts (l.drop n) * 9810000).toNat = V at *
  have k6 : IntKind.i64.wrap (x.o * x.o) = x.o * x.o := fits_wrap (by unfold Fits; omega)
  have k7 : IntKind.i64.wrap (x.i * x.i) = x.i * x.i := fits_wrap (by unfold Fits; omega)
  have k8 : IntKind.i64.wrap (x.o * x.o + x.i * x.i) = x.o * x.o + x.i * x.i := fits_wrap r1
  have k9 : IntKind.i64.wrap (3 * x.o) = 3 * x.o := fits_wrap t1
  have HS := Lib.hid (fun (m : Int) (h : Fits m) W => r_size m W h)
  clear hv hall hx hcb hb hW hQ cv
  have hn0 : (0 : Int) ≤ (n : Int) := Int.natCast_nonneg _
  have hn1 : (n : Int) < (l.length : Int) := by omega
  go_enter Try.func72, Try.ntmps72
  go_wp2_with (go_at_call 69; refine HA.out.mono ?_; rintro e w1 ⟨rfl, hb1⟩; obtain ⟨hc1, hf1⟩ := bcell hb1; have hz1 : ab < w1.heap.size := (by have := hb1.size; omega))
  go_quiet ((first
    | (go_at_call 88; exact quiet_left (HS.out _ (by assumption) _))
    | (go_at_call 87; exact quiet_left (HM.out _))))
  go_wp2
  go_ret
  exact ⟨ret_bool HG.out.symm, below_drewN (below_tr hb1 (below_alloc _ _)) _⟩

theorem r_atMost0 (a n d : Nat) (w : World) (ha : a < Q64) (hn : n < Q64) (hd : d < Q64) :
    Calls Try.prog 87 #[.int .u64 a, .int .u64 0, .int .u64 1, .int .u64 n, .int .u64 d] w fun e w' => e = .returned (.bool (decide (a ≤ n * d))) ∧ w = w' := by
  have h := r_atMost a 0 1 n d w ha (by unfold Q64; omega) (by unfold Q64; omega) hn hd (by unfold Q64 at *; omega)
  simpa using h

set_option maxHeartbeats 1000000 in
set_option maxRecDepth 20000 in
theorem r_holds (A : Option Addr) (l : List Course) (c n : Nat) (p side : Int) (w : World) (hv : validC l = true) (hn : n < l.length) (hR : Rd Course.cs 6 w A l) (hp0 : 0 ≤ p) (hp1 : p ≤ 10000) (hs0 : 0 ≤ side) (hs1 : side ≤ 3) :
    Calls Try.prog 74 #[.slice A l.length c, .int .i64 n, .int .i64 p, .int .i64 side] w fun e w' =>
      e = .returned (.bool (holdsB (bedC l n) (l.drop n) p side)) ∧ Below w.heap.size w w' := by
  have HA := Lib.hid (r_armv A l c n p side w hv hn hR hp0 hp1 hs0 hs1)
  obtain ⟨hall, hl1, hl2⟩ := valid_all hv
  obtain ⟨x, ab, off, hx, rfl, hab, k0, k1, k2, k3, k4, k5⟩ := rdC hR hn
  have hcb : CB x := cb_of (List.all_eq_true.1 hall x (List.mem_of_getElem? hx))
  have hb := ab_of hcb (all_drop hall n) (by simp; omega) hp0 hp1
  rw [bed_at hx] at HA ⊢
  obtain ⟨f1, f2, f3⟩ := arm_fits hb hs0 hs1
  obtain ⟨t0, t1, q0, q1, q2, q3, r0, r1, w0, w1, o0, o1⟩ := ob_of hcb hb
  obtain ⟨g1, g2⟩ := fits_natAbs f1
  obtain ⟨g3, g4⟩ := fits_natAbs f2
  have hQ : ∀ {n : Int}, 0 ≤ n → Fits n → n.toNat < Q64 := fun h0 h1 => by unfold Fits at h1; unfold Q64; omega
  have cv : ∀ {n : Int}, 0 ≤ n → Fits n → IntKind.u64.wrap n = (n.toNat : Int) := fun h0 h1 => by unfold Fits at h1; rw [IntKind.wrap_u64]; omega
  have HM := Lib.hid (fun (a : Nat) (h : a < Q64) W => r_atMost0 a x.o.toNat (wts (l.drop n) * 9810000).toNat W h (hQ o0 o1) (hQ w0 w1))
  have h1 : (armE x (l.drop n) p side).natAbs < Q64 := by have := hQ g2 g1; simpa using this
  have h2 : (armN x (l.drop n) p side).natAbs < Q64 := by have := hQ g4 g3; simpa using this
  have c2 := cv o0 o1
  have c3 := cv w0 w1
  have HG := Lib.hid (show holdsB x (l.drop n) p side = (decide ((armE x (l.drop n) p side).natAbs ≤ x.o.toNat * (wts (l.drop n) * 9810000).toNat) && decide ((armN x (l.drop n) p side).natAbs ≤ x.o.toNat * (wts (l.drop n) * 9810000).toNat)) from rfl)
  generalize x.o.toNat = U at *
  generalize (wts (l.drop n) * 9810000).toNat = V at *
  have HS := Lib.hid (fun (m : Int) (h : Fits m) W => r_size m W h)
  clear hv hall hx hcb hb hQ cv
  have hn0 : (0 : Int) ≤ (n : Int) := Int.natCast_nonneg _
  have hn1 : (n : Int) < (l.length : Int) := by omega
  cases hE : decide ((armE x (l.drop n) p side).natAbs ≤ U * V)
  all_goals
    have HE := Lib.hid hE
    clear hE
    go_enter Try.func74, Try.ntmps74
    go_wp2_with (first
      | (go_at_call 69; refine HA.out.mono ?_; rintro e w1 ⟨rfl, hb1⟩; obtain ⟨hc1, hf1⟩ := bcell hb1; have hz1 : ab < w1.heap.size := (by have := hb1.size; omega))
      | (go_at_call 88; refine (HS.out _ (by assumption) _).mono ?_; rintro e w2 ⟨rfl, rfl⟩)
      | (go_at_call 87; refine (HM.out _ (by assumption) _).mono ?_; rintro e w2 ⟨rfl, rfl⟩; (try rw [HE.out])))
    go_ret
    exact ⟨ret_bool (by rw [HG.out, HE.out]; simp), hb1⟩

set_option maxHeartbeats 1000000 in
set_option maxRecDepth 20000 in
theorem r_arm (A : Option Addr) (l : List Course) (c : Nat) (bed p side : Int) (w : World) (hl : l.length ≤ 100000) (hR : Rd Course.cs 6 w A l) :
    Calls Try.prog 31 #[.slice A l.length c, .int .i64 bed, .int .i64 p, .int .i64 side] w fun e w' => e = .returned (.tuple #[rat (armR l bed p side).1, rat (armR l bed p side).2.1, .int .i64 (armR l bed p side).2.2]) ∧ Below w.heap.size w w' := by
  have HC := Lib.hid (fun W (h : Below w.heap.size w W) => r_bedError A l c bed p side W hl (hR.on h))
  by_cases h0 : windyE l bed p side = 0
  · obtain ⟨n, rfl, hn, hv, hp0, hp1, hs0, hs1⟩ := windy_zero h0
    rw [h0] at HC
    obtain ⟨hall, hl1, hl2⟩ := valid_all hv
    obtain ⟨x, hx⟩ := get_lt hn
    have hcb : CB x := cb_of (List.all_eq_true.1 hall x (List.mem_of_getElem? hx))
    have hb := ab_of hcb (all_drop hall n) (by simp; omega) hp0 hp1
    obtain ⟨f1, f2, f3⟩ := arm_fits hb hs0 hs1
    have hw : 0 < wts (l.drop n) * 9810000 := by have := (drop_fits hv hn).2.2.2; omega
    have HA := Lib.hid (fun W (h : Below w.heap.size w W) => r_armv A l c n p side W hv hn (hR.on h) hp0 hp1 hs0 hs1)
    rw [bed_at hx] at HA
    have HR : Hid (armR l n p side = ((gN (armE x (l.drop n) p side) (wts (l.drop n) * 9810000), gD (armE x (l.drop n) p side) (wts (l.drop n) * 9810000)), (gN (armN x (l.drop n) p side) (wts (l.drop n) * 9810000), gD (armN x (l.drop n) p side) (wts (l.drop n) * 9810000)), 0)) := by
      show _ = _
      unfold armR armER armNR armW
      rw [h0, bed_at hx]; simp
    clear h0 hv hall hx hcb hb
    go_enter Try.func31, Try.ntmps31
    go_wp2_with (first
      | (go_at_call 62; refine (HC.out _ (below_tr (below_alloc _ _) (below_alloc _ _))).mono ?_; rintro e w1 ⟨rfl, hb⟩; obtain ⟨hc, hf⟩ := bcell hb)
      | (go_at_call 69; refine (HA.out _ (below_tr (below_tr (below_alloc _ _) (below_alloc _ _)) hb)).mono ?_; rintro e w2 ⟨rfl, hb2⟩; obtain ⟨hc2, hf2⟩ := bcell hb2; have z1 : w.heap.size + 1 < w1.heap.size := (by have := hb.size; simp at this; omega); have z2 : w.heap.size < w1.heap.size := (by omega); have z3 : w.heap.size + 1 < w2.heap.size := (by have := hb2.size; omega); have z4 : w.heap.size < w2.heap.size := (by omega))
      | (go_at_call 24; refine (r_lowest _ _ _ (by assumption) (by assumption) (by assumption)).mono ?_; rintro e w3 ⟨rfl, hb3⟩; obtain ⟨hc3, hf3⟩ := bcell hb3; have z5 : w.heap.size + 1 < w3.heap.size := (by have := hb3.size; omega); have z6 : w.heap.size < w3.heap.size := (by omega)))
    have B1 := (((Blk.new w 30 #[.int .i64 0, .int .i64 0]).alloc (.cells #[.int .i64 0, .int .i64 0] 30)).below hb (by simp <;> omega)).below hb2 z2
    have B2 := ((Blk.new (w.alloc (.cells #[.int .i64 0, .int .i64 0] 30)) 30 #[.int .i64 0, .int .i64 0]).below hb (by simp <;> omega)).below hb2 (by simpa using z1)
    rw [World.size_alloc] at B2
    have C1 := (B1.below (by assumption) z4).below hb3 (by assumption)
    have C2 := (B2.below (by assumption) z3).below hb3 (by assumption)
    refine bodyPost_ret (res_cct rfl rfl (load_ratio (((((C1.set_ 0 _).set_ 1 _).far (by simp) _).far (by simp) _))) rfl (load_ratio (((((C2.far (by simp) _).far (by simp) _).set_ 0 _).set_ 1 _)))) rfl ⟨by rw [HR.out]; simp [rat], ?_⟩
    exact ((((below_tr (below_tr (below_tr (below_tr (below_tr (below_alloc _ _) (below_alloc _ _)) hb) hb2) (by assumption)) hb3).setCell (by simp) _).setCell (by simp) _).setCell (by simp) _).setCell (by simp) _
  · have H0 := Lib.hid h0
    have t1 : (windyE l bed p side != 0) = true := by simpa using h0
    clear h0
    go_enter Try.func31, Try.ntmps31
    go_wp2_with (go_at_call 62; refine (HC.out _ (below_tr (below_alloc _ _) (below_alloc _ _))).mono ?_; rintro e w1 ⟨rfl, hb⟩; obtain ⟨hc, hf⟩ := bcell hb)
    have C1 := ((Blk.new w 30 #[.int .i64 0, .int .i64 0]).alloc (.cells #[.int .i64 0, .int .i64 0] 30)).below hb (by simp <;> omega)
    have C2 := ((Blk.new (w.alloc (.cells #[.int .i64 0, .int .i64 0] 30)) 30 #[.int .i64 0, .int .i64 0]).below hb (by simp <;> omega))
    rw [World.size_alloc] at C2
    refine bodyPost_ret (res_cct rfl rfl (load_ratio (((((C1.set_ 0 _).set_ 1 _).far (by simp) _).far (by simp) _))) rfl (load_ratio (((((C2.far (by simp) _).far (by simp) _).set_ 0 _).set_ 1 _)))) rfl ⟨by simp [armR, H0.out, rat], ?_⟩
    exact ((((below_tr (below_tr (below_alloc _ _) (below_alloc _ _)) hb).setCell (by simp) _).setCell (by simp) _).setCell (by simp) _).setCell (by simp) _

def momentR (l : List Course) (bed p : Int) : (Int × Int) × Int :=
  if windyE l bed p 0 = 0 then ((gN (p * push (l.drop bed.toNat)) 1000000, gD (p * push (l.drop bed.toNat)) 1000000), 0) else ((0, 0), windyE l bed p 0)
theorem run_over3 (a b c d : Value) (W : World) : (Instr.field 70 (.agg #[a, b, c, d]) 3).run Try.prog W = .ok d W := by kernel_rfl
theorem push_bd {l : List Course} {n : Nat} {p : Int} (hv : validC l = true) (hp0 : 0 ≤ p) (hp1 : p ≤ 10000) : 0 ≤ p * push (l.drop n) ∧ p * push (l.drop n) ≤ 720000000000000000 := by
  obtain ⟨hall, hl1, hl2⟩ := valid_all hv
  obtain ⟨s1, s2, s3, s4, s5, s6, s7, s8, s9, s10, s11, s12⟩ := sb_of (all_drop hall n)
  have hle : (l.drop n).length ≤ 60 := by simp; omega
  have q := mul_bd0 (a := ((l.drop n).length : Int)) (b := (l.drop n).length) (A := 60) (B := 60) (by omega) (by omega) (by omega) (by omega)
  exact mul_bd0 (a := p) (b := push (l.drop n)) (A := 10000) (B := 72000000000000) hp0 hp1 (by omega) (by omega)

set_option maxHeartbeats 1000000 in
set_option maxRecDepth 20000 in
theorem r_moment (A : Option Addr) (l : List Course) (c : Nat) (bed p : Int) (w : World) (hl : l.length ≤ 100000) (hR : Rd Course.cs 6 w A l) :
    Calls Try.prog 32 #[.slice A l.length c, .int .i64 bed, .int .i64 p] w fun e w' => e = .returned (.tuple #[rat (momentR l bed p).1, .int .i64 (momentR l bed p).2]) ∧ Below w.heap.size w w' := by
  have HC := Lib.hid (fun W (h : Below w.heap.size w W) => r_bedError A l c bed p 0 W hl (hR.on h))
  by_cases h0 : windyE l bed p 0 = 0
  · obtain ⟨n, rfl, hn, hv, hp0, hp1, _, _⟩ := windy_zero h0
    rw [h0] at HC
    obtain ⟨b1, b2⟩ := push_bd (n := n) hv hp0 hp1
    have f1 : Fits (p * push (l.drop n)) := by unfold Fits; omega
    have f2 : Fits 1000000 := by unfold Fits; omega
    have HA := Lib.hid (fun W (h : Below w.heap.size w W) => r_over A l c n W hv hn (hR.on h))
    have HR : Hid (momentR l n p = ((gN (p * push (l.drop n)) 1000000, gD (p * push (l.drop n)) 1000000), 0)) := by
      show _ = _
      unfold momentR
      rw [h0]; simp
    have fld := fun a b c d W => run_over3 a b c d W
    clear h0 hv
    go_enter Try.func32, Try.ntmps32
    go_wp2_with (first
      | (go_at_call 62; refine (HC.out _ (below_alloc _ _)).mono ?_; rintro e w1 ⟨rfl, hb⟩; obtain ⟨hc, hf⟩ := bcell hb; have z2 : w.heap.size < w1.heap.size := (by have := hb.size; simp at this; omega))
      | (go_at_call 63; refine (HA.out _ (below_tr (below_alloc _ _) hb)).mono ?_; rintro e w2 ⟨rfl, hb2⟩; obtain ⟨hc2, hf2⟩ := bcell hb2; have z4 : w.heap.size < w2.heap.size := (by have := hb2.size; omega))
      | (go_at_call 24; refine (r_lowest _ _ _ (by assumption) (by assumption) (by omega)).mono ?_; rintro e w3 ⟨rfl, hb3⟩; obtain ⟨hc3, hf3⟩ := bcell hb3))
    have C1 := (((Blk.new w 30 #[.int .i64 0, .int .i64 0]).below hb (by simp <;> omega)).below hb2 z2).below hb3 z4
    refine bodyPost_ret (res_ct rfl rfl (load_ratio ((C1.set_ 0 _).set_ 1 _))) rfl ⟨by rw [HR.out]; simp [rat], ?_⟩
    exact ((below_tr (below_tr (below_tr (below_alloc _ _) hb) hb2) hb3).setCell (by simp) _).setCell (by simp) _
  · have H0 := Lib.hid h0
    have t1 : (windyE l bed p 0 != 0) = true := by simpa using h0
    clear h0
    go_enter Try.func32, Try.ntmps32
    go_wp2_with (go_at_call 62; refine (HC.out _ (below_alloc _ _)).mono ?_; rintro e w1 ⟨rfl, hb⟩; obtain ⟨hc, hf⟩ := bcell hb)
    have C1 := (Blk.new w 30 #[.int .i64 0, .int .i64 0]).below hb (by simp <;> omega)
    refine bodyPost_ret (res_ct rfl rfl (load_ratio ((C1.set_ 0 _).set_ 1 _))) rfl ⟨by simp [momentR, H0.out, rat], ?_⟩
    exact ((below_tr (below_alloc _ _) hb).setCell (by simp) _).setCell (by simp) _
set_option maxHeartbeats 1000000 in
set_option maxRecDepth 20000 in
theorem s_moment (A : Option Addr) (l : List Course) (c : Nat) (bed p : Int) (w : World) (hl : l.length ≤ 100000) (hR : Rd Course.cs 6 w A l) :
    Calls Try.prog 23 #[.slice A l.length c, .int .i64 bed, .int .i64 p] w fun e w' => e = .returned (.tuple #[rat (momentR l bed p).1, .int .i64 (momentR l bed p).2]) ∧ Below w.heap.size w w' := by
  have HC := Lib.hid (fun W (h : Below w.heap.size w W) => s_windy A l c bed p 0 W hl (hR.on h))
  by_cases h0 : windyE l bed p 0 = 0
  · obtain ⟨n, rfl, hn, hv, hp0, hp1, _, _⟩ := windy_zero h0
    rw [h0] at HC
    obtain ⟨b1, b2⟩ := push_bd (n := n) hv hp0 hp1
    have f1 : Fits (p * push (l.drop n)) := by unfold Fits; omega
    have f2 : Fits 1000000 := by unfold Fits; omega
    have HA := Lib.hid (fun W (h : Below w.heap.size w W) => s_at A l c n W hv hn (hR.on h))
    have HR : Hid (momentR l n p = ((gN (p * push (l.drop n)) 1000000, gD (p * push (l.drop n)) 1000000), 0)) := by
      show _ = _
      unfold momentR
      rw [h0]; simp
    have fld := fun a b c d e W => run_above4 a b c d e W
    clear h0 hv
    go_enter Try.func23, Try.ntmps23
    go_wp2_with (first
      | (go_at_call 65; refine (HC.out _ (below_alloc _ _)).mono ?_; rintro e w1 ⟨rfl, hb⟩; obtain ⟨hc, hf⟩ := bcell hb; have z2 : w.heap.size < w1.heap.size := (by have := hb.size; simp at this; omega))
      | (go_at_call 54; refine (HA.out _ (below_tr (below_alloc _ _) hb)).mono ?_; rintro e w2 ⟨rfl, hb2⟩; obtain ⟨hc2, hf2⟩ := bcell hb2; have z4 : w.heap.size < w2.heap.size := (by have := hb2.size; omega))
      | (go_at_call 64; refine (s_ratio _ _ _ (by assumption) (by assumption) (by omega)).mono ?_; rintro e w3 ⟨rfl, hb3⟩; obtain ⟨hc3, hf3⟩ := bcell hb3))
    have C1 := (((Blk.new w 30 #[.int .i64 0, .int .i64 0]).below hb (by simp <;> omega)).below hb2 z2).below hb3 z4
    refine bodyPost_ret (res_ct rfl rfl (load_ratio ((C1.set_ 0 _).set_ 1 _))) rfl ⟨by rw [HR.out]; simp [rat], ?_⟩
    exact ((below_tr (below_tr (below_tr (below_alloc _ _) hb) hb2) hb3).setCell (by simp) _).setCell (by simp) _
  · have H0 := Lib.hid h0
    have t1 : (windyE l bed p 0 != 0) = true := by simpa using h0
    clear h0
    go_enter Try.func23, Try.ntmps23
    go_wp2_with (go_at_call 65; refine (HC.out _ (below_alloc _ _)).mono ?_; rintro e w1 ⟨rfl, hb⟩; obtain ⟨hc, hf⟩ := bcell hb)
    have C1 := (Blk.new w 30 #[.int .i64 0, .int .i64 0]).below hb (by simp <;> omega)
    refine bodyPost_ret (res_ct rfl rfl (load_ratio ((C1.set_ 0 _).set_ 1 _))) rfl ⟨by simp [momentR, H0.out, rat], ?_⟩
    exact ((below_tr (below_alloc _ _) hb).setCell (by simp) _).setCell (by simp) _
end Go.Proofs.Ythoemokkfijfeaa
