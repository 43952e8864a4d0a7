/- Stack: the program's answers on heights, weights and centres. -/
import Derived.Test.YthoemokkfijfeaaSe
namespace Go.Proofs.Ythoemokkfijfeaa
open Go.RowKit

theorem run_above0 (a b c d e : Value) (W : World) : (Instr.field 62 (.agg #[a, b, c, d, e]) 0).run Try.prog W = .ok a W := by kernel_rfl
theorem run_above3 (a b c d e : Value) (W : World) : (Instr.field 62 (.agg #[a, b, c, d, e]) 3).run Try.prog W = .ok d W := by kernel_rfl
theorem run_above4 (a b c d e : Value) (W : World) : (Instr.field 62 (.agg #[a, b, c, d, e]) 4).run Try.prog W = .ok e W := by kernel_rfl
set_option maxRecDepth 10000 in
theorem s_height (A : Option Addr) (l : List Course) (c : Nat) (w : World) (hl : l.length ≤ 100000) (hR : Rd Course.cs 6 w A l) :
    Calls Try.prog 15 #[.slice A l.length c] w fun e w' => e = .returned (.tuple #[.int .i64 (heightR l).1, .int .i64 (heightR l).2]) ∧ Below w.heap.size w w' := by
  have HC := Lib.hid (s_valid A l c w hl hR)
  cases hv : validC l
  · have HV := Lib.hid hv
    rw [hv] at HC
    clear hv
    go_enter Try.func15, Try.ntmps15
    go_wp2_with (go_at_call 17; refine HC.out.mono ?_; rintro e w1 ⟨rfl, hb⟩)
    go_ret2
    exact ⟨by simp [heightR, HV.out], hb⟩
  · have HV := Lib.hid hv
    rw [hv] at HC
    obtain ⟨_, hl1, hl2⟩ := valid_all hv
    clear hv
    have fld := fun a b c d e W => run_above3 a b c d e W
    have HA := Lib.hid (fun W (h : Below w.heap.size w W) => s_at A l c 0 W HV.out (by omega) (hR.on h))
    go_enter Try.func15, Try.ntmps15
    go_wp2_with (first
      | (go_at_call 17; refine HC.out.mono ?_; rintro e w1 ⟨rfl, hb⟩)
      | (go_at_call 54; refine (HA.out _ hb).mono ?_; rintro e w2 ⟨rfl, hb2⟩))
    go_ret2
    exact ⟨by simp [heightR, HV.out], below_tr hb hb2⟩

set_option maxRecDepth 10000 in
theorem s_weight (A : Option Addr) (l : List Course) (c : Nat) (bed : Int) (w : World) (hl : l.length ≤ 100000) (hR : Rd Course.cs 6 w A l) :
    Calls Try.prog 19 #[.slice A l.length c, .int .i64 bed] w fun e w' => e = .returned (.tuple #[.int .i64 (weightR l bed).1, .int .i64 (weightR l bed).2]) ∧ Below w.heap.size w w' := by
  have HC := Lib.hid (s_asked A l c bed w hl hR)
  by_cases h0 : askedE l bed = 0
  · obtain ⟨n, rfl, hn, hv⟩ := asked_zero h0
    rw [h0] at HC
    have H0 := Lib.hid h0
    have HV := Lib.hid hv
    clear h0 hv
    have fld := fun a b c d e W => run_above0 a b c d e W
    go_enter Try.func19, Try.ntmps19
    go_wp2_with (first
      | (go_at_call 61; refine HC.out.mono ?_; rintro e w1 ⟨rfl, hb⟩)
      | (go_at_call 54; refine (s_at A l c n _ HV.out hn (hR.on hb)).mono ?_; rintro e w2 ⟨rfl, hb2⟩))
    go_ret2
    exact ⟨by simp [weightR, H0.out], below_tr hb hb2⟩
  · have H0 := Lib.hid h0
    have t1 : (askedE l bed != 0) = true := by simpa using h0
    clear h0
    go_enter Try.func19, Try.ntmps19
    go_wp2_with (go_at_call 61; refine HC.out.mono ?_; rintro e w1 ⟨rfl, hb⟩)
    go_ret2
    exact ⟨by simp [weightR, H0.out], hb⟩

set_option maxHeartbeats 1000000 in
theorem s_centre (A : Option Addr) (l : List Course) (c : Nat) (bed : Int) (w : World) (hl : l.length ≤ 100000) (hR : Rd Course.cs 6 w A l) :
    Calls Try.prog 21 #[.slice A l.length c, .int .i64 bed] w fun e w' => e = .returned (.tuple #[rat (centreR l bed).1, rat (centreR l bed).2.1, .int .i64 (centreR l bed).2.2]) ∧ Below w.heap.size w w' := by
  have HC := Lib.hid (fun W (h : Below w.heap.size w W) => s_asked A l c bed W hl (hR.on h))
  by_cases h0 : askedE l bed = 0
  · obtain ⟨n, rfl, hn, hv⟩ := asked_zero h0
    rw [h0] at HC
    have H0 := Lib.hid h0
    have HV := Lib.hid hv
    clear h0 hv
    go_enter Try.func21, Try.ntmps21
    go_wp2_with (first
      | (go_at_call 61; refine (HC.out _ (below_tr (below_alloc _ _) (below_alloc _ _))).mono ?_; rintro e w1 ⟨rfl, hb⟩; obtain ⟨hc, hf⟩ := bcell hb)
      | (go_at_call 54; refine (s_at A l c n _ HV.out hn (hR.on (below_tr (below_tr (below_alloc _ _) (below_alloc _ _)) hb))).mono ?_; rintro e w2 ⟨rfl, hb2⟩; obtain ⟨hc2, hf2⟩ := bcell hb2))
    obtain ⟨f1, f2, f3, f4⟩ := drop_fits HV.out (bed := n) hn
    have z1 := hb.size
    have z2 := hb2.size
    rw [World.size_alloc, World.size_alloc] at z1
    have y1 : w.heap.size + 1 < w2.heap.size := by omega
    have y2 : w.heap.size < w2.heap.size := by omega
    have n1 : w.heap.size ≠ w2.heap.size := by omega
    have n2 : w.heap.size + 1 ≠ w2.heap.size := by omega
    have y21 : w.heap.size + 1 < w1.heap.size := by omega
    have y22 : w.heap.size < w1.heap.size := by omega
    go_region_held3 (fun w' => w'.cell? ⟨w2.heap.size, 0, none⟩ = some (.int .i64 (wts (l.drop n))) ∧ w'.cell? ⟨w2.heap.size, 1, none⟩ = some (.int .i64 (es (l.drop n))) ∧ w'.cell? ⟨w2.heap.size, 2, none⟩ = some (.int .i64 (ns (l.drop n))))
      (refine ⟨?_, ?_, ?_⟩ <;> (first | (go_keep; done) | (rw [hc3 _ _ (by simp; omega)]; first | assumption | go_simp)))
      (first
        | (go_at_call 64; refine (s_ratio _ _ _ (by assumption) (by assumption) (by assumption)).mono ?_; rintro e w3 ⟨rfl, hb3⟩; obtain ⟨hc3, hf3⟩ := bcell hb3; have y3 : w.heap.size + 1 < w3.heap.size := (by have := hb3.size; (try simp at this); omega); have y4 : w2.heap.size < w3.heap.size := (by have := hb3.size; (try simp at this); omega); have y5 : w.heap.size < w3.heap.size := (by omega)))
    go_wp2
    have B1 := (((Blk.new w 30 #[.int .i64 0, .int .i64 0]).alloc (.cells #[.int .i64 0, .int .i64 0] 30)).below hb (by simp <;> omega)).below hb2 y22
    have B2 := ((Blk.new (w.alloc (.cells #[.int .i64 0, .int .i64 0] 30)) 30 #[.int .i64 0, .int .i64 0]).below hb (by simp <;> omega)).below hb2 (by simpa using y21)
    rw [World.size_alloc] at B2
    have C1 := (((B1.alloc _).drew.below (by assumption) (by simp; omega)).below hb3 (by assumption))
    have C2 := (((B2.alloc _).drew.below (by assumption) (by simp; omega)).below hb3 (by assumption))
    refine bodyPost_ret (res_cct rfl rfl (load_ratio (((((C1.set_ 0 _).set_ 1 _).far (by simp) _).far (by simp) _))) rfl (load_ratio (((((C2.far (by simp) _).far (by simp) _).set_ 0 _).set_ 1 _)))) rfl ⟨by simp [centreR, H0.out, rat], ?_⟩
    have hB3 := (below_tr (below_tr (below_tr (below_tr (below_alloc _ _) (below_alloc _ _)) hb) hb2) (below_alloc w2 (.cells #[.int .i64 (wts (l.drop n)), .int .i64 (es (l.drop n)), .int .i64 (ns (l.drop n)), .int .i64 (hs (l.drop n)), .int .i64 (push (l.drop n))] 62))).drew
    exact ((((below_tr (below_tr hB3 (by assumption)) hb3).setCell (by simp) _).setCell (by simp) _).setCell (by simp) _).setCell (by simp) _
  · have H0 := Lib.hid h0
    have t1 : (askedE l bed != 0) = true := by simpa using h0
    clear h0
    go_enter Try.func21, Try.ntmps21
    go_wp2_with (go_at_call 61; refine (HC.out _ (below_tr (below_alloc _ _) (below_alloc _ _))).mono ?_; rintro e w1 ⟨rfl, hb⟩; obtain ⟨hc, hf⟩ := bcell hb)
    have z1 := hb.size
    rw [World.size_alloc, World.size_alloc] at z1
    have y21 : w.heap.size + 1 < w1.heap.size := by omega
    have y22 : w.heap.size < w1.heap.size := by omega
    have C1 := ((Blk.new w 30 #[.int .i64 0, .int .i64 0]).alloc (.cells #[.int .i64 0, .int .i64 0] 30)).below hb (by simp <;> omega)
    have C2 := ((Blk.new (w.alloc (.cells #[.int .i64 0, .int .i64 0] 30)) 30 #[.int .i64 0, .int .i64 0]).below hb (by simp <;> omega))
    rw [World.size_alloc] at C2
    refine bodyPost_ret (res_cct rfl rfl (load_ratio (((((C1.set_ 0 _).set_ 1 _).far (by simp) _).far (by simp) _))) rfl (load_ratio (((((C2.far (by simp) _).far (by simp) _).set_ 0 _).set_ 1 _)))) rfl ⟨by simp [centreR, H0.out, rat], ?_⟩
    exact ((((below_tr (below_tr (below_alloc _ _) (below_alloc _ _)) hb).setCell (by simp) _).setCell (by simp) _).setCell (by simp) _).setCell (by simp) _
end Go.Proofs.Ythoemokkfijfeaa
