/- Stack: Closed and Holds, both programs; the statement on arms. -/
import Derived.Test.YthoemokkfijfeaaSk
import Derived.Test.YthoemokkfijfeaaSi
namespace Go.Proofs.Ythoemokkfijfeaa
open Go.RowKit

def closedR (l : List Course) (bed p side : Int) : Bool × Int := if windyE l bed p side = 0 then (closedB (bedC l bed) (l.drop bed.toNat) p side, 0) else (false, windyE l bed p side)
def holdsR (l : List Course) (bed p side : Int) : Bool × Int := if windyE l bed p side = 0 then (holdsB (bedC l bed) (l.drop bed.toNat) p side, 0) else (false, windyE l bed p side)

set_option maxHeartbeats 1000000 in
set_option maxRecDepth 20000 in
theorem s_one_closed (A : Option Addr) (l : List Course) (c : Nat) (bed p side : Int) (w : World) (hl : l.length ≤ 100000) (hR : Rd Course.cs 6 w A l) :
    Calls Try.prog 70 #[.slice A l.length c, .int .i64 bed, .int .i64 p, .int .i64 side, .func (.func 71) #[] #[]] w fun e w' => e = .returned (.tuple #[.bool (closedR l bed p side).1, .int .i64 (closedR l bed p side).2]) ∧ Below w.heap.size w w' := by
  have HC := Lib.hid (s_windy A l c bed p side w hl hR)
  by_cases h0 : windyE l bed p side = 0
  · obtain ⟨n, rfl, hn, hv, hp0, hp1, hs0, hs1⟩ := windy_zero h0
    rw [h0] at HC
    obtain ⟨hall, hl1, hl2⟩ := valid_all hv
    obtain ⟨x, ab, off, hx, rfl, hab, k0, k1, k2, k3, k4, k5⟩ := rdC hR hn
    have hcb : CB x := cb_of (List.all_eq_true.1 hall x (List.mem_of_getElem? hx))
    have hb := ab_of hcb (all_drop hall n) (by simp; omega) hp0 hp1
    have HK := Lib.hid (fun W => s_closed x (l.drop n) p side W hp0 hp1 hs0 hs1 hb hcb)
    have HA := Lib.hid (fun W (h : Below w.heap.size w W) => s_at (some ⟨ab, off, none⟩) l c n W hv hn (hR.on h))
    have HR : Hid (closedR l n p side = (closedB x (l.drop n) p side, 0)) := by
      show _ = _
      unfold closedR
      rw [h0, bed_at hx]; simp
    have hn0 : (0 : Int) ≤ (n : Int) := Int.natCast_nonneg _
    have hn1 : (n : Int) < (l.length : Int) := by omega
    clear h0 hv hall hx hcb hb
    go_enter Try.func70, Try.ntmps70
    go_wp2_with (go_at_call 65; refine HC.out.mono ?_; rintro e w1 ⟨rfl, hb1⟩; obtain ⟨hc1, hf1⟩ := bcell hb1; have hz1 : ab < w1.heap.size := (by have := hb1.size; omega))
    have g0 := (hc1 ab (off + n * 6) hab).trans k0
    have g1 := (hc1 ab (off + n * 6 + 1) hab).trans k1
    have g2 := (hc1 ab (off + n * 6 + 2) hab).trans k2
    have g3 := (hc1 ab (off + n * 6 + 3) hab).trans k3
    have g4 := (hc1 ab (off + n * 6 + 4) hab).trans k4
    have g5 := (hc1 ab (off + n * 6 + 5) hab).trans k5
    have hBd := hb1.drew
    clear hc1 hf1 k0 k1 k2 k3 k4 k5
    go_region_held3 (fun w' => w'.cell? ⟨ab, off + n * 6, none⟩ = some (.int .i64 x.h) ∧ w'.cell? ⟨ab, off + n * 6 + 1, none⟩ = some (.int .i64 x.o) ∧ w'.cell? ⟨ab, off + n * 6 + 2, none⟩ = some (.int .i64 x.i) ∧
        w'.cell? ⟨ab, off + n * 6 + 3, none⟩ = some (.int .i64 x.wt) ∧ w'.cell? ⟨ab, off + n * 6 + 4, none⟩ = some (.int .i64 x.e) ∧ w'.cell? ⟨ab, off + n * 6 + 5, none⟩ = some (.int .i64 x.n))
      (first | (go_keep; done) | (go_split_ands; refine ⟨?_, ?_, ?_, ?_, ?_, ?_⟩ <;> (first | assumption | (rw [hc2 _ _ (by first | assumption | (simp; omega))]; assumption))))
      (first
        | (go_at_call 54; refine (HA.out _ (by exact hBd)).mono ?_; rintro e w2 ⟨rfl, hb2⟩; obtain ⟨hc2, hf2⟩ := bcell hb2; have hBB : Below w.heap.size w w2 := below_tr hBd hb2; have hz2 : ab < w2.heap.size := (by have := hb2.size; (try simp at this); omega))
        | (go_at_call 71; refine (HK.out _).mono ?_; rintro e w3 ⟨rfl, hb3⟩; obtain ⟨hc2, hf2⟩ := bcell hb3; have hB3 : Below w.heap.size w w3 := below_tr hBB hb3))
    go_wp2
    go_ret2
    exact ⟨by rw [HR.out]; rfl, hB3⟩
  · have H0 := Lib.hid h0
    have t1 : (windyE l bed p side != 0) = true := by simpa using h0
    clear h0
    go_enter Try.func70, Try.ntmps70
    go_wp2_with (go_at_call 65; refine HC.out.mono ?_; rintro e w1 ⟨rfl, hb1⟩)
    go_ret2
    exact ⟨by simp [closedR, H0.out], hb1⟩

theorem s_closedF (A : Option Addr) (l : List Course) (c : Nat) (bed p side : Int) (w : World) (hl : l.length ≤ 100000) (hR : Rd Course.cs 6 w A l) :
    Calls Try.prog 33 #[.slice A l.length c, .int .i64 bed, .int .i64 p, .int .i64 side] w fun e w' => e = .returned (.tuple #[.bool (closedR l bed p side).1, .int .i64 (closedR l bed p side).2]) ∧ Below w.heap.size w w' := by
  go_enter Try.func33, Try.ntmps33
  go_wp2_with (go_at_call 70; refine (s_one_closed A l c bed p side _ hl hR).mono ?_; rintro e w1 ⟨rfl, hb1⟩)
  go_ret2
  exact ⟨rfl, hb1⟩

theorem r_closedF (A : Option Addr) (l : List Course) (c : Nat) (bed p side : Int) (w : World) (hl : l.length ≤ 100000) (hR : Rd Course.cs 6 w A l) :
    Calls Try.prog 34 #[.slice A l.length c, .int .i64 bed, .int .i64 p, .int .i64 side] w fun e w' => e = .returned (.tuple #[.bool (closedR l bed p side).1, .int .i64 (closedR l bed p side).2]) ∧ Below w.heap.size w w' := by
  have HC := Lib.hid (r_bedError A l c bed p side w hl hR)
  by_cases h0 : windyE l bed p side = 0
  · obtain ⟨n, rfl, hn, hv, hp0, hp1, hs0, hs1⟩ := windy_zero h0
    rw [h0] at HC
    have HA := Lib.hid (fun W (h : Below w.heap.size w W) => r_closed A l c n p side W hv hn (hR.on h) hp0 hp1 hs0 hs1)
    have HR : Hid (closedR l n p side = (closedB (bedC l n) (l.drop n) p side, 0)) := by
      show _ = _
      unfold closedR
      rw [h0]; simp
    clear h0 hv
    go_enter Try.func34, Try.ntmps34
    go_wp2_with (first
      | (go_at_call 62; refine HC.out.mono ?_; rintro e w1 ⟨rfl, hb1⟩)
      | (go_at_call 72; refine (HA.out _ hb1).mono ?_; rintro e w2 ⟨rfl, hb2⟩))
    go_ret2
    exact ⟨by rw [HR.out]; rfl, below_tr hb1 hb2⟩
  · have H0 := Lib.hid h0
    have t1 : (windyE l bed p side != 0) = true := by simpa using h0
    clear h0
    go_enter Try.func34, Try.ntmps34
    go_wp2_with (go_at_call 62; refine HC.out.mono ?_; rintro e w1 ⟨rfl, hb1⟩)
    go_ret2
    exact ⟨by simp [closedR, H0.out], hb1⟩

set_option maxHeartbeats 1000000 in
set_option maxRecDepth 20000 in
theorem s_one_holds (A : Option Addr) (l : List Course) (c : Nat) (bed p side : Int) (w : World) (hl : l.length ≤ 100000) (hR : Rd Course.cs 6 w A l) :
    Calls Try.prog 70 #[.slice A l.length c, .int .i64 bed, .int .i64 p, .int .i64 side, .func (.func 73) #[] #[]] w fun e w' => e = .returned (.tuple #[.bool (holdsR l bed p side).1, .int .i64 (holdsR l bed p side).2]) ∧ Below w.heap.size w w' := by
  have HC := Lib.hid (s_windy A l c bed p side w hl hR)
  by_cases h0 : windyE l bed p side = 0
  · obtain ⟨n, rfl, hn, hv, hp0, hp1, hs0, hs1⟩ := windy_zero h0
    rw [h0] at HC
    obtain ⟨hall, hl1, hl2⟩ := valid_all hv
    obtain ⟨x, ab, off, hx, rfl, hab, k0, k1, k2, k3, k4, k5⟩ := rdC hR hn
    have hcb : CB x := cb_of (List.all_eq_true.1 hall x (List.mem_of_getElem? hx))
    have hb := ab_of hcb (all_drop hall n) (by simp; omega) hp0 hp1
    have HK := Lib.hid (fun W => s_holds x (l.drop n) p side W hp0 hp1 hs0 hs1 hb hcb)
    have HA := Lib.hid (fun W (h : Below w.heap.size w W) => s_at (some ⟨ab, off, none⟩) l c n W hv hn (hR.on h))
    have HR : Hid (holdsR l n p side = (holdsB x (l.drop n) p side, 0)) := by
      show _ = _
      unfold holdsR
      rw [h0, bed_at hx]; simp
    have hn0 : (0 : Int) ≤ (n : Int) := Int.natCast_nonneg _
    have hn1 : (n : Int) < (l.length : Int) := by omega
    clear h0 hv hall hx hcb hb
    go_enter Try.func70, Try.ntmps70
    go_wp2_with (go_at_call 65; refine HC.out.mono ?_; rintro e w1 ⟨rfl, hb1⟩; obtain ⟨hc1, hf1⟩ := bcell hb1; have hz1 : ab < w1.heap.size := (by have := hb1.size; omega))
    have g0 := (hc1 ab (off + n * 6) hab).trans k0
    have g1 := (hc1 ab (off + n * 6 + 1) hab).trans k1
    have g2 := (hc1 ab (off + n * 6 + 2) hab).trans k2
    have g3 := (hc1 ab (off + n * 6 + 3) hab).trans k3
    have g4 := (hc1 ab (off + n * 6 + 4) hab).trans k4
    have g5 := (hc1 ab (off + n * 6 + 5) hab).trans k5
    have hBd := hb1.drew
    clear hc1 hf1 k0 k1 k2 k3 k4 k5
    go_region_held3 (fun w' => w'.cell? ⟨ab, off + n * 6, none⟩ = some (.int .i64 x.h) ∧ w'.cell? ⟨ab, off + n * 6 + 1, none⟩ = some (.int .i64 x.o) ∧ w'.cell? ⟨ab, off + n * 6 + 2, none⟩ = some (.int .i64 x.i) ∧
        w'.cell? ⟨ab, off + n * 6 + 3, none⟩ = some (.int .i64 x.wt) ∧ w'.cell? ⟨ab, off + n * 6 + 4, none⟩ = some (.int .i64 x.e) ∧ w'.cell? ⟨ab, off + n * 6 + 5, none⟩ = some (.int .i64 x.n))
      (first | (go_keep; done) | (go_split_ands; refine ⟨?_, ?_, ?_, ?_, ?_, ?_⟩ <;> (first | assumption | (rw [hc2 _ _ (by first | assumption | (simp; omega))]; assumption))))
      (first
        | (go_at_call 54; refine (HA.out _ (by exact hBd)).mono ?_; rintro e w2 ⟨rfl, hb2⟩; obtain ⟨hc2, hf2⟩ := bcell hb2; have hBB : Below w.heap.size w w2 := below_tr hBd hb2; have hz2 : ab < w2.heap.size := (by have := hb2.size; (try simp at this); omega))
        | (go_at_call 73; refine (HK.out _).mono ?_; rintro e w3 ⟨rfl, hb3⟩; obtain ⟨hc2, hf2⟩ := bcell hb3; have hB3 : Below w.heap.size w w3 := below_tr hBB hb3))
    go_wp2
    go_ret2
    exact ⟨by rw [HR.out]; rfl, hB3⟩
  · have H0 := Lib.hid h0
    have t1 : (windyE l bed p side != 0) = true := by simpa using h0
    clear h0
    go_enter Try.func70, Try.ntmps70
    go_wp2_with (go_at_call 65; refine HC.out.mono ?_; rintro e w1 ⟨rfl, hb1⟩)
    go_ret2
    exact ⟨by simp [holdsR, H0.out], hb1⟩

theorem s_holdsF (A : Option Addr) (l : List Course) (c : Nat) (bed p side : Int) (w : World) (hl : l.length ≤ 100000) (hR : Rd Course.cs 6 w A l) :
    Calls Try.prog 35 #[.slice A l.length c, .int .i64 bed, .int .i64 p, .int .i64 side] w fun e w' => e = .returned (.tuple #[.bool (holdsR l bed p side).1, .int .i64 (holdsR l bed p side).2]) ∧ Below w.heap.size w w' := by
  go_enter Try.func35, Try.ntmps35
  go_wp2_with (go_at_call 70; refine (s_one_holds A l c bed p side _ hl hR).mono ?_; rintro e w1 ⟨rfl, hb1⟩)
  go_ret2
  exact ⟨rfl, hb1⟩

theorem r_holdsF (A : Option Addr) (l : List Course) (c : Nat) (bed p side : Int) (w : World) (hl : l.length ≤ 100000) (hR : Rd Course.cs 6 w A l) :
    Calls Try.prog 36 #[.slice A l.length c, .int .i64 bed, .int .i64 p, .int .i64 side] w fun e w' => e = .returned (.tuple #[.bool (holdsR l bed p side).1, .int .i64 (holdsR l bed p side).2]) ∧ Below w.heap.size w w' := by
  have HC := Lib.hid (r_bedError A l c bed p side w hl hR)
  by_cases h0 : windyE l bed p side = 0
  · obtain ⟨n, rfl, hn, hv, hp0, hp1, hs0, hs1⟩ := windy_zero h0
    rw [h0] at HC
    have HA := Lib.hid (fun W (h : Below w.heap.size w W) => r_holds A l c n p side W hv hn (hR.on h) hp0 hp1 hs0 hs1)
    have HR : Hid (holdsR l n p side = (holdsB (bedC l n) (l.drop n) p side, 0)) := by
      show _ = _
      unfold holdsR
      rw [h0]; simp
    clear h0 hv
    go_enter Try.func36, Try.ntmps36
    go_wp2_with (first
      | (go_at_call 62; refine HC.out.mono ?_; rintro e w1 ⟨rfl, hb1⟩)
      | (go_at_call 74; refine (HA.out _ hb1).mono ?_; rintro e w2 ⟨rfl, hb2⟩))
    go_ret2
    exact ⟨by rw [HR.out]; rfl, below_tr hb1 hb2⟩
  · have H0 := Lib.hid h0
    have t1 : (windyE l bed p side != 0) = true := by simpa using h0
    clear h0
    go_enter Try.func36, Try.ntmps36
    go_wp2_with (go_at_call 62; refine HC.out.mono ?_; rintro e w1 ⟨rfl, hb1⟩)
    go_ret2
    exact ⟨by simp [holdsR, H0.out], hb1⟩

set_option maxHeartbeats 2000000 in
set_option maxRecDepth 20000 in
theorem l_arms (A : Option Addr) (l : List Course) (c : Nat) (n0 n1 n2 : Int) (w : World) (hl : l.length ≤ maxLen) (hR : Rd Course.cs 6 w A l) :
    Calls Try.prog 6 #[.slice A l.length c, .agg #[.int .i64 n0, .int .i64 n1, .int .i64 n2]] w fun e w' => e = .returned (.bool true) ∧ Below w.heap.size w w' := by
  unfold maxLen at hl
  by_cases h : l.length ≤ 100
  · have hl2 : l.length ≤ 100000 := by omega
    have H1 := Lib.hid (fun W (h : Below w.heap.size w W) => s_arm A l c n0 n1 n2 W hl2 (hR.on h))
    have H2 := Lib.hid (fun W (h : Below w.heap.size w W) => r_arm A l c n0 n1 n2 W hl2 (hR.on h))
    have H3 := Lib.hid (fun W (h : Below w.heap.size w W) => s_moment A l c n0 n1 W hl2 (hR.on h))
    have H4 := Lib.hid (fun W (h : Below w.heap.size w W) => r_moment A l c n0 n1 W hl2 (hR.on h))
    have H5 := Lib.hid (fun W (h : Below w.heap.size w W) => s_closedF A l c n0 n1 n2 W hl2 (hR.on h))
    have H6 := Lib.hid (fun W (h : Below w.heap.size w W) => r_closedF A l c n0 n1 n2 W hl2 (hR.on h))
    have H7 := Lib.hid (fun W (h : Below w.heap.size w W) => s_holdsF A l c n0 n1 n2 W hl2 (hR.on h))
    have H8 := Lib.hid (fun W (h : Below w.heap.size w W) => r_holdsF A l c n0 n1 n2 W hl2 (hR.on h))
    simp only [rat] at H1 H2 H3 H4
    go_enter Try.func6, Try.ntmps6
    go_wp2_with (first
      | (go_at_call 30; refine (H1.out _ (below_alloc _ _)).mono ?_; rintro e w1 ⟨rfl, c1⟩; obtain ⟨hc1, hf1⟩ := bcell c1; have y1 : w.heap.size < w1.heap.size := (by have := c1.size; simp at this; omega); have d1 : Blk w1 w.heap.size 40 #[.int .i64 n0, .int .i64 n1, .int .i64 n2] := (Blk.new w _ _).below c1 (by simp); have q10 : w1.cell? ⟨w.heap.size, 0, none⟩ = some (.int .i64 n0) := d1.cell 0; have q11 : w1.cell? ⟨w.heap.size, 1, none⟩ = some (.int .i64 n1) := d1.cell 1; have q12 : w1.cell? ⟨w.heap.size, 2, none⟩ = some (.int .i64 n2) := d1.cell 2; have b1 := below_tr (below_alloc w (.cells #[.int .i64 n0, .int .i64 n1, .int .i64 n2] 40)) c1)
      | (go_at_call 31; refine (H2.out _ (by exact below_tr (below_tr b1 (below_alloc _ _)) (below_alloc _ _))).mono ?_; rintro e w2 ⟨rfl, c2⟩; obtain ⟨hc2, hf2⟩ := bcell c2; have z2 : w1.heap.size + 1 < w2.heap.size := (by have := c2.size; simp at this; omega); have y2 : w.heap.size < w2.heap.size := (by omega); have y2' : w1.heap.size < w2.heap.size := (by omega); have d2 : Blk w2 w.heap.size 40 #[.int .i64 n0, .int .i64 n1, .int .i64 n2] := ((d1.alloc _).alloc _).below c2 (by first | omega | (simp; omega) | simp); have q20 : w2.cell? ⟨w.heap.size, 0, none⟩ = some (.int .i64 n0) := d2.cell 0; have q21 : w2.cell? ⟨w.heap.size, 1, none⟩ = some (.int .i64 n1) := d2.cell 1; have q22 : w2.cell? ⟨w.heap.size, 2, none⟩ = some (.int .i64 n2) := d2.cell 2; have b2 : Below w.heap.size w w2 := below_tr (by exact below_tr (below_tr b1 (below_alloc _ _)) (below_alloc _ _)) c2)
      | (go_at_call 23; refine (H3.out _ (by exact below_tr (below_tr b2 (below_alloc _ _)) (below_alloc _ _))).mono ?_; rintro e w3 ⟨rfl, c3⟩; obtain ⟨hc3, hf3⟩ := bcell c3; have z3 : w2.heap.size + 1 < w3.heap.size := (by have := c3.size; simp at this; omega); have y3 : w.heap.size < w3.heap.size := (by omega); have d3 : Blk w3 w.heap.size 40 #[.int .i64 n0, .int .i64 n1, .int .i64 n2] := ((d2.alloc _).alloc _).below c3 (by first | omega | (simp; omega) | simp); have q30 : w3.cell? ⟨w.heap.size, 0, none⟩ = some (.int .i64 n0) := d3.cell 0; have q31 : w3.cell? ⟨w.heap.size, 1, none⟩ = some (.int .i64 n1) := d3.cell 1; have q32 : w3.cell? ⟨w.heap.size, 2, none⟩ = some (.int .i64 n2) := d3.cell 2; have b3 : Below w.heap.size w w3 := below_tr (by exact below_tr (below_tr b2 (below_alloc _ _)) (below_alloc _ _)) c3)
      | (go_at_call 32; refine (H4.out _ (by exact below_tr b3 (below_alloc _ _))).mono ?_; rintro e w4 ⟨rfl, c4⟩; obtain ⟨hc4, hf4⟩ := bcell c4; have z4 : w3.heap.size < w4.heap.size := (by have := c4.size; simp at this; omega); have y4 : w.heap.size < w4.heap.size := (by omega); have d4 : Blk w4 w.heap.size 40 #[.int .i64 n0, .int .i64 n1, .int .i64 n2] := (d3.alloc _).below c4 (by first | omega | (simp; omega) | simp); have q40 : w4.cell? ⟨w.heap.size, 0, none⟩ = some (.int .i64 n0) := d4.cell 0; have q41 : w4.cell? ⟨w.heap.size, 1, none⟩ = some (.int .i64 n1) := d4.cell 1; have q42 : w4.cell? ⟨w.heap.size, 2, none⟩ = some (.int .i64 n2) := d4.cell 2; have b4 : Below w.heap.size w w4 := below_tr (by exact below_tr b3 (below_alloc _ _)) c4)
      | (go_at_call 33; refine (H5.out _ (by exact below_tr b4 (below_alloc _ _))).mono ?_; rintro e w5 ⟨rfl, c5⟩; obtain ⟨hc5, hf5⟩ := bcell c5; have z5 : w4.heap.size < w5.heap.size := (by have := c5.size; simp at this; omega); have y5 : w.heap.size < w5.heap.size := (by omega); have d5 : Blk w5 w.heap.size 40 #[.int .i64 n0, .int .i64 n1, .int .i64 n2] := (d4.alloc _).below c5 (by first | omega | (simp; omega) | simp); have q50 : w5.cell? ⟨w.heap.size, 0, none⟩ = some (.int .i64 n0) := d5.cell 0; have q51 : w5.cell? ⟨w.heap.size, 1, none⟩ = some (.int .i64 n1) := d5.cell 1; have q52 : w5.cell? ⟨w.heap.size, 2, none⟩ = some (.int .i64 n2) := d5.cell 2; have b5 : Below w.heap.size w w5 := below_tr (by exact below_tr b4 (below_alloc _ _)) c5)
      | (go_at_call 34; refine (H6.out _ b5).mono ?_; rintro e w6 ⟨rfl, c6⟩; obtain ⟨hc6, hf6⟩ := bcell c6; have y6 : w.heap.size < w6.heap.size := (by have := c6.size; omega); have d6 : Blk w6 w.heap.size 40 #[.int .i64 n0, .int .i64 n1, .int .i64 n2] := d5.below c6 (by first | omega | (simp; omega) | simp); have q60 : w6.cell? ⟨w.heap.size, 0, none⟩ = some (.int .i64 n0) := d6.cell 0; have q61 : w6.cell? ⟨w.heap.size, 1, none⟩ = some (.int .i64 n1) := d6.cell 1; have q62 : w6.cell? ⟨w.heap.size, 2, none⟩ = some (.int .i64 n2) := d6.cell 2; have b6 : Below w.heap.size w w6 := below_tr b5 c6)
      | (go_at_call 35; refine (H7.out _ b6).mono ?_; rintro e w7 ⟨rfl, c7⟩; obtain ⟨hc7, hf7⟩ := bcell c7; have y7 : w.heap.size < w7.heap.size := (by have := c7.size; omega); have d7 : Blk w7 w.heap.size 40 #[.int .i64 n0, .int .i64 n1, .int .i64 n2] := d6.below c7 (by first | omega | (simp; omega) | simp); have q70 : w7.cell? ⟨w.heap.size, 0, none⟩ = some (.int .i64 n0) := d7.cell 0; have q71 : w7.cell? ⟨w.heap.size, 1, none⟩ = some (.int .i64 n1) := d7.cell 1; have q72 : w7.cell? ⟨w.heap.size, 2, none⟩ = some (.int .i64 n2) := d7.cell 2; have b7 : Below w.heap.size w w7 := below_tr b6 c7)
      | (go_at_call 36; refine (H8.out _ b7).mono ?_; rintro e w8 ⟨rfl, c8⟩; have d8 : Blk w8 w.heap.size 40 #[.int .i64 n0, .int .i64 n1, .int .i64 n2] := d7.below c8 (by first | omega | (simp; omega) | simp); have q80 : w8.cell? ⟨w.heap.size, 0, none⟩ = some (.int .i64 n0) := d8.cell 0; have q81 : w8.cell? ⟨w.heap.size, 1, none⟩ = some (.int .i64 n1) := d8.cell 1; have q82 : w8.cell? ⟨w.heap.size, 2, none⟩ = some (.int .i64 n2) := d8.cell 2; have b8 : Below w.heap.size w w8 := below_tr b7 c8)
      | (go_at_call 14; refine (s_awake _).mono ?_; rintro e w9 ⟨rfl, c9⟩))
    go_ret
    exact ⟨rfl, below_tr b8 c9⟩
  · go_enter Try.func6, Try.ntmps6
    go_wp2_with (go_at_call 14; refine (s_awake _).mono ?_; rintro e w1 ⟨rfl, hb⟩)
    go_ret
    exact ⟨rfl, below_tr (below_alloc _ _) hb⟩
end Go.Proofs.Ythoemokkfijfeaa
