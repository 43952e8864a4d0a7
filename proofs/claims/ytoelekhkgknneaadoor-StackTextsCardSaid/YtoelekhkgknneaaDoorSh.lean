/- Stack: the arm of a bed. -/
import Derived.Test.YtoelekhkgknneaaDoorSg
namespace Go.Proofs.YtoelekhkgknneaaDoor
open Go.RowKit

/-- the course at a bed; a course of zeros beyond the end -/
def bedC (l : List Course) (bed : Int) : Course := l[bed.toNat]?.getD ⟨0, 0, 0, 0, 0, 0⟩
def armER (l : List Course) (bed p side : Int) : Int := armE (bedC l bed) (l.drop bed.toNat) p side
def armNR (l : List Course) (bed p side : Int) : Int := armN (bedC l bed) (l.drop bed.toNat) p side
def armW (l : List Course) (bed : Int) : Int := wts (l.drop bed.toNat) * 9810000
def armR (l : List Course) (bed p side : Int) : (Int × Int) × (Int × Int) × Int :=
  if windyE l bed p side = 0 then
    ((gN (armER l bed p side) (armW l bed), gD (armER l bed p side) (armW l bed)), (gN (armNR l bed p side) (armW l bed), gD (armNR l bed p side) (armW l bed)), 0)
  else ((0, 0), (0, 0), windyE l bed p side)
theorem arm_fits {x : Course} {s : List Course} {p side : Int} (hb : AB x s p) (h0 : 0 ≤ side) (h3 : side ≤ 3) : Fits (armE x s p side) ∧ Fits (armN x s p side) ∧ Fits (wts s * 9810000) := by
  obtain ⟨b1, b2, b3, b4, b5, b6, b7, b8, b9, b10, b11, b12, b13, b14⟩ := hb
  have e0 : -1 * p * push s = -(p * push s) := by rw [Int.neg_mul, Int.neg_mul, Int.one_mul]
  have e1 : 1 * p * push s = p * push s := by rw [Int.one_mul]
  have e2 : 0 * p * push s = 0 := by simp
  unfold armE armN mvE mvN Fits
  rcases (by omega : side = 0 ∨ side = 1 ∨ side = 2 ∨ side = 3) with rfl | rfl | rfl | rfl
  all_goals simp only [Int.reduceEq, if_true, if_false, e0, e1, e2]
  all_goals exact ⟨⟨by omega, by omega⟩, ⟨by omega, by omega⟩, ⟨by omega, by omega⟩⟩
theorem bed_at {l : List Course} {n : Nat} {x : Course} (h : l[n]? = some x) : bedC l (n : Int) = x := by simp [bedC, h]

set_option maxHeartbeats 2000000 in
set_option maxRecDepth 20000 in
theorem s_arm (A : Option Addr) (l : List Course) (c : Nat) (bed p side : Int) (w : World) (hl : l.length ≤ 100000) (hR : Rd Course.cs 6 w A l) :
    Calls Tryd.prog 57 #[.slice A l.length c, .int .i64 bed, .int .i64 p, .int .i64 side] w fun e w' => e = .returned (.tuple #[rat (armR l bed p side).1, rat (armR l bed p side).2.1, .int .i64 (armR l bed p side).2.2]) ∧ Below w.heap.size w w' := by
  have HC := Lib.hid (fun W (h : Below w.heap.size w W) => s_windy A l c bed p side W hl (hR.on h))
  by_cases h0 : windyE l bed p side = 0
  · obtain ⟨n, rfl, hn, hv, hp0, hp1, hs0, hs1⟩ := windy_zero h0
    rw [h0] at HC
    have H0 := Lib.hid h0
    have HV := Lib.hid hv
    clear h0 hv
    go_enter Tryd.func57, Tryd.ntmps57
    go_wp2_with (first
      | (go_at_call 94; refine (HC.out _ (below_tr (below_alloc _ _) (below_alloc _ _))).mono ?_; rintro e w1 ⟨rfl, hb⟩; obtain ⟨hc, hf⟩ := bcell hb)
      | (go_at_call 95; refine (s_at A l c n _ HV.out hn (hR.on (below_tr (below_tr (below_alloc _ _) (below_alloc _ _)) hb))).mono ?_; rintro e w2 ⟨rfl, hb2⟩; obtain ⟨hc2, hf2⟩ := bcell hb2))
    have hB2 := below_tr (below_tr (below_tr (below_alloc w (.cells #[.int .i64 0, .int .i64 0] 93)) (below_alloc _ (.cells #[.int .i64 0, .int .i64 0] 93))) hb) hb2
    obtain ⟨x, ab, off, hx, rfl, hab, k0, k1, k2, k3, k4, k5⟩ := rdC (hR.on hB2) hn
    obtain ⟨hall, hl1, hl2⟩ := valid_all HV.out
    have hcb : CB x := cb_of (List.all_eq_true.1 hall x (List.mem_of_getElem? hx))
    have hAB := ab_of hcb (all_drop hall n) (by simp; omega) hp0 hp1
    have HAB := Lib.hid hAB
    obtain ⟨f1, f2, f3⟩ := arm_fits hAB hs0 hs1
    have HX := Lib.hid hx
    clear hx hall
    have hn0 : (0 : Int) ≤ (n : Int) := Int.natCast_nonneg _
    have hn1 : (n : Int) < (l.length : Int) := by omega
    go_region_held3 (fun w' => (w'.cell? ⟨ab, off + n * 6, none⟩ = some (.int .i64 x.h) ∧ w'.cell? ⟨ab, off + n * 6 + 1, none⟩ = some (.int .i64 x.o) ∧ w'.cell? ⟨ab, off + n * 6 + 2, none⟩ = some (.int .i64 x.i) ∧
        w'.cell? ⟨ab, off + n * 6 + 3, none⟩ = some (.int .i64 x.wt) ∧ w'.cell? ⟨ab, off + n * 6 + 4, none⟩ = some (.int .i64 x.e) ∧ w'.cell? ⟨ab, off + n * 6 + 5, none⟩ = some (.int .i64 x.n)) ∧
        w'.cell? ⟨w2.heap.size, 0, none⟩ = some (.int .i64 (wts (l.drop n))) ∧ w'.cell? ⟨w2.heap.size, 1, none⟩ = some (.int .i64 (es (l.drop n))) ∧ w'.cell? ⟨w2.heap.size, 2, none⟩ = some (.int .i64 (ns (l.drop n))) ∧ w'.cell? ⟨w2.heap.size, 3, none⟩ = some (.int .i64 (hs (l.drop n))) ∧ w'.cell? ⟨w2.heap.size, 4, none⟩ = some (.int .i64 (push (l.drop n))))
      (first | (go_keep; done) | (refine ⟨⟨?_, ?_, ?_, ?_, ?_, ?_⟩, ?_, ?_, ?_, ?_, ?_⟩ <;> (first | (go_keep; done) | (rw [hc3 _ _ (by simp; omega)]; first | assumption | go_simp))))
      (first
        | (go_at_call 96; refine (s_arms x (l.drop n) p side _ hp0 hp1 hs0 hs1 HAB.out).mono ?_; rintro e w3 ⟨rfl, hb3⟩; obtain ⟨hc3, hf3⟩ := bcell hb3))
    rename_i hH
    have m0 := hH.2.1
    clear hH
    go_wp2
    have z1 := hb.size
    have z2 := hb2.size
    have z3 := hb3.size
    rw [World.size_alloc, World.size_alloc] at z1
    simp only [World.size_drew, World.size_alloc] at z3
    have y1 : w.heap.size + 1 < w3.heap.size := by omega
    have y2 : w.heap.size < w3.heap.size := by omega
    have y3 : w2.heap.size < w3.heap.size := by omega
    have n1 : w.heap.size ≠ w2.heap.size := by omega
    have n2 : w.heap.size + 1 ≠ w2.heap.size := by omega
    have hB3 := below_tr (below_tr hB2 (below_alloc w2 (.cells #[.int .i64 (wts (l.drop n)), .int .i64 (es (l.drop n)), .int .i64 (ns (l.drop n)), .int .i64 (hs (l.drop n)), .int .i64 (push (l.drop n))] 133))).drew hb3
    have B1 := (((Blk.new w 93 #[.int .i64 0, .int .i64 0]).alloc (.cells #[.int .i64 0, .int .i64 0] 93)).below hb (by simp <;> omega)).below hb2 (by omega)
    have B2 := ((Blk.new (w.alloc (.cells #[.int .i64 0, .int .i64 0] 93)) 93 #[.int .i64 0, .int .i64 0]).below hb (by simp <;> omega)).below hb2 (by rw [World.size_alloc]; omega)
    rw [World.size_alloc] at B2
    have D1 := Lib.hid ((B1.alloc (.cells #[.int .i64 (wts (l.drop n)), .int .i64 (es (l.drop n)), .int .i64 (ns (l.drop n)), .int .i64 (hs (l.drop n)), .int .i64 (push (l.drop n))] 133)).drew.below hb3 (by simp; omega))
    have D2 := Lib.hid ((B2.alloc (.cells #[.int .i64 (wts (l.drop n)), .int .i64 (es (l.drop n)), .int .i64 (ns (l.drop n)), .int .i64 (hs (l.drop n)), .int .i64 (push (l.drop n))] 133)).drew.below hb3 (by simp; omega))
    have t0 := D1.out.cell 0
    have t1 := D1.out.cell 1
    have t2 := D2.out.cell 0
    have t3 := D2.out.cell 1
    have u0 := D1.out.frozen 0
    have u1 := D1.out.frozen 1
    have u2 := D2.out.frozen 0
    have u3 := D2.out.frozen 1
    simp only [List.getElem?_toArray, List.getElem?_cons_zero, List.getElem?_cons_succ] at t0 t1 t2 t3
    have hw : 0 < wts (l.drop n) * 9810000 := by have := (drop_fits HV.out hn).2.2.2; omega
    obtain ⟨_, _, _, _, _, _, _, _, _, _, _, _, w0, w1⟩ := HAB.out
    have hwr : IntKind.i64.wrap (wts (l.drop n) * 9810000) = wts (l.drop n) * 9810000 := fits_wrap f3
    clear hc hf hc2 hf2 hc3 hf3 B1 B2 k0 k1 k2 k3 k4 k5
    go_region_held3 (fun w' => w'.cell? ⟨w2.heap.size, 0, none⟩ = some (.int .i64 (wts (l.drop n))))
      (first | (go_keep; done) | (rw [World.cell?_setCell_far _ _ _ _ n1, World.cell?_setCell_far _ _ _ _ n1]; assumption) | (rw [World.cell?_setCell_far _ _ _ _ n2, World.cell?_setCell_far _ _ _ _ n2]; assumption) | (rw [hc3 _ _ (by simp; omega)]; first | assumption | go_simp))
      (first
        | (go_at_call 97; refine (s_ratio _ _ _ (by assumption) (by assumption) (by assumption)).mono ?_; rintro e w4 ⟨rfl, hb4⟩; obtain ⟨hc3, hf3⟩ := bcell hb4; have y3 : w.heap.size + 1 < w4.heap.size := (by have := hb4.size; (try simp at this); omega); have y4 : w2.heap.size < w4.heap.size := (by have := hb4.size; (try simp at this); omega); have y5 : w.heap.size < w4.heap.size := (by omega); have q0 : w4.cell? ⟨w.heap.size, 0, none⟩ = some (.int .i64 0) := (hc3 _ _ (by first | assumption | (simp; omega))).trans (by assumption); have q1 : w4.cell? ⟨w.heap.size, 1, none⟩ = some (.int .i64 0) := (hc3 _ _ (by first | assumption | (simp; omega))).trans (by assumption); have q2 : w4.cell? ⟨w.heap.size + 1, 0, none⟩ = some (.int .i64 0) := (hc3 _ _ (by first | assumption | (simp; omega))).trans (by assumption); have q3 : w4.cell? ⟨w.heap.size + 1, 1, none⟩ = some (.int .i64 0) := (hc3 _ _ (by first | assumption | (simp; omega))).trans (by assumption); have r0 : w4.frozen? ⟨w.heap.size, 0, none⟩ = false := (hf3 _ _ (by first | assumption | (simp; omega))).trans (by assumption); have r1 : w4.frozen? ⟨w.heap.size, 1, none⟩ = false := (hf3 _ _ (by first | assumption | (simp; omega))).trans (by assumption); have r2 : w4.frozen? ⟨w.heap.size + 1, 0, none⟩ = false := (hf3 _ _ (by first | assumption | (simp; omega))).trans (by assumption); have r3 : w4.frozen? ⟨w.heap.size + 1, 1, none⟩ = false := (hf3 _ _ (by first | assumption | (simp; omega))).trans (by assumption)))
    go_wp2
    have C1 := ((D1.out.drew.below (by assumption) (by first | assumption | (simp; omega))).below hb4 (by assumption))
    have C2 := ((D2.out.drew.below (by assumption) (by first | assumption | (simp; omega))).below hb4 (by assumption))
    refine bodyPost_ret (res_cct rfl rfl (load_ratio (((((C1.set_ 0 _).set_ 1 _).far (by simp) _).far (by simp) _))) rfl (load_ratio (((((C2.far (by simp) _).far (by simp) _).set_ 0 _).set_ 1 _)))) rfl ⟨by simp [armR, H0.out, rat, armER, armNR, armW, bed_at HX.out], ?_⟩
    exact ((((below_tr (below_tr hB3.drew (by assumption)) hb4).setCell (by simp) _).setCell (by simp) _).setCell (by simp) _).setCell (by simp) _
  · have H0 := Lib.hid h0
    have t1 : (windyE l bed p side != 0) = true := by simpa using h0
    clear h0
    go_enter Tryd.func57, Tryd.ntmps57
    go_wp2_with (go_at_call 94; refine (HC.out _ (below_tr (below_alloc _ _) (below_alloc _ _))).mono ?_; rintro e w1 ⟨rfl, hb⟩; obtain ⟨hc, hf⟩ := bcell hb)
    have C1 := ((Blk.new w 93 #[.int .i64 0, .int .i64 0]).alloc (.cells #[.int .i64 0, .int .i64 0] 93)).below hb (by simp <;> omega)
    have C2 := ((Blk.new (w.alloc (.cells #[.int .i64 0, .int .i64 0] 93)) 93 #[.int .i64 0, .int .i64 0]).below hb (by simp <;> omega))
    rw [World.size_alloc] at C2
    refine bodyPost_ret (res_cct rfl rfl (load_ratio (((((C1.set_ 0 _).set_ 1 _).far (by simp) _).far (by simp) _))) rfl (load_ratio (((((C2.far (by simp) _).far (by simp) _).set_ 0 _).set_ 1 _)))) rfl ⟨by simp [armR, H0.out, rat], ?_⟩
    exact ((((below_tr (below_tr (below_alloc _ _) (below_alloc _ _)) hb).setCell (by simp) _).setCell (by simp) _).setCell (by simp) _).setCell (by simp) _
end Go.Proofs.YtoelekhkgknneaaDoor
