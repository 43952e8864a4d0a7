/- Fell: in a zone, by the program. -/
import Derived.Test.YthklgkgincebhaaGreatDoorFb
import Derived.Test.YthklgkgincebhaaGreatDoorFc
set_option linter.unusedSimpArgs false
set_option linter.unusedVariables false
namespace Go.Proofs.YthklgkgincebhaaGreatDoor
open Go.RowKit

def inZ (z : Zn) (s : Sp) : Bool := okz z s && decide (1000 * bez z s ≤ z.w * alz z s)
theorem ahead_bd {z : Zn} {s : Sp} (hz : ZB z) (hs : Bd 10000 s) : -800000000 ≤ alz z s ∧ alz z s ≤ 800000000 ∧ 0 ≤ bez z s ∧ bez z s ≤ 800000000 := by
  have bv : Bd 20000 (vec z.t z.f) := vec_bd (m := 10000) (n := 10000) hz.t hz.f
  have bp : Bd 20000 (vec s z.f) := vec_bd (m := 10000) (n := 10000) hs hz.f
  have ⟨d1, d2, d3, d4⟩ := dot_bd (n := 800000000) bv bp rfl
  unfold alz bez
  omega
set_option maxHeartbeats 2000000 in
theorem p_in (z : Zn) (s : Sp) (w : World) (hz : ZB z) (w0 : 0 ≤ z.w) (w1 : z.w ≤ 1000) (hs : Bd 10000 s) :
    Calls Tryz.prog 32 #[znV z, spV s] w fun e w' => e = .returned (.bool (inZ z s)) ∧ Below w.heap.size w w' := by
  have HA := Lib.hid (fun W => p_ahead z s W hz hs)
  have ⟨a1, a2, b1, b2⟩ := ahead_bd hz hs
  have ⟨m1, m2⟩ := mul_bd (m := 1000) (n := 800000000) (a := z.w) (b := alz z s) (by omega) w1 a1 a2
  have HI := Lib.hid (show inZ z s = (okz z s && decide (1000 * bez z s ≤ z.w * alz z s)) from rfl)
  generalize alz z s = AL at *
  generalize bez z s = BE at *
  generalize okz z s = OK at *
  have e1 : z.w * AL ≤ 800000000000 := by omega
  have e2 : -800000000000 ≤ z.w * AL := by omega
  have hw1 : IntKind.i64.wrap (1000 * BE) = 1000 * BE := fits_wrap (by omega)
  have hw2 : IntKind.i64.wrap (z.w * AL) = z.w * AL := fits_wrap (by omega)
  clear m1 m2 hz hs
  have x0 := (Blk.new w 40 (znC z)).alloc (.cells (spA s) 32)
  have B0 := bl_alloc (bl_alloc (below_refl w) (.cells (znC z) 40)) (.cells (spA s) 32)
  cases OK
  · have HE := Lib.hid (show inZ z s = false by rw [HI.out]; rfl)
    go_enter Tryz.func32, Tryz.ntmps32
    go_wp2_with fail
    refine (HA.out _).mono ?_
    rintro e w1 ⟨rfl, hb1⟩
    go_wp2
    go_ret
    exact ⟨ret_bool HE.out.symm, below_tr B0 hb1⟩
  · have HE := Lib.hid (show inZ z s = decide (1000 * BE ≤ z.w * AL) by rw [HI.out]; rfl)
    go_enter Tryz.func32, Tryz.ntmps32
    go_wp2_with fail
    refine (HA.out _).mono ?_
    rintro e w1 ⟨rfl, hb1⟩
    have x1 := x0.below hb1 x0.lt
    have p5 := x1.cell 5
    simp only [List.getElem?_toArray, List.getElem?_cons_zero, List.getElem?_cons_succ] at p5
    go_wp2
    go_ret
    exact ⟨ret_bool HE.out.symm, below_tr B0 hb1⟩
theorem vzn_bd {z : Zn} (h : vZn z = true) : ZB z := by
  obtain ⟨h1, h2, _, h3, h4, _⟩ := vzn h
  exact ⟨isS_bd h1, isS_bd h2, by omega, h4⟩
def inE (z : Zn) (s : Sp) : Int := if vZn z = true then (if isS s = true then 0 else 7) else 1
def inD (z : Zn) (s : Sp) : Bool := if inE z s = 0 then inZ z s else false
theorem inE_z {z : Zn} {s : Sp} (h : inE z s = 0) : vZn z = true ∧ isS s = true := by
  unfold inE at h
  split at h
  · split at h
    · exact ⟨by assumption, by assumption⟩
    · omega
  · omega
set_option maxHeartbeats 2000000 in
theorem p_In (z : Zn) (s : Sp) (w : World) :
    Calls Tryz.prog 13 #[znV z, spV s] w fun e w' => e = .returned (.tuple #[.bool (inD z s), .int .i64 (inE z s)]) ∧ Below w.heap.size w w' := by
  have HV := Lib.hid (fun W => p_ValidZone z W)
  have x0 := (Blk.new w 40 (znC z)).alloc (.cells (spA s) 32)
  have x1 := Blk.new (w.alloc (.cells (znC z) 40)) 32 (spA s)
  rw [World.size_alloc] at x1
  have B0 := bl_alloc (bl_alloc (below_refl w) (.cells (znC z) 40)) (.cells (spA s) 32)
  have HS := Lib.hid (fun b (h : isS s = b) W => p_isSpotV h W)
  cases hv : vZn z
  · have HE := Lib.hid (show inE z s = 1 by unfold inE; rw [hv]; rfl)
    have HD := Lib.hid (show inD z s = false by unfold inD; rw [HE.out]; rfl)
    rw [hv] at HV
    clear hv
    go_enter Tryz.func13, Tryz.ntmps13
    go_wp2_with fail
    refine (HV.out _).mono ?_
    rintro e w1 ⟨rfl, hb1⟩
    go_wp2
    go_ret2
    exact ⟨by rw [HE.out, HD.out]; rfl, below_tr B0 hb1⟩
  · cases hs : isS s
    · have HE := Lib.hid (show inE z s = 7 by unfold inE; rw [hv, hs]; rfl)
      have HD := Lib.hid (show inD z s = false by unfold inD; rw [HE.out]; rfl)
      have HS' := Lib.hid (HS.out _ hs)
      rw [hv] at HV
      clear hv hs HS
      go_enter Tryz.func13, Tryz.ntmps13
      go_wp2_with fail
      refine (HV.out _).mono ?_
      rintro e w1 ⟨rfl, hb1⟩
      have y1 := x1.below hb1 x1.lt
      have p0 := y1.cell 0
      have p1 := y1.cell 1
      simp only [List.getElem?_toArray, List.getElem?_cons_zero, List.getElem?_cons_succ] at p0 p1
      go_wp2_with fail
      refine (HS'.out _).mono ?_
      rintro e w2 ⟨rfl, hb2⟩
      go_wp2
      go_ret2
      exact ⟨by rw [HE.out, HD.out]; rfl, below_tr (below_tr B0 hb1) hb2⟩
    · have HE := Lib.hid (show inE z s = 0 by unfold inE; rw [hv, hs]; rfl)
      have HD := Lib.hid (show inD z s = inZ z s by unfold inD; rw [HE.out]; rfl)
      have HS' := Lib.hid (HS.out _ hs)
      have hvv := vzn hv
      have HI := Lib.hid (fun W => p_in z s W (vzn_bd hv) hvv.2.2.2.2.2.1 hvv.2.2.2.2.2.2 (isS_bd hs))
      rw [hv] at HV
      clear hv hs HS hvv
      go_enter Tryz.func13, Tryz.ntmps13
      go_wp2_with fail
      refine (HV.out _).mono ?_
      rintro e w1 ⟨rfl, hb1⟩
      have y0 := x0.below hb1 x0.lt
      have y1 := x1.below hb1 x1.lt
      have p0 := y1.cell 0
      have p1 := y1.cell 1
      simp only [List.getElem?_toArray, List.getElem?_cons_zero, List.getElem?_cons_succ] at p0 p1
      go_wp2_with fail
      refine (HS'.out _).mono ?_
      rintro e w2 ⟨rfl, hb2⟩
      have u0 := y0.below hb2 y0.lt
      have u1 := y1.below hb2 y1.lt
      have q0 := u0.cell 0
      have q1 := u0.cell 1
      have q2 := u0.cell 2
      have q3 := u0.cell 3
      have q4 := u0.cell 4
      have q5 := u0.cell 5
      have r0 := u1.cell 0
      have r1 := u1.cell 1
      simp only [List.getElem?_toArray, List.getElem?_cons_zero, List.getElem?_cons_succ] at q0 q1 q2 q3 q4 q5 r0 r1
      go_wp2_with fail
      refine (HI.out _).mono ?_
      rintro e w3 ⟨rfl, hb3⟩
      go_wp2
      go_ret2
      exact ⟨by rw [HE.out, HD.out]; rfl, below_tr (below_tr (below_tr B0 hb1) hb2) hb3⟩
end Go.Proofs.YthklgkgincebhaaGreatDoor
