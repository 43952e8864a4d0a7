/- The parts of the proof, part 28. -/
import Derived.Test.YtmjgljdmjpabdaaGreatDoorP0
import Derived.Test.YtmjgljdmjpabdaaGreatDoorP19
import Derived.Test.YtmjgljdmjpabdaaGreatDoorP27
import Derived.Deep.DeepCutAuto
set_option linter.unusedSimpArgs false
set_option linter.unusedVariables false
namespace Go.Proofs.YtmjgljdmjpabdaaGreatDoor.Fi
open Go.RowKit Go.Lib Tx
theorem wnd_zero {l : List S.Course} {p s : Int} (h : S.validC l = true) (p0 : 0 ≤ p) (p1 : p ≤ 10000) (s0 : 0 ≤ s) (s1 : s ≤ 3) : S.windyE l 0 p s = 0 := by
  have hl := h
  unfold S.validC at hl
  have h1 := (Bool.and_eq_true_iff.1 hl).1
  have e0 : S.wn 0 0 ((l.length : Int) - 1) = true := by unfold S.wn at h1 ⊢; simp at h1 ⊢; omega
  have e1 : S.wn p 0 10000 = true := by unfold S.wn; simp; omega
  have e2 : S.wn s 0 3 = true := by unfold S.wn; simp; omega
  unfold S.windyE
  rw [if_pos h, e0, e1, e2]; rfl
theorem gst_bd {x : St} (h : Inv x) : 0 ≤ max 0 (x.gusts.getLastD 0) ∧ max 0 (x.gusts.getLastD 0) ≤ 200 := by
  have : -1 ≤ x.gusts.getLastD 0 ∧ x.gusts.getLastD 0 ≤ 200 := by
    cases hg : x.gusts.getLast? with
    | none => rw [List.getLastD_eq_getLast?, hg]; simp
    | some g => rw [List.getLastD_eq_getLast?, hg]; exact h.gb g (List.mem_of_getLast? hg)
  omega
theorem sd_all {f : Nat → Bool} {k : Nat} (h : ∀ j, j < k → f j = true) : (List.range k).all f = true := List.all_eq_true.2 fun j hj => h j (by simpa using hj)
theorem sd_not {f : Nat → Bool} {k n : Nat} (hk : k < n) (h : f k = false) : (List.range n).all f = false := by
  rw [List.all_eq_false]; exact ⟨k, by simpa using hk, by rw [h]; simp⟩
set_option maxHeartbeats 4000000 in
set_option maxRecDepth 20000 in
theorem d_cut (i : Int) (T : Nat → Prop) (nb sb rb : Nat) (L : LS) (w : World) (hN : Nxt T nb sb rb w L) (hI : Inv L.val) :
    Calls Tryz.prog 293 #[.agg #[.int .i64 i], .pointer (some ⟨nb, 0, none⟩)] w (DeedP (.cut i) T nb sb rb L w) := by
  have x0 := Blk.new w 184 #[.int .i64 i]
  have B0 := bl_alloc (below_refl w) (.cells #[.int .i64 i] 184)
  have b0 := x0.cell 0
  simp only [List.getElem?_toArray, List.getElem?_cons_zero, List.getElem?_cons_succ] at b0
  have hN0 := hN.on B0
  have hsl : L.sites.l.length ≤ 8 := hI.slen
  have hsl0 : L.sites.l.length ≤ 1000 := by omega
  cases hth : thB L.val i
  · have HX := Lib.hid (show deed (.cut i) L.val = .error 5 by unfold deed; dsimp only; rw [if_pos hth])
    have HAT := Lib.hid (f_at_no nb L i _ hN0.cel hsl0 hth)
    go_enter Tryz.func293, Tryz.ntmps293
    go_wp2_with (go_at_call 239; ((with_reducible refine (HAT.out).mono ?_); rintro e w' ⟨rfl, rfl⟩))
    exact ⟨rfl, deed_err HX.out B0⟩
  obtain ⟨i0, i1⟩ := thB_iff.1 hth
  obtain ⟨k, rfl⟩ := Int.eq_ofNat_of_zero_le i0
  have hk : k < L.sites.l.length := by omega
  obtain ⟨s, cur, hs, ha, hbs, hir, c0, c1, c2⟩ := hN0.site hk
  have hfz := hbs.frozen
  have HAT := Lib.hid (f_at nb L k _ sb 0 hN0.cel hsl0 hk ha)
  have HSA := Lib.hid (siteA_of hs)
  have hsm := hI.men hs
  have lsb := hbs.lt
  have lnb := hN0.lt
  have lw := x0.lt
  obtain ⟨y, jb, jo, hy, hja, ljb, cj, hJ, hJv⟩ := hN0.stks hI hk
  have hJl : y.l.length ≤ 100000 := by have := (S.valid_all hJv).2.2; omega
  have HJA := Lib.hid (stkA_of hy)
  have hkj : (k : Int) < (L.x.stk.l.length : Int) := by rw [hI.lens.1]; omega
  obtain ⟨g0, g1⟩ := gst_bd hI
  obtain ⟨G, hG⟩ : ∃ G, G = max 0 (L.val.gusts.getLastD 0) := ⟨_, rfl⟩
  obtain ⟨P2, hP2⟩ : ∃ P, P = G * G := ⟨_, rfl⟩
  rw [← hG] at g0 g1
  have p0 : 0 ≤ P2 := by rw [hP2]; exact Int.mul_nonneg g0 g0
  have p1 : P2 ≤ 200 * 200 := by rw [hP2]; exact Int.mul_le_mul g1 g1 g0 (by omega)
  obtain ⟨Q, hQ⟩ : ∃ Q, Q = P2 / 20 := ⟨_, rfl⟩
  obtain ⟨PR, hPR⟩ : ∃ P, P = min Q 10000 := ⟨_, rfl⟩
  have HGS := Lib.hid (show gstP L.val = PR by unfold gstP; rw [← hG, ← hP2, ← hQ, ← hPR])
  have r0 : 0 ≤ PR := by omega
  have r1 : PR ≤ 10000 := by omega
  have hw1 : IntKind.i64.wrap (G * G) = P2 := by rw [← hP2]; exact fits_wrap ⟨by omega, by omega⟩
  have hw2 : P2.tdiv 20 = Q := by rw [hQ, Int.tdiv_eq_ediv_of_nonneg p0]
  have hw3 : IntKind.i64.wrap Q = Q := fits_wrap ⟨by omega, by omega⟩
  have HMN := Lib.hid hPR
  have HQ0 := Lib.hid (show G = 0 → P2 = 0 ∧ Q = 0 from fun h => by rw [h] at hP2; rw [hQ, hP2]; exact ⟨rfl, rfl⟩)
  have HX2 := Lib.hid (show deed (.cut (k : Int)) L.val = if (!s.fel && (decide (upN L.val = 0) && !rggB L.val (k : Int))) = false then .error 10 else if goB L.val L.val.gusts = false then .error 11
      else if ((List.range 4).all fun j => S.standsR y.l PR (j : Int)) = false then .error 11 else .ok (setS L.val (k : Int) { s.val with fel := true, dogs := [] }) by
    unfold deed; dsimp only; rw [if_neg (by rw [hth]; simp), HSA.out, HJA.out, HGS.out, wnd_zero hJv r0 r1 (by omega) (by omega)]; rfl)
  have hgl : L.gusts.l.length ≤ 2000 := hI.gl
  have hGL : 0 < L.gusts.l.length → ∃ x, L.gusts.l[L.gusts.l.length - 1]? = some x ∧ G = max 0 x := fun h => by
    obtain ⟨x, hx⟩ := get_lt (l := L.gusts.l) (k := L.gusts.l.length - 1) (by omega)
    refine ⟨x, hx, ?_⟩
    rw [hG]
    show max 0 (L.gusts.l.getLastD 0) = _
    rw [List.getLastD_eq_getLast?, List.getLast?_eq_getElem?, hx]; rfl
  have hG0 : ¬ 0 < L.gusts.l.length → G = 0 := fun h => by
    rw [hG]
    show max 0 (L.gusts.l.getLastD 0) = _
    rw [List.eq_nil_of_length_eq_zero (by omega : L.gusts.l.length = 0)]; rfl
  have c0x : (w.alloc (.cells #[.int .i64 (k : Int)] 184)).cell? ⟨sb, k * 3, none⟩ = some (.slice s.dogs.a s.dogs.l.length s.dogs.c) := c0
  have c18 : (w.alloc (.cells #[.int .i64 (k : Int)] 184)).cell? ⟨nb, 18, none⟩ = some (.slice L.gusts.a L.gusts.l.length L.gusts.c) := hN0.cel 18 _ rfl
  have c19 : (w.alloc (.cells #[.int .i64 (k : Int)] 184)).cell? ⟨nb, 19, none⟩ = some (.slice L.rigs.a L.rigs.l.length L.rigs.c) := hN0.cel 19 _ rfl
  have cja : (w.alloc (.cells #[.int .i64 (k : Int)] 184)).cell? ⟨nb, 0, none⟩ = some (.slice (some ⟨jb, jo, none⟩) L.x.stk.l.length L.x.stk.c) := by rw [← hja]; exact hN0.cel 0 _ rfl
  have HGR := Lib.hid hN0.gusts.rd
  clear c0 hG hP2 hQ hPR
  go_enter Tryz.func293, Tryz.ntmps293
  go_upto_region 2 with (go_at_call 239; ((with_reducible refine (HAT.out).mono ?_); rintro e w' ⟨rfl, rfl⟩))
  generalize (w.alloc (.cells #[.int .i64 (k : Int)] 184)) = w1 at *
  have HRG := Lib.hid ((hN0).rigged hI (k : Int) w.heap.size b0)
  have HALr := Lib.hid (fun w' (h : Below w1.heap.size w1 w') => (hN0.on h).aloft hI)
  have HGV := Lib.hid (fun w' (h : Below w1.heap.size w1 w') v hv => (hN0.on h).goes hI (v := v) hv)
  have HST := Lib.hid (fun w' (h : Below w1.heap.size w1 w') sd => S.s_stands y.a y.l y.c PR sd w' hJl (hJ.on h).rd)
  have HWZ := Lib.hid (fun (sd : Int) (h0 : 0 ≤ sd) (h1 : sd ≤ 3) => wnd_zero hJv r0 r1 h0 h1)
  have HN0 := Lib.hid hN0
  have HGL := Lib.hid hGL
  have HG0 := Lib.hid hG0
  clear hI hN0 hGL hG0 hJ
  go_upto_region 3 with (go_at_call 241; ((with_reducible refine HRG.out.mono ?_); rintro e w2 ⟨rfl, hb2⟩))
  obtain ⟨hc2, hf2⟩ := bcell hb2
  have lz2 := hb2.size
  have HN2 := Lib.hid (HN0.out.on hb2)
  have HGR2 := Lib.hid (HGR.out.on hb2)
  have B2 : Below w.heap.size w w2 := below_tr B0 hb2
  replace b0 := (hc2 w.heap.size 0 lw).trans b0
  replace c1 := (hc2 sb (k * 3 + 1) lsb).trans c1
  replace c0x := (hc2 sb (k * 3) lsb).trans c0x
  replace c18 := (hc2 nb 18 lnb).trans c18
  replace cja := (hc2 nb 0 lnb).trans cja
  replace cj := (hc2 jb (jo + k) ljb).trans cj
  have HAL := Lib.hid (fun w' (h : Below w2.heap.size w2 w') => HALr.out w' (below_tr hb2 h))
  have HGO2 := Lib.hid (fun w' (h : Below w2.heap.size w2 w') v hv => HGV.out w' (below_tr hb2 h) v hv)
  have HSD := Lib.hid (fun w' (h : Below w2.heap.size w2 w') sd => HST.out w' (below_tr hb2 h) sd)
  clear hc2 hf2 c19 c2 HRG HALr HGV HST HGR
  generalize hRB : rggB L.val (k : Int) = RB at *
  generalize hU : upN L.val = U at *
  have HRB := Lib.hid hRB
  clear hRB
  have l2 : ∀ z, z < w1.heap.size → z < w2.heap.size := fun z hz => by omega
  have lw2 := l2 _ lw
  have lsb2 := l2 _ lsb
  have lnb2 := l2 _ lnb
  have ljb2 := l2 _ ljb
  cases hfel : s.fel
  rotate_left
  · have HX := Lib.hid (show deed (.cut (k : Int)) L.val = .error 10 by rw [HX2.out, hfel]; rfl)
    rw [hfel] at c1
    go_wp2_with (go_at_call 131; ((with_reducible refine (f_must_no _ _).mono ?_); rintro e w' ⟨rfl, rfl⟩))
    exact ⟨rfl, deed_err HX.out B2⟩
  rw [hfel] at c1
  by_cases hz : U = 0
  rotate_left
  · have g3 : (U == 0) = false := by simpa using hz
    have HX := Lib.hid (show deed (.cut (k : Int)) L.val = .error 10 by rw [HX2.out, decide_eq_false hz]; simp)
    clear hz hU
    go_wp2_with (first | (go_at_call 236; ((with_reducible refine (HAL.out _ (by (repeat' (first | assumption | exact below_refl _ | refine bl_alloc ?_ _ | refine Below.setCell ?_ ?_ _ | refine below_draw ?_ | refine below_drewN ?_ _ | refine below_tr ?_ (by assumption))) <;> (first | omega | (simp; done) | (simp; omega)))).mono ?_); rintro e w3 ⟨rfl, hb3⟩; obtain ⟨hc3, hf3⟩ := bcell hb3; have hz3 := hb3.size; (try simp [sz_drew, sz_drewN] at hz3); (try simp only [sz_drew, sz_drewN] at hc3 hf3))) | (go_at_call 131; ((with_reducible refine (f_must_no _ _).mono ?_); rintro e w' ⟨rfl, rfl⟩)))
    exact ⟨rfl, deed_err HX.out (below_tr B2 (by (repeat' (first | assumption | exact below_refl _ | refine bl_alloc ?_ _ | refine Below.setCell ?_ ?_ _ | refine below_draw ?_ | refine below_drewN ?_ _ | refine below_tr ?_ (by assumption))) <;> (first | omega | (simp; done) | (simp; omega))))⟩
  have g3 : (U == 0) = true := by simpa using hz
  have hzd : decide (U = 0) = true := decide_eq_true hz
  clear hz hU
  cases RB
  rotate_left
  · have HX := Lib.hid (show deed (.cut (k : Int)) L.val = .error 10 by rw [HX2.out]; simp)
    go_wp2_with (first | (go_at_call 236; ((with_reducible refine (HAL.out _ (by (repeat' (first | assumption | exact below_refl _ | refine bl_alloc ?_ _ | refine Below.setCell ?_ ?_ _ | refine below_draw ?_ | refine below_drewN ?_ _ | refine below_tr ?_ (by assumption))) <;> (first | omega | (simp; done) | (simp; omega)))).mono ?_); rintro e w3 ⟨rfl, hb3⟩; obtain ⟨hc3, hf3⟩ := bcell hb3; have hz3 := hb3.size; (try simp [sz_drew, sz_drewN] at hz3); (try simp only [sz_drew, sz_drewN] at hc3 hf3))) | (go_at_call 131; ((with_reducible refine (f_must_no _ _).mono ?_); rintro e w' ⟨rfl, rfl⟩)))
    exact ⟨rfl, deed_err HX.out (below_tr B2 (by (repeat' (first | assumption | exact below_refl _ | refine bl_alloc ?_ _ | refine Below.setCell ?_ ?_ _ | refine below_draw ?_ | refine below_drewN ?_ _ | refine below_tr ?_ (by assumption))) <;> (first | omega | (simp; done) | (simp; omega))))⟩
  cases hgo : goB L.val L.val.gusts
  · have HX := Lib.hid (show deed (.cut (k : Int)) L.val = .error 11 by rw [HX2.out, hfel, hzd, hgo]; rfl)
    have HGO := Lib.hid (fun w' (h : Below w2.heap.size w2 w') => HGO2.out w' h _ hgo)
    go_wp2_with (first | (go_at_call 236; ((with_reducible refine (HAL.out _ (by (repeat' (first | assumption | exact below_refl _ | refine bl_alloc ?_ _ | refine Below.setCell ?_ ?_ _ | refine below_draw ?_ | refine below_drewN ?_ _ | refine below_tr ?_ (by assumption))) <;> (first | omega | (simp; done) | (simp; omega)))).mono ?_); rintro e w3 ⟨rfl, hb3⟩; obtain ⟨hc3, hf3⟩ := bcell hb3; have hz3 := hb3.size; (try simp [sz_drew, sz_drewN] at hz3); (try simp only [sz_drew, sz_drewN] at hc3 hf3))) | (go_at_call 57; ((with_reducible refine (HGO.out _ (by (repeat' (first | assumption | exact below_refl _ | refine bl_alloc ?_ _ | refine Below.setCell ?_ ?_ _ | refine below_draw ?_ | refine below_drewN ?_ _ | refine below_tr ?_ (by assumption))) <;> (first | omega | (simp; done) | (simp; omega)))).mono ?_); rintro e w4 ⟨rfl, hb4⟩; obtain ⟨hc4, hf4⟩ := bcell hb4; have hz4 := hb4.size; (try simp [sz_drew, sz_drewN] at hz4); (try simp only [sz_drew, sz_drewN] at hc4 hf4))) | (go_at_call 131; first | ((with_reducible refine (f_must_ok _ _).mono ?_); rintro e w' ⟨rfl, rfl⟩) | ((with_reducible refine (f_must_no _ _).mono ?_); rintro e w' ⟨rfl, rfl⟩)))
    exact ⟨rfl, deed_err HX.out (below_tr B2 (by (repeat' (first | assumption | exact below_refl _ | refine bl_alloc ?_ _ | refine Below.setCell ?_ ?_ _ | refine below_draw ?_ | refine below_drewN ?_ _ | refine below_tr ?_ (by assumption))) <;> (first | omega | (simp; done) | (simp; omega))))⟩
  have HX3 := Lib.hid (show deed (.cut (k : Int)) L.val = if ((List.range 4).all fun j => S.standsR y.l PR (j : Int)) = false then .error 11 else .ok (setS L.val (k : Int) { s.val with fel := true, dogs := [] }) by rw [HX2.out, hfel, hzd, hgo]; rfl)
  have HGO := Lib.hid (fun w' (h : Below w2.heap.size w2 w') => HGO2.out w' h _ hgo)
  go_upto_region 5 with (first | (go_at_call 236; ((with_reducible refine (HAL.out _ (by (repeat' (first | assumption | exact below_refl _ | refine bl_alloc ?_ _ | refine Below.setCell ?_ ?_ _ | refine below_draw ?_ | refine below_drewN ?_ _ | refine below_tr ?_ (by assumption))) <;> (first | omega | (simp; done) | (simp; omega)))).mono ?_); rintro e w3 ⟨rfl, hb3⟩; obtain ⟨hc3, hf3⟩ := bcell hb3; have hz3 := hb3.size; (try simp [sz_drew, sz_drewN] at hz3); (try simp only [sz_drew, sz_drewN] at hc3 hf3))) | (go_at_call 57; ((with_reducible refine (HGO.out _ (by (repeat' (first | assumption | exact below_refl _ | refine bl_alloc ?_ _ | refine Below.setCell ?_ ?_ _ | refine below_draw ?_ | refine below_drewN ?_ _ | refine below_tr ?_ (by assumption))) <;> (first | omega | (simp; done) | (simp; omega)))).mono ?_); rintro e w4 ⟨rfl, hb4⟩; obtain ⟨hc4, hf4⟩ := bcell hb4; have hz4 := hb4.size; (try simp [sz_drew, sz_drewN] at hz4); (try simp only [sz_drew, sz_drewN] at hc4 hf4))) | (go_at_call 131; ((with_reducible refine (f_must_ok _ _).mono ?_); rintro e w' ⟨rfl, rfl⟩)))
  have B4 : Below w2.heap.size w2 w4 := by (repeat' (first | assumption | exact below_refl _ | refine bl_alloc ?_ _ | refine Below.setCell ?_ ?_ _ | refine below_draw ?_ | refine below_drewN ?_ _ | refine below_tr ?_ (by assumption))) <;> (first | omega | (simp; done) | (simp; omega))
  obtain ⟨hcx, hfx⟩ := bcell B4
  have lz4 := B4.size
  have HN4 := Lib.hid (HN2.out.on B4)
  have HGR4 := Lib.hid (HGR2.out.on B4)
  replace b0 := (hcx w.heap.size 0 lw2).trans b0
  replace c1 := (hcx sb (k * 3 + 1) lsb2).trans c1
  replace c0x := (hcx sb (k * 3) lsb2).trans c0x
  replace c18 := (hcx nb 18 lnb2).trans c18
  replace cja := (hcx nb 0 lnb2).trans cja
  replace cj := (hcx jb (jo + k) ljb2).trans cj
  have l4 : ∀ z, z < w2.heap.size → z < w4.heap.size := fun z hz => by omega
  have lw4 := l4 _ lw2
  have lsb4 := l4 _ lsb2
  have lnb4 := l4 _ lnb2
  have ljb4 := l4 _ ljb2
  have BB4 : Below w.heap.size w w4 := below_tr B2 B4
  have HS4 := Lib.hid (fun w' (h : Below w4.heap.size w4 w') sd => HSD.out w' (below_tr B4 h) sd)
  clear hcx hfx HN2 HGR2 HAL HGO HGO2 HSD hb3 hb4 hc3 hf3 hc4 hf4 hz3 hz4 B4 hb2
  by_cases hgn : 0 < L.gusts.l.length
  · obtain ⟨x, hx, hGx⟩ := HGL.out hgn
    obtain ⟨m, hm⟩ : ∃ m, L.gusts.l.length = m + 1 := ⟨L.gusts.l.length - 1, by omega⟩
    obtain ⟨x', gb, go, hx', hga, hgb, cg⟩ := rd_int HGR4.out (k := m) (by omega)
    obtain rfl : x' = x := by rw [show L.gusts.l.length - 1 = m by omega] at hx; rw [hx] at hx'; cases hx'; rfl
    have hwm : IntKind.i64.wrap ((L.gusts.l.length : Int) - 1) = (m : Int) := by rw [fits_wrap ⟨by omega, by omega⟩]; omega
    have m0 : (0 : Int) ≤ (m : Int) := Int.natCast_nonneg _
    have m1 : (m : Int) < (L.gusts.l.length : Int) := by omega
    have d1 : decide (0 < (L.gusts.l.length : Int)) = true := decide_eq_true (by omega)
    have d2 : decide (0 < L.gusts.l.length) = true := decide_eq_true hgn
    have hGx' : max 0 x' = G := hGx.symm
    rw [hga] at c18
    clear hx hx' hGx hm hgn hga
    generalize L.gusts.l.length = GN at *
    go_wp2
    go_loopw [59] (fun i wr => ∃ j : Nat, j ≤ 4 ∧ i = .int .i64 j ∧ Below w4.heap.size w4 wr ∧ Hid (∀ q : Nat, q < j → S.standsR y.l PR (q : Int) = true)) (fun i _ => 4 - (RowKit.intOf i).toNat)
    case atStart => exact ⟨0, by omega, rfl, below_refl _, Lib.hid (fun q hq => by omega)⟩
    case round =>
      obtain ⟨j, hj, rfl, hbw, HI⟩ := hrel
      have j0 : (0 : Int) ≤ (j : Int) := Int.natCast_nonneg _
      obtain ⟨hcr, hfr⟩ := bcell hbw
      have lzr := hbw.size
      by_cases hlt : j < 4
      · have j1 : (j : Int) < 4 := by omega
        have rb0 := (hcr w.heap.size 0 lw4).trans b0
        have rja := (hcr nb 0 lnb4).trans cja
        have rj := (hcr jb (jo + k) ljb4).trans cj
        have lr : ∀ z, z < w4.heap.size → z < wr.heap.size := fun z hz => by omega
        have lwr := lr _ lw4
        have lnbr := lr _ lnb4
        have ljbr := lr _ ljb4
        have HZ := HWZ.out (j : Int) j0 (by omega)
        have HSS := Lib.hid (fun w' (h : Below wr.heap.size wr w') => HS4.out w' (below_tr hbw h) (j : Int))
        rw [HZ] at HSS
        clear hcr hfr b0 cja cj HZ
        cases hst : S.standsR y.l PR (j : Int)
        · rw [hst] at HSS
          have HX := Lib.hid (show deed (.cut (k : Int)) L.val = .error 11 by rw [HX3.out, if_pos (sd_not hlt hst)])
          clear hst
          go_upto_region 12 with fail
          refine wp_region_noPanic ?_
          refine wp_region_held_drew (S := (fun w' => (∀ b o, b < wr.heap.size → w'.cell? ⟨b, o, none⟩ = wr.cell? ⟨b, o, none⟩) ∧ (∀ b o, b < wr.heap.size → w'.frozen? ⟨b, o, none⟩ = wr.frozen? ⟨b, o, none⟩) ∧ Below wr.heap.size wr w')) (by kernel_rfl) (kq_draw kq_refl) (fun hS0 => ?_)
          refine tk 0 63 ?gv1 rfl (by kernel_rfl) (fun _ _ _ h => h) ?gy1 (by assumption) ?_
          case gy1 => (intro w' hSw; go_simp; try with_reducible rfl)
          try simp only [AP]
          refine tk 1 64 ?gv2 rfl (by kernel_rfl) (fun _ _ _ h => h) ?gy2 (by assumption) ?_
          case gy2 => (intro w' hSw; go_simp; try with_reducible rfl)
          try simp only [AP]
          refine tk 2 65 ?gv3 rfl (by kernel_rfl) (fun _ _ _ h => h) ?gy3 (by assumption) ?_
          case gy3 => (intro w' hSw; go_simp; try with_reducible rfl)
          try simp only [AP]
          refine tk 3 66 ?gv4 rfl (by kernel_rfl) (fun _ _ _ h => h) ?gy4 (by assumption) ?_
          case gy4 => (intro w' hSw; go_simp; try with_reducible rfl)
          try simp only [AP]
          refine tk 4 67 ?gv5 rfl (by kernel_rfl) (fun _ _ _ h => h) ?gy5 (by assumption) ?_
          case gy5 => (intro w' hSw; go_simp; try with_reducible rfl)
          try simp only [AP]
          refine tk 5 68 ?gv6 rfl (by kernel_rfl) (fun _ _ _ h => h) ?gy6 (by assumption) ?_
          case gy6 => (intro w' hSw; go_simp; try with_reducible rfl)
          try simp only [AP]
          refine tk 6 69 ?gv7 rfl (by kernel_rfl) (fun _ _ _ h => h) ?gy7 (by assumption) ?_
          case gy7 => (intro w' hSw; go_simp; try with_reducible rfl)
          try simp only [AP]
          refine tk 7 70 ?gv8 rfl (by kernel_rfl) (fun _ _ _ h => h) ?gy8 (by assumption) ?_
          case gy8 => (intro w' hSw; go_simp; try with_reducible rfl)
          try simp only [AP]
          refine tk 8 71 ?gv9 rfl (by kernel_rfl) (fun _ _ _ h => h) ?gy9 (by assumption) ?_
          case gy9 => (intro w' hSw; go_simp; try with_reducible rfl)
          try simp only [AP]
          refine tk 9 72 ?gv10 rfl (by kernel_rfl) (fun _ _ _ h => h) ?gy10 (by assumption) ?_
          case gy10 => (intro w' hSw; go_simp; try with_reducible rfl)
          try simp only [AP]
          refine tk 10 73 ?gv11 rfl (by kernel_rfl) (fun _ _ _ h => h) ?gy11 (by assumption) ?_
          case gy11 => (intro w' hSw; go_simp; try with_reducible rfl)
          try simp only [AP]
          refine tk 11 74 ?gv12 rfl (by kernel_rfl) (fun _ _ _ h => h) ?gy12 (by assumption) ?_
          case gy12 => (intro w' hSw; go_simp; try with_reducible rfl)
          try simp only [AP]
          refine tk 12 75 ?gv13 rfl (by kernel_rfl) (fun _ _ _ h => h) ?gy13 (by assumption) ?_
          case gy13 => (intro w' hSw; go_simp; try with_reducible rfl)
          try simp only [AP]
          refine tk 13 76 ?gv14 rfl (by kernel_rfl) (fun _ _ _ h => h) ?gy14 (by assumption) ?_
          case gy14 => (intro w' hSw; go_simp; try with_reducible rfl)
          try simp only [AP]
          refine tk 14 77 ?gv15 rfl (by kernel_rfl) (fun _ _ _ h => h) ?gy15 (by assumption) ?_
          case gy15 => (intro w' hSw; go_simp; try with_reducible rfl)
          try simp only [AP]
          refine wpAnyH_ready (rs := [15]) (by kernel_rfl) (by simp) ?_
          refine AllReadyH.cons rfl (fun K hK => ?_) AllReadyH.nil
          go_simp
          (go_at_call 296; (first | rw [show min Q 10000 = PR from HMN.out.symm] | rw [show min 0 10000 = PR from HMN.out.symm] | skip); ((with_reducible refine (HSS.out _ (by (repeat' (first | assumption | exact below_refl _ | refine bl_alloc ?_ _ | refine Below.setCell ?_ ?_ _ | refine below_draw ?_ | refine below_drewN ?_ _ | refine below_tr ?_ (by assumption))) <;> (first | omega | (simp; done) | (simp; omega)))).mono ?_); rintro e w5 ⟨rfl, hb5⟩; obtain ⟨hc5, hf5⟩ := bcell hb5; have hz5 := hb5.size; (try simp [sz_drew, sz_drewN] at hz5); (try simp only [sz_drew, sz_drewN] at hc5 hf5)))
          refine hK.out _ _ (by ((show Kq wr _); (repeat' (first | assumption | exact kq_refl | refine kq_draw ?_ | refine kq_drewN ?_ | refine kq_alloc ?_ | refine kq_set ?_ ?_ | refine kq_step ?_ (by assumption))); (all_goals (first | omega | (simp; omega))))) (fun hS1 => ?_)
          clear hK K
          try simp only [AP]
          refine tk 16 62 ?gv16 rfl (by kernel_rfl) (fun _ _ _ h => h) ?gy16 (by assumption) ?_
          case gy16 => (intro w' hSw; go_simp; try with_reducible rfl)
          try simp only [AP]
          refine tk 17 79 ?gv17 rfl (by kernel_rfl) (fun _ _ _ h => h) ?gy17 (by assumption) ?_
          case gy17 => (intro w' hSw; go_simp; try with_reducible rfl)
          try simp only [AP]
          refine tk 18 80 ?gv18 rfl (by kernel_rfl) (fun _ _ _ h => h) ?gy18 (by assumption) ?_
          case gy18 => (intro w' hSw; go_simp; try with_reducible rfl)
          try simp only [AP]
          refine tk 19 9 ?gv19 rfl (by kernel_rfl) (fun _ _ _ h => h) ?gy19 (by assumption) ?_
          case gy19 => (intro w' hSw; go_simp; try with_reducible rfl)
          try simp only [AP]
          refine tk 20 10 ?gv20 rfl (by kernel_rfl) (fun _ _ _ h => h) ?gy20 (by assumption) ?_
          case gy20 => (intro w' hSw; go_simp; try with_reducible rfl)
          try simp only [AP]
          refine wpAnyH_done (by kernel_rfl) (NoPanic.normal ?_) _
          go_wp2_with (first | (go_at_call 246; ((with_reducible refine (f_passed_ok _).mono ?_); rintro e w' ⟨rfl, rfl⟩)) | (go_at_call 131; ((with_reducible refine (f_must_no _ _).mono ?_); rintro e w' ⟨rfl, rfl⟩)))
          exact ⟨rfl, deed_err HX.out (below_tr BB4 (below_tr hbw (by (repeat' (first | assumption | exact below_refl _ | refine bl_alloc ?_ _ | refine Below.setCell ?_ ?_ _ | refine below_draw ?_ | refine below_drewN ?_ _ | refine below_tr ?_ (by assumption))) <;> (first | omega | (simp; done) | (simp; omega)))))⟩
        · rw [hst] at HSS
          have HST := Lib.hid hst
          clear hst
          go_upto_region 12 with fail
          refine wp_region_noPanic ?_
          refine wp_region_held_drew (S := (fun w' => (∀ b o, b < wr.heap.size → w'.cell? ⟨b, o, none⟩ = wr.cell? ⟨b, o, none⟩) ∧ (∀ b o, b < wr.heap.size → w'.frozen? ⟨b, o, none⟩ = wr.frozen? ⟨b, o, none⟩) ∧ Below wr.heap.size wr w')) (by kernel_rfl) (kq_draw kq_refl) (fun hS0 => ?_)
          refine tk 0 63 ?gv21 rfl (by kernel_rfl) (fun _ _ _ h => h) ?gy21 (by assumption) ?_
          case gy21 => (intro w' hSw; go_simp; try with_reducible rfl)
          try simp only [AP]
          refine tk 1 64 ?gv22 rfl (by kernel_rfl) (fun _ _ _ h => h) ?gy22 (by assumption) ?_
          case gy22 => (intro w' hSw; go_simp; try with_reducible rfl)
          try simp only [AP]
          refine tk 2 65 ?gv23 rfl (by kernel_rfl) (fun _ _ _ h => h) ?gy23 (by assumption) ?_
          case gy23 => (intro w' hSw; go_simp; try with_reducible rfl)
          try simp only [AP]
          refine tk 3 66 ?gv24 rfl (by kernel_rfl) (fun _ _ _ h => h) ?gy24 (by assumption) ?_
          case gy24 => (intro w' hSw; go_simp; try with_reducible rfl)
          try simp only [AP]
          refine tk 4 67 ?gv25 rfl (by kernel_rfl) (fun _ _ _ h => h) ?gy25 (by assumption) ?_
          case gy25 => (intro w' hSw; go_simp; try with_reducible rfl)
          try simp only [AP]
          refine tk 5 68 ?gv26 rfl (by kernel_rfl) (fun _ _ _ h => h) ?gy26 (by assumption) ?_
          case gy26 => (intro w' hSw; go_simp; try with_reducible rfl)
          try simp only [AP]
          refine tk 6 69 ?gv27 rfl (by kernel_rfl) (fun _ _ _ h => h) ?gy27 (by assumption) ?_
          case gy27 => (intro w' hSw; go_simp; try with_reducible rfl)
          try simp only [AP]
          refine tk 7 70 ?gv28 rfl (by kernel_rfl) (fun _ _ _ h => h) ?gy28 (by assumption) ?_
          case gy28 => (intro w' hSw; go_simp; try with_reducible rfl)
          try simp only [AP]
          refine tk 8 71 ?gv29 rfl (by kernel_rfl) (fun _ _ _ h => h) ?gy29 (by assumption) ?_
          case gy29 => (intro w' hSw; go_simp; try with_reducible rfl)
          try simp only [AP]
          refine tk 9 72 ?gv30 rfl (by kernel_rfl) (fun _ _ _ h => h) ?gy30 (by assumption) ?_
          case gy30 => (intro w' hSw; go_simp; try with_reducible rfl)
          try simp only [AP]
          refine tk 10 73 ?gv31 rfl (by kernel_rfl) (fun _ _ _ h => h) ?gy31 (by assumption) ?_
          case gy31 => (intro w' hSw; go_simp; try with_reducible rfl)
          try simp only [AP]
          refine tk 11 74 ?gv32 rfl (by kernel_rfl) (fun _ _ _ h => h) ?gy32 (by assumption) ?_
          case gy32 => (intro w' hSw; go_simp; try with_reducible rfl)
          try simp only [AP]
          refine tk 12 75 ?gv33 rfl (by kernel_rfl) (fun _ _ _ h => h) ?gy33 (by assumption) ?_
          case gy33 => (intro w' hSw; go_simp; try with_reducible rfl)
          try simp only [AP]
          refine tk 13 76 ?gv34 rfl (by kernel_rfl) (fun _ _ _ h => h) ?gy34 (by assumption) ?_
          case gy34 => (intro w' hSw; go_simp; try with_reducible rfl)
          try simp only [AP]
          refine tk 14 77 ?gv35 rfl (by kernel_rfl) (fun _ _ _ h => h) ?gy35 (by assumption) ?_
          case gy35 => (intro w' hSw; go_simp; try with_reducible rfl)
          try simp only [AP]
          refine wpAnyH_ready (rs := [15]) (by kernel_rfl) (by simp) ?_
          refine AllReadyH.cons rfl (fun K hK => ?_) AllReadyH.nil
          go_simp
          (go_at_call 296; (first | rw [show min Q 10000 = PR from HMN.out.symm] | rw [show min 0 10000 = PR from HMN.out.symm] | skip); ((with_reducible refine (HSS.out _ (by (repeat' (first | assumption | exact below_refl _ | refine bl_alloc ?_ _ | refine Below.setCell ?_ ?_ _ | refine below_draw ?_ | refine below_drewN ?_ _ | refine below_tr ?_ (by assumption))) <;> (first | omega | (simp; done) | (simp; omega)))).mono ?_); rintro e w5 ⟨rfl, hb5⟩; obtain ⟨hc5, hf5⟩ := bcell hb5; have hz5 := hb5.size; (try simp [sz_drew, sz_drewN] at hz5); (try simp only [sz_drew, sz_drewN] at hc5 hf5)))
          refine hK.out _ _ (by ((show Kq wr _); (repeat' (first | assumption | exact kq_refl | refine kq_draw ?_ | refine kq_drewN ?_ | refine kq_alloc ?_ | refine kq_set ?_ ?_ | refine kq_step ?_ (by assumption))); (all_goals (first | omega | (simp; omega))))) (fun hS1 => ?_)
          clear hK K
          try simp only [AP]
          refine tk 16 62 ?gv36 rfl (by kernel_rfl) (fun _ _ _ h => h) ?gy36 (by assumption) ?_
          case gy36 => (intro w' hSw; go_simp; try with_reducible rfl)
          try simp only [AP]
          refine tk 17 79 ?gv37 rfl (by kernel_rfl) (fun _ _ _ h => h) ?gy37 (by assumption) ?_
          case gy37 => (intro w' hSw; go_simp; try with_reducible rfl)
          try simp only [AP]
          refine tk 18 80 ?gv38 rfl (by kernel_rfl) (fun _ _ _ h => h) ?gy38 (by assumption) ?_
          case gy38 => (intro w' hSw; go_simp; try with_reducible rfl)
          try simp only [AP]
          refine tk 19 9 ?gv39 rfl (by kernel_rfl) (fun _ _ _ h => h) ?gy39 (by assumption) ?_
          case gy39 => (intro w' hSw; go_simp; try with_reducible rfl)
          try simp only [AP]
          refine tk 20 10 ?gv40 rfl (by kernel_rfl) (fun _ _ _ h => h) ?gy40 (by assumption) ?_
          case gy40 => (intro w' hSw; go_simp; try with_reducible rfl)
          try simp only [AP]
          refine wpAnyH_done (by kernel_rfl) (NoPanic.normal ?_) _
          go_wp2_with (first | (go_at_call 246; ((with_reducible refine (f_passed_ok _).mono ?_); rintro e w' ⟨rfl, rfl⟩)) | (go_at_call 131; ((with_reducible refine (f_must_ok _ _).mono ?_); rintro e w' ⟨rfl, rfl⟩)))
          go_roundw
          case rel => exact ⟨j + 1, by omega, by go_num, below_tr hbw (by (repeat' (first | assumption | exact below_refl _ | refine bl_alloc ?_ _ | refine Below.setCell ?_ ?_ _ | refine below_draw ?_ | refine below_drewN ?_ _ | refine below_tr ?_ (by assumption))) <;> (first | omega | (simp; done) | (simp; omega))), Lib.hid (fun q hq => by rcases Nat.lt_succ_iff_lt_or_eq.1 hq with h | rfl; exact HI.out q h; exact HST.out)⟩
          case measure => simp [RowKit.intOf]; omega
      · obtain rfl : j = 4 := by omega
        have HX := Lib.hid (show deed (.cut (k : Int)) L.val = .ok (setS L.val (k : Int) { s.val with fel := true, dogs := [] }) by rw [HX3.out, if_neg (by rw [sd_all HI.out]; simp)])
        have BW := below_tr BB4 hbw
        have r1c := (hcr sb (k * 3 + 1) lsb4).trans c1
        have r0c := (hcr sb (k * 3) lsb4).trans c0x
        obtain ⟨s0, cur', e0, ha', hbs', hir', _⟩ := (hN.on BW).site (i := k) hk
        obtain rfl : s = s0 := by rw [hs] at e0; cases e0; rfl
        have qf1 := hbs'.frozen (k * 3 + 1)
        have qf0 := hbs'.frozen (k * 3)
        clear hcr hfr
        go_wp2
        go_end0
        have st : Stp (fun g => g = sb) w ((wr.setCell ⟨sb, k * 3 + 1, none⟩ (.bool true)).setCell ⟨sb, k * 3, none⟩ (.slice none 0 0)) :=
          Stp.setCell (N := fun g => g = sb) (p := ⟨sb, k * 3, none⟩) (Stp.setCell (N := fun g => g = sb) (p := ⟨sb, k * 3 + 1, none⟩) ((Stp.refl _ _).below BW (Nat.le_refl _)) (.inl rfl) (.bool true)) (.inl rfl) (.slice none 0 0)
        have i1 := inrow_put (j := 1) (s' := { s with fel := true }) LSi.cs_len hir' hs rfl (fun r hr => by rcases r with _ | _ | _ | r <;> first | rfl | exact absurd rfl hr)
        have i2 := inrow_put (j := 0) (s := { s with fel := true }) (s' := { s with fel := true, dogs := ⟨none, [], 0⟩ }) LSi.cs_len i1 (List.getElem?_set_self hk) rfl (fun r hr => by rcases r with _ | _ | _ | r <;> first | rfl | exact absurd rfl hr)
        rw [List.set_set] at i2
        exact deed_ok HX.out (by rw [set_val (s' := { s with fel := true, dogs := ⟨none, [], 0⟩ })]; rfl) (hN.doneS st ((hbs'.set_ _ _).set_ _ _) i2 ha (got_nil _ _ _ _))
  · obtain rfl : G = 0 := HG0.out hgn
    obtain ⟨rfl, rfl⟩ := HQ0.out rfl
    have h0 : L.gusts.l.length = 0 := by omega
    rw [h0] at c18
    clear hgn h0
    go_wp2
    go_loopw [59] (fun i wr => ∃ j : Nat, j ≤ 4 ∧ i = .int .i64 j ∧ Below w4.heap.size w4 wr ∧ Hid (∀ q : Nat, q < j → S.standsR y.l PR (q : Int) = true)) (fun i _ => 4 - (RowKit.intOf i).toNat)
    case atStart => exact ⟨0, by omega, rfl, below_refl _, Lib.hid (fun q hq => by omega)⟩
    case round =>
      obtain ⟨j, hj, rfl, hbw, HI⟩ := hrel
      have j0 : (0 : Int) ≤ (j : Int) := Int.natCast_nonneg _
      obtain ⟨hcr, hfr⟩ := bcell hbw
      have lzr := hbw.size
      by_cases hlt : j < 4
      · have j1 : (j : Int) < 4 := by omega
        have rb0 := (hcr w.heap.size 0 lw4).trans b0
        have rja := (hcr nb 0 lnb4).trans cja
        have rj := (hcr jb (jo + k) ljb4).trans cj
        have lr : ∀ z, z < w4.heap.size → z < wr.heap.size := fun z hz => by omega
        have lwr := lr _ lw4
        have lnbr := lr _ lnb4
        have ljbr := lr _ ljb4
        have HZ := HWZ.out (j : Int) j0 (by omega)
        have HSS := Lib.hid (fun w' (h : Below wr.heap.size wr w') => HS4.out w' (below_tr hbw h) (j : Int))
        rw [HZ] at HSS
        clear hcr hfr b0 cja cj HZ
        cases hst : S.standsR y.l PR (j : Int)
        · rw [hst] at HSS
          have HX := Lib.hid (show deed (.cut (k : Int)) L.val = .error 11 by rw [HX3.out, if_pos (sd_not hlt hst)])
          clear hst
          go_upto_region 12 with fail
          refine wp_region_noPanic ?_
          refine wp_region_held_drew (S := (fun w' => (∀ b o, b < wr.heap.size → w'.cell? ⟨b, o, none⟩ = wr.cell? ⟨b, o, none⟩) ∧ (∀ b o, b < wr.heap.size → w'.frozen? ⟨b, o, none⟩ = wr.frozen? ⟨b, o, none⟩) ∧ Below wr.heap.size wr w')) (by kernel_rfl) (kq_draw kq_refl) (fun hS0 => ?_)
          refine tk 0 63 ?gv41 rfl (by kernel_rfl) (fun _ _ _ h => h) ?gy41 (by assumption) ?_
          case gy41 => (intro w' hSw; go_simp; try with_reducible rfl)
          try simp only [AP]
          refine tk 1 64 ?gv42 rfl (by kernel_rfl) (fun _ _ _ h => h) ?gy42 (by assumption) ?_
          case gy42 => (intro w' hSw; go_simp; try with_reducible rfl)
          try simp only [AP]
          refine tk 2 65 ?gv43 rfl (by kernel_rfl) (fun _ _ _ h => h) ?gy43 (by assumption) ?_
          case gy43 => (intro w' hSw; go_simp; try with_reducible rfl)
          try simp only [AP]
          refine tk 3 66 ?gv44 rfl (by kernel_rfl) (fun _ _ _ h => h) ?gy44 (by assumption) ?_
          case gy44 => (intro w' hSw; go_simp; try with_reducible rfl)
          try simp only [AP]
          refine tk 4 67 ?gv45 rfl (by kernel_rfl) (fun _ _ _ h => h) ?gy45 (by assumption) ?_
          case gy45 => (intro w' hSw; go_simp; try with_reducible rfl)
          try simp only [AP]
          refine tk 5 68 ?gv46 rfl (by kernel_rfl) (fun _ _ _ h => h) ?gy46 (by assumption) ?_
          case gy46 => (intro w' hSw; go_simp; try with_reducible rfl)
          try simp only [AP]
          refine tk 6 69 ?gv47 rfl (by kernel_rfl) (fun _ _ _ h => h) ?gy47 (by assumption) ?_
          case gy47 => (intro w' hSw; go_simp; try with_reducible rfl)
          try simp only [AP]
          refine tk 7 70 ?gv48 rfl (by kernel_rfl) (fun _ _ _ h => h) ?gy48 (by assumption) ?_
          case gy48 => (intro w' hSw; go_simp; try with_reducible rfl)
          try simp only [AP]
          refine tk 8 71 ?gv49 rfl (by kernel_rfl) (fun _ _ _ h => h) ?gy49 (by assumption) ?_
          case gy49 => (intro w' hSw; go_simp; try with_reducible rfl)
          try simp only [AP]
          refine tk 9 72 ?gv50 rfl (by kernel_rfl) (fun _ _ _ h => h) ?gy50 (by assumption) ?_
          case gy50 => (intro w' hSw; go_simp; try with_reducible rfl)
          try simp only [AP]
          refine tk 10 73 ?gv51 rfl (by kernel_rfl) (fun _ _ _ h => h) ?gy51 (by assumption) ?_
          case gy51 => (intro w' hSw; go_simp; try with_reducible rfl)
          try simp only [AP]
          refine tk 11 74 ?gv52 rfl (by kernel_rfl) (fun _ _ _ h => h) ?gy52 (by assumption) ?_
          case gy52 => (intro w' hSw; go_simp; try with_reducible rfl)
          try simp only [AP]
          refine tk 12 75 ?gv53 rfl (by kernel_rfl) (fun _ _ _ h => h) ?gy53 (by assumption) ?_
          case gy53 => (intro w' hSw; go_simp; try with_reducible rfl)
          try simp only [AP]
          refine tk 13 76 ?gv54 rfl (by kernel_rfl) (fun _ _ _ h => h) ?gy54 (by assumption) ?_
          case gy54 => (intro w' hSw; go_simp; try with_reducible rfl)
          try simp only [AP]
          refine tk 14 77 ?gv55 rfl (by kernel_rfl) (fun _ _ _ h => h) ?gy55 (by assumption) ?_
          case gy55 => (intro w' hSw; go_simp; try with_reducible rfl)
          try simp only [AP]
          refine wpAnyH_ready (rs := [15]) (by kernel_rfl) (by simp) ?_
          refine AllReadyH.cons rfl (fun K hK => ?_) AllReadyH.nil
          go_simp
          (go_at_call 296; (first | rw [show min Q 10000 = PR from HMN.out.symm] | rw [show min 0 10000 = PR from HMN.out.symm] | skip); ((with_reducible refine (HSS.out _ (by (repeat' (first | assumption | exact below_refl _ | refine bl_alloc ?_ _ | refine Below.setCell ?_ ?_ _ | refine below_draw ?_ | refine below_drewN ?_ _ | refine below_tr ?_ (by assumption))) <;> (first | omega | (simp; done) | (simp; omega)))).mono ?_); rintro e w5 ⟨rfl, hb5⟩; obtain ⟨hc5, hf5⟩ := bcell hb5; have hz5 := hb5.size; (try simp [sz_drew, sz_drewN] at hz5); (try simp only [sz_drew, sz_drewN] at hc5 hf5)))
          refine hK.out _ _ (by ((show Kq wr _); (repeat' (first | assumption | exact kq_refl | refine kq_draw ?_ | refine kq_drewN ?_ | refine kq_alloc ?_ | refine kq_set ?_ ?_ | refine kq_step ?_ (by assumption))); (all_goals (first | omega | (simp; omega))))) (fun hS1 => ?_)
          clear hK K
          try simp only [AP]
          refine tk 16 62 ?gv56 rfl (by kernel_rfl) (fun _ _ _ h => h) ?gy56 (by assumption) ?_
          case gy56 => (intro w' hSw; go_simp; try with_reducible rfl)
          try simp only [AP]
          refine tk 17 79 ?gv57 rfl (by kernel_rfl) (fun _ _ _ h => h) ?gy57 (by assumption) ?_
          case gy57 => (intro w' hSw; go_simp; try with_reducible rfl)
          try simp only [AP]
          refine tk 18 80 ?gv58 rfl (by kernel_rfl) (fun _ _ _ h => h) ?gy58 (by assumption) ?_
          case gy58 => (intro w' hSw; go_simp; try with_reducible rfl)
          try simp only [AP]
          refine tk 19 9 ?gv59 rfl (by kernel_rfl) (fun _ _ _ h => h) ?gy59 (by assumption) ?_
          case gy59 => (intro w' hSw; go_simp; try with_reducible rfl)
          try simp only [AP]
          refine tk 20 10 ?gv60 rfl (by kernel_rfl) (fun _ _ _ h => h) ?gy60 (by assumption) ?_
          case gy60 => (intro w' hSw; go_simp; try with_reducible rfl)
          try simp only [AP]
          refine wpAnyH_done (by kernel_rfl) (NoPanic.normal ?_) _
          go_wp2_with (first | (go_at_call 246; ((with_reducible refine (f_passed_ok _).mono ?_); rintro e w' ⟨rfl, rfl⟩)) | (go_at_call 131; ((with_reducible refine (f_must_no _ _).mono ?_); rintro e w' ⟨rfl, rfl⟩)))
          exact ⟨rfl, deed_err HX.out (below_tr BB4 (below_tr hbw (by (repeat' (first | assumption | exact below_refl _ | refine bl_alloc ?_ _ | refine Below.setCell ?_ ?_ _ | refine below_draw ?_ | refine below_drewN ?_ _ | refine below_tr ?_ (by assumption))) <;> (first | omega | (simp; done) | (simp; omega)))))⟩
        · rw [hst] at HSS
          have HST := Lib.hid hst
          clear hst
          go_upto_region 12 with fail
          refine wp_region_noPanic ?_
          refine wp_region_held_drew (S := (fun w' => (∀ b o, b < wr.heap.size → w'.cell? ⟨b, o, none⟩ = wr.cell? ⟨b, o, none⟩) ∧ (∀ b o, b < wr.heap.size → w'.frozen? ⟨b, o, none⟩ = wr.frozen? ⟨b, o, none⟩) ∧ Below wr.heap.size wr w')) (by kernel_rfl) (kq_draw kq_refl) (fun hS0 => ?_)
          refine tk 0 63 ?gv61 rfl (by kernel_rfl) (fun _ _ _ h => h) ?gy61 (by assumption) ?_
          case gy61 => (intro w' hSw; go_simp; try with_reducible rfl)
          try simp only [AP]
          refine tk 1 64 ?gv62 rfl (by kernel_rfl) (fun _ _ _ h => h) ?gy62 (by assumption) ?_
          case gy62 => (intro w' hSw; go_simp; try with_reducible rfl)
          try simp only [AP]
          refine tk 2 65 ?gv63 rfl (by kernel_rfl) (fun _ _ _ h => h) ?gy63 (by assumption) ?_
          case gy63 => (intro w' hSw; go_simp; try with_reducible rfl)
          try simp only [AP]
          refine tk 3 66 ?gv64 rfl (by kernel_rfl) (fun _ _ _ h => h) ?gy64 (by assumption) ?_
          case gy64 => (intro w' hSw; go_simp; try with_reducible rfl)
          try simp only [AP]
          refine tk 4 67 ?gv65 rfl (by kernel_rfl) (fun _ _ _ h => h) ?gy65 (by assumption) ?_
          case gy65 => (intro w' hSw; go_simp; try with_reducible rfl)
          try simp only [AP]
          refine tk 5 68 ?gv66 rfl (by kernel_rfl) (fun _ _ _ h => h) ?gy66 (by assumption) ?_
          case gy66 => (intro w' hSw; go_simp; try with_reducible rfl)
          try simp only [AP]
          refine tk 6 69 ?gv67 rfl (by kernel_rfl) (fun _ _ _ h => h) ?gy67 (by assumption) ?_
          case gy67 => (intro w' hSw; go_simp; try with_reducible rfl)
          try simp only [AP]
          refine tk 7 70 ?gv68 rfl (by kernel_rfl) (fun _ _ _ h => h) ?gy68 (by assumption) ?_
          case gy68 => (intro w' hSw; go_simp; try with_reducible rfl)
          try simp only [AP]
          refine tk 8 71 ?gv69 rfl (by kernel_rfl) (fun _ _ _ h => h) ?gy69 (by assumption) ?_
          case gy69 => (intro w' hSw; go_simp; try with_reducible rfl)
          try simp only [AP]
          refine tk 9 72 ?gv70 rfl (by kernel_rfl) (fun _ _ _ h => h) ?gy70 (by assumption) ?_
          case gy70 => (intro w' hSw; go_simp; try with_reducible rfl)
          try simp only [AP]
          refine tk 10 73 ?gv71 rfl (by kernel_rfl) (fun _ _ _ h => h) ?gy71 (by assumption) ?_
          case gy71 => (intro w' hSw; go_simp; try with_reducible rfl)
          try simp only [AP]
          refine tk 11 74 ?gv72 rfl (by kernel_rfl) (fun _ _ _ h => h) ?gy72 (by assumption) ?_
          case gy72 => (intro w' hSw; go_simp; try with_reducible rfl)
          try simp only [AP]
          refine tk 12 75 ?gv73 rfl (by kernel_rfl) (fun _ _ _ h => h) ?gy73 (by assumption) ?_
          case gy73 => (intro w' hSw; go_simp; try with_reducible rfl)
          try simp only [AP]
          refine tk 13 76 ?gv74 rfl (by kernel_rfl) (fun _ _ _ h => h) ?gy74 (by assumption) ?_
          case gy74 => (intro w' hSw; go_simp; try with_reducible rfl)
          try simp only [AP]
          refine tk 14 77 ?gv75 rfl (by kernel_rfl) (fun _ _ _ h => h) ?gy75 (by assumption) ?_
          case gy75 => (intro w' hSw; go_simp; try with_reducible rfl)
          try simp only [AP]
          refine wpAnyH_ready (rs := [15]) (by kernel_rfl) (by simp) ?_
          refine AllReadyH.cons rfl (fun K hK => ?_) AllReadyH.nil
          go_simp
          (go_at_call 296; (first | rw [show min Q 10000 = PR from HMN.out.symm] | rw [show min 0 10000 = PR from HMN.out.symm] | skip); ((with_reducible refine (HSS.out _ (by (repeat' (first | assumption | exact below_refl _ | refine bl_alloc ?_ _ | refine Below.setCell ?_ ?_ _ | refine below_draw ?_ | refine below_drewN ?_ _ | refine below_tr ?_ (by assumption))) <;> (first | omega | (simp; done) | (simp; omega)))).mono ?_); rintro e w5 ⟨rfl, hb5⟩; obtain ⟨hc5, hf5⟩ := bcell hb5; have hz5 := hb5.size; (try simp [sz_drew, sz_drewN] at hz5); (try simp only [sz_drew, sz_drewN] at hc5 hf5)))
          refine hK.out _ _ (by ((show Kq wr _); (repeat' (first | assumption | exact kq_refl | refine kq_draw ?_ | refine kq_drewN ?_ | refine kq_alloc ?_ | refine kq_set ?_ ?_ | refine kq_step ?_ (by assumption))); (all_goals (first | omega | (simp; omega))))) (fun hS1 => ?_)
          clear hK K
          try simp only [AP]
          refine tk 16 62 ?gv76 rfl (by kernel_rfl) (fun _ _ _ h => h) ?gy76 (by assumption) ?_
          case gy76 => (intro w' hSw; go_simp; try with_reducible rfl)
          try simp only [AP]
          refine tk 17 79 ?gv77 rfl (by kernel_rfl) (fun _ _ _ h => h) ?gy77 (by assumption) ?_
          case gy77 => (intro w' hSw; go_simp; try with_reducible rfl)
          try simp only [AP]
          refine tk 18 80 ?gv78 rfl (by kernel_rfl) (fun _ _ _ h => h) ?gy78 (by assumption) ?_
          case gy78 => (intro w' hSw; go_simp; try with_reducible rfl)
          try simp only [AP]
          refine tk 19 9 ?gv79 rfl (by kernel_rfl) (fun _ _ _ h => h) ?gy79 (by assumption) ?_
          case gy79 => (intro w' hSw; go_simp; try with_reducible rfl)
          try simp only [AP]
          refine tk 20 10 ?gv80 rfl (by kernel_rfl) (fun _ _ _ h => h) ?gy80 (by assumption) ?_
          case gy80 => (intro w' hSw; go_simp; try with_reducible rfl)
          try simp only [AP]
          refine wpAnyH_done (by kernel_rfl) (NoPanic.normal ?_) _
          go_wp2_with (first | (go_at_call 246; ((with_reducible refine (f_passed_ok _).mono ?_); rintro e w' ⟨rfl, rfl⟩)) | (go_at_call 131; ((with_reducible refine (f_must_ok _ _).mono ?_); rintro e w' ⟨rfl, rfl⟩)))
          go_roundw
          case rel => exact ⟨j + 1, by omega, by go_num, below_tr hbw (by (repeat' (first | assumption | exact below_refl _ | refine bl_alloc ?_ _ | refine Below.setCell ?_ ?_ _ | refine below_draw ?_ | refine below_drewN ?_ _ | refine below_tr ?_ (by assumption))) <;> (first | omega | (simp; done) | (simp; omega))), Lib.hid (fun q hq => by rcases Nat.lt_succ_iff_lt_or_eq.1 hq with h | rfl; exact HI.out q h; exact HST.out)⟩
          case measure => simp [RowKit.intOf]; omega
      · obtain rfl : j = 4 := by omega
        have HX := Lib.hid (show deed (.cut (k : Int)) L.val = .ok (setS L.val (k : Int) { s.val with fel := true, dogs := [] }) by rw [HX3.out, if_neg (by rw [sd_all HI.out]; simp)])
        have BW := below_tr BB4 hbw
        have r1c := (hcr sb (k * 3 + 1) lsb4).trans c1
        have r0c := (hcr sb (k * 3) lsb4).trans c0x
        obtain ⟨s0, cur', e0, ha', hbs', hir', _⟩ := (hN.on BW).site (i := k) hk
        obtain rfl : s = s0 := by rw [hs] at e0; cases e0; rfl
        have qf1 := hbs'.frozen (k * 3 + 1)
        have qf0 := hbs'.frozen (k * 3)
        clear hcr hfr
        go_wp2
        go_end0
        have st : Stp (fun g => g = sb) w ((wr.setCell ⟨sb, k * 3 + 1, none⟩ (.bool true)).setCell ⟨sb, k * 3, none⟩ (.slice none 0 0)) :=
          Stp.setCell (N := fun g => g = sb) (p := ⟨sb, k * 3, none⟩) (Stp.setCell (N := fun g => g = sb) (p := ⟨sb, k * 3 + 1, none⟩) ((Stp.refl _ _).below BW (Nat.le_refl _)) (.inl rfl) (.bool true)) (.inl rfl) (.slice none 0 0)
        have i1 := inrow_put (j := 1) (s' := { s with fel := true }) LSi.cs_len hir' hs rfl (fun r hr => by rcases r with _ | _ | _ | r <;> first | rfl | exact absurd rfl hr)
        have i2 := inrow_put (j := 0) (s := { s with fel := true }) (s' := { s with fel := true, dogs := ⟨none, [], 0⟩ }) LSi.cs_len i1 (List.getElem?_set_self hk) rfl (fun r hr => by rcases r with _ | _ | _ | r <;> first | rfl | exact absurd rfl hr)
        rw [List.set_set] at i2
        exact deed_ok HX.out (by rw [set_val (s' := { s with fel := true, dogs := ⟨none, [], 0⟩ })]; rfl) (hN.doneS st ((hbs'.set_ _ _).set_ _ _) i2 ha (got_nil _ _ _ _))
end Go.Proofs.YtmjgljdmjpabdaaGreatDoor.Fi
