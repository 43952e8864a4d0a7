/- Gear: TopRigs walked. -/
import Derived.Test.YtijlglanpgcdiaaGvh
set_option linter.unusedSimpArgs false
set_option linter.unusedVariables false
namespace Go.Proofs.Ytijlglanpgcdiaa
open Go.RowKit Go.Maps

def a7G : List It := [⟨⟨#[104, 111, 111, 107]⟩, 7, 0, ⟨#[97]⟩⟩]
def a7R : List Lk := [⟨⟨#[104, 111, 111, 107]⟩, -1⟩]
theorem a7_ok : (vldG a7G && vldR a7G a7R) = true := by
  unfold vldG vldR okI okL
  simp only [fndI_d, fndL_d]
  decide +kernel
theorem a7_sh : shZ a7G a7R = [7] := by
  unfold shZ ldL itR
  simp only [fndI_d]
  decide +kernel
theorem a7_gr : grI a7G a7R = 7 := by
  unfold grI onE shE
  rw [if_pos (by rw [if_pos a7_ok]), a7_sh]; decide
theorem blk_rdG7 {w : World} {b : Nat} (h : Blk w b 62 #[.string ⟨#[104, 111, 111, 107]⟩, .int .i64 7, .int .i64 0, .string ⟨#[97]⟩]) : Rd It.cs 4 w (some ⟨b, 0, none⟩) a7G := fun _ => by
  refine ⟨b, 0, rfl, h.lt, fun k x hx j v hv => ?_⟩
  have hk : k < 1 := (List.getElem?_eq_some_iff.1 hx).1
  rw [Nat.zero_add, h.cell]
  obtain rfl : k = 0 := by omega
  cases hx
  have hj : j < 4 := (List.getElem?_eq_some_iff.1 hv).1
  rcases (by omega : j = 0 ∨ j = 1 ∨ j = 2 ∨ j = 3) with rfl | rfl | rfl | rfl <;> exact hv
theorem blk_rdR7 {w : World} {b : Nat} (h : Blk w b 41 #[.string ⟨#[104, 111, 111, 107]⟩, .int .i64 (-1)]) : Rd Lk.cs 2 w (some ⟨b, 0, none⟩) a7R := fun _ => by
  refine ⟨b, 0, rfl, h.lt, fun k x hx j v hv => ?_⟩
  have hk : k < 1 := (List.getElem?_eq_some_iff.1 hx).1
  rw [Nat.zero_add, h.cell]
  obtain rfl : k = 0 := by omega
  cases hx
  have hj : j < 2 := (List.getElem?_eq_some_iff.1 hv).1
  rcases (by omega : j = 0 ∨ j = 1) with rfl | rfl <;> exact hv
theorem a7_gw : ∀ x ∈ a7G, IW x := by
  intro x hx
  unfold a7G at hx
  simp only [List.mem_cons, List.not_mem_nil, or_false] at hx
  rcases hx with rfl; exact ⟨by decide, by decide, by decide, by decide, by decide, by decide⟩
theorem a7_rw : ∀ x ∈ a7R, LW x := by
  intro x hx
  unfold a7R at hx
  simp only [List.mem_cons, List.not_mem_nil, or_false] at hx
  rcases hx with rfl; exact ⟨by decide, by decide, by decide⟩
set_option maxHeartbeats 1000000 in
set_option maxRecDepth 20000 in
theorem l_awake7 (w : World) : Calls Try.prog 48 #[] w fun e w' => e = .returned (.bool true) ∧ Below w.heap.size w w' := by
  have HG := Lib.hid (fun (b1 b2 : Nat) W hR hS => p_Greatest (some ⟨b1, 0, none⟩) (some ⟨b2, 0, none⟩) a7G a7R 1 1 W (by decide) (by decide) hR a7_gw hS a7_rw)
  rw [show a7G.length = 1 from rfl, show a7R.length = 1 from rfl] at HG
  rw [a7_gr, show shE a7G a7R = 0 by unfold shE; rw [if_pos a7_ok]] at HG
  go_enter Try.func48, Try.ntmps48
  go_wp2_with fail
  have k0 := (Blk.new w 62 #[.string ⟨#[104, 111, 111, 107]⟩, .int .i64 7, .int .i64 0, .string ⟨#[97]⟩]).alloc (.cells #[.string ⟨#[104, 111, 111, 107]⟩, .int .i64 (-1)] 41)
  have k1 := Blk.new (w.alloc (.cells #[.string ⟨#[104, 111, 111, 107]⟩, .int .i64 7, .int .i64 0, .string ⟨#[97]⟩] 62)) 41 #[.string ⟨#[104, 111, 111, 107]⟩, .int .i64 (-1)]
  have B0 : Below w.heap.size w ((w.alloc (.cells #[.string ⟨#[104, 111, 111, 107]⟩, .int .i64 7, .int .i64 0, .string ⟨#[97]⟩] 62)).alloc (.cells #[.string ⟨#[104, 111, 111, 107]⟩, .int .i64 (-1)] 41)) := bl_alloc (bl_alloc (below_refl _) _) _
  simp only [World.size_alloc] at k1
  refine (HG.out _ _ _ (blk_rdG7 k0) (blk_rdR7 k1)).mono ?_
  rintro e w1 ⟨rfl, hb1⟩
  go_wp2
  go_ret
  exact ⟨rfl, below_tr B0 hb1⟩
set_option maxHeartbeats 4000000 in
set_option maxRecDepth 20000 in
theorem l_TopRigs (A : Option Addr) (g : List It) (c : Nat) (B : Option Addr) (r : List Lk) (d : Nat) (lat : Int) (w : World) (hl0 : g.length ≤ maxLen) (hR : Rd It.cs 4 w A g) (hW : ∀ x ∈ g, IW x) (hc : g.length ≤ c) (hcm : c ≤ maxLen) (hn0 : r.length ≤ maxLen) (hS : Rd Lk.cs 2 w B r) (hV : ∀ x ∈ r, LW x) (_ : (Lit.int .i64 lat).wf = true) :
    Calls Try.prog 10 #[.slice A g.length c, .slice B r.length d, .int .i64 lat] w fun e w' => e = .returned (.bool true) ∧ Below w.heap.size w w' := by
  by_cases c1 : 64 < (g.length : Int)
  · clear hR hW hS hV
    unfold maxLen at hl0
    go_enter Try.func10, Try.ntmps10
    go_wp2_with (go_at_call 48; ((with_reducible refine (l_awake7 _).mono ?_); rintro e w1 ⟨rfl, hb1⟩; obtain ⟨hc1, hf1⟩ := bcell hb1; have hz1 := hb1.size; (try simp [sz_drew, sz_drewN] at hz1); (try simp only [sz_drew, sz_drewN] at hc1 hf1)))
    go_ret
    exact ⟨rfl, hb1⟩
  by_cases c2 : 32 < (r.length : Int)
  · clear hR hW hS hV
    unfold maxLen at hn0
    go_enter Try.func10, Try.ntmps10
    go_wp2_with (go_at_call 48; ((with_reducible refine (l_awake7 _).mono ?_); rintro e w1 ⟨rfl, hb1⟩; obtain ⟨hc1, hf1⟩ := bcell hb1; have hz1 := hb1.size; (try simp [sz_drew, sz_drewN] at hz1); (try simp only [sz_drew, sz_drewN] at hc1 hf1)))
    go_ret
    exact ⟨rfl, hb1⟩
  have hl : g.length ≤ 100000 := by omega
  have hn : r.length ≤ 100000 := by omega
  have H1 := Lib.hid (fun b h => r_ValidRigV (c := c) (d := d) (b := b) h hl hn hR hW hS hV)
  cases hvr : (vldG g && vldR g r)
  · clear hR hW hS hV
    go_enter Try.func10, Try.ntmps10
    go_wp2_with (first | (go_at_call 18; ((with_reducible refine (H1.out _ hvr).mono ?_); rintro e w1 ⟨rfl, hb1⟩; obtain ⟨hc1, hf1⟩ := bcell hb1; have hz1 := hb1.size; (try simp [sz_drew, sz_drewN] at hz1); (try simp only [sz_drew, sz_drewN] at hc1 hf1))) | (go_at_call 48; ((with_reducible refine (l_awake7 _).mono ?_); rintro e w2 ⟨rfl, hb2⟩; obtain ⟨hc2, hf2⟩ := bcell hb2; have hz2 := hb2.size; (try simp [sz_drew, sz_drewN] at hz2); (try simp only [sz_drew, sz_drewN] at hc2 hf2))))
    go_ret
    exact ⟨rfl, below_tr hb1 hb2⟩
  by_cases c3 : lat < 1 ∨ 1000 < lat
  · clear hR hW hS hV
    rcases (by omega : lat < 1 ∨ (¬ lat < 1 ∧ 1000 < lat)) with h1 | ⟨h1, h2⟩
    all_goals
      go_enter Try.func10, Try.ntmps10
      go_wp2_with (first | (go_at_call 18; ((with_reducible refine (H1.out _ hvr).mono ?_); rintro e w1 ⟨rfl, hb1⟩; obtain ⟨hc1, hf1⟩ := bcell hb1; have hz1 := hb1.size; (try simp [sz_drew, sz_drewN] at hz1); (try simp only [sz_drew, sz_drewN] at hc1 hf1))) | (go_at_call 48; ((with_reducible refine (l_awake7 _).mono ?_); rintro e w2 ⟨rfl, hb2⟩; obtain ⟨hc2, hf2⟩ := bcell hb2; have hz2 := hb2.size; (try simp [sz_drew, sz_drewN] at hz2); (try simp only [sz_drew, sz_drewN] at hc2 hf2))))
      go_ret
      exact ⟨rfl, below_tr hb1 hb2⟩
  have c4 : ¬ lat < 1 := by omega
  have c5 : ¬ 1000 < lat := by omega
  have hv := vr_of hvr
  have hsE : shE g r = 0 := by unfold shE; rw [if_pos hvr]
  have hun := unI_is hvr
  have hu0 := unN_nn hv
  have hu1 := unN_max g r r.length
  have H2 := Lib.hid (fun W (h : Below w.heap.size w W) => p_Shares A B g r c d W hl hn (hR.on h) hW (hS.on h) hV)
  have H3 := Lib.hid (fun W (h : Below w.heap.size w W) => p_Until A B g r c d W hl hn (hR.on h) hW (hS.on h) hV)
  have hzl : (shZ g r).length ≤ 100000 := by have := endN_len r r.length; rw [shZ_len]; omega
  have hzp : 0 < (shZ g r).length := by rw [shZ_len]; exact end_pos hv
  have hzr : (shZ g r).length ≤ 40 := by have := endN_len r r.length; rw [shZ_len]; omega
  have H4 := Lib.hid (fun day L (hL : L.length ≤ 100000) W (h : Below w.heap.size w W) C f hC => p_May A B none C g r [] day L c d 0 f W hl hn (by simp) hL (hR.on h) hW (hS.on h) hV Rd.nil_ hC)
  simp only [List.length_nil] at H4
  have HS1 := Lib.hid (share_may hvr)
  have HS2 := Lib.hid (fun i x hx => more_no hvr (i := i) (x := x) hx)
  have HBD := Lib.hid (shZ_bd hv)
  obtain ⟨i0, hi, hi1, hi2, hi3⟩ := info_int2
  have HLT := Lib.hid (fun day h1 h2 => late_no hvr (day := day) h1 h2)
  rw [hsE] at H2
  rw [hsE, hun] at H3
  have HO := Lib.hid (zC_one (shZ g r))
  have HVV := Lib.hid hv
  have HVR := Lib.hid hvr
  have HLK := Lib.hid (fun a hs day hd hdu => look_may hvr (a := a) hs (day := day) hd hdu)
  have hlg := hv.lg
  clear hv hun hsE
  generalize unN g r r.length = U at *
  generalize shZ g r = Z at *
  go_enter Try.func10, Try.ntmps10
  go_wp2_with (first
    | (go_at_call 18; ((with_reducible refine (H1.out _ hvr).mono ?_); rintro e w1 ⟨rfl, hb1⟩; obtain ⟨hc1, hf1⟩ := bcell hb1; have hz1 := hb1.size; (try simp [sz_drew, sz_drewN] at hz1); (try simp only [sz_drew, sz_drewN] at hc1 hf1)))
    | (go_at_call 35; ((with_reducible refine (H2.out _ hb1).mono ?_); rintro e w2 ⟨v, rfl, hv2, hb2⟩; obtain ⟨gl, cl, rfl, hgl, HL2⟩ := own_LI hv2 hzp; have B2 := below_tr hb1 hb2))
    | (go_at_call 31; ((with_reducible refine (H3.out _ B2).mono ?_); rintro e w3 ⟨rfl, hb3⟩; have B3 := below_tr B2 hb3; have HL3 := HL2.on hb3))
    | (go_at_call 38; have hm := H4.out U Z hzl _ B3 _ cl HL3.rd; rw [HS1.out.1, HS1.out.2] at hm; ((with_reducible refine hm.mono ?_); rintro e w4 ⟨rfl, hb4⟩; have B4 := below_tr B3 hb4; have HL4 := HL3.on hb4)))
  have gl0 : w.heap.size ≤ gl := by have := B2.size; have := hb1.size; omega
  clear hb2 hb3 hb4 HL2 HL3 hv2 B2 B3 hm
  go_loopw [12] (fun i wr => ∃ k : Nat, k ≤ Z.length ∧ i = .int .i64 k ∧ Below w.heap.size w wr ∧ LI wr gl Z) (fun i _ => Z.length - (intOf i).toNat)
  case atStart => exact ⟨0, by omega, rfl, B4, HL4⟩
  case round =>
    clear B4 HL4
    obtain ⟨k, hk, rfl, hbw, HLL⟩ := hrel
    have k0 : (0 : Int) ≤ (k : Int) := Int.natCast_nonneg _
    by_cases hlt : k < Z.length
    · have k1 : (k : Int) < (Z.length : Int) := by omega
      obtain ⟨x, hx⟩ := get_lt hlt
      obtain ⟨x0, x1⟩ := HBD.out k x hx
      obtain ⟨m1, m2⟩ := HS2.out k x hx
      have HX := Lib.hid hx
      have hsl : (Z.set k (x + 1)).length = Z.length := List.length_set ..
      clear hx
      have hm0 := fun W h C f hC => H4.out U (Z.set k (x + 1)) (by rw [hsl]; exact hzl) W h C f hC
      rw [m1, hsl] at hm0
      have HM0 := Lib.hid hm0
      clear hm0 m1
      generalize wkE g r [] U (Z.set k (x + 1)) = E at *
      rcases m2 with rfl | rfl
      all_goals
        go_wp2_with (first
          | (at_builtin; go_loud (refine wpList_append_own _ rfl _ _ 30 rfl wr.heap.size 3 i0 (.int .i64 0) 1 8 (by kernel_rfl) hi hi1 hi2 hi3 rfl (by omega) _ _ _ rfl (own_none wr _ 1) ⟨gl, 0, none⟩ Z.length cl (fl zC Z) rfl (fl_length zC_len Z) (rd_fl zC_len (HLL.alloc _).rd) HO.out (by unfold maxLen; omega) (by omega) (by simp) ?_; intro v w5 hown hgrow _; rw [Nat.zero_add, List.nil_append] at hown; have hb5 : Below wr.heap.size wr w5 := bl_grown (below_alloc wr _) hgrow (fun r hr => by cases hr; exact Nat.le_refl _) (by simp); obtain ⟨gm, cap, rfl, hgm, HL5⟩ := own_LI hown hzp; have q1 := HL5.cell HX.out; have q2 := HL5.frozen k; have B5 := below_tr hbw hb5; have gm0 : w.heap.size ≤ gm := (by have := hbw.size; omega); have B6 := Below.setCell (p := ⟨gm, k, none⟩) B5 gm0 (.int .i64 (x + 1)); have HL6 := HL5.set HX.out (x + 1); have HL7 := (HLL.on hb5).far (p := ⟨gm, k, none⟩) (by have := HLL.lt; show gl ≠ gm; omega) (.int .i64 (x + 1))))
          | (go_at_call 38; ((with_reducible refine (HM0.out _ B6 _ cap HL6.rd).mono ?_); rintro e w7 ⟨rfl, hb7⟩; have B7 := below_tr B6 hb7; have HL8 := HL7.on hb7)))
        go_roundw
        case rel => exact ⟨k + 1, by omega, by go_num, B7, HL8⟩
        case measure => simp [intOf]; omega
    · by_cases hday : 100000 < U + lat
      · go_wp2_with (go_at_call 48; ((with_reducible refine (l_awake7 _).mono ?_); rintro e w6 ⟨rfl, hb6⟩; obtain ⟨hc6, hf6⟩ := bcell hb6; have hz6 := hb6.size; (try simp [sz_drew, sz_drewN] at hz6); (try simp only [sz_drew, sz_drewN] at hc6 hf6)))
        go_ret
        exact ⟨rfl, below_tr hbw hb6⟩
      have hd1 : U < U + lat := by omega
      have hd2 : U + lat ≤ 100000 := by omega
      have hd3 : 0 ≤ U + lat := by omega
      have hlate := HLT.out (U + lat) hd1 hd2
      have hm := H4.out (U + lat) Z hzl wr hbw _ cl HLL.rd
      rw [hlate.1, hlate.2] at hm
      have HM := Lib.hid hm
      have HDW := Lib.hid (wn_iff.2 ⟨hd3, hd2⟩ : wn (U + lat) 0 100000 = true)
      clear hm hlate
      go_wp2_with (go_at_call 38; ((with_reducible refine HM.out.mono ?_); rintro e w6 ⟨rfl, hb6⟩; have B6 := below_tr hbw hb6; have HL6 := HLL.on hb6))
      go_loopw [17, 18] (fun v i wv => ∃ (k : Nat) (a : List It) (A' : Option Addr) (c' : Nat), k ≤ r.length ∧ i = .int .i64 k ∧ v = .slice A' a.length c' ∧ a.length ≤ c' ∧ c' ≤ maxLen ∧ Rd It.cs 4 wv A' a ∧ Below w.heap.size w wv ∧ LI wv gl Z ∧ Hid (Sm a g ∧ ∀ j, j < k → U + lat ≤ (itR a (lkAt r j)).du)) (fun _ i _ => r.length - (intOf i).toNat)
      case atStart => exact ⟨0, g, A, c, by omega, rfl, rfl, hc, hcm, hR.on B6, B6, HL6, Lib.hid ⟨Sm.refl HVV.out.vg, fun j hj => by omega⟩⟩
      case round =>
        clear HLL hbw hb6 B6 HL6
        obtain ⟨k, a, A', c', hk, rfl, rfl, ha1, ha2, hRa, hbw, HLL, HI⟩ := hrel
        have hal : a.length ≤ 64 := by rw [HI.out.1.len]; exact hlg
        have k0 : (0 : Int) ≤ (k : Int) := Int.natCast_nonneg _
        by_cases hlt : k < r.length
        · have k1 : (k : Int) < (r.length : Int) := by omega
          obtain ⟨x, b, off, hx, rfl, hb, q0, q1⟩ := rdL (hS.on hbw) hlt
          have iw := (hV x (List.mem_of_getElem? hx)).m
          have f1 := HVV.out.fnd k x hx
          have hva := HI.out.1.ok HVV.out.vg
          have hfa := HI.out.1.fnd x.nm
          have f1a : 0 ≤ fndI a x.nm := by rw [hfa]; exact f1
          have f2 := (fnd_bd a x.nm).2
          have hfe : fdE a x.nm = 0 := by unfold fdE; rw [if_pos hva, if_pos f1a]
          have hfi : fdI a x.nm = fndI a x.nm := by unfold fdI; rw [if_pos ⟨hva, f1a⟩]
          have HF := Lib.hid (p_Find A' a c' x.nm wr (by omega) hRa (HI.out.1.iw hW) iw)
          have HLOOK := Lib.hid (fun W (h : Below wr.heap.size wr W) => p_LookedC A' a c' x.nm (U + lat) W (by omega) ha1 ha2 (hRa.on h) (HI.out.1.iw hW) iw)
          have hle : lkE a x.nm (U + lat) = 0 := by unfold lkE; rw [if_pos hva, if_pos HDW.out, if_pos f1a]
          have hlL : lkL a x.nm (U + lat) = setDu a (fndI a x.nm).toNat (U + lat) := by unfold lkL; rw [if_pos hle]
          rw [hfe, hfi] at HF
          rw [hle, hlL] at HLOOK
          have hit : itR a (lkAt r k) = itAt a (fndI a x.nm).toNat := by rw [lkAt_of hx]; rfl
          obtain ⟨v, hn'⟩ := Int.eq_ofNat_of_zero_le f1a
          rw [hn'] at HF HLOOK f2 hit
          have hvt : ((v : Nat) : Int).toNat = v := by omega
          rw [hvt] at HLOOK hit
          obtain ⟨it, gb, goff, hz, hA, hgb, d0, d1, d2, d3⟩ := rdI hRa (show v < a.length by omega)
          have hita := itAt_of hz
          have v0 : (0 : Int) ≤ (v : Int) := Int.natCast_nonneg _
          have v1 : (v : Int) < (a.length : Int) := by omega
          have hsl : (setDu a v (U + lat)).length = a.length := by unfold setDu; rw [List.length_set]
          rw [hsl] at HLOOK
          have HSL := Lib.hid hsl
          clear hsl
          have HIT := Lib.hid hit
          have HITA := Lib.hid hita
          have HVA := Lib.hid (show v < a.length by omega)
          subst hA
          have q0' := Lib.hid (fun W (h : Below wr.heap.size wr W) => show W.cell? ⟨b, off + k * 2, none⟩ = some (.string x.nm) from (h.cell (p := ⟨b, _, none⟩) (by have := hbw.size; show b < wr.heap.size; omega)).trans q0)
          have d2' := Lib.hid (fun W (h : Below wr.heap.size wr W) => show W.cell? ⟨gb, goff + v * 4 + 2, none⟩ = some (.int .i64 it.du) from (h.cell (p := ⟨gb, _, none⟩) hgb).trans d2)
          generalize hDU : it.du = D at *
          have HDU := Lib.hid hDU
          have HFN := Lib.hid (show (fndI a (lkAt r k).nm).toNat = v by rw [lkAt_of hx, hn', hvt])
          clear hx hz hn' d0 d1 d2 d3 hit hita iw hDU hvt hfa f1a f1 hfe hfi hle hlL
          by_cases hD : D < U + lat
          · go_wp2_with (first
              | (go_at_call 13; ((with_reducible refine HF.out.mono ?_); rintro e w7 ⟨rfl, hb7⟩; have B7 := below_tr hbw hb7; have HL7 := HLL.on hb7; have e1 := q0'.out _ hb7; have e2 := d2'.out _ hb7))
              | (go_at_call 22; ((with_reducible refine (HLOOK.out _ hb7).mono ?_); rintro e w8 ⟨A8, c8, rfl, hr8, hc8, hc8', hb8⟩; have B8 := below_tr B7 hb8; have HL8 := HL7.on hb8)))
            go_roundw
            case rel => exact ⟨k + 1, setDu a v (U + lat), A8, c8, by omega, by go_num, by rw [HSL.out], by rw [HSL.out]; exact hc8, hc8', hr8, B8, HL8, Lib.hid ⟨HI.out.1.set HVA.out ⟨by omega, by omega⟩, fun j hj => by
              have hfs : ∀ s, fndI (setDu a v (U + lat)) s = fndI a s := fun s => by rw [(HI.out.1.set HVA.out ⟨by omega, by omega⟩).fnd, HI.out.1.fnd]
              unfold itR
              rw [hfs]
              by_cases hjk : j = k
              · subst hjk
                rw [HFN.out, set_at HVA.out]; exact Int.le_refl _
              · exact set_du HVA.out (HI.out.2 j (by omega))⟩⟩
            case measure => simp [intOf]; omega
          · go_wp2_with (go_at_call 13; ((with_reducible refine HF.out.mono ?_); rintro e w7 ⟨rfl, hb7⟩; have B7 := below_tr hbw hb7; have HL7 := HLL.on hb7; have e1 := q0'.out _ hb7; have e2 := d2'.out _ hb7))
            go_roundw
            case rel => exact ⟨k + 1, a, some ⟨gb, goff, none⟩, c', by omega, by go_num, rfl, ha1, ha2, hRa.on hb7, B7, HL7, Lib.hid ⟨HI.out.1, fun j hj => by
              by_cases hjk : j = k
              · subst hjk
                rw [HIT.out, HITA.out, HDU.out]; omega
              · exact HI.out.2 j (by omega)⟩⟩
            case measure => simp [intOf]; omega
        · obtain rfl : k = r.length := by omega
          have hlk := HLK.out a HI.out.1 (U + lat) HDW.out HI.out.2
          have hma := p_May A' B none (some ⟨gl, 0, none⟩) a r [] (U + lat) Z c' d 0 cl wr (by omega) hn (by simp) hzl hRa (HI.out.1.iw hW) (hS.on hbw) hV Rd.nil_ HLL.rd
          rw [hlk.1, hlk.2] at hma
          simp only [List.length_nil] at hma
          have HMA := Lib.hid hma
          clear hma hlk
          go_wp2_with (first
            | (go_at_call 38; ((with_reducible refine HMA.out.mono ?_); rintro e w7 ⟨rfl, hb7⟩; have B7 := below_tr hbw hb7))
            | (go_at_call 48; ((with_reducible refine (l_awake7 _).mono ?_); rintro e w8 ⟨rfl, hb8⟩; obtain ⟨hc8, hf8⟩ := bcell hb8; have hz8 := hb8.size; (try simp [sz_drew, sz_drewN] at hz8); (try simp only [sz_drew, sz_drewN] at hc8 hf8))))
          go_ret
          exact ⟨rfl, below_tr B7 hb8⟩
end Go.Proofs.Ytijlglanpgcdiaa
