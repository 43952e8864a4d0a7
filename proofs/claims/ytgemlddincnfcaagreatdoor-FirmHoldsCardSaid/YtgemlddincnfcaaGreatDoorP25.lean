/- The parts of the proof, part 25. -/
import Derived.Test.YtgemlddincnfcaaGreatDoorP0
import Derived.Test.YtgemlddincnfcaaGreatDoorP19
import Derived.Test.YtgemlddincnfcaaGreatDoorP24
import Derived.Deep.DeepCutAuto
set_option linter.unusedSimpArgs false
set_option linter.unusedVariables false
namespace Go.Proofs.YtgemlddincnfcaaGreatDoor.Fi
open Go.RowKit Go.Lib Tx
set_option maxHeartbeats 4000000 in
set_option maxRecDepth 20000 in
theorem d_rigup (i : Int) (l : Sl G.Lk) (T : Nat → Prop) (nb sb rb : Nat) (L : LS) (w : World) (hN : Nxt T nb sb rb w L) (hI : Inv L.val) (hll : l.l.length ≤ 100000) (hlw : ∀ q ∈ l.l, G.LW q) (hRl : Rd G.Lk.cs 2 w l.a l.l) :
  Calls Tryz.prog 282 #[.agg #[.int .i64 i, .slice l.a l.l.length l.c], .pointer (some ⟨nb, 0, none⟩)] w (DeedP (.rig i l.l) T nb sb rb L w) := by
 have x0 := Blk.new w 155 #[.int .i64 i, .slice l.a l.l.length l.c]
 have B0 := bl_alloc (below_refl w) (.cells #[.int .i64 i, .slice l.a l.l.length l.c] 155)
 have b0 := x0.cell 0
 have b1 := x0.cell 1
 simp only [GA] at b0 b1
 have hN0 := hN.on B0
 have hsl : L.sites.l.length ≤ 8 := hI.slen
 have hsl0 : L.sites.l.length ≤ 1000 := by omega
 cases hth : thB L.val i
 ·have HX := Lib.hid (show deed (.rig i l.l) L.val = .error 5 by unfold deed; dsimp only; rw [if_pos hth])
  have HAT := Lib.hid (f_at_no nb L i _ hN0.cel hsl0 hth)
  go_enter Tryz.func282, Tryz.ntmps282
  go_wp2_with (go_at_call 256; ((with_reducible refine (HAT.out).mono ?_); rintro e w' ⟨rfl, rfl⟩))
  exact ⟨rfl, deed_err HX.out B0⟩
 obtain ⟨i0, i1⟩ := thB_iff.1 hth
 obtain ⟨k, rfl⟩ := Int.eq_ofNat_of_zero_le i0
 have hk : k < L.sites.l.length := by omega
 obtain ⟨s, cur, hs, ha, hbs, hir, c0, c1, c2⟩ := hN0.site hk
 have hfz := hbs.frozen
 have HAT := Lib.hid (f_at nb L k _ sb 0 hN0.cel hsl0 hk ha)
 have HSA := Lib.hid (siteA_of hs)
 have hsm := hI.men hs
 have lsb := hbs.lt
 have lnb := hN0.lt
 have lw := x0.lt
 have hRl0 := hRl.on B0
 have hrl : L.rigs.l.length ≤ 50 := by have h := hI.rl; unfold LS.val at h; dsimp only at h; rw [List.length_map] at h; exact h
 have hit : G.vldG L.items.l = true := hI.it
 have hiw : ∀ x ∈ L.items.l, G.IW x := hI.iw
 have hil : L.items.l.length ≤ 100000 := by have := G.vldG_len hit; omega
 have hbl : L.back.l.length ≤ 100000 := by have : L.back.l.length ≤ 100 := hI.bl; omega
 have dd0 : 0 ≤ L.day := hI.d0
 have dd1 : L.day ≤ 100000 := hI.d1
 have HX2 := Lib.hid (show deed (.rig (k : Int) l.l) L.val = if s.fel = true then .error 10 else if ((G.vldG L.items.l && G.vldR L.items.l l.l) && decide (L.rigs.l.length < 50)) = false then .error 1
   else if l.l.any (badK L.val) = true then .error 12 else .ok { L.val with rigs := L.val.rigs ++ [⟨(k : Int), l.l⟩] } by
  have e : L.val.rigs.length = L.rigs.l.length := by unfold LS.val; dsimp only; rw [List.length_map]
  unfold deed; dsimp only; rw [if_neg (by rw [hth]; simp), HSA.out, e]; rfl)
 have hfn := hN0.blk.frozen
 have c17 : (w.alloc (.cells #[.int .i64 (k : Int), .slice l.a l.l.length l.c] 155)).cell? ⟨nb, 17, none⟩ = some (.int .i64 L.day) := hN0.cel 17 _ rfl
 have c19 : (w.alloc (.cells #[.int .i64 (k : Int), .slice l.a l.l.length l.c] 155)).cell? ⟨nb, 19, none⟩ = some (.slice L.rigs.a L.rigs.l.length L.rigs.c) := hN0.cel 19 _ rfl
 have c21 : (w.alloc (.cells #[.int .i64 (k : Int), .slice l.a l.l.length l.c] 155)).cell? ⟨nb, 21, none⟩ = some (.slice L.items.a L.items.l.length L.items.c) := hN0.cel 21 _ rfl
 have c22 : (w.alloc (.cells #[.int .i64 (k : Int), .slice l.a l.l.length l.c] 155)).cell? ⟨nb, 22, none⟩ = some (.slice L.back.a L.back.l.length L.back.c) := hN0.cel 22 _ rfl
 clear c0 c2
 cases hfel : s.fel
 rotate_left
 ·have HX := Lib.hid (show deed (.rig (k : Int) l.l) L.val = .error 10 by rw [HX2.out, if_pos hfel])
  rw [hfel] at c1
  go_enter Tryz.func282, Tryz.ntmps282
  go_wp2_with (first | (go_at_call 256; ((with_reducible refine (HAT.out).mono ?_); rintro e w' ⟨rfl, rfl⟩)) | (go_at_call 112; ((with_reducible refine (f_must_no _ _).mono ?_); rintro e w' ⟨rfl, rfl⟩)))
  exact ⟨rfl, deed_err HX.out B0⟩
 rw [hfel] at c1
 go_enter Tryz.func282, Tryz.ntmps282
 go_upto_region 2 with (first | (go_at_call 256; ((with_reducible refine (HAT.out).mono ?_); rintro e w' ⟨rfl, rfl⟩)) | (go_at_call 112; ((with_reducible refine (f_must_ok _ _).mono ?_); rintro e w' ⟨rfl, rfl⟩)))
 generalize (w.alloc (.cells #[.int .i64 (k : Int), .slice l.a l.l.length l.c] 155)) = w1 at *
 have HVRr := Lib.hid (fun w' (h : Below w1.heap.size w1 w') b hb => G.p_ValidRigV (b := b) (c := L.items.c) (d := l.c) hb hil hll ((hN0.on h).items.rd) hiw (hRl0.on h) hlw)
 have HHG := Lib.hid (fun w' (h : Below w1.heap.size w1 w') m lb hc => (hN0.on h).hangs hI m lb hc)
 have HFDr := Lib.hid (fun w' (h : Below w1.heap.size w1 w') (m : ByteArray) (hm : m.size ≤ maxLen) => G.p_Find L.items.a L.items.l L.items.c m w' hil ((hN0.on h).items.rd) hiw hm)
 have HCTr := Lib.hid (fun w' (h : Below w1.heap.size w1 w') (m : ByteArray) => G.p_contains L.back.a L.back.l L.back.c m w' hbl (hN0.on h).back.rd)
 have HIR := Lib.hid (hN0.items.rd)
 have HLR := Lib.hid hRl0
 have HLW := Lib.hid hlw
 have HIT := Lib.hid hit
 have HCLr := Lib.hid (fun w' (h : Below w1.heap.size w1 w') => (show Calls Tryz.prog 36 #[.slice l.a l.l.length l.c] w' (CloP G.Lk.cs 2 79 l.l w') from c_CloneLink l w' hll (hRl0.on h)))
 have HN0 := Lib.hid hN0
 have HI := Lib.hid hI
 clear hI hN0 hRl0 hlw hit hiw hRl
 cases hvr : (G.vldG L.items.l && G.vldR L.items.l l.l)
 ·have HX := Lib.hid (show deed (.rig (k : Int) l.l) L.val = .error 1 by rw [HX2.out, if_neg (by rw [hfel]; simp), hvr]; rfl)
  have HVR := Lib.hid (fun w' (h : Below w1.heap.size w1 w') => HVRr.out w' h _ hvr)
  refine wp_region_held_drew (S := (fun w' => (∀ b o, b < w1.heap.size → w'.cell? ⟨b, o, none⟩ = w1.cell? ⟨b, o, none⟩) ∧ (∀ b o, b < w1.heap.size → w'.frozen? ⟨b, o, none⟩ = w1.frozen? ⟨b, o, none⟩) ∧ Below w1.heap.size w1 w')) (by kernel_rfl) (kq_draw kq_refl) (fun hS0 => ?_)
  refine tk 0 18 ?gv1 rfl ?_; try simp only [AP]
  refine tk 1 19 ?gv3 rfl ?_; try simp only [AP]
  refine tk 2 20 ?gv5 rfl ?_; try simp only [AP]
  refine tk 3 21 ?gv7 rfl ?_; try simp only [AP]
  refine tk 4 22 ?gv9 rfl ?_; try simp only [AP]
  refine tk 5 23 ?gv11 rfl ?_; try simp only [AP]
  refine wpAnyH_ready (rs := [6]) (by kernel_rfl) (by simp) ?_
  refine AllReadyH.cons rfl (fun K hK => ?_) AllReadyH.nil
  go_simp
  (go_at_call 76; ((with_reducible refine (HVR.out _ bl).mono ?_); rintro e w3 ⟨rfl, hb3⟩; obtain ⟨hc3, hf3⟩ := bcell hb3; have hz3 := hb3.size; (try simp [SZ] at hz3); (try simp only [SZ] at hc3 hf3)))
  refine hK.out _ _ kq (fun hS1 => ?_)
  clear hK K
  try simp only [AP]
  refine tk 7 25 ?gv13 rfl ?_; try simp only [AP]
  refine tu 8 26 7 true rfl ?_; try simp only [AP]
  refine tu 9 27 7 true rfl ?_; try simp only [AP]
  refine tu 10 28 7 true rfl ?_; try simp only [AP]
  refine tu 11 29 7 true rfl ?_; try simp only [AP]
  refine tu 12 30 7 true rfl ?_; try simp only [AP]
  refine tu 13 31 7 true rfl ?_; try simp only [AP]
  refine tk 14 32 ?gv21 rfl ?_; try simp only [AP]
  refine wpAnyH_ready (rs := [15]) (by kernel_rfl) (by simp) ?_
  refine AllReadyH.cons rfl (fun K hK => ?_) AllReadyH.nil
  go_simp
  (go_at_call 112; ((with_reducible refine (f_must_no _ _).mono ?_); rintro e w' ⟨rfl, rfl⟩))
  exact ⟨rfl, deed_err HX.out bl⟩
 have HVR := Lib.hid (fun w' (h : Below w1.heap.size w1 w') => HVRr.out w' h _ hvr)
 by_cases hlen : L.rigs.l.length < 50
 rotate_left
 ·have g1 : decide (L.rigs.l.length < 50) = false := decide_eq_false hlen
  have g2 : decide ((L.rigs.l.length : Int) < 50) = false := decide_eq_false (by omega)
  have HX := Lib.hid (show deed (.rig (k : Int) l.l) L.val = .error 1 by rw [HX2.out, if_neg (by rw [hfel]; simp), hvr, g1]; rfl)
  refine wp_region_held_drew (S := (fun w' => (∀ b o, b < w1.heap.size → w'.cell? ⟨b, o, none⟩ = w1.cell? ⟨b, o, none⟩) ∧ (∀ b o, b < w1.heap.size → w'.frozen? ⟨b, o, none⟩ = w1.frozen? ⟨b, o, none⟩) ∧ Below w1.heap.size w1 w')) (by kernel_rfl) (kq_draw kq_refl) (fun hS0 => ?_)
  refine tk 0 18 ?gv23 rfl ?_; try simp only [AP]
  refine tk 1 19 ?gv25 rfl ?_; try simp only [AP]
  refine tk 2 20 ?gv27 rfl ?_; try simp only [AP]
  refine tk 3 21 ?gv29 rfl ?_; try simp only [AP]
  refine tk 4 22 ?gv31 rfl ?_; try simp only [AP]
  refine tk 5 23 ?gv33 rfl ?_; try simp only [AP]
  refine wpAnyH_ready (rs := [6]) (by kernel_rfl) (by simp) ?_
  refine AllReadyH.cons rfl (fun K hK => ?_) AllReadyH.nil
  go_simp
  (go_at_call 76; ((with_reducible refine (HVR.out _ bl).mono ?_); rintro e w3 ⟨rfl, hb3⟩; obtain ⟨hc3, hf3⟩ := bcell hb3; have hz3 := hb3.size; (try simp [SZ] at hz3); (try simp only [SZ] at hc3 hf3)))
  refine hK.out _ _ kq (fun hS1 => ?_)
  clear hK K
  try simp only [AP]
  refine tk 7 25 ?gv35 rfl ?_; try simp only [AP]
  refine tg 8 26 7 true ?gv37 rfl ?_; try simp only [AP]
  refine tg 9 27 7 true ?gv39 rfl ?_; try simp only [AP]
  refine tg 10 28 7 true ?gv41 rfl ?_; try simp only [AP]
  refine tg 11 29 7 true ?gv43 rfl ?_; try simp only [AP]
  refine tg 12 30 7 true ?gv45 rfl ?_; try simp only [AP]
  refine tg 13 31 7 true ?gv47 rfl ?_; try simp only [AP]
  refine tk 14 32 ?gv49 rfl ?_; try simp only [AP]
  refine wpAnyH_ready (rs := [15]) (by kernel_rfl) (by simp) ?_
  refine AllReadyH.cons rfl (fun K hK => ?_) AllReadyH.nil
  go_simp
  (go_at_call 112; ((with_reducible refine (f_must_no _ _).mono ?_); rintro e w' ⟨rfl, rfl⟩))
  exact ⟨rfl, deed_err HX.out bl⟩
 have g1 : decide (L.rigs.l.length < 50) = true := decide_eq_true hlen
 have g2 : decide ((L.rigs.l.length : Int) < 50) = true := decide_eq_true (by omega)
 have HX3 := Lib.hid (show deed (.rig (k : Int) l.l) L.val = if l.l.any (badK L.val) = true then .error 12 else .ok { L.val with rigs := L.val.rigs ++ [⟨(k : Int), l.l⟩] } by rw [HX2.out, if_neg (by rw [hfel]; simp), hvr, g1]; rfl)
 have HVP := Lib.hid (vldR_parts HIT.out (Bool.and_eq_true_iff.1 hvr).2)
 refine wp_region_noPanic ?_
 refine wp_region_held_drew (S := (fun w' => (∀ b o, b < w1.heap.size → w'.cell? ⟨b, o, none⟩ = w1.cell? ⟨b, o, none⟩) ∧ (∀ b o, b < w1.heap.size → w'.frozen? ⟨b, o, none⟩ = w1.frozen? ⟨b, o, none⟩) ∧ Below w1.heap.size w1 w')) (by kernel_rfl) (kq_draw kq_refl) (fun hS0 => ?_)
 refine tk 0 18 ?gv51 rfl ?_; try simp only [AP]
 refine tk 1 19 ?gv52 rfl ?_; try simp only [AP]
 refine tk 2 20 ?gv53 rfl ?_; try simp only [AP]
 refine tk 3 21 ?gv54 rfl ?_; try simp only [AP]
 refine tk 4 22 ?gv55 rfl ?_; try simp only [AP]
 refine tk 5 23 ?gv56 rfl ?_; try simp only [AP]
 refine wpAnyH_ready (rs := [6]) (by kernel_rfl) (by simp) ?_
 refine AllReadyH.cons rfl (fun K hK => ?_) AllReadyH.nil
 go_simp
 (go_at_call 76; ((with_reducible refine (HVR.out _ bl).mono ?_); rintro e w3 ⟨rfl, hb3⟩; obtain ⟨hc3, hf3⟩ := bcell hb3; have hz3 := hb3.size; (try simp [SZ] at hz3); (try simp only [SZ] at hc3 hf3)))
 refine hK.out _ _ kq (fun hS1 => ?_)
 clear hK K
 try simp only [AP]
 refine tk 7 25 ?gv57 rfl ?_; try simp only [AP]
 refine tg 8 26 7 true ?gv58 rfl ?_; try simp only [AP]
 refine tg 9 27 7 true ?gv59 rfl ?_; try simp only [AP]
 refine tg 10 28 7 true ?gv60 rfl ?_; try simp only [AP]
 refine tg 11 29 7 true ?gv61 rfl ?_; try simp only [AP]
 refine tg 12 30 7 true ?gv62 rfl ?_; try simp only [AP]
 refine tg 13 31 7 true ?gv63 rfl ?_; try simp only [AP]
 refine tk 14 32 ?gv64 rfl ?_; try simp only [AP]
 refine wpAnyH_ready (rs := [15]) (by kernel_rfl) (by simp) ?_
 refine AllReadyH.cons rfl (fun K hK => ?_) AllReadyH.nil
 go_simp
 (go_at_call 112; ((with_reducible refine (f_must_ok _ _).mono ?_); rintro e w' ⟨rfl, rfl⟩))
 refine hK.out _ _ kq (fun hS2 => ?_)
 clear hK K
 try simp only [AP]
 refine wpAnyH_done (by kernel_rfl) (NoPanic.normal ?_) _
 obtain ⟨wq, hwq⟩ : ∃ x, x = w3 := ⟨_, rfl⟩
 have BQ : Below w1.heap.size w1 w3 := bl
 rw [← hwq] at BQ
 rw [← hwq]
 obtain ⟨hcq, hfq⟩ := bcell BQ
 have lzq := BQ.size
 have lq : ∀ z, z < w1.heap.size → z < wq.heap.size := fun z hz => by omega
 have lwq := lq _ lw
 have lnbq := lq _ lnb
 have qb0 := (hcq w.heap.size 0 lw).trans b0
 have qb1 := (hcq w.heap.size 1 lw).trans b1
 have q17 := (hcq nb 17 lnb).trans c17
 have q19 := (hcq nb 19 lnb).trans c19
 have q21 := (hcq nb 21 lnb).trans c21
 have q22 := (hcq nb 22 lnb).trans c22
 have qfn := fun j => (hfq nb j lnb).trans (hfn j)
 clear hwq hcq hfq b0 b1 c17 c19 c21 c22 hfn hc3 hf3 hz3 hb3 c1 HVR HVRr hS0 hS1 hS2
 go_wp2
 go_loopw [37] (fun j wr => ∃ q : Nat, q ≤ l.l.length ∧ j = .int .i64 q ∧ Below wq.heap.size wq wr ∧ Hid ((l.l.take q).any (badK L.val) = false)) (fun j _ => l.l.length - (RowKit.intOf j).toNat)
 case atStart => exact ⟨0, by omega, rfl, below_refl _, Lib.hid rfl⟩
 case round =>
  obtain ⟨q, hq, rfl, hbw, HB⟩ := hrel
  have q0 : (0 : Int) ≤ (q : Int) := Int.natCast_nonneg _
  obtain ⟨hcr, hfr⟩ := bcell hbw
  have lzr := hbw.size
  have lr : ∀ z, z < wq.heap.size → z < wr.heap.size := fun z hz => by omega
  have lwr := lr _ lwq
  have lnbr := lr _ lnbq
  have BW1 := below_tr BQ hbw
  by_cases hlt : q < l.l.length
  ·have q1 : (q : Int) < (l.l.length : Int) := by omega
   obtain ⟨x, xb, xo, hx, hxa, hxl, d0, d1⟩ := G.rdL (HLR.out.on BW1) hlt
   obtain ⟨v0, v1, v2, v3⟩ := HVP.out.2 x (List.mem_of_getElem? hx)
   have hxw := HLW.out x (List.mem_of_getElem? hx)
   have hxm := hxw.m
   have HTK := Lib.hid (show ∀ b, badK L.val x = b → (l.l.take (q + 1)).any (badK L.val) = b from fun b hb => by rw [List.take_add_one, hx, List.any_append, HB.out]; simp [hb])
   have HAN := Lib.hid (show badK L.val x = true → l.l.any (badK L.val) = true from fun h => List.any_eq_true.2 ⟨x, List.mem_of_getElem? hx, h⟩)
   obtain ⟨n, hn⟩ := Int.eq_ofNat_of_zero_le v0
   have hnl : n < L.items.l.length := by have := (G.fnd_bd L.items.l x.nm).2; omega
   obtain ⟨y, yb, yo, hy, hya, hyl, y0, y1, y2, y3⟩ := G.rdI (HIR.out.on BW1) hnl
   have HBK := Lib.hid (show badK L.val x = (hangB L.val x.nm || (decide (y.du < L.day) || G.hasB L.back.l y.bt)) by
    unfold badK
    show (hangB L.val x.nm || (decide ((G.itAt L.items.l (G.fndI L.items.l x.nm).toNat).du < L.day) || memB L.back.l (G.itAt L.items.l (G.fndI L.items.l x.nm).toNat).bt)) = _
    rw [hn, Int.toNat_natCast, G.itAt_of hy, memB_is])
   have HFDp := Lib.hid (fun w' (h : Below wr.heap.size wr w') => (show Calls Tryz.prog 286 #[.slice L.items.a L.items.l.length L.items.c, .string x.nm] w' fun e w2 => e = .returned (.tuple #[.int .i64 (n : Int), .int .i64 0]) ∧ Below w'.heap.size w' w2 by
    have h1 := HFDr.out w' (below_tr BW1 h) x.nm hxm
    have e1 : G.fdI L.items.l x.nm = (n : Int) := by unfold G.fdI; rw [if_pos ⟨HIT.out, by omega⟩]; exact hn
    have e2 : G.fdE L.items.l x.nm = 0 := by unfold G.fdE; rw [if_pos HIT.out, if_pos (by omega)]
    rw [e1, e2] at h1; exact h1))
   have HCTp := Lib.hid (fun w' (h : Below wr.heap.size wr w') => HCTr.out w' (below_tr BW1 h) y.bt)
   have r17 := (hcr nb 17 lnbq).trans q17
   have r19 := (hcr nb 19 lnbq).trans q19
   have r21 := (hcr nb 21 lnbq).trans q21
   have r22 := (hcr nb 22 lnbq).trans q22
   rw [hya] at r21 HFDp
   have n0 : (0 : Int) ≤ (n : Int) := Int.natCast_nonneg _
   have n1 : (n : Int) < (L.items.l.length : Int) := by omega
   have x5 := Blk.new wr 79 #[.string x.nm, .int .i64 x.fr]
   have B5 := bl_alloc (below_refl wr) (.cells #[.string x.nm, .int .i64 x.fr] 79)
   have e0 := x5.cell 0
   simp only [GA] at e0
   have l5 := x5.lt
   have HHGp := Lib.hid (HHG.out _ (below_tr BW1 B5) x.nm wr.heap.size e0)
   obtain ⟨LA, LL, LC⟩ := l
   obtain ⟨XN, XF⟩ := x
   obtain ⟨YN, YL, YD, YB⟩ := y
   dsimp only at *
   subst hxa
   clear hx hy hn hya v0 v1 v2 v3 hcr hfr q17 q19 q21 q22 hxw HN0 x5
   go_upto_region 6 with fail
   generalize (wr.alloc (.cells #[.string XN, .int .i64 XF] 79)) = w5 at *
   have HHG := Lib.hid HHGp.out
   obtain ⟨hc5, hf5⟩ := bcell B5
   have lz5 := B5.size
   have s17 := (hc5 nb 17 lnbr).trans r17
   have s19 := (hc5 nb 19 lnbr).trans r19
   have s21 := (hc5 nb 21 lnbr).trans r21
   have s22 := (hc5 nb 22 lnbr).trans r22
   have t2 := (hc5 yb _ hyl).trans y2
   have t3 := (hc5 yb _ hyl).trans y3
   clear r17 r19 r21 r22 y0 y1 y2 y3 hc5 hf5
   have l6 : ∀ z, z < wr.heap.size → z < w5.heap.size := fun z hz => by omega
   have lnb5 := l6 _ lnbr
   have lyb5 := l6 _ hyl
   generalize hHB : hangB L.val XN = HB at *
   go_upto_region 7 with (go_at_call 265; ((with_reducible refine HHG.out.mono ?_); rintro e w6 ⟨rfl, hb6⟩))
   obtain ⟨hc6, hf6⟩ := bcell hb6
   have lz6 := hb6.size
   have B6 : Below wr.heap.size wr w6 := below_tr B5 hb6
   have u17 := (hc6 nb 17 lnb5).trans s17
   have u21 := (hc6 nb 21 lnb5).trans s21
   have u22 := (hc6 nb 22 lnb5).trans s22
   have uu2 := (hc6 yb _ lyb5).trans t2
   have uu3 := (hc6 yb _ lyb5).trans t3
   have ue0 := (hc6 wr.heap.size 0 l5).trans e0
   clear s17 s19 s21 s22 t2 t3 e0 hc6 hf6
   have l7 : ∀ z, z < w5.heap.size → z < w6.heap.size := fun z hz => by omega
   have lnb6 := l7 _ lnb5
   have lyb6 := l7 _ lyb5
   have lx6 := l7 _ l5
   have HFD := Lib.hid (fun w' (h : Below w6.heap.size w6 w') => HFDp.out w' (below_tr B6 h))
   have HCTq := Lib.hid (fun w' (h : Below w6.heap.size w6 w') => HCTp.out w' (below_tr B6 h))
   clear HHG hHB HFDp HCTp
   refine wp_region_noPanic ?_
   refine wp_region_held_drew (S := (fun w' => (∀ b o, b < w6.heap.size → w'.cell? ⟨b, o, none⟩ = w6.cell? ⟨b, o, none⟩) ∧ (∀ b o, b < w6.heap.size → w'.frozen? ⟨b, o, none⟩ = w6.frozen? ⟨b, o, none⟩) ∧ Below w6.heap.size w6 w')) (by kernel_rfl) (kq_draw kq_refl) (fun hS0 => ?_)
   refine tk 0 48 ?gv65 rfl ?_; try simp only [AP]
   refine tk 1 49 ?gv66 rfl ?_; try simp only [AP]
   refine tk 2 50 ?gv67 rfl ?_; try simp only [AP]
   refine tk 3 51 ?gv68 rfl ?_; try simp only [AP]
   refine tk 4 52 ?gv69 rfl ?_; try simp only [AP]
   refine tk 5 53 ?gv70 rfl ?_; try simp only [AP]
   refine wpAnyH_ready (rs := [6]) (by kernel_rfl) (by simp) ?_
   refine AllReadyH.cons rfl (fun K hK => ?_) AllReadyH.nil
   go_simp
   (go_at_call 286; ((with_reducible refine (HFD.out _ bl).mono ?_); rintro e w7 ⟨rfl, hb7⟩; obtain ⟨hc7, hf7⟩ := bcell hb7; have hz7 := hb7.size; (try simp [SZ] at hz7); (try simp only [SZ] at hc7 hf7)))
   refine hK.out _ _ kq (fun hS1 => ?_)
   clear hK K
   try simp only [AP]
   refine tk 7 47 ?gv71 rfl ?_; try simp only [AP]
   refine tk 8 55 ?gv72 rfl ?_; try simp only [AP]
   refine tk 9 56 ?gv73 rfl ?_; try simp only [AP]
   refine tk 10 7 ?gv74 rfl ?_; try simp only [AP]
   refine tk 11 8 ?gv75 rfl ?_; try simp only [AP]
   refine wpAnyH_done (by kernel_rfl) (NoPanic.normal ?_) _
   have B7 : Below w6.heap.size w6 w7 := bl
   obtain ⟨hc7x, hf7x⟩ := bcell B7
   have lz7 := B7.size
   have x17 := (hc7x nb 17 lnb6).trans u17
   have x21 := (hc7x nb 21 lnb6).trans u21
   have x22 := (hc7x nb 22 lnb6).trans u22
   have xx2 := (hc7x yb _ lyb6).trans uu2
   have xx3 := (hc7x yb _ lyb6).trans uu3
   clear u17 u21 u22 uu2 uu3 ue0 hc7x hf7x hc7 hf7 hz7 hS0 hS1
   have l8 : ∀ z, z < w6.heap.size → z < w7.heap.size := fun z hz => by omega
   have lnb7 := l8 _ lnb6
   have lyb7 := l8 _ lyb6
   have HCT := Lib.hid (fun w' (h : Below w7.heap.size w7 w') => HCTq.out w' (below_tr B7 h))
   have BE : Below w.heap.size w w7 := below_tr B0 (below_tr BQ (below_tr hbw (below_tr B6 B7)))
   have BR : Below wq.heap.size wq w7 := below_tr hbw (below_tr B6 B7)
   clear HCTq HFD hb7 hb6 B5 B6 B7
   go_upto_region 9 with (go_at_call 268; ((with_reducible refine (f_passed_ok _).mono ?_); rintro e w' ⟨rfl, rfl⟩))
   cases HB
   rotate_left
   ·have HX := Lib.hid (show deed (.rig (k : Int) LL) L.val = .error 12 by rw [HX3.out, if_pos (HAN.out (by rw [HBK.out]; rfl))])
    refine wp_region_held_drew (S := (fun w' => (∀ b o, b < w7.heap.size → w'.cell? ⟨b, o, none⟩ = w7.cell? ⟨b, o, none⟩) ∧ (∀ b o, b < w7.heap.size → w'.frozen? ⟨b, o, none⟩ = w7.frozen? ⟨b, o, none⟩) ∧ Below w7.heap.size w7 w')) (by kernel_rfl) (kq_draw kq_refl) (fun hS0 => ?_)
    refine tk 0 59 ?gv76 rfl ?_; try simp only [AP]
    refine tk 1 60 ?gv78 rfl ?_; try simp only [AP]
    refine tk 2 61 ?gv80 rfl ?_; try simp only [AP]
    refine tu 3 62 2 true rfl ?_; try simp only [AP]
    refine tu 4 63 2 true rfl ?_; try simp only [AP]
    refine tu 5 64 2 true rfl ?_; try simp only [AP]
    refine tu 6 65 2 true rfl ?_; try simp only [AP]
    refine tu 7 66 2 true rfl ?_; try simp only [AP]
    refine tu 8 67 2 true rfl ?_; try simp only [AP]
    refine tu 9 68 2 true rfl ?_; try simp only [AP]
    refine tu 10 69 2 true rfl ?_; try simp only [AP]
    refine tu 11 70 2 true rfl ?_; try simp only [AP]
    refine tu 12 71 2 true rfl ?_; try simp only [AP]
    refine tu 13 72 2 true rfl ?_; try simp only [AP]
    refine tu 14 73 2 true rfl ?_; try simp only [AP]
    refine tu 15 74 2 true rfl ?_; try simp only [AP]
    refine tk 16 75 ?gv95 rfl ?_; try simp only [AP]
    refine tk 17 76 ?gv97 rfl ?_; try simp only [AP]
    refine tu 18 77 17 true rfl ?_; try simp only [AP]
    refine tu 19 78 17 true rfl ?_; try simp only [AP]
    refine tu 20 79 17 true rfl ?_; try simp only [AP]
    refine tu 21 80 17 true rfl ?_; try simp only [AP]
    refine tu 22 81 17 true rfl ?_; try simp only [AP]
    refine tu 23 82 17 true rfl ?_; try simp only [AP]
    refine tu 24 83 17 true rfl ?_; try simp only [AP]
    refine tu 25 84 17 true rfl ?_; try simp only [AP]
    refine tu 26 85 17 true rfl ?_; try simp only [AP]
    refine tu 27 86 17 true rfl ?_; try simp only [AP]
    refine tu 28 87 17 true rfl ?_; try simp only [AP]
    refine tu 29 88 17 true rfl ?_; try simp only [AP]
    refine tu 30 89 17 true rfl ?_; try simp only [AP]
    refine tu 31 90 17 true rfl ?_; try simp only [AP]
    refine tk 32 91 ?gv113 rfl ?_; try simp only [AP]
    refine wpAnyH_ready (rs := [33]) (by kernel_rfl) (by simp) ?_
    refine AllReadyH.cons rfl (fun K hK => ?_) AllReadyH.nil
    go_simp
    (go_at_call 112; ((with_reducible refine (f_must_no _ _).mono ?_); rintro e w' ⟨rfl, rfl⟩))
    exact ⟨rfl, deed_err HX.out bl⟩
   by_cases hdu : L.day ≤ YD
   rotate_left
   ·have gd : decide (L.day ≤ YD) = false := decide_eq_false hdu
    have HX := Lib.hid (show deed (.rig (k : Int) LL) L.val = .error 12 by rw [HX3.out, if_pos (HAN.out (by rw [HBK.out, decide_eq_true (by omega)]; rfl))])
    refine wp_region_held_drew (S := (fun w' => (∀ b o, b < w7.heap.size → w'.cell? ⟨b, o, none⟩ = w7.cell? ⟨b, o, none⟩) ∧ (∀ b o, b < w7.heap.size → w'.frozen? ⟨b, o, none⟩ = w7.frozen? ⟨b, o, none⟩) ∧ Below w7.heap.size w7 w')) (by kernel_rfl) (kq_draw kq_refl) (fun hS0 => ?_)
    refine tk 0 59 ?gv115 rfl ?_; try simp only [AP]
    refine tk 1 60 ?gv117 rfl ?_; try simp only [AP]
    refine tk 2 61 ?gv119 rfl ?_; try simp only [AP]
    refine tg 3 62 2 true ?gv121 rfl ?_; try simp only [AP]
    refine tg 4 63 2 true ?gv123 rfl ?_; try simp only [AP]
    refine tg 5 64 2 true ?gv125 rfl ?_; try simp only [AP]
    refine tg 6 65 2 true ?gv127 rfl ?_; try simp only [AP]
    refine tg 7 66 2 true ?gv129 rfl ?_; try simp only [AP]
    refine tg 8 67 2 true ?gv131 rfl ?_; try simp only [AP]
    refine tg 9 68 2 true ?gv133 rfl ?_; try simp only [AP]
    refine tg 10 69 2 true ?gv135 rfl ?_; try simp only [AP]
    refine tg 11 70 2 true ?gv137 rfl ?_; try simp only [AP]
    refine tg 12 71 2 true ?gv139 rfl ?_; try simp only [AP]
    refine tg 13 72 2 true ?gv141 rfl ?_; try simp only [AP]
    refine tg 14 73 2 true ?gv143 rfl ?_; try simp only [AP]
    refine tg 15 74 2 true ?gv145 rfl ?_; try simp only [AP]
    refine tk 16 75 ?gv147 rfl ?_; try simp only [AP]
    refine tk 17 76 ?gv149 rfl ?_; try simp only [AP]
    refine tu 18 77 17 true rfl ?_; try simp only [AP]
    refine tu 19 78 17 true rfl ?_; try simp only [AP]
    refine tu 20 79 17 true rfl ?_; try simp only [AP]
    refine tu 21 80 17 true rfl ?_; try simp only [AP]
    refine tu 22 81 17 true rfl ?_; try simp only [AP]
    refine tu 23 82 17 true rfl ?_; try simp only [AP]
    refine tu 24 83 17 true rfl ?_; try simp only [AP]
    refine tu 25 84 17 true rfl ?_; try simp only [AP]
    refine tu 26 85 17 true rfl ?_; try simp only [AP]
    refine tu 27 86 17 true rfl ?_; try simp only [AP]
    refine tu 28 87 17 true rfl ?_; try simp only [AP]
    refine tu 29 88 17 true rfl ?_; try simp only [AP]
    refine tu 30 89 17 true rfl ?_; try simp only [AP]
    refine tu 31 90 17 true rfl ?_; try simp only [AP]
    refine tk 32 91 ?gv165 rfl ?_; try simp only [AP]
    refine wpAnyH_ready (rs := [33]) (by kernel_rfl) (by simp) ?_
    refine AllReadyH.cons rfl (fun K hK => ?_) AllReadyH.nil
    go_simp
    (go_at_call 112; ((with_reducible refine (f_must_no _ _).mono ?_); rintro e w' ⟨rfl, rfl⟩))
    exact ⟨rfl, deed_err HX.out bl⟩
   have gd : decide (L.day ≤ YD) = true := decide_eq_true hdu
   cases hhs : G.hasB L.back.l YB
   rotate_left
   ·rw [hhs] at HCT
    have HX := Lib.hid (show deed (.rig (k : Int) LL) L.val = .error 12 by rw [HX3.out, if_pos (HAN.out (by rw [HBK.out, hhs]; simp))])
    refine wp_region_held_drew (S := (fun w' => (∀ b o, b < w7.heap.size → w'.cell? ⟨b, o, none⟩ = w7.cell? ⟨b, o, none⟩) ∧ (∀ b o, b < w7.heap.size → w'.frozen? ⟨b, o, none⟩ = w7.frozen? ⟨b, o, none⟩) ∧ Below w7.heap.size w7 w')) (by kernel_rfl) (kq_draw kq_refl) (fun hS0 => ?_)
    refine tk 0 59 ?gv167 rfl ?_; try simp only [AP]
    refine tk 1 60 ?gv169 rfl ?_; try simp only [AP]
    refine tk 2 61 ?gv171 rfl ?_; try simp only [AP]
    refine tg 3 62 2 true ?gv173 rfl ?_; try simp only [AP]
    refine tg 4 63 2 true ?gv175 rfl ?_; try simp only [AP]
    refine tg 5 64 2 true ?gv177 rfl ?_; try simp only [AP]
    refine tg 6 65 2 true ?gv179 rfl ?_; try simp only [AP]
    refine tg 7 66 2 true ?gv181 rfl ?_; try simp only [AP]
    refine tg 8 67 2 true ?gv183 rfl ?_; try simp only [AP]
    refine tg 9 68 2 true ?gv185 rfl ?_; try simp only [AP]
    refine tg 10 69 2 true ?gv187 rfl ?_; try simp only [AP]
    refine tg 11 70 2 true ?gv189 rfl ?_; try simp only [AP]
    refine tg 12 71 2 true ?gv191 rfl ?_; try simp only [AP]
    refine tg 13 72 2 true ?gv193 rfl ?_; try simp only [AP]
    refine tg 14 73 2 true ?gv195 rfl ?_; try simp only [AP]
    refine tg 15 74 2 true ?gv197 rfl ?_; try simp only [AP]
    refine tk 16 75 ?gv199 rfl ?_; try simp only [AP]
    refine tk 17 76 ?gv201 rfl ?_; try simp only [AP]
    refine tg 18 77 17 true ?gv203 rfl ?_; try simp only [AP]
    refine tg 19 78 17 true ?gv205 rfl ?_; try simp only [AP]
    refine tg 20 79 17 true ?gv207 rfl ?_; try simp only [AP]
    refine tg 21 80 17 true ?gv209 rfl ?_; try simp only [AP]
    refine tg 22 81 17 true ?gv211 rfl ?_; try simp only [AP]
    refine tg 23 82 17 true ?gv213 rfl ?_; try simp only [AP]
    refine tg 24 83 17 true ?gv215 rfl ?_; try simp only [AP]
    refine tg 25 84 17 true ?gv217 rfl ?_; try simp only [AP]
    refine tg 26 85 17 true ?gv219 rfl ?_; try simp only [AP]
    refine tg 27 86 17 true ?gv221 rfl ?_; try simp only [AP]
    refine tg 28 87 17 true ?gv223 rfl ?_; try simp only [AP]
    refine tg 29 88 17 true ?gv225 rfl ?_; try simp only [AP]
    refine wpAnyH_ready (rs := [30]) (by kernel_rfl) (by simp) ?_
    refine AllReadyH.cons rfl (fun K hK => ?_) AllReadyH.nil
    go_simp
    (go_at_call 82; ((with_reducible refine (HCT.out _ bl).mono ?_); rintro e w' ⟨rfl, rfl⟩))
    refine hK.out _ _ kq (fun hS1 => ?_)
    clear hK K
    try simp only [AP]
    refine tg 31 90 17 true ?gv227 rfl ?_; try simp only [AP]
    refine tk 32 91 ?gv229 rfl ?_; try simp only [AP]
    refine wpAnyH_ready (rs := [33]) (by kernel_rfl) (by simp) ?_
    refine AllReadyH.cons rfl (fun K hK => ?_) AllReadyH.nil
    go_simp
    (go_at_call 112; ((with_reducible refine (f_must_no _ _).mono ?_); rintro e w' ⟨rfl, rfl⟩))
    exact ⟨rfl, deed_err HX.out bl⟩
   ·rw [hhs] at HCT
    have HTF := Lib.hid (HTK.out false (by rw [HBK.out, hhs, decide_eq_false (by omega)]; rfl))
    clear hhs hdu
    refine wp_region_noPanic ?_
    refine wp_region_held_drew (S := (fun w' => (∀ b o, b < w7.heap.size → w'.cell? ⟨b, o, none⟩ = w7.cell? ⟨b, o, none⟩) ∧ (∀ b o, b < w7.heap.size → w'.frozen? ⟨b, o, none⟩ = w7.frozen? ⟨b, o, none⟩) ∧ Below w7.heap.size w7 w')) (by kernel_rfl) (kq_draw kq_refl) (fun hS0 => ?_)
    refine tk 0 59 ?gv231 rfl ?_; try simp only [AP]
    refine tk 1 60 ?gv232 rfl ?_; try simp only [AP]
    refine tk 2 61 ?gv233 rfl ?_; try simp only [AP]
    refine tg 3 62 2 true ?gv234 rfl ?_; try simp only [AP]
    refine tg 4 63 2 true ?gv235 rfl ?_; try simp only [AP]
    refine tg 5 64 2 true ?gv236 rfl ?_; try simp only [AP]
    refine tg 6 65 2 true ?gv237 rfl ?_; try simp only [AP]
    refine tg 7 66 2 true ?gv238 rfl ?_; try simp only [AP]
    refine tg 8 67 2 true ?gv239 rfl ?_; try simp only [AP]
    refine tg 9 68 2 true ?gv240 rfl ?_; try simp only [AP]
    refine tg 10 69 2 true ?gv241 rfl ?_; try simp only [AP]
    refine tg 11 70 2 true ?gv242 rfl ?_; try simp only [AP]
    refine tg 12 71 2 true ?gv243 rfl ?_; try simp only [AP]
    refine tg 13 72 2 true ?gv244 rfl ?_; try simp only [AP]
    refine tg 14 73 2 true ?gv245 rfl ?_; try simp only [AP]
    refine tg 15 74 2 true ?gv246 rfl ?_; try simp only [AP]
    refine tk 16 75 ?gv247 rfl ?_; try simp only [AP]
    refine tk 17 76 ?gv248 rfl ?_; try simp only [AP]
    refine tg 18 77 17 true ?gv249 rfl ?_; try simp only [AP]
    refine tg 19 78 17 true ?gv250 rfl ?_; try simp only [AP]
    refine tg 20 79 17 true ?gv251 rfl ?_; try simp only [AP]
    refine tg 21 80 17 true ?gv252 rfl ?_; try simp only [AP]
    refine tg 22 81 17 true ?gv253 rfl ?_; try simp only [AP]
    refine tg 23 82 17 true ?gv254 rfl ?_; try simp only [AP]
    refine tg 24 83 17 true ?gv255 rfl ?_; try simp only [AP]
    refine tg 25 84 17 true ?gv256 rfl ?_; try simp only [AP]
    refine tg 26 85 17 true ?gv257 rfl ?_; try simp only [AP]
    refine tg 27 86 17 true ?gv258 rfl ?_; try simp only [AP]
    refine tg 28 87 17 true ?gv259 rfl ?_; try simp only [AP]
    refine tg 29 88 17 true ?gv260 rfl ?_; try simp only [AP]
    refine wpAnyH_ready (rs := [30]) (by kernel_rfl) (by simp) ?_
    refine AllReadyH.cons rfl (fun K hK => ?_) AllReadyH.nil
    go_simp
    (go_at_call 82; ((with_reducible refine (HCT.out _ bl).mono ?_); rintro e w' ⟨rfl, rfl⟩))
    refine hK.out _ _ kq (fun hS1 => ?_)
    clear hK K
    try simp only [AP]
    refine tg 31 90 17 true ?gv261 rfl ?_; try simp only [AP]
    refine tk 32 91 ?gv262 rfl ?_; try simp only [AP]
    refine wpAnyH_ready (rs := [33]) (by kernel_rfl) (by simp) ?_
    refine AllReadyH.cons rfl (fun K hK => ?_) AllReadyH.nil
    go_simp
    (go_at_call 112; ((with_reducible refine (f_must_ok _ _).mono ?_); rintro e w' ⟨rfl, rfl⟩))
    refine hK.out _ _ kq (fun hS2 => ?_)
    clear hK K
    try simp only [AP]
    refine wpAnyH_done (by kernel_rfl) (NoPanic.normal ?_) _
    go_wp2
    go_roundw
    case rel => exact ⟨q + 1, by omega, by go_num, below_tr BR bl, HTF⟩
    case measure => simp [RowKit.intOf]; omega
  ·obtain rfl : q = l.l.length := by omega
   have HX := Lib.hid (show deed (.rig (k : Int) l.l) L.val = .ok { L.val with rigs := L.val.rigs ++ [⟨(k : Int), l.l⟩] } by
    have h := HB.out
    rw [List.take_length] at h
    rw [HX3.out, h]; rfl)
   have rb0 := (hcr w.heap.size 0 lwq).trans qb0
   have rb1 := (hcr w.heap.size 1 lwq).trans qb1
   have r19 := (hcr nb 19 lnbq).trans q19
   have rf19 := (hfr nb 19 lnbq).trans (qfn 19)
   have BE : Below w.heap.size w wr := below_tr B0 BW1
   have HRW := Lib.hid ((hN.on BE).rrow)
   have HCL := Lib.hid (fun w' (h : Below wr.heap.size wr w') => HCLr.out w' (below_tr BW1 h))
   obtain ⟨_, _, _, _, hbs00, _⟩ := hN.site hk
   have lsb0 := hbs00.lt
   have lnb0 := hN.lt
   obtain ⟨tb, htb, hnt, hbt⟩ : ∃ tb, (∀ g, L.rigs.v.ownBlock = some g → g = tb) ∧ nb ≠ tb ∧ w.heap.size ≠ tb := by
    cases ho : L.rigs.v.ownBlock with
    | none => exact ⟨sb, fun g h => (by cases h), hN.n1, by omega⟩
    | some g => exact ⟨g, fun g' h => (by cases h; rfl), by have h1 := hN.rb_ g ho; have := hN.n2; omega, by have := (own_ge hN.rrow g ho).2; omega⟩
   have HTB := Lib.hid htb
   obtain ⟨we, hwe⟩ : ∃ x, x = wr := ⟨_, rfl⟩
   rw [← hwe] at rb0 rb1 r19 rf19 BE HRW HCL lwr lnbr hbw
   rw [← hwe]
   have lze := hbw.size
   clear hwe hcr hfr qb0 qb1 q17 q19 q21 q22 qfn htb HI HN0 HHG HFDr HCTr HIR HLR HLW HIT HCLr lr lzr lq BW1 HX2 HX3 HVP HSA HAT hvr hsm hfz hbs hir hbs00 lsb lwq lnbq
   obtain ⟨i0, hi, hi1, hi2, hi3⟩ := info_Rig
   go_upto_region 11 with fail
   refine wp_region_noPanic ?_
   refine wp_region_last 15 (fun w' => (∀ b o, b < we.heap.size → b ≠ tb → w'.cell? ⟨b, o, none⟩ = we.cell? ⟨b, o, none⟩) ∧ (∀ b o, b < we.heap.size → b ≠ tb → w'.frozen? ⟨b, o, none⟩ = we.frozen? ⟨b, o, none⟩) ∧ Stp (fun g => g = tb) we w') (by kernel_rfl) (km_draw km_refl) (fun hS0 => ?_)
   refine wpAnyL_tk 0 94 ?gv263 rfl ?_; try simp only [AP]
   refine wpAnyL_tk 1 95 ?gv264 rfl ?_; try simp only [AP]
   refine wpAnyL_tk 2 96 ?gv265 rfl ?_; try simp only [AP]
   refine wpAnyL_tk 3 97 ?gv266 rfl ?_; try simp only [AP]
   refine wpAnyL_tk 4 98 ?gv267 rfl ?_; try simp only [AP]
   refine wpAnyL_tk 5 99 ?gv268 rfl ?_; try simp only [AP]
   refine wpAnyL_tk 6 100 ?gv269 rfl ?_; try simp only [AP]
   refine wpAnyL_tk 7 101 ?gv270 rfl ?_; try simp only [AP]
   refine wpAnyL_tk 8 102 ?gv271 rfl ?_; try simp only [AP]
   refine wpAnyL_ready (rs := [9]) (by kernel_rfl) (by simp) ?_
   refine AllReadyL.cons rfl (fun K hK => ?_) AllReadyL.nil
   go_simp
   (go_at_call 36; ((with_reducible refine (HCL.out _ bl).mono ?_); rintro e w3 ⟨⟨A3, l3, c3⟩, rfl, hl3, ho3, hle3, hcm3, hb3⟩; dsimp only at hl3; subst hl3; dsimp only [Sl.v] at *; obtain ⟨hc3, hf3⟩ := bcell hb3; have hz3 := hb3.size; (try simp [SZ] at hz3); (try simp only [SZ] at hc3 hf3)))
   refine hK.out _ _ (by ((show Km we tb _); (repeat' (first | assumption | exact km_refl | refine km_draw ?_ | refine km_drewN ?_ | refine km_alloc ?_ | refine km_step ?_ (by assumption))); (all_goals (first | omega | (simp; omega))))) (fun hS1 => ?_)
   clear hK K
   try simp only [AP]
   refine wpAnyL_tk 10 104 ?gv272 rfl ?_; try simp only [AP]
   refine wpAnyL_ready (rs := [11]) (by kernel_rfl) (by simp) ?_
   refine AllReadyL.cons rfl (fun K hK => ?_) AllReadyL.nil
   go_simp
   refine hK.out _ _ (by ((show Km we tb _); (repeat' (first | assumption | exact km_refl | refine km_draw ?_ | refine km_drewN ?_ | refine km_alloc ?_ | refine km_step ?_ (by assumption))); (all_goals (first | omega | (simp; omega))))) (fun hS2 => ?_)
   clear hK K
   try simp only [AP]
   refine wpAnyL_ready (rs := [12]) (by kernel_rfl) (by simp) ?_
   refine AllReadyL.cons rfl (fun K hK => ?_) AllReadyL.nil
   (refine step_append_at2 (by rfl) _ _ _ (by rfl) 0 90 i0 _ 2 32 Tryz.underlying83 hi hi1 hi2 hi3 rfl (by omega) _ _ _ (by rfl) (own_on (own_on HRW.out bl) (bl_alloc (below_refl _) _)) ⟨w3.heap.size, 0, none⟩ 1 1 [.int .i64 (k : Int), .slice A3 l.l.length c3] (by rfl) rfl (cells_new w3 [.int .i64 (k : Int), .slice A3 l.l.length c3] 90) (fun u hu => by simp at hu; rcases hu with rfl | rfl <;> rfl) (by unfold maxLen; omega) (by omega) (Nat.zero_le _) ?_; intro v4 w4 hown4 hgrow4 hnew4; obtain ⟨A4, c4, rfl⟩ := own_slice hown4; have hkm4 : Km we tb w4 := km_grown (km_alloc (km_step (km_draw km_refl) hb3)) hgrow4 (fun r hr => .inl (HTB.out r hr)))
   refine hK.out _ _ (by ((show Km we tb _); (repeat' (first | assumption | exact km_refl | refine km_draw ?_ | refine km_drewN ?_ | refine km_alloc ?_ | refine km_step ?_ (by assumption))); (all_goals (first | omega | (simp; omega))))) (fun hS3 => ?_)
   clear hK K
   try simp only [AP]
   refine wpAnyL_tk 13 107 ?gv273 rfl ?_; try simp only [AP]
   refine wpAnyL_tk 14 108 ?gv274 rfl ?_; try simp only [AP]
   refine wpAnyL_last (by kernel_rfl) rfl (fun K hK => ?_)
   go_simp
   refine hK.out _ _ ?_
   clear hK K
   try simp only [AP]
   refine wpAnyL_done (by kernel_rfl) (NoPanic.normal ?_) _
   go_wp2
   go_end0
   have hb3W : Below we.heap.size we w3 := bl
   have st4 : Stp (fun g => L.rigs.v.ownBlock = some g) w w4 := ((((Stp.refl _ w).below BE (Nat.le_refl _)).below hb3W (by omega)).alloc _).grown hgrow4 (fun r hr => .inl hr)
   have st : Stp (fun g => g = nb ∨ g = rb) w (w4.setCell ⟨nb, 19, none⟩ (.slice A4 (L.rigs.l.length + 1) c4)) := Stp.setCell (N := fun g => g = nb ∨ g = rb) (p := ⟨nb, 19, none⟩) (st4.mono fun b _ e => .inr (hN.rb_ b e)) (.inl (.inl rfl)) _
   have st3 : Stp (fun g => g = nb ∨ g = sb ∨ g = rb) w (w4.setCell ⟨nb, 19, none⟩ (.slice A4 (L.rigs.l.length + 1) c4)) := st.mono fun b _ e => by omega
   have stn : Stp (fun g => g = nb) w4 (w4.setCell ⟨nb, 19, none⟩ (.slice A4 (L.rigs.l.length + 1) c4)) := Stp.setCell (N := fun g => g = nb) (p := ⟨nb, 19, none⟩) (Stp.refl _ _) (.inl rfl) _
   have stw : Stp (fun g => L.rigs.v.ownBlock = some g ∨ g = nb) w3 (w4.setCell ⟨nb, 19, none⟩ (.slice A4 (L.rigs.l.length + 1) c4)) := Stp.setCell (N := fun g => L.rigs.v.ownBlock = some g ∨ g = nb) (p := ⟨nb, 19, none⟩) (((Stp.refl _ w3).alloc _).grown hgrow4 (fun r hr => .inl (.inl hr))) (.inl (.inr rfl)) _
   have own5 := own_snoc (enc := LRg.cs) (x := ⟨(k : Int), ⟨A3, l.l, c3⟩⟩) rfl rfl hown4
   have cap5 := own_caps own5
   have hnn : ∀ b, TT T sb rb w b → ¬ b = nb := fun b hb e => by
    subst e
    have := hN.n1
    have := hN.n2
    rcases hb with h | h | h | h
    ·exact (hN.nT _ h).1 rfl
    ·omega
    ·omega
    ·omega
   have G4 : Got (TT T sb rb w) w4 LRg.cs 2 ⟨A4, L.rigs.l ++ [⟨(k : Int), ⟨A3, l.l, c3⟩⟩], c4⟩ := by
    refine ⟨own_rd' LRg.cs_len own5, fun hne a ha => ?_, cap5.1, cap5.2⟩
    obtain ⟨b, off, e, _, _⟩ := own_rd' LRg.cs_len own5 hne
    dsimp only at e ha
    rw [e] at ha
    cases ha
    rw [e] at hnew4
    rcases hnew4 with h | h
    ·exact .inr (.inr (.inl (hN.rb_ b h.symm)))
    ·have h2 : b = (w3.alloc (.cells #[.int .i64 (k : Int), .slice A3 l.l.length c3] 90)).heap.size := Option.some.inj h
     have := hb3W.size
     have := BE.size
     rw [World.size_alloc] at h2
     exact .inr (.inr (.inr (show w.heap.size ≤ b by omega)))
   have GL : Got (TT T sb rb w) (w4.setCell ⟨nb, 19, none⟩ (.slice A4 (L.rigs.l.length + 1) c4)) G.Lk.cs 2 ⟨A3, l.l, c3⟩ := by
    have h1 : Got (fun b => we.heap.size ≤ b) w3 G.Lk.cs 2 ⟨A3, l.l, c3⟩ := got_own (y := ⟨A3, l.l, c3⟩) G.Lk.cs_len ho3 (fun b h1 _ => h1)
    have hes := BE.size
    refine (h1.stp stw fun b hb e => ?_).mono fun b _ hb => .inr (.inr (.inr (show w.heap.size ≤ b from Nat.le_trans hes hb)))
    rcases e with e | e
    ·have := (own_ge hN.rrow b e).2
     have : we.heap.size ≤ b := hb
     omega
    ·have : we.heap.size ≤ b := hb
     omega
   refine deed_ok (L' := { L with rigs := ⟨A4, L.rigs.l ++ [⟨(k : Int), ⟨A3, l.l, c3⟩⟩], c4⟩ }) HX.out (by unfold LS.val; simp [LRg.val]) ⟨?_, ⟨hN.keepSu st3, hN.keep hN.gusts st3, G4.stp stn hnn, fun r hr => ?_, hN.keepS st, fun s' hs' => hN.keep (hN.sk s' hs') st3, hN.keep hN.items st3, hN.keep hN.back st3⟩, st3, rfl, rfl⟩
   ·have h1 := (st4.blk hN.blk (fun e => hN.n2 (hN.rb_ nb e))).set_ 19 (.slice A4 (L.rigs.l.length + 1) c4)
    rw [← show (L.rigs.l ++ [(⟨(k : Int), ⟨A3, l.l, c3⟩⟩ : LRg)]).length = L.rigs.l.length + 1 by simp] at h1 ⊢
    exact h1
   ·rcases List.mem_append.1 hr with hr | hr
    ·exact hN.keep (hN.rk r hr) st3
    ·rw [List.mem_singleton.1 hr]; exact GL
end Go.Proofs.YtgemlddincnfcaaGreatDoor.Fi
