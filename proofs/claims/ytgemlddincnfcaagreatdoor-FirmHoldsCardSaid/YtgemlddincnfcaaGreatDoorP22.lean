/- The parts of the proof, part 22. -/
import Derived.Test.YtgemlddincnfcaaGreatDoorP0
import Derived.Test.YtgemlddincnfcaaGreatDoorP17
set_option linter.unusedSimpArgs false
set_option linter.unusedVariables false
namespace Go.Proofs.YtgemlddincnfcaaGreatDoor.Fi
open Go.RowKit Go.Lib Tx
set_option maxHeartbeats 4000000 in
set_option maxRecDepth 20000 in
theorem d_lift (r : Int) (l : Sl Int) (T : Nat → Prop) (nb sb rb : Nat) (L : LS) (w : World) (hN : Nxt T nb sb rb w L) (hI : Inv L.val) (hll : l.l.length ≤ 100000) (hRl : Rd zC 1 w l.a l.l) :
  Calls Tryz.prog 289 #[.agg #[.int .i64 r, .slice l.a l.l.length l.c], .pointer (some ⟨nb, 0, none⟩)] w (DeedP (.lift r l.l) T nb sb rb L w) := by
 have x0 := Blk.new w 158 #[.int .i64 r, .slice l.a l.l.length l.c]
 have B0 := bl_alloc (below_refl w) (.cells #[.int .i64 r, .slice l.a l.l.length l.c] 158)
 have b0 := x0.cell 0
 have b1 := x0.cell 1
 simp only [GA] at b0 b1
 have hN0 := hN.on B0
 have hRl0 := hRl.on B0
 have hrl : L.rigs.l.length ≤ 50 := by have h := hI.rl; unfold LS.val at h; dsimp only at h; rw [List.length_map] at h; exact h
 have hrl0 : L.rigs.l.length ≤ 1000 := by omega
 cases hth : rtB L.val r
 ·have HX := Lib.hid (show deed (.lift r l.l) L.val = .error 5 by unfold deed; dsimp only; rw [if_pos hth])
  have HAT := Lib.hid (f_rigAt_no nb L r _ hN0.cel hrl0 hth)
  go_enter Tryz.func289, Tryz.ntmps289
  go_wp2_with (go_at_call 262; ((with_reducible refine (HAT.out).mono ?_); rintro e w' ⟨rfl, rfl⟩))
  exact ⟨rfl, deed_err HX.out B0⟩
 obtain ⟨i0, i1⟩ := rtB_iff.1 hth
 obtain ⟨k, rfl⟩ := Int.eq_ofNat_of_zero_le i0
 have hk : k < L.rigs.l.length := by omega
 obtain ⟨g, hg, hga, d0, d1x⟩ := hN0.rig hk
 have HAT := Lib.hid (f_rigAt nb L k _ rb 0 hN0.cel hrl0 hk hga)
 have HRA := Lib.hid (rigA_of hg)
 have hgm : g.val ∈ L.val.rigs := by unfold LS.val; exact List.mem_map.2 ⟨g, List.mem_of_getElem? hg, rfl⟩
 obtain ⟨gs0, gs1⟩ := hI.rs g.val hgm
 obtain ⟨gk0, gk1⟩ := hI.rk g.val hgm
 have gk0 : g.lk.l.length ≤ 32 := gk0
 have gk1 : ∀ x ∈ g.lk.l, G.LW x := fun x hx => (gk1 x hx).1
 have gs1 : g.st < (L.sites.l.length : Int) := by unfold LS.val at gs1; dsimp only at gs1; rw [List.length_map] at gs1; exact gs1
 have gs0 : 0 ≤ g.st := gs0
 obtain ⟨m, hm⟩ := Int.eq_ofNat_of_zero_le gs0
 obtain ⟨s, cur, hs, ha, hbs, hir, c0, c1, c2⟩ := hN0.site (i := m) (by omega)
 have HSA := Lib.hid (siteA_of hs)
 obtain ⟨ME, hME⟩ : ∃ x, x = G.wkE L.items.l g.lk.l L.back.l L.day l.l := ⟨_, rfl⟩
 obtain ⟨MB, hMB⟩ : ∃ x, x = G.mayB L.items.l g.lk.l L.back.l L.day l.l := ⟨_, rfl⟩
 have HX2 := Lib.hid (show deed (.lift (k : Int) l.l) L.val = if (decide (0 < g.lk.l.length) && decide (0 < s.men)) = false then .error 10 else if goB L.val L.val.gusts = false then .error 11
   else if ME ≠ 0 then .error ME else if MB = false then .error 12 else .ok L.val by
  unfold deed; dsimp only; rw [if_neg (by rw [hth]; simp), HRA.out, show (g.val).st = (m : Int) from hm, HSA.out, hME, hMB]; rfl)
 have lrb := hN0.rlt (by intro e; rw [e] at hk; simp at hk)
 have lsb := hbs.lt
 have lnb := hN0.lt
 have lw := x0.lt
 have hil : L.items.l.length ≤ 100000 := by have := G.vldG_len (show G.vldG L.items.l = true from hI.it); omega
 have hbl : L.back.l.length ≤ 100000 := by have : L.back.l.length ≤ 100 := hI.bl; omega
 have hiw : ∀ x ∈ L.items.l, G.IW x := hI.iw
 have d0y : (w.alloc (.cells #[.int .i64 (k : Int), .slice l.a l.l.length l.c] 158)).cell? ⟨rb, k * 2, none⟩ = some (.int .i64 (m : Int)) := by rw [← hm]; exact d0
 have d1 : (w.alloc (.cells #[.int .i64 (k : Int), .slice l.a l.l.length l.c] 158)).cell? ⟨rb, k * 2 + 1, none⟩ = some (.slice g.lk.a g.lk.l.length g.lk.c) := d1x
 have c20 : (w.alloc (.cells #[.int .i64 (k : Int), .slice l.a l.l.length l.c] 158)).cell? ⟨nb, 20, none⟩ = some (.slice (some ⟨sb, 0, none⟩) L.sites.l.length L.sites.c) := by rw [← ha]; exact hN0.cel 20 _ rfl
 have c17 : (w.alloc (.cells #[.int .i64 (k : Int), .slice l.a l.l.length l.c] 158)).cell? ⟨nb, 17, none⟩ = some (.int .i64 L.day) := hN0.cel 17 _ rfl
 have c18 : (w.alloc (.cells #[.int .i64 (k : Int), .slice l.a l.l.length l.c] 158)).cell? ⟨nb, 18, none⟩ = some (.slice L.gusts.a L.gusts.l.length L.gusts.c) := hN0.cel 18 _ rfl
 have c21 : (w.alloc (.cells #[.int .i64 (k : Int), .slice l.a l.l.length l.c] 158)).cell? ⟨nb, 21, none⟩ = some (.slice L.items.a L.items.l.length L.items.c) := hN0.cel 21 _ rfl
 have c22 : (w.alloc (.cells #[.int .i64 (k : Int), .slice l.a l.l.length l.c] 158)).cell? ⟨nb, 22, none⟩ = some (.slice L.back.a L.back.l.length L.back.c) := hN0.cel 22 _ rfl
 obtain ⟨m0, m1, m2⟩ : (0 : Int) ≤ (m : Int) ∧ (m : Int).toNat = m ∧ (m : Int) < (L.sites.l.length : Int) := ⟨by omega, by omega, by omega⟩
 clear c0 d1x d0
 go_enter Tryz.func289, Tryz.ntmps289
 go_upto_region 2 with (go_at_call 262; ((with_reducible refine (HAT.out).mono ?_); rintro e w' ⟨rfl, rfl⟩))
 generalize (w.alloc (.cells #[.int .i64 (k : Int), .slice l.a l.l.length l.c] 158)) = w1 at *
 have HGV := Lib.hid (fun w' (h : Below w1.heap.size w1 w') v hv => (hN0.on h).goes hI (v := v) hv)
 have HMY := Lib.hid (fun w' (h : Below w1.heap.size w1 w') => (show Calls Tryz.prog 13 #[.slice L.items.a L.items.l.length L.items.c, .slice g.lk.a g.lk.l.length g.lk.c, .slice L.back.a L.back.l.length L.back.c, .int .i64 L.day, .slice l.a l.l.length l.c] w' fun e w2 => e = .returned (.tuple #[.bool MB, .int .i64 ME]) ∧ Below w'.heap.size w' w2 by
  rw [hMB, hME]
  exact G.p_May L.items.a g.lk.a L.back.a l.a L.items.l g.lk.l L.back.l L.day l.l L.items.c g.lk.c L.back.c l.c w' hil (by omega) hbl hll (hN0.on h).items.rd hiw ((hN0.on h).rk g (List.mem_of_getElem? hg)).rd gk1 (hN0.on h).back.rd (hRl0.on h)))
 have HI := Lib.hid hI
 have HN0 := Lib.hid hN0
 have HMM := Lib.hid (And.intro hME hMB)
 clear hI hN0 hME hMB hiw gk1
 by_cases hd : 0 < g.lk.l.length
 ·have g1 : decide (0 < g.lk.l.length) = true := decide_eq_true hd
  have g2 : decide ((0 : Int) < (g.lk.l.length : Int)) = true := decide_eq_true (by omega)
  by_cases hz : 0 < s.men
  ·have g3 : decide (0 < s.men) = true := decide_eq_true hz
   have HXA := Lib.hid (show deed (.lift (k : Int) l.l) L.val = if goB L.val L.val.gusts = false then .error 11 else if ME ≠ 0 then .error ME else if MB = false then .error 12 else .ok L.val by rw [HX2.out, if_neg (by rw [g1, g3]; simp)])
   refine wp_region_noPanic ?_
   refine wp_region_held_drew (S := (fun w' => (∀ b o, b < w1.heap.size → w'.cell? ⟨b, o, none⟩ = w1.cell? ⟨b, o, none⟩) ∧ (∀ b o, b < w1.heap.size → w'.frozen? ⟨b, o, none⟩ = w1.frozen? ⟨b, o, none⟩) ∧ Below w1.heap.size w1 w')) (by kernel_rfl) (kq_draw kq_refl) (fun hS0 => ?_)
   refine tk 0 11 ?gv1 rfl ?_; try simp only [AP]
   refine tk 1 12 ?gv2 rfl ?_; try simp only [AP]
   refine tk 2 13 ?gv3 rfl ?_; try simp only [AP]
   refine tk 3 14 ?gv4 rfl ?_; try simp only [AP]
   refine tk 4 15 ?gv5 rfl ?_; try simp only [AP]
   refine tk 5 16 ?gv6 rfl ?_; try simp only [AP]
   refine tk 6 17 ?gv7 rfl ?_; try simp only [AP]
   refine tg 7 18 6 true ?gv8 rfl ?_; try simp only [AP]
   refine tg 8 19 6 true ?gv9 rfl ?_; try simp only [AP]
   refine tg 9 20 6 true ?gv10 rfl ?_; try simp only [AP]
   refine tg 10 21 6 true ?gv11 rfl ?_; try simp only [AP]
   refine tg 11 22 6 true ?gv12 rfl ?_; try simp only [AP]
   refine tg 12 23 6 true ?gv13 rfl ?_; try simp only [AP]
   refine tg 13 24 6 true ?gv14 rfl ?_; try simp only [AP]
   refine tg 14 25 6 true ?gv15 rfl ?_; try simp only [AP]
   refine tg 15 26 6 true ?gv16 rfl ?_; try simp only [AP]
   refine tg 16 27 6 true ?gv17 rfl ?_; try simp only [AP]
   refine tg 17 28 6 true ?gv18 rfl ?_; try simp only [AP]
   refine tg 18 29 6 true ?gv19 rfl ?_; try simp only [AP]
   refine tk 19 30 ?gv20 rfl ?_; try simp only [AP]
   refine wpAnyH_ready (rs := [20]) (by kernel_rfl) (by simp) ?_
   refine AllReadyH.cons rfl (fun K hK => ?_) AllReadyH.nil
   go_simp
   (go_at_call 112; ((with_reducible refine (f_must_ok _ _).mono ?_); rintro e w' ⟨rfl, rfl⟩))
   refine hK.out _ _ kq (fun hS1 => ?_)
   clear hK K
   try simp only [AP]
   refine wpAnyH_done (by kernel_rfl) (NoPanic.normal ?_) _
   cases hg : goB L.val L.val.gusts
   ·have HX := Lib.hid (show deed (.lift (k : Int) l.l) L.val = .error 11 by rw [HXA.out, if_pos hg])
    have HGO := Lib.hid (fun w' h => HGV.out w' h _ hg)
    go_wp2_with (first | (go_at_call 55; ((with_reducible refine (HGO.out _ bl).mono ?_); rintro e w4 ⟨rfl, hb4⟩; obtain ⟨hc4, hf4⟩ := bcell hb4; have hz4 := hb4.size; (try simp [SZ] at hz4); (try simp only [SZ] at hc4 hf4))) | (go_at_call 112; ((with_reducible refine (f_must_no _ _).mono ?_); rintro e w' ⟨rfl, rfl⟩)))
    exact ⟨rfl, deed_err HX.out bl⟩
   ·have HGO := Lib.hid (fun w' h => HGV.out w' h _ hg)
    go_upto_region 4 with (first | (go_at_call 55; ((with_reducible refine (HGO.out _ bl).mono ?_); rintro e w4 ⟨rfl, hb4⟩; obtain ⟨hc4, hf4⟩ := bcell hb4; have hz4 := hb4.size; (try simp [SZ] at hz4); (try simp only [SZ] at hc4 hf4))) | (go_at_call 112; ((with_reducible refine (f_must_ok _ _).mono ?_); rintro e w' ⟨rfl, rfl⟩)))
    have B4 : Below w1.heap.size w1 w4 := bl
    obtain ⟨hcx, hfx⟩ := bcell B4
    have lz : w1.heap.size ≤ w4.heap.size := B4.size
    have q17 := (hcx nb 17 lnb).trans c17
    have q21 := (hcx nb 21 lnb).trans c21
    have q22 := (hcx nb 22 lnb).trans c22
    have qd1 := (hcx rb (k * 2 + 1) lrb).trans d1
    have qb1 := (hcx w.heap.size 1 lw).trans b1
    have lw4 : w.heap.size < w4.heap.size := by omega
    have ln4 : nb < w4.heap.size := by omega
    have lr4 : rb < w4.heap.size := by omega
    refine wp_region_noPanic ?_
    refine wp_region_held_drew (S := (fun w' => (∀ b o, b < w4.heap.size → w'.cell? ⟨b, o, none⟩ = w4.cell? ⟨b, o, none⟩) ∧ (∀ b o, b < w4.heap.size → w'.frozen? ⟨b, o, none⟩ = w4.frozen? ⟨b, o, none⟩) ∧ Below w4.heap.size w4 w')) (by kernel_rfl) (kq_draw kq_refl) (fun hS0 => ?_)
    refine tk 0 40 ?gv21 rfl ?_; try simp only [AP]
    refine tk 1 41 ?gv22 rfl ?_; try simp only [AP]
    refine tk 2 42 ?gv23 rfl ?_; try simp only [AP]
    refine tk 3 43 ?gv24 rfl ?_; try simp only [AP]
    refine tk 4 44 ?gv25 rfl ?_; try simp only [AP]
    refine tk 5 45 ?gv26 rfl ?_; try simp only [AP]
    refine tk 6 46 ?gv27 rfl ?_; try simp only [AP]
    refine tk 7 47 ?gv28 rfl ?_; try simp only [AP]
    refine tk 8 48 ?gv29 rfl ?_; try simp only [AP]
    refine tk 9 49 ?gv30 rfl ?_; try simp only [AP]
    refine tk 10 50 ?gv31 rfl ?_; try simp only [AP]
    refine tk 11 51 ?gv32 rfl ?_; try simp only [AP]
    refine tk 12 52 ?gv33 rfl ?_; try simp only [AP]
    refine tk 13 53 ?gv34 rfl ?_; try simp only [AP]
    refine tk 14 54 ?gv35 rfl ?_; try simp only [AP]
    refine tk 15 55 ?gv36 rfl ?_; try simp only [AP]
    refine tk 16 56 ?gv37 rfl ?_; try simp only [AP]
    refine tk 17 57 ?gv38 rfl ?_; try simp only [AP]
    refine wpAnyH_ready (rs := [18]) (by kernel_rfl) (by simp) ?_
    refine AllReadyH.cons rfl (fun K hK => ?_) AllReadyH.nil
    go_simp
    (go_at_call 13; ((with_reducible refine (HMY.out _ (below_tr B4 bl)).mono ?_); rintro e w5 ⟨rfl, hb5⟩; obtain ⟨hc5, hf5⟩ := bcell hb5; have hz5 := hb5.size; (try simp [SZ] at hz5); (try simp only [SZ] at hc5 hf5)))
    refine hK.out _ _ kq (fun hS1 => ?_)
    clear hK K
    try simp only [AP]
    refine tk 19 39 ?gv39 rfl ?_; try simp only [AP]
    refine tk 20 59 ?gv40 rfl ?_; try simp only [AP]
    refine tk 21 60 ?gv41 rfl ?_; try simp only [AP]
    refine tk 22 5 ?gv42 rfl ?_; try simp only [AP]
    refine tk 23 6 ?gv43 rfl ?_; try simp only [AP]
    refine wpAnyH_done (by kernel_rfl) (NoPanic.normal ?_) _
    have B5 : Below w1.heap.size w1 w5 := below_tr B4 hS1.2.2
    by_cases he : ME = 0
    ·subst he
     cases hb : MB
     ·have HX := Lib.hid (show deed (.lift (k : Int) l.l) L.val = .error 12 by rw [HXA.out, if_neg (by rw [hg]; simp), if_neg (by simp), if_pos hb])
      subst hb
      go_wp2_with (first | (go_at_call 268; ((with_reducible refine (f_passed_ok _).mono ?_); rintro e w' ⟨rfl, rfl⟩)) | (go_at_call 112; ((with_reducible refine (f_must_no _ _).mono ?_); rintro e w' ⟨rfl, rfl⟩)))
      exact ⟨rfl, deed_err HX.out (below_tr B0 B5)⟩
     ·have HX := Lib.hid (show deed (.lift (k : Int) l.l) L.val = .ok L.val by rw [HXA.out, if_neg (by rw [hg]; simp), if_neg (by simp), if_neg (by rw [hb]; simp)])
      subst hb
      go_wp2_with (first | (go_at_call 268; ((with_reducible refine (f_passed_ok _).mono ?_); rintro e w' ⟨rfl, rfl⟩)) | (go_at_call 112; ((with_reducible refine (f_must_ok _ _).mono ?_); rintro e w' ⟨rfl, rfl⟩)))
      go_end0
      have K := hN.kept ((Stp.refl (fun g => g = nb) w).below (below_tr B0 B5) (Nat.le_refl _))
      exact deed_ok (L' := L) HX.out rfl ⟨HN0.out.blk.below B5 lnb, ⟨K.su, K.gusts, K.rigs, K.rk, K.sites, K.sk, K.items, K.back⟩, K.stp, rfl, rfl⟩
    ·have HX := Lib.hid (show deed (.lift (k : Int) l.l) L.val = .error ME by rw [HXA.out, if_neg (by rw [hg]; simp), if_pos he])
     have HNZ := Lib.hid he
     go_wp2_with (go_at_call 268; ((with_reducible refine (f_passed_no _ HNZ.out _).mono ?_); rintro e w' ⟨rfl, rfl⟩))
     exact ⟨rfl, deed_err HX.out (below_tr B0 B5)⟩
  ·have g3 : decide (0 < s.men) = false := decide_eq_false hz
   have HX := Lib.hid (show deed (.lift (k : Int) l.l) L.val = .error 10 by rw [HX2.out, if_pos (by rw [g3]; simp)])
   refine wp_region_held_drew (S := (fun w' => (∀ b o, b < w1.heap.size → w'.cell? ⟨b, o, none⟩ = w1.cell? ⟨b, o, none⟩) ∧ (∀ b o, b < w1.heap.size → w'.frozen? ⟨b, o, none⟩ = w1.frozen? ⟨b, o, none⟩) ∧ Below w1.heap.size w1 w')) (by kernel_rfl) (kq_draw kq_refl) (fun hS0 => ?_)
   refine tk 0 11 ?gv44 rfl ?_; try simp only [AP]
   refine tk 1 12 ?gv46 rfl ?_; try simp only [AP]
   refine tk 2 13 ?gv48 rfl ?_; try simp only [AP]
   refine tk 3 14 ?gv50 rfl ?_; try simp only [AP]
   refine tk 4 15 ?gv52 rfl ?_; try simp only [AP]
   refine tk 5 16 ?gv54 rfl ?_; try simp only [AP]
   refine tk 6 17 ?gv56 rfl ?_; try simp only [AP]
   refine tg 7 18 6 true ?gv58 rfl ?_; try simp only [AP]
   refine tg 8 19 6 true ?gv60 rfl ?_; try simp only [AP]
   refine tg 9 20 6 true ?gv62 rfl ?_; try simp only [AP]
   refine tg 10 21 6 true ?gv64 rfl ?_; try simp only [AP]
   refine tg 11 22 6 true ?gv66 rfl ?_; try simp only [AP]
   refine tg 12 23 6 true ?gv68 rfl ?_; try simp only [AP]
   refine tg 13 24 6 true ?gv70 rfl ?_; try simp only [AP]
   refine tg 14 25 6 true ?gv72 rfl ?_; try simp only [AP]
   refine tg 15 26 6 true ?gv74 rfl ?_; try simp only [AP]
   refine tg 16 27 6 true ?gv76 rfl ?_; try simp only [AP]
   refine tg 17 28 6 true ?gv78 rfl ?_; try simp only [AP]
   refine tg 18 29 6 true ?gv80 rfl ?_; try simp only [AP]
   refine tk 19 30 ?gv82 rfl ?_; try simp only [AP]
   refine wpAnyH_ready (rs := [20]) (by kernel_rfl) (by simp) ?_
   refine AllReadyH.cons rfl (fun K hK => ?_) AllReadyH.nil
   go_simp
   (go_at_call 112; ((with_reducible refine (f_must_no _ _).mono ?_); rintro e w' ⟨rfl, rfl⟩))
   exact ⟨rfl, deed_err HX.out bl⟩
 ·have g1 : decide (0 < g.lk.l.length) = false := decide_eq_false hd
  have g2 : decide ((0 : Int) < (g.lk.l.length : Int)) = false := decide_eq_false (by omega)
  have HX := Lib.hid (show deed (.lift (k : Int) l.l) L.val = .error 10 by rw [HX2.out, if_pos (by rw [g1]; simp)])
  refine wp_region_held_drew (S := (fun w' => (∀ b o, b < w1.heap.size → w'.cell? ⟨b, o, none⟩ = w1.cell? ⟨b, o, none⟩) ∧ (∀ b o, b < w1.heap.size → w'.frozen? ⟨b, o, none⟩ = w1.frozen? ⟨b, o, none⟩) ∧ Below w1.heap.size w1 w')) (by kernel_rfl) (kq_draw kq_refl) (fun hS0 => ?_)
  refine tk 0 11 ?gv84 rfl ?_; try simp only [AP]
  refine tk 1 12 ?gv86 rfl ?_; try simp only [AP]
  refine tk 2 13 ?gv88 rfl ?_; try simp only [AP]
  refine tk 3 14 ?gv90 rfl ?_; try simp only [AP]
  refine tk 4 15 ?gv92 rfl ?_; try simp only [AP]
  refine tk 5 16 ?gv94 rfl ?_; try simp only [AP]
  refine tk 6 17 ?gv96 rfl ?_; try simp only [AP]
  refine tu 7 18 6 true rfl ?_; try simp only [AP]
  refine tu 8 19 6 true rfl ?_; try simp only [AP]
  refine tu 9 20 6 true rfl ?_; try simp only [AP]
  refine tu 10 21 6 true rfl ?_; try simp only [AP]
  refine tu 11 22 6 true rfl ?_; try simp only [AP]
  refine tu 12 23 6 true rfl ?_; try simp only [AP]
  refine tu 13 24 6 true rfl ?_; try simp only [AP]
  refine tu 14 25 6 true rfl ?_; try simp only [AP]
  refine tu 15 26 6 true rfl ?_; try simp only [AP]
  refine tu 16 27 6 true rfl ?_; try simp only [AP]
  refine tu 17 28 6 true rfl ?_; try simp only [AP]
  refine tu 18 29 6 true rfl ?_; try simp only [AP]
  refine tk 19 30 ?gv110 rfl ?_; try simp only [AP]
  refine wpAnyH_ready (rs := [20]) (by kernel_rfl) (by simp) ?_
  refine AllReadyH.cons rfl (fun K hK => ?_) AllReadyH.nil
  go_simp
  (go_at_call 112; ((with_reducible refine (f_must_no _ _).mono ?_); rintro e w' ⟨rfl, rfl⟩))
  exact ⟨rfl, deed_err HX.out bl⟩
set_option maxHeartbeats 4000000 in
set_option maxRecDepth 20000 in
theorem d_gust (g : Int) (T : Nat → Prop) (nb sb rb : Nat) (L : LS) (w : World) (hN : Nxt T nb sb rb w L) (hI : Inv L.val) :
  Calls Tryz.prog 273 #[.agg #[.int .i64 g], .pointer (some ⟨nb, 0, none⟩)] w (DeedP (.gust g) T nb sb rb L w) := by
 have x0 := Blk.new w 153 #[.int .i64 g]
 have B0 := bl_alloc (below_refl w) (.cells #[.int .i64 g] 153)
 have b0 := x0.cell 0
 simp only [GA] at b0
 have hN0 := hN.on B0
 have lnb := hN0.lt
 have lw := x0.lt
 have hfn := hN0.blk.frozen
 have hgl : L.gusts.l.length ≤ 2000 := hI.gl
 cases hwn : wn g (-1) 200
 ·have HX := Lib.hid (show deed (.gust g) L.val = .error 7 by unfold deed; dsimp only; rw [if_pos hwn])
  go_enter Tryz.func273, Tryz.ntmps273
  go_wp2_with (first | (go_at_call 67; ((with_reducible refine (f_withinV hwn _).mono ?_); rintro e w' ⟨rfl, rfl⟩)) | (go_at_call 112; ((with_reducible refine (f_must_no _ _).mono ?_); rintro e w' ⟨rfl, rfl⟩)))
  exact ⟨rfl, deed_err HX.out B0⟩
 have HX2 := Lib.hid (show deed (.gust g) L.val = if ¬ L.gusts.l.length < 2000 then .error 10 else if (decide (upN L.val = 0) || goB L.val (L.gusts.l ++ [g])) = false then .error 11 else .ok { L.val with gusts := L.gusts.l ++ [g] } by
  unfold deed; dsimp only; rw [if_neg (by rw [hwn]; simp)]; rfl)
 have c18 : (w.alloc (.cells #[.int .i64 g] 153)).cell? ⟨nb, 18, none⟩ = some (.slice L.gusts.a L.gusts.l.length L.gusts.c) := hN0.cel 18 _ rfl
 by_cases hlt : L.gusts.l.length < 2000
 rotate_left
 ·have g1 : decide (L.gusts.l.length < 2000) = false := decide_eq_false hlt
  have g2 : decide ((L.gusts.l.length : Int) < 2000) = false := decide_eq_false (by omega)
  have HX := Lib.hid (show deed (.gust g) L.val = .error 10 by rw [HX2.out, if_pos hlt])
  go_enter Tryz.func273, Tryz.ntmps273
  go_wp2_with (first | (go_at_call 67; ((with_reducible refine (f_withinV hwn _).mono ?_); rintro e w' ⟨rfl, rfl⟩)) | (go_at_call 112; first | ((with_reducible refine (f_must_ok _ _).mono ?_); rintro e w' ⟨rfl, rfl⟩) | ((with_reducible refine (f_must_no _ _).mono ?_); rintro e w' ⟨rfl, rfl⟩)))
  exact ⟨rfl, deed_err HX.out B0⟩
 have g1 : decide (L.gusts.l.length < 2000) = true := decide_eq_true hlt
 have g2 : decide ((L.gusts.l.length : Int) < 2000) = true := decide_eq_true (by omega)
 obtain ⟨i0, hi, hi1, hi2, hi3⟩ := info_Int
 go_enter Tryz.func273, Tryz.ntmps273
 go_upto_region 3 with (first | (go_at_call 67; ((with_reducible refine (f_withinV hwn _).mono ?_); rintro e w' ⟨rfl, rfl⟩)) | (go_at_call 112; ((with_reducible refine (f_must_ok _ _).mono ?_); rintro e w' ⟨rfl, rfl⟩)))
 generalize (w.alloc (.cells #[.int .i64 g] 153)) = w1 at *
 have HCL := Lib.hid (fun w' (h : Below w1.heap.size w1 w') => (show Calls Tryz.prog 60 #[.slice L.gusts.a L.gusts.l.length L.gusts.c] w' (CloP zC 1 3 L.gusts.l w') from c_CloneInt L.gusts w' (by omega) (hN0.on h).gusts.rd))
 have HAL := Lib.hid (fun w' (h : Below w1.heap.size w1 w') => (hN0.on h).aloft hI)
 have HGV := Lib.hid (fun w' (h : Below w1.heap.size w1 w') A c (hR : Rd zC 1 w' A (L.gusts.l ++ [g])) v (hv : goB L.val (L.gusts.l ++ [g]) = v) => (show Calls Tryz.prog 55 #[.pointer (some ⟨nb, 0, none⟩), .slice A (L.gusts.l.length + 1) c] w' fun e w2 => e = .returned (.bool v) ∧ Below w'.heap.size w' w2 by
  have := f_goesV (c := c) hv (hN0.on h).cel (by simp; omega) hR
  simpa using this))
 have HN0 := Lib.hid hN0
 clear hI hN0
 generalize hU : upN L.val = U at *
 refine wp_region_noPanic ?_
 refine wp_region_held_drew (S := (fun w' => (∀ b o, b < w1.heap.size → w'.cell? ⟨b, o, none⟩ = w1.cell? ⟨b, o, none⟩) ∧ (∀ b o, b < w1.heap.size → w'.frozen? ⟨b, o, none⟩ = w1.frozen? ⟨b, o, none⟩) ∧ Below w1.heap.size w1 w')) (by kernel_rfl) (kq_draw kq_refl) (fun hS0 => ?_)
 refine tk 0 16 ?gv1 rfl ?_; try simp only [AP]
 refine tk 1 17 ?gv2 rfl ?_; try simp only [AP]
 refine tk 2 18 ?gv3 rfl ?_; try simp only [AP]
 refine tk 3 19 ?gv4 rfl ?_; try simp only [AP]
 refine tk 5 21 ?gv5 rfl ?_; try simp only [AP]
 refine tk 6 22 ?gv6 rfl ?_; try simp only [AP]
 refine wpAnyH_ready (rs := [4, 7]) (by kernel_rfl) (by simp) ?_
 refine AllReadyH.cons rfl (fun K hK => ?_) (AllReadyH.cons rfl (fun K hK => ?_) AllReadyH.nil)
 go_simp
 (go_at_call 60; ((with_reducible refine (HCL.out _ bl).mono ?_); rintro e w3 ⟨⟨A3, l3, c3⟩, rfl, hl3, ho3, hle3, hcm3, hb3⟩; dsimp only at hl3; subst hl3; replace ho3 := own_mono ho3 (show w1.heap.size ≤ _ from by first | exact Nat.le_refl _ | (simp; done) | (simp; omega)); dsimp only [Sl.v] at *; obtain ⟨hc3, hf3⟩ := bcell hb3; have hz3 := hb3.size; (try simp [SZ] at hz3); (try simp only [SZ] at hc3 hf3)))
 refine hK.out _ _ kq (fun hS1 => ?_)
 clear hK K
 try simp only [AP]
 refine wpAnyH_ready (rs := [7]) (by kernel_rfl) (by simp) ?_
 refine AllReadyH.cons rfl (fun K hK => ?_) AllReadyH.nil
 go_simp
 refine hK.out _ _ kq (fun hS2 => ?_)
 clear hK K
 try simp only [AP]
 refine wpAnyH_ready (rs := [8]) (by kernel_rfl) (by simp) ?_
 refine AllReadyH.cons rfl (fun K hK => ?_) AllReadyH.nil
 ((first | (refine step_append_at (by rfl) _ _ _ (by rfl) w1.heap.size 3 i0 _ 1 8 Tryz.underlying48 hi hi1 hi2 hi3 rfl (by omega) _ _ _ (by rfl) (own_on ho3 (bl_alloc (below_refl _) _)) ⟨w3.heap.size, 0, none⟩ 1 1 [.int .i64 g] (by rfl) rfl (cells_new w3 [.int .i64 g] 3) (fun u hu => by simp at hu; subst hu; rfl) (by unfold maxLen; omega) (by omega) (by first | omega | (simp; omega)) ?_) | (refine step_append_at (by rfl) _ _ _ (by rfl) w1.heap.size 3 i0 _ 1 8 Tryz.underlying48 hi hi1 hi2 hi3 rfl (by omega) _ _ _ (by rfl) ho3 ⟨w1.heap.size, 0, none⟩ 1 1 [.int .i64 g] (by rfl) rfl (news_on (w := w1.drew) hb3) (fun u hu => by simp at hu; subst hu; rfl) (by unfold maxLen; omega) (by omega) (by first | omega | (simp; omega)) ?_)); intro v4 w4 hown4 hgrow4; obtain ⟨A4, c4, rfl⟩ := own_slice hown4; have hk4 : Below w1.heap.size w1 w4 := (bl_grown bl hgrow4 (fun r hr => (own_ge ho3 r hr).1) (by first | omega | (simp; omega))); have hq4 := kq_of hk4)
 refine hK.out _ _ kq (fun hS3 => ?_)
 clear hK K
 try simp only [AP]
 refine tk 9 4 ?gv7 rfl ?_; try simp only [AP]
 refine wpAnyH_done (by kernel_rfl) (NoPanic.normal ?_) _
 rotate_left
 go_simp
 refine hK.out _ _ kq (fun hS1 => ?_)
 clear hK K
 try simp only [AP]
 refine wpAnyH_ready (rs := [4]) (by kernel_rfl) (by simp) ?_
 refine AllReadyH.cons rfl (fun K hK => ?_) AllReadyH.nil
 go_simp
 (go_at_call 60; ((with_reducible refine (HCL.out _ bl).mono ?_); rintro e w3 ⟨⟨A3, l3, c3⟩, rfl, hl3, ho3, hle3, hcm3, hb3⟩; dsimp only at hl3; subst hl3; replace ho3 := own_mono ho3 (show w1.heap.size ≤ _ from by first | exact Nat.le_refl _ | (simp; done) | (simp; omega)); dsimp only [Sl.v] at *; obtain ⟨hc3, hf3⟩ := bcell hb3; have hz3 := hb3.size; (try simp [SZ] at hz3); (try simp only [SZ] at hc3 hf3)))
 refine hK.out _ _ kq (fun hS2 => ?_)
 clear hK K
 try simp only [AP]
 refine wpAnyH_ready (rs := [8]) (by kernel_rfl) (by simp) ?_
 refine AllReadyH.cons rfl (fun K hK => ?_) AllReadyH.nil
 ((first | (refine step_append_at (by rfl) _ _ _ (by rfl) w1.heap.size 3 i0 _ 1 8 Tryz.underlying48 hi hi1 hi2 hi3 rfl (by omega) _ _ _ (by rfl) (own_on ho3 (bl_alloc (below_refl _) _)) ⟨w3.heap.size, 0, none⟩ 1 1 [.int .i64 g] (by rfl) rfl (cells_new w3 [.int .i64 g] 3) (fun u hu => by simp at hu; subst hu; rfl) (by unfold maxLen; omega) (by omega) (by first | omega | (simp; omega)) ?_) | (refine step_append_at (by rfl) _ _ _ (by rfl) w1.heap.size 3 i0 _ 1 8 Tryz.underlying48 hi hi1 hi2 hi3 rfl (by omega) _ _ _ (by rfl) ho3 ⟨w1.heap.size, 0, none⟩ 1 1 [.int .i64 g] (by rfl) rfl (news_on (w := w1.drew) hb3) (fun u hu => by simp at hu; subst hu; rfl) (by unfold maxLen; omega) (by omega) (by first | omega | (simp; omega)) ?_)); intro v4 w4 hown4 hgrow4; obtain ⟨A4, c4, rfl⟩ := own_slice hown4; have hk4 : Below w1.heap.size w1 w4 := (bl_grown bl hgrow4 (fun r hr => (own_ge ho3 r hr).1) (by first | omega | (simp; omega))); have hq4 := kq_of hk4)
 refine hK.out _ _ kq (fun hS3 => ?_)
 clear hK K
 try simp only [AP]
 refine tk 9 4 ?gv8 rfl ?_; try simp only [AP]
 refine wpAnyH_done (by kernel_rfl) (NoPanic.normal ?_) _
 rotate_left
 all_goals
  have hown := own_snoc (enc := zC) (x := g) rfl rfl hown4
  have hR4 : Rd zC 1 w4 A4 (L.gusts.l ++ [g]) := own_rd' (enc := zC) (sz := 1) (fun _ => rfl) hown
  have hG4 : Got (fun b => w.heap.size ≤ b) w4 zC 1 ⟨A4, L.gusts.l ++ [g], c4⟩ := got_own (fun _ => rfl) hown (fun b h1 h2 => by omega)
  have B4 := hk4
  obtain ⟨hcx, hfx⟩ := bcell hk4
  have lz4 : w1.heap.size ≤ w4.heap.size := hk4.size
  have ln4 : nb < w4.heap.size := by omega
  by_cases hz : U = 0
  ·have g3 : (U == 0) = true := by simpa using hz
   have HX := Lib.hid (show deed (.gust g) L.val = .ok { L.val with gusts := L.gusts.l ++ [g] } by rw [HX2.out, if_neg (by omega), if_neg (by rw [decide_eq_true hz]; simp)])
   clear hz hU
   go_upto_region 5 with (first | (go_at_call 259; ((with_reducible refine (HAL.out _ bl).mono ?_); rintro e w5 ⟨rfl, hb5⟩; obtain ⟨hc5, hf5⟩ := bcell hb5; have hz5 := hb5.size; (try simp [SZ] at hz5); (try simp only [SZ] at hc5 hf5))) | (go_at_call 112; ((with_reducible refine (f_must_ok _ _).mono ?_); rintro e w' ⟨rfl, rfl⟩)))
   have B5 : Below w1.heap.size w1 w5 := bl
   obtain ⟨hcy, hfy⟩ := bcell B5
   have q18 := (hcy nb 18 lnb).trans c18
   have qf := (hfy nb 18 lnb).trans (hfn 18)
   go_wp2
   go_end0
   have st := nb_step (nb := nb) (below_tr B0 B5) 18 (.slice A4 (L.gusts.l.length + 1) c4)
   have K := hN.kept st
   have hG5 : Got (fun b => w.heap.size ≤ b) w5 zC 1 ⟨A4, L.gusts.l ++ [g], c4⟩ := hG4.on hb5
   have hG6 := got_new (T := T) (sb := sb) (rb := rb) hG5 hN.lt (Stp.setCell (N := fun b => b = nb) (p := ⟨nb, 18, none⟩) (Stp.refl _ w5) (.inl rfl) (.slice A4 (L.gusts.l.length + 1) c4))
   exact deed_ok (L' := { L with gusts := ⟨A4, L.gusts.l ++ [g], c4⟩ }) HX.out rfl ⟨by have := (HN0.out.blk.below B5 lnb).set_ 18 (.slice A4 (L.gusts.l.length + 1) c4); rw [← show (L.gusts.l ++ [g]).length = L.gusts.l.length + 1 by simp] at this ⊢; exact this, ⟨K.su, hG6, K.rigs, K.rk, K.sites, K.sk, K.items, K.back⟩, K.stp, rfl, rfl⟩
  ·have g3 : (U == 0) = false := by simpa using hz
   have HU := Lib.hid hz
   clear hz hU
   cases hg : goB L.val (L.gusts.l ++ [g])
   ·have HX := Lib.hid (show deed (.gust g) L.val = .error 11 by rw [HX2.out, if_neg (by omega), if_pos (by rw [decide_eq_false HU.out, hg]; rfl)])
    have HGO := Lib.hid (fun w' (h : Below w4.heap.size w4 w') => HGV.out w' (below_tr hk4 h) A4 c4 (hR4.on h) _ hg)
    go_wp2_with (first | (go_at_call 259; ((with_reducible refine (HAL.out _ bl).mono ?_); rintro e w5 ⟨rfl, hb5⟩; obtain ⟨hc5, hf5⟩ := bcell hb5; have hz5 := hb5.size; (try simp [SZ] at hz5); (try simp only [SZ] at hc5 hf5))) | (go_at_call 55; ((with_reducible refine (HGO.out _ bl).mono ?_); rintro e w6 ⟨rfl, hb6⟩; obtain ⟨hc6, hf6⟩ := bcell hb6; have hz6 := hb6.size; (try simp [SZ] at hz6); (try simp only [SZ] at hc6 hf6))) | (go_at_call 112; ((with_reducible refine (f_must_no _ _).mono ?_); rintro e w' ⟨rfl, rfl⟩)))
    exact ⟨rfl, deed_err HX.out bl⟩
   ·have HX := Lib.hid (show deed (.gust g) L.val = .ok { L.val with gusts := L.gusts.l ++ [g] } by rw [HX2.out, if_neg (by omega), if_neg (by rw [decide_eq_false HU.out, hg]; simp)])
    have HGO := Lib.hid (fun w' (h : Below w4.heap.size w4 w') => HGV.out w' (below_tr hk4 h) A4 c4 (hR4.on h) _ hg)
    go_upto_region 5 with (first | (go_at_call 259; ((with_reducible refine (HAL.out _ bl).mono ?_); rintro e w5 ⟨rfl, hb5⟩; obtain ⟨hc5, hf5⟩ := bcell hb5; have hz5 := hb5.size; (try simp [SZ] at hz5); (try simp only [SZ] at hc5 hf5))) | (go_at_call 55; ((with_reducible refine (HGO.out _ bl).mono ?_); rintro e w6 ⟨rfl, hb6⟩; obtain ⟨hc6, hf6⟩ := bcell hb6; have hz6 := hb6.size; (try simp [SZ] at hz6); (try simp only [SZ] at hc6 hf6))) | (go_at_call 112; ((with_reducible refine (f_must_ok _ _).mono ?_); rintro e w' ⟨rfl, rfl⟩)))
    have B6 : Below w1.heap.size w1 w6 := bl
    obtain ⟨hcy, hfy⟩ := bcell B6
    have q18 := (hcy nb 18 lnb).trans c18
    have qf := (hfy nb 18 lnb).trans (hfn 18)
    go_wp2
    go_end0
    have st := nb_step (nb := nb) (below_tr B0 B6) 18 (.slice A4 (L.gusts.l.length + 1) c4)
    have K := hN.kept st
    have hG5 : Got (fun b => w.heap.size ≤ b) w6 zC 1 ⟨A4, L.gusts.l ++ [g], c4⟩ := (hG4.on hb5).on hb6
    have hG6 := got_new (T := T) (sb := sb) (rb := rb) hG5 hN.lt (Stp.setCell (N := fun b => b = nb) (p := ⟨nb, 18, none⟩) (Stp.refl _ w6) (.inl rfl) (.slice A4 (L.gusts.l.length + 1) c4))
    exact deed_ok (L' := { L with gusts := ⟨A4, L.gusts.l ++ [g], c4⟩ }) HX.out rfl ⟨by have := (HN0.out.blk.below B6 lnb).set_ 18 (.slice A4 (L.gusts.l.length + 1) c4); rw [← show (L.gusts.l ++ [g]).length = L.gusts.l.length + 1 by simp] at this ⊢; exact this, ⟨K.su, hG6, K.rigs, K.rk, K.sites, K.sk, K.items, K.back⟩, K.stp, rfl, rfl⟩
end Go.Proofs.YtgemlddincnfcaaGreatDoor.Fi
