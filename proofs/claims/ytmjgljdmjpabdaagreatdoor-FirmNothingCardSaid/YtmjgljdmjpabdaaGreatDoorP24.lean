/- The parts of the proof, part 24. -/
import Derived.Test.YtmjgljdmjpabdaaGreatDoorP0
import Derived.Test.YtmjgljdmjpabdaaGreatDoorP18
set_option linter.unusedSimpArgs false
set_option linter.unusedVariables false
namespace Go.Proofs.YtmjgljdmjpabdaaGreatDoor.Fi
open Go.RowKit Go.Lib Tx
set_option maxHeartbeats 4000000 in
set_option maxRecDepth 20000 in
theorem d_lift (r : Int) (l : Sl Int) (T : Nat → Prop) (nb sb rb : Nat) (L : LS) (w : World) (hN : Nxt T nb sb rb w L) (hI : Inv L.val) (hll : l.l.length ≤ 100000) (hRl : Rd zC 1 w l.a l.l) :
    Calls Tryz.prog 256 #[.agg #[.int .i64 r, .slice l.a l.l.length l.c], .pointer (some ⟨nb, 0, none⟩)] w (DeedP (.lift r l.l) T nb sb rb L w) := by
  have x0 := Blk.new w 164 #[.int .i64 r, .slice l.a l.l.length l.c]
  have B0 := bl_alloc (below_refl w) (.cells #[.int .i64 r, .slice l.a l.l.length l.c] 164)
  have b0 := x0.cell 0
  have b1 := x0.cell 1
  simp only [List.getElem?_toArray, List.getElem?_cons_zero, List.getElem?_cons_succ] at b0 b1
  have hN0 := hN.on B0
  have hRl0 := hRl.on B0
  have hrl : L.rigs.l.length ≤ 50 := by have h := hI.rl; unfold LS.val at h; dsimp only at h; rw [List.length_map] at h; exact h
  have hrl0 : L.rigs.l.length ≤ 1000 := by omega
  cases hth : rtB L.val r
  · have HX := Lib.hid (show deed (.lift r l.l) L.val = .error 5 by unfold deed; dsimp only; rw [if_pos hth])
    have HAT := Lib.hid (f_rigAt_no nb L r _ hN0.cel hrl0 hth)
    go_enter Tryz.func256, Tryz.ntmps256
    go_wp2_with (go_at_call 258; ((with_reducible refine (HAT.out).mono ?_); rintro e w' ⟨rfl, rfl⟩))
    exact ⟨rfl, deed_err HX.out B0⟩
  obtain ⟨i0, i1⟩ := rtB_iff.1 hth
  obtain ⟨k, rfl⟩ := Int.eq_ofNat_of_zero_le i0
  have hk : k < L.rigs.l.length := by omega
  obtain ⟨g, hg, hga, d0, d1x⟩ := hN0.rig hk
  have HAT := Lib.hid (f_rigAt nb L k _ rb 0 hN0.cel hrl0 hk hga)
  have HRA := Lib.hid (rigA_of hg)
  have hgm : g.val ∈ L.val.rigs := by unfold LS.val; exact List.mem_map.2 ⟨g, List.mem_of_getElem? hg, rfl⟩
  obtain ⟨gs0, gs1⟩ := hI.rs g.val hgm
  obtain ⟨gk0, gk1⟩ := hI.rk g.val hgm
  have gk0 : g.lk.l.length ≤ 32 := gk0
  have gk1 : ∀ x ∈ g.lk.l, G.LW x := fun x hx => (gk1 x hx).1
  have gs1 : g.st < (L.sites.l.length : Int) := by unfold LS.val at gs1; dsimp only at gs1; rw [List.length_map] at gs1; exact gs1
  have gs0 : 0 ≤ g.st := gs0
  obtain ⟨m, hm⟩ := Int.eq_ofNat_of_zero_le gs0
  obtain ⟨s, cur, hs, ha, hbs, hir, c0, c1, c2⟩ := hN0.site (i := m) (by omega)
  have HSA := Lib.hid (siteA_of hs)
  obtain ⟨ME, hME⟩ : ∃ x, x = G.wkE L.items.l g.lk.l L.back.l L.day l.l := ⟨_, rfl⟩
  obtain ⟨MB, hMB⟩ : ∃ x, x = G.mayB L.items.l g.lk.l L.back.l L.day l.l := ⟨_, rfl⟩
  have HX2 := Lib.hid (show deed (.lift (k : Int) l.l) L.val = if (decide (0 < g.lk.l.length) && decide (0 < s.men)) = false then .error 10 else if goB L.val L.val.gusts = false then .error 11
      else if ME ≠ 0 then .error ME else if MB = false then .error 12 else .ok L.val by
    unfold deed; dsimp only; rw [if_neg (by rw [hth]; simp), HRA.out, show (g.val).st = (m : Int) from hm, HSA.out, hME, hMB]; rfl)
  have lrb := hN0.rlt (by intro e; rw [e] at hk; simp at hk)
  have lsb := hbs.lt
  have lnb := hN0.lt
  have lw := x0.lt
  have hil : L.items.l.length ≤ 100000 := by have := G.vldG_len (show G.vldG L.items.l = true from hI.it); omega
  have hbl : L.back.l.length ≤ 100000 := by have : L.back.l.length ≤ 100 := hI.bl; omega
  have hiw : ∀ x ∈ L.items.l, G.IW x := hI.iw
  have d0y : (w.alloc (.cells #[.int .i64 (k : Int), .slice l.a l.l.length l.c] 164)).cell? ⟨rb, k * 2, none⟩ = some (.int .i64 (m : Int)) := by rw [← hm]; exact d0
  have d1 : (w.alloc (.cells #[.int .i64 (k : Int), .slice l.a l.l.length l.c] 164)).cell? ⟨rb, k * 2 + 1, none⟩ = some (.slice g.lk.a g.lk.l.length g.lk.c) := d1x
  have c20 : (w.alloc (.cells #[.int .i64 (k : Int), .slice l.a l.l.length l.c] 164)).cell? ⟨nb, 20, none⟩ = some (.slice (some ⟨sb, 0, none⟩) L.sites.l.length L.sites.c) := by rw [← ha]; exact hN0.cel 20 _ rfl
  have c17 : (w.alloc (.cells #[.int .i64 (k : Int), .slice l.a l.l.length l.c] 164)).cell? ⟨nb, 17, none⟩ = some (.int .i64 L.day) := hN0.cel 17 _ rfl
  have c18 : (w.alloc (.cells #[.int .i64 (k : Int), .slice l.a l.l.length l.c] 164)).cell? ⟨nb, 18, none⟩ = some (.slice L.gusts.a L.gusts.l.length L.gusts.c) := hN0.cel 18 _ rfl
  have c21 : (w.alloc (.cells #[.int .i64 (k : Int), .slice l.a l.l.length l.c] 164)).cell? ⟨nb, 21, none⟩ = some (.slice L.items.a L.items.l.length L.items.c) := hN0.cel 21 _ rfl
  have c22 : (w.alloc (.cells #[.int .i64 (k : Int), .slice l.a l.l.length l.c] 164)).cell? ⟨nb, 22, none⟩ = some (.slice L.back.a L.back.l.length L.back.c) := hN0.cel 22 _ rfl
  obtain ⟨m0, m1, m2⟩ : (0 : Int) ≤ (m : Int) ∧ (m : Int).toNat = m ∧ (m : Int) < (L.sites.l.length : Int) := ⟨by omega, by omega, by omega⟩
  clear c0 d1x d0
  go_enter Tryz.func256, Tryz.ntmps256
  go_upto_region 2 with (go_at_call 258; ((with_reducible refine (HAT.out).mono ?_); rintro e w' ⟨rfl, rfl⟩))
  generalize (w.alloc (.cells #[.int .i64 (k : Int), .slice l.a l.l.length l.c] 164)) = w1 at *
  have HGV := Lib.hid (fun w' (h : Below w1.heap.size w1 w') v hv => (hN0.on h).goes hI (v := v) hv)
  have HMY := Lib.hid (fun w' (h : Below w1.heap.size w1 w') => (show Calls Tryz.prog 259 #[.slice L.items.a L.items.l.length L.items.c, .slice g.lk.a g.lk.l.length g.lk.c, .slice L.back.a L.back.l.length L.back.c, .int .i64 L.day, .slice l.a l.l.length l.c] w' fun e w2 => e = .returned (.tuple #[.bool MB, .int .i64 ME]) ∧ Below w'.heap.size w' w2 by
    rw [hMB, hME]
    exact G.p_May L.items.a g.lk.a L.back.a l.a L.items.l g.lk.l L.back.l L.day l.l L.items.c g.lk.c L.back.c l.c w' hil (by omega) hbl hll (hN0.on h).items.rd hiw ((hN0.on h).rk g (List.mem_of_getElem? hg)).rd gk1 (hN0.on h).back.rd (hRl0.on h)))
  have HI := Lib.hid hI
  have HN0 := Lib.hid hN0
  have HMM := Lib.hid (And.intro hME hMB)
  clear hI hN0 hME hMB hiw gk1
  by_cases hd : 0 < g.lk.l.length
  · have g1 : decide (0 < g.lk.l.length) = true := decide_eq_true hd
    have g2 : decide ((0 : Int) < (g.lk.l.length : Int)) = true := decide_eq_true (by omega)
    by_cases hz : 0 < s.men
    · have g3 : decide (0 < s.men) = true := decide_eq_true hz
      have HXA := Lib.hid (show deed (.lift (k : Int) l.l) L.val = if goB L.val L.val.gusts = false then .error 11 else if ME ≠ 0 then .error ME else if MB = false then .error 12 else .ok L.val by rw [HX2.out, if_neg (by rw [g1, g3]; simp)])
      refine wp_region_noPanic ?_
      refine wp_region_held_drew (S := (fun w' => (∀ b o, b < w1.heap.size → w'.cell? ⟨b, o, none⟩ = w1.cell? ⟨b, o, none⟩) ∧ (∀ b o, b < w1.heap.size → w'.frozen? ⟨b, o, none⟩ = w1.frozen? ⟨b, o, none⟩) ∧ Below w1.heap.size w1 w')) (by kernel_rfl) (kq_draw kq_refl) (fun hS0 => ?_)
      refine tk 0 11 ?gv1 rfl (by kernel_rfl) (fun _ _ _ h => h) ?gy1 (by assumption) ?_
      case gy1 => (intro w' hSw; go_simp; try with_reducible rfl)
      try simp only [AP]
      refine tk 1 12 ?gv2 rfl (by kernel_rfl) (fun _ _ _ h => h) ?gy2 (by assumption) ?_
      case gy2 => (intro w' hSw; go_simp; try with_reducible rfl)
      try simp only [AP]
      refine tk 2 13 ?gv3 rfl (by kernel_rfl) (fun _ _ _ h => h) ?gy3 (by assumption) ?_
      case gy3 => (intro w' hSw; go_simp; try with_reducible rfl)
      try simp only [AP]
      refine tk 3 14 ?gv4 rfl (by kernel_rfl) (fun _ _ _ h => h) ?gy4 (by assumption) ?_
      case gy4 => (intro w' hSw; go_simp; try with_reducible rfl)
      try simp only [AP]
      refine tk 4 15 ?gv5 rfl (by kernel_rfl) (fun _ _ _ h => h) ?gy5 (by assumption) ?_
      case gy5 => (intro w' hSw; go_simp; try with_reducible rfl)
      try simp only [AP]
      refine tk 5 16 ?gv6 rfl (by kernel_rfl) (fun _ _ _ h => h) ?gy6 (by assumption) ?_
      case gy6 => (intro w' hSw; go_simp; try with_reducible rfl)
      try simp only [AP]
      refine tk 6 17 ?gv7 rfl (by kernel_rfl) (fun _ _ _ h => h) ?gy7 (by assumption) ?_
      case gy7 => (intro w' hSw; go_simp; try with_reducible rfl)
      try simp only [AP]
      refine tg 7 18 6 true ?gv8 rfl (by kernel_rfl) (fun _ _ _ h => h) (by rfl) ?gy8 (by assumption) ?_
      case gy8 => (intro w' hSw; go_simp; try with_reducible rfl)
      try simp only [AP]
      refine tg 8 19 6 true ?gv9 rfl (by kernel_rfl) (fun _ _ _ h => h) (by rfl) ?gy9 (by assumption) ?_
      case gy9 => (intro w' hSw; go_simp; try with_reducible rfl)
      try simp only [AP]
      refine tg 9 20 6 true ?gv10 rfl (by kernel_rfl) (fun _ _ _ h => h) (by rfl) ?gy10 (by assumption) ?_
      case gy10 => (intro w' hSw; go_simp; try with_reducible rfl)
      try simp only [AP]
      refine tg 10 21 6 true ?gv11 rfl (by kernel_rfl) (fun _ _ _ h => h) (by rfl) ?gy11 (by assumption) ?_
      case gy11 => (intro w' hSw; go_simp; try with_reducible rfl)
      try simp only [AP]
      refine tg 11 22 6 true ?gv12 rfl (by kernel_rfl) (fun _ _ _ h => h) (by rfl) ?gy12 (by assumption) ?_
      case gy12 => (intro w' hSw; go_simp; try with_reducible rfl)
      try simp only [AP]
      refine tg 12 23 6 true ?gv13 rfl (by kernel_rfl) (fun _ _ _ h => h) (by rfl) ?gy13 (by assumption) ?_
      case gy13 => (intro w' hSw; go_simp; try with_reducible rfl)
      try simp only [AP]
      refine tg 13 24 6 true ?gv14 rfl (by kernel_rfl) (fun _ _ _ h => h) (by rfl) ?gy14 (by assumption) ?_
      case gy14 => (intro w' hSw; go_simp; try with_reducible rfl)
      try simp only [AP]
      refine tg 14 25 6 true ?gv15 rfl (by kernel_rfl) (fun _ _ _ h => h) (by rfl) ?gy15 (by assumption) ?_
      case gy15 => (intro w' hSw; go_simp; try with_reducible rfl)
      try simp only [AP]
      refine tg 15 26 6 true ?gv16 rfl (by kernel_rfl) (fun _ _ _ h => h) (by rfl) ?gy16 (by assumption) ?_
      case gy16 => (intro w' hSw; go_simp; try with_reducible rfl)
      try simp only [AP]
      refine tg 16 27 6 true ?gv17 rfl (by kernel_rfl) (fun _ _ _ h => h) (by rfl) ?gy17 (by assumption) ?_
      case gy17 => (intro w' hSw; go_simp; try with_reducible rfl)
      try simp only [AP]
      refine tg 17 28 6 true ?gv18 rfl (by kernel_rfl) (fun _ _ _ h => h) (by rfl) ?gy18 (by assumption) ?_
      case gy18 => (intro w' hSw; go_simp; try with_reducible rfl)
      try simp only [AP]
      refine tg 18 29 6 true ?gv19 rfl (by kernel_rfl) (fun _ _ _ h => h) (by rfl) ?gy19 (by assumption) ?_
      case gy19 => (intro w' hSw; go_simp; try with_reducible rfl)
      try simp only [AP]
      refine tk 19 30 ?gv20 rfl (by kernel_rfl) (fun _ _ _ h => h) ?gy20 (by assumption) ?_
      case gy20 => (intro w' hSw; go_simp; try with_reducible rfl)
      try simp only [AP]
      refine wpAnyH_ready (rs := [20]) (by kernel_rfl) (by simp) ?_
      refine AllReadyH.cons rfl (fun K hK => ?_) AllReadyH.nil
      go_simp
      (go_at_call 131; ((with_reducible refine (f_must_ok _ _).mono ?_); rintro e w' ⟨rfl, rfl⟩))
      refine hK.out _ _ (by ((show Kq w1 _); (repeat' (first | assumption | exact kq_refl | refine kq_draw ?_ | refine kq_drewN ?_ | refine kq_alloc ?_ | refine kq_set ?_ ?_ | refine kq_step ?_ (by assumption))); (all_goals (first | omega | (simp; omega))))) (fun hS1 => ?_)
      clear hK K
      try simp only [AP]
      refine wpAnyH_done (by kernel_rfl) (NoPanic.normal ?_) _
      cases hg : goB L.val L.val.gusts
      · have HX := Lib.hid (show deed (.lift (k : Int) l.l) L.val = .error 11 by rw [HXA.out, if_pos hg])
        have HGO := Lib.hid (fun w' h => HGV.out w' h _ hg)
        go_wp2_with (first | (go_at_call 57; ((with_reducible refine (HGO.out _ (by (repeat' (first | assumption | exact below_refl _ | refine bl_alloc ?_ _ | refine Below.setCell ?_ ?_ _ | refine below_draw ?_ | refine below_drewN ?_ _ | refine below_tr ?_ (by assumption))) <;> (first | omega | (simp; done) | (simp; omega)))).mono ?_); rintro e w4 ⟨rfl, hb4⟩; obtain ⟨hc4, hf4⟩ := bcell hb4; have hz4 := hb4.size; (try simp [sz_drew, sz_drewN] at hz4); (try simp only [sz_drew, sz_drewN] at hc4 hf4))) | (go_at_call 131; ((with_reducible refine (f_must_no _ _).mono ?_); rintro e w' ⟨rfl, rfl⟩)))
        exact ⟨rfl, deed_err HX.out (by (repeat' (first | assumption | exact below_refl _ | refine bl_alloc ?_ _ | refine Below.setCell ?_ ?_ _ | refine below_draw ?_ | refine below_drewN ?_ _ | refine below_tr ?_ (by assumption))) <;> (first | omega | (simp; done) | (simp; omega)))⟩
      · have HGO := Lib.hid (fun w' h => HGV.out w' h _ hg)
        go_upto_region 4 with (first | (go_at_call 57; ((with_reducible refine (HGO.out _ (by (repeat' (first | assumption | exact below_refl _ | refine bl_alloc ?_ _ | refine Below.setCell ?_ ?_ _ | refine below_draw ?_ | refine below_drewN ?_ _ | refine below_tr ?_ (by assumption))) <;> (first | omega | (simp; done) | (simp; omega)))).mono ?_); rintro e w4 ⟨rfl, hb4⟩; obtain ⟨hc4, hf4⟩ := bcell hb4; have hz4 := hb4.size; (try simp [sz_drew, sz_drewN] at hz4); (try simp only [sz_drew, sz_drewN] at hc4 hf4))) | (go_at_call 131; ((with_reducible refine (f_must_ok _ _).mono ?_); rintro e w' ⟨rfl, rfl⟩)))
        have B4 : Below w1.heap.size w1 w4 := by (repeat' (first | assumption | exact below_refl _ | refine bl_alloc ?_ _ | refine Below.setCell ?_ ?_ _ | refine below_draw ?_ | refine below_drewN ?_ _ | refine below_tr ?_ (by assumption))) <;> (first | omega | (simp; done) | (simp; omega))
        obtain ⟨hcx, hfx⟩ := bcell B4
        have lz : w1.heap.size ≤ w4.heap.size := B4.size
        have q17 := (hcx nb 17 lnb).trans c17
        have q21 := (hcx nb 21 lnb).trans c21
        have q22 := (hcx nb 22 lnb).trans c22
        have qd1 := (hcx rb (k * 2 + 1) lrb).trans d1
        have qb1 := (hcx w.heap.size 1 lw).trans b1
        have lw4 : w.heap.size < w4.heap.size := by omega
        have ln4 : nb < w4.heap.size := by omega
        have lr4 : rb < w4.heap.size := by omega
        refine wp_region_noPanic ?_
        refine wp_region_held_drew (S := (fun w' => (∀ b o, b < w4.heap.size → w'.cell? ⟨b, o, none⟩ = w4.cell? ⟨b, o, none⟩) ∧ (∀ b o, b < w4.heap.size → w'.frozen? ⟨b, o, none⟩ = w4.frozen? ⟨b, o, none⟩) ∧ Below w4.heap.size w4 w')) (by kernel_rfl) (kq_draw kq_refl) (fun hS0 => ?_)
        refine tk 0 40 ?gv21 rfl (by kernel_rfl) (fun _ _ _ h => h) ?gy21 (by assumption) ?_
        case gy21 => (intro w' hSw; go_simp; try with_reducible rfl)
        try simp only [AP]
        refine tk 1 41 ?gv22 rfl (by kernel_rfl) (fun _ _ _ h => h) ?gy22 (by assumption) ?_
        case gy22 => (intro w' hSw; go_simp; try with_reducible rfl)
        try simp only [AP]
        refine tk 2 42 ?gv23 rfl (by kernel_rfl) (fun _ _ _ h => h) ?gy23 (by assumption) ?_
        case gy23 => (intro w' hSw; go_simp; try with_reducible rfl)
        try simp only [AP]
        refine tk 3 43 ?gv24 rfl (by kernel_rfl) (fun _ _ _ h => h) ?gy24 (by assumption) ?_
        case gy24 => (intro w' hSw; go_simp; try with_reducible rfl)
        try simp only [AP]
        refine tk 4 44 ?gv25 rfl (by kernel_rfl) (fun _ _ _ h => h) ?gy25 (by assumption) ?_
        case gy25 => (intro w' hSw; go_simp; try with_reducible rfl)
        try simp only [AP]
        refine tk 5 45 ?gv26 rfl (by kernel_rfl) (fun _ _ _ h => h) ?gy26 (by assumption) ?_
        case gy26 => (intro w' hSw; go_simp; try with_reducible rfl)
        try simp only [AP]
        refine tk 6 46 ?gv27 rfl (by kernel_rfl) (fun _ _ _ h => h) ?gy27 (by assumption) ?_
        case gy27 => (intro w' hSw; go_simp; try with_reducible rfl)
        try simp only [AP]
        refine tk 7 47 ?gv28 rfl (by kernel_rfl) (fun _ _ _ h => h) ?gy28 (by assumption) ?_
        case gy28 => (intro w' hSw; go_simp; try with_reducible rfl)
        try simp only [AP]
        refine tk 8 48 ?gv29 rfl (by kernel_rfl) (fun _ _ _ h => h) ?gy29 (by assumption) ?_
        case gy29 => (intro w' hSw; go_simp; try with_reducible rfl)
        try simp only [AP]
        refine tk 9 49 ?gv30 rfl (by kernel_rfl) (fun _ _ _ h => h) ?gy30 (by assumption) ?_
        case gy30 => (intro w' hSw; go_simp; try with_reducible rfl)
        try simp only [AP]
        refine tk 10 50 ?gv31 rfl (by kernel_rfl) (fun _ _ _ h => h) ?gy31 (by assumption) ?_
        case gy31 => (intro w' hSw; go_simp; try with_reducible rfl)
        try simp only [AP]
        refine tk 11 51 ?gv32 rfl (by kernel_rfl) (fun _ _ _ h => h) ?gy32 (by assumption) ?_
        case gy32 => (intro w' hSw; go_simp; try with_reducible rfl)
        try simp only [AP]
        refine tk 12 52 ?gv33 rfl (by kernel_rfl) (fun _ _ _ h => h) ?gy33 (by assumption) ?_
        case gy33 => (intro w' hSw; go_simp; try with_reducible rfl)
        try simp only [AP]
        refine tk 13 53 ?gv34 rfl (by kernel_rfl) (fun _ _ _ h => h) ?gy34 (by assumption) ?_
        case gy34 => (intro w' hSw; go_simp; try with_reducible rfl)
        try simp only [AP]
        refine tk 14 54 ?gv35 rfl (by kernel_rfl) (fun _ _ _ h => h) ?gy35 (by assumption) ?_
        case gy35 => (intro w' hSw; go_simp; try with_reducible rfl)
        try simp only [AP]
        refine tk 15 55 ?gv36 rfl (by kernel_rfl) (fun _ _ _ h => h) ?gy36 (by assumption) ?_
        case gy36 => (intro w' hSw; go_simp; try with_reducible rfl)
        try simp only [AP]
        refine tk 16 56 ?gv37 rfl (by kernel_rfl) (fun _ _ _ h => h) ?gy37 (by assumption) ?_
        case gy37 => (intro w' hSw; go_simp; try with_reducible rfl)
        try simp only [AP]
        refine tk 17 57 ?gv38 rfl (by kernel_rfl) (fun _ _ _ h => h) ?gy38 (by assumption) ?_
        case gy38 => (intro w' hSw; go_simp; try with_reducible rfl)
        try simp only [AP]
        refine wpAnyH_ready (rs := [18]) (by kernel_rfl) (by simp) ?_
        refine AllReadyH.cons rfl (fun K hK => ?_) AllReadyH.nil
        go_simp
        (go_at_call 259; ((with_reducible refine (HMY.out _ (below_tr B4 (by (repeat' (first | assumption | exact below_refl _ | refine bl_alloc ?_ _ | refine Below.setCell ?_ ?_ _ | refine below_draw ?_ | refine below_drewN ?_ _ | refine below_tr ?_ (by assumption))) <;> (first | omega | (simp; done) | (simp; omega))))).mono ?_); rintro e w5 ⟨rfl, hb5⟩; obtain ⟨hc5, hf5⟩ := bcell hb5; have hz5 := hb5.size; (try simp [sz_drew, sz_drewN] at hz5); (try simp only [sz_drew, sz_drewN] at hc5 hf5)))
        refine hK.out _ _ (by ((show Kq w4 _); (repeat' (first | assumption | exact kq_refl | refine kq_draw ?_ | refine kq_drewN ?_ | refine kq_alloc ?_ | refine kq_set ?_ ?_ | refine kq_step ?_ (by assumption))); (all_goals (first | omega | (simp; omega))))) (fun hS1 => ?_)
        clear hK K
        try simp only [AP]
        refine tk 19 39 ?gv39 rfl (by kernel_rfl) (fun _ _ _ h => h) ?gy39 (by assumption) ?_
        case gy39 => (intro w' hSw; go_simp; try with_reducible rfl)
        try simp only [AP]
        refine tk 20 59 ?gv40 rfl (by kernel_rfl) (fun _ _ _ h => h) ?gy40 (by assumption) ?_
        case gy40 => (intro w' hSw; go_simp; try with_reducible rfl)
        try simp only [AP]
        refine tk 21 60 ?gv41 rfl (by kernel_rfl) (fun _ _ _ h => h) ?gy41 (by assumption) ?_
        case gy41 => (intro w' hSw; go_simp; try with_reducible rfl)
        try simp only [AP]
        refine tk 22 5 ?gv42 rfl (by kernel_rfl) (fun _ _ _ h => h) ?gy42 (by assumption) ?_
        case gy42 => (intro w' hSw; go_simp; try with_reducible rfl)
        try simp only [AP]
        refine tk 23 6 ?gv43 rfl (by kernel_rfl) (fun _ _ _ h => h) ?gy43 (by assumption) ?_
        case gy43 => (intro w' hSw; go_simp; try with_reducible rfl)
        try simp only [AP]
        refine wpAnyH_done (by kernel_rfl) (NoPanic.normal ?_) _
        have B5 : Below w1.heap.size w1 w5 := below_tr B4 hS1.2.2
        by_cases he : ME = 0
        · subst he
          cases hb : MB
          · have HX := Lib.hid (show deed (.lift (k : Int) l.l) L.val = .error 12 by rw [HXA.out, if_neg (by rw [hg]; simp), if_neg (by simp), if_pos hb])
            subst hb
            go_wp2_with (first | (go_at_call 246; ((with_reducible refine (f_passed_ok _).mono ?_); rintro e w' ⟨rfl, rfl⟩)) | (go_at_call 131; ((with_reducible refine (f_must_no _ _).mono ?_); rintro e w' ⟨rfl, rfl⟩)))
            exact ⟨rfl, deed_err HX.out (below_tr B0 B5)⟩
          · have HX := Lib.hid (show deed (.lift (k : Int) l.l) L.val = .ok L.val by rw [HXA.out, if_neg (by rw [hg]; simp), if_neg (by simp), if_neg (by rw [hb]; simp)])
            subst hb
            go_wp2_with (first | (go_at_call 246; ((with_reducible refine (f_passed_ok _).mono ?_); rintro e w' ⟨rfl, rfl⟩)) | (go_at_call 131; ((with_reducible refine (f_must_ok _ _).mono ?_); rintro e w' ⟨rfl, rfl⟩)))
            go_end0
            have K := hN.kept ((Stp.refl (fun g => g = nb) w).below (below_tr B0 B5) (Nat.le_refl _))
            exact deed_ok (L' := L) HX.out rfl ⟨HN0.out.blk.below B5 lnb, ⟨K.su, K.gusts, K.rigs, K.rk, K.sites, K.sk, K.items, K.back⟩, K.stp, rfl, rfl⟩
        · have HX := Lib.hid (show deed (.lift (k : Int) l.l) L.val = .error ME by rw [HXA.out, if_neg (by rw [hg]; simp), if_pos he])
          have HNZ := Lib.hid he
          go_wp2_with (go_at_call 246; ((with_reducible refine (f_passed_no _ HNZ.out _).mono ?_); rintro e w' ⟨rfl, rfl⟩))
          exact ⟨rfl, deed_err HX.out (below_tr B0 B5)⟩
    · have g3 : decide (0 < s.men) = false := decide_eq_false hz
      have HX := Lib.hid (show deed (.lift (k : Int) l.l) L.val = .error 10 by rw [HX2.out, if_pos (by rw [g3]; simp)])
      refine wp_region_held_drew (S := (fun w' => (∀ b o, b < w1.heap.size → w'.cell? ⟨b, o, none⟩ = w1.cell? ⟨b, o, none⟩) ∧ (∀ b o, b < w1.heap.size → w'.frozen? ⟨b, o, none⟩ = w1.frozen? ⟨b, o, none⟩) ∧ Below w1.heap.size w1 w')) (by kernel_rfl) (kq_draw kq_refl) (fun hS0 => ?_)
      refine tk 0 11 ?gv44 rfl (by kernel_rfl) ?hq45 ?gy44 (by assumption) ?_
      case hq45 => (intro c a w h; exact h)
      case gy44 => (intro w' hSw; go_simp; try with_reducible rfl)
      try simp only [AP]
      refine tk 1 12 ?gv46 rfl (by kernel_rfl) ?hq47 ?gy46 (by assumption) ?_
      case hq47 => (intro c a w h; exact h)
      case gy46 => (intro w' hSw; go_simp; try with_reducible rfl)
      try simp only [AP]
      refine tk 2 13 ?gv48 rfl (by kernel_rfl) ?hq49 ?gy48 (by assumption) ?_
      case hq49 => (intro c a w h; exact h)
      case gy48 => (intro w' hSw; go_simp; try with_reducible rfl)
      try simp only [AP]
      refine tk 3 14 ?gv50 rfl (by kernel_rfl) ?hq51 ?gy50 (by assumption) ?_
      case hq51 => (intro c a w h; exact h)
      case gy50 => (intro w' hSw; go_simp; try with_reducible rfl)
      try simp only [AP]
      refine tk 4 15 ?gv52 rfl (by kernel_rfl) ?hq53 ?gy52 (by assumption) ?_
      case hq53 => (intro c a w h; exact h)
      case gy52 => (intro w' hSw; go_simp; try with_reducible rfl)
      try simp only [AP]
      refine tk 5 16 ?gv54 rfl (by kernel_rfl) ?hq55 ?gy54 (by assumption) ?_
      case hq55 => (intro c a w h; exact h)
      case gy54 => (intro w' hSw; go_simp; try with_reducible rfl)
      try simp only [AP]
      refine tk 6 17 ?gv56 rfl (by kernel_rfl) ?hq57 ?gy56 (by assumption) ?_
      case hq57 => (intro c a w h; exact h)
      case gy56 => (intro w' hSw; go_simp; try with_reducible rfl)
      try simp only [AP]
      refine tg 7 18 6 true ?gv58 rfl (by kernel_rfl) ?hq59 (by rfl) ?gy58 (by assumption) ?_
      case hq59 => (intro c a w h; exact h)
      case gy58 => (intro w' hSw; go_simp; try with_reducible rfl)
      try simp only [AP]
      refine tg 8 19 6 true ?gv60 rfl (by kernel_rfl) ?hq61 (by rfl) ?gy60 (by assumption) ?_
      case hq61 => (intro c a w h; exact h)
      case gy60 => (intro w' hSw; go_simp; try with_reducible rfl)
      try simp only [AP]
      refine tg 9 20 6 true ?gv62 rfl (by kernel_rfl) ?hq63 (by rfl) ?gy62 (by assumption) ?_
      case hq63 => (intro c a w h; exact h)
      case gy62 => (intro w' hSw; go_simp; try with_reducible rfl)
      try simp only [AP]
      refine tg 10 21 6 true ?gv64 rfl (by kernel_rfl) ?hq65 (by rfl) ?gy64 (by assumption) ?_
      case hq65 => (intro c a w h; exact h)
      case gy64 => (intro w' hSw; go_simp; try with_reducible rfl)
      try simp only [AP]
      refine tg 11 22 6 true ?gv66 rfl (by kernel_rfl) ?hq67 (by rfl) ?gy66 (by assumption) ?_
      case hq67 => (intro c a w h; exact h)
      case gy66 => (intro w' hSw; go_simp; try with_reducible rfl)
      try simp only [AP]
      refine tg 12 23 6 true ?gv68 rfl (by kernel_rfl) ?hq69 (by rfl) ?gy68 (by assumption) ?_
      case hq69 => (intro c a w h; exact h)
      case gy68 => (intro w' hSw; go_simp; try with_reducible rfl)
      try simp only [AP]
      refine tg 13 24 6 true ?gv70 rfl (by kernel_rfl) ?hq71 (by rfl) ?gy70 (by assumption) ?_
      case hq71 => (intro c a w h; exact h)
      case gy70 => (intro w' hSw; go_simp; try with_reducible rfl)
      try simp only [AP]
      refine tg 14 25 6 true ?gv72 rfl (by kernel_rfl) ?hq73 (by rfl) ?gy72 (by assumption) ?_
      case hq73 => (intro c a w h; exact h)
      case gy72 => (intro w' hSw; go_simp; try with_reducible rfl)
      try simp only [AP]
      refine tg 15 26 6 true ?gv74 rfl (by kernel_rfl) ?hq75 (by rfl) ?gy74 (by assumption) ?_
      case hq75 => (intro c a w h; exact h)
      case gy74 => (intro w' hSw; go_simp; try with_reducible rfl)
      try simp only [AP]
      refine tg 16 27 6 true ?gv76 rfl (by kernel_rfl) ?hq77 (by rfl) ?gy76 (by assumption) ?_
      case hq77 => (intro c a w h; exact h)
      case gy76 => (intro w' hSw; go_simp; try with_reducible rfl)
      try simp only [AP]
      refine tg 17 28 6 true ?gv78 rfl (by kernel_rfl) ?hq79 (by rfl) ?gy78 (by assumption) ?_
      case hq79 => (intro c a w h; exact h)
      case gy78 => (intro w' hSw; go_simp; try with_reducible rfl)
      try simp only [AP]
      refine tg 18 29 6 true ?gv80 rfl (by kernel_rfl) ?hq81 (by rfl) ?gy80 (by assumption) ?_
      case hq81 => (intro c a w h; exact h)
      case gy80 => (intro w' hSw; go_simp; try with_reducible rfl)
      try simp only [AP]
      refine tk 19 30 ?gv82 rfl (by kernel_rfl) ?hq83 ?gy82 (by assumption) ?_
      case hq83 => (intro c a w h; exact h)
      case gy82 => (intro w' hSw; go_simp; try with_reducible rfl)
      try simp only [AP]
      refine wpAnyH_ready (rs := [20]) (by kernel_rfl) (by simp) ?_
      refine AllReadyH.cons rfl (fun K hK => ?_) AllReadyH.nil
      go_simp
      (go_at_call 131; ((with_reducible refine (f_must_no _ _).mono ?_); rintro e w' ⟨rfl, rfl⟩))
      exact ⟨rfl, deed_err HX.out (by (repeat' (first | assumption | exact below_refl _ | refine bl_alloc ?_ _ | refine Below.setCell ?_ ?_ _ | refine below_draw ?_ | refine below_drewN ?_ _ | refine below_tr ?_ (by assumption))) <;> (first | omega | (simp; done) | (simp; omega)))⟩
  · have g1 : decide (0 < g.lk.l.length) = false := decide_eq_false hd
    have g2 : decide ((0 : Int) < (g.lk.l.length : Int)) = false := decide_eq_false (by omega)
    have HX := Lib.hid (show deed (.lift (k : Int) l.l) L.val = .error 10 by rw [HX2.out, if_pos (by rw [g1]; simp)])
    refine wp_region_held_drew (S := (fun w' => (∀ b o, b < w1.heap.size → w'.cell? ⟨b, o, none⟩ = w1.cell? ⟨b, o, none⟩) ∧ (∀ b o, b < w1.heap.size → w'.frozen? ⟨b, o, none⟩ = w1.frozen? ⟨b, o, none⟩) ∧ Below w1.heap.size w1 w')) (by kernel_rfl) (kq_draw kq_refl) (fun hS0 => ?_)
    refine tk 0 11 ?gv84 rfl (by kernel_rfl) ?hq85 ?gy84 (by assumption) ?_
    case hq85 => (intro c a w h; exact h)
    case gy84 => (intro w' hSw; go_simp; try with_reducible rfl)
    try simp only [AP]
    refine tk 1 12 ?gv86 rfl (by kernel_rfl) ?hq87 ?gy86 (by assumption) ?_
    case hq87 => (intro c a w h; exact h)
    case gy86 => (intro w' hSw; go_simp; try with_reducible rfl)
    try simp only [AP]
    refine tk 2 13 ?gv88 rfl (by kernel_rfl) ?hq89 ?gy88 (by assumption) ?_
    case hq89 => (intro c a w h; exact h)
    case gy88 => (intro w' hSw; go_simp; try with_reducible rfl)
    try simp only [AP]
    refine tk 3 14 ?gv90 rfl (by kernel_rfl) ?hq91 ?gy90 (by assumption) ?_
    case hq91 => (intro c a w h; exact h)
    case gy90 => (intro w' hSw; go_simp; try with_reducible rfl)
    try simp only [AP]
    refine tk 4 15 ?gv92 rfl (by kernel_rfl) ?hq93 ?gy92 (by assumption) ?_
    case hq93 => (intro c a w h; exact h)
    case gy92 => (intro w' hSw; go_simp; try with_reducible rfl)
    try simp only [AP]
    refine tk 5 16 ?gv94 rfl (by kernel_rfl) ?hq95 ?gy94 (by assumption) ?_
    case hq95 => (intro c a w h; exact h)
    case gy94 => (intro w' hSw; go_simp; try with_reducible rfl)
    try simp only [AP]
    refine tk 6 17 ?gv96 rfl (by kernel_rfl) ?hq97 ?gy96 (by assumption) ?_
    case hq97 => (intro c a w h; exact h)
    case gy96 => (intro w' hSw; go_simp; try with_reducible rfl)
    try simp only [AP]
    refine tu 7 18 6 true rfl (by kernel_rfl) ?hq98 (by rfl) (by assumption) ?_
    case hq98 => (intro c a w h; exact h)
    try simp only [AP]
    refine tu 8 19 6 true rfl (by kernel_rfl) ?hq99 (by rfl) (by assumption) ?_
    case hq99 => (intro c a w h; exact h)
    try simp only [AP]
    refine tu 9 20 6 true rfl (by kernel_rfl) ?hq100 (by rfl) (by assumption) ?_
    case hq100 => (intro c a w h; exact h)
    try simp only [AP]
    refine tu 10 21 6 true rfl (by kernel_rfl) ?hq101 (by rfl) (by assumption) ?_
    case hq101 => (intro c a w h; exact h)
    try simp only [AP]
    refine tu 11 22 6 true rfl (by kernel_rfl) ?hq102 (by rfl) (by assumption) ?_
    case hq102 => (intro c a w h; exact h)
    try simp only [AP]
    refine tu 12 23 6 true rfl (by kernel_rfl) ?hq103 (by rfl) (by assumption) ?_
    case hq103 => (intro c a w h; exact h)
    try simp only [AP]
    refine tu 13 24 6 true rfl (by kernel_rfl) ?hq104 (by rfl) (by assumption) ?_
    case hq104 => (intro c a w h; exact h)
    try simp only [AP]
    refine tu 14 25 6 true rfl (by kernel_rfl) ?hq105 (by rfl) (by assumption) ?_
    case hq105 => (intro c a w h; exact h)
    try simp only [AP]
    refine tu 15 26 6 true rfl (by kernel_rfl) ?hq106 (by rfl) (by assumption) ?_
    case hq106 => (intro c a w h; exact h)
    try simp only [AP]
    refine tu 16 27 6 true rfl (by kernel_rfl) ?hq107 (by rfl) (by assumption) ?_
    case hq107 => (intro c a w h; exact h)
    try simp only [AP]
    refine tu 17 28 6 true rfl (by kernel_rfl) ?hq108 (by rfl) (by assumption) ?_
    case hq108 => (intro c a w h; exact h)
    try simp only [AP]
    refine tu 18 29 6 true rfl (by kernel_rfl) ?hq109 (by rfl) (by assumption) ?_
    case hq109 => (intro c a w h; exact h)
    try simp only [AP]
    refine tk 19 30 ?gv110 rfl (by kernel_rfl) ?hq111 ?gy110 (by assumption) ?_
    case hq111 => (intro c a w h; exact h)
    case gy110 => (intro w' hSw; go_simp; try with_reducible rfl)
    try simp only [AP]
    refine wpAnyH_ready (rs := [20]) (by kernel_rfl) (by simp) ?_
    refine AllReadyH.cons rfl (fun K hK => ?_) AllReadyH.nil
    go_simp
    (go_at_call 131; ((with_reducible refine (f_must_no _ _).mono ?_); rintro e w' ⟨rfl, rfl⟩))
    exact ⟨rfl, deed_err HX.out (by (repeat' (first | assumption | exact below_refl _ | refine bl_alloc ?_ _ | refine Below.setCell ?_ ?_ _ | refine below_draw ?_ | refine below_drewN ?_ _ | refine below_tr ?_ (by assumption))) <;> (first | omega | (simp; done) | (simp; omega)))⟩
end Go.Proofs.YtmjgljdmjpabdaaGreatDoor.Fi
