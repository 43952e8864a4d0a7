/- The parts of the proof, part 23. -/
import Derived.Test.YtmjgljdmjpabdaaGreatDoorP0
import Derived.Test.YtmjgljdmjpabdaaGreatDoorP18
set_option linter.unusedSimpArgs false
set_option linter.unusedVariables false
namespace Go.Proofs.YtmjgljdmjpabdaaGreatDoor.Fi
open Go.RowKit Go.Lib Tx
set_option maxHeartbeats 4000000 in
set_option maxRecDepth 20000 in
theorem d_strike (r : Int) (T : Nat → Prop) (nb sb rb : Nat) (L : LS) (w : World) (hN : Nxt T nb sb rb w L) (hI : Inv L.val) :
    Calls Tryz.prog 291 #[.agg #[.int .i64 r], .pointer (some ⟨nb, 0, none⟩)] w (DeedP (.strike r) T nb sb rb L w) := by
  have x0 := Blk.new w 183 #[.int .i64 r]
  have B0 := bl_alloc (below_refl w) (.cells #[.int .i64 r] 183)
  have b0 := x0.cell 0
  simp only [List.getElem?_toArray, List.getElem?_cons_zero, List.getElem?_cons_succ] at b0
  have hN0 := hN.on B0
  have hrl : L.rigs.l.length ≤ 50 := by have h := hI.rl; unfold LS.val at h; dsimp only at h; rw [List.length_map] at h; exact h
  have hrl0 : L.rigs.l.length ≤ 1000 := by omega
  cases hth : rtB L.val r
  · have HX := Lib.hid (show deed (.strike r) L.val = .error 5 by unfold deed; dsimp only; rw [if_pos hth])
    have HAT := Lib.hid (f_rigAt_no nb L r _ hN0.cel hrl0 hth)
    go_enter Tryz.func291, Tryz.ntmps291
    go_wp2_with (go_at_call 258; ((with_reducible refine (HAT.out).mono ?_); rintro e w' ⟨rfl, rfl⟩))
    exact ⟨rfl, deed_err HX.out B0⟩
  obtain ⟨i0, i1⟩ := rtB_iff.1 hth
  obtain ⟨k, rfl⟩ := Int.eq_ofNat_of_zero_le i0
  have hk : k < L.rigs.l.length := by omega
  obtain ⟨g, hg, hga, d0, d1x⟩ := hN0.rig hk
  have HAT := Lib.hid (f_rigAt nb L k _ rb 0 hN0.cel hrl0 hk hga)
  have HRA := Lib.hid (rigA_of hg)
  obtain ⟨gs0, gs1⟩ := hI.rs g.val (by unfold LS.val; exact List.mem_map.2 ⟨g, List.mem_of_getElem? hg, rfl⟩)
  have gs1 : g.st < (L.sites.l.length : Int) := by unfold LS.val at gs1; dsimp only at gs1; rw [List.length_map] at gs1; exact gs1
  have gs0 : 0 ≤ g.st := gs0
  obtain ⟨m, hm⟩ := Int.eq_ofNat_of_zero_le gs0
  obtain ⟨s, cur, hs, ha, hbs, hir, c0, c1, c2⟩ := hN0.site (i := m) (by omega)
  have HSA := Lib.hid (siteA_of hs)
  have HX2 := Lib.hid (show deed (.strike (k : Int)) L.val = if (decide (0 < g.lk.l.length) && decide (s.men = 0)) = false then .error 10 else .ok { L.val with rigs := L.val.rigs.set k ⟨g.st, []⟩ } by
    unfold deed; dsimp only; rw [if_neg (by rw [hth]; simp), HRA.out, show (g.val).st = (m : Int) from hm, HSA.out, hm]; rfl)
  have lrb := hN0.rlt (by intro e; rw [e] at hk; simp at hk)
  have lsb := hbs.lt
  have lnb := hN0.lt
  have lw := x0.lt
  have d0y : (w.alloc (.cells #[.int .i64 (k : Int)] 183)).cell? ⟨rb, k * 2, none⟩ = some (.int .i64 (m : Int)) := by rw [← hm]; exact d0
  have d1 : (w.alloc (.cells #[.int .i64 (k : Int)] 183)).cell? ⟨rb, k * 2 + 1, none⟩ = some (.slice g.lk.a g.lk.l.length g.lk.c) := d1x
  have c20 : (w.alloc (.cells #[.int .i64 (k : Int)] 183)).cell? ⟨nb, 20, none⟩ = some (.slice (some ⟨sb, 0, none⟩) L.sites.l.length L.sites.c) := by rw [← ha]; exact hN0.cel 20 _ rfl
  have qf : (w.alloc (.cells #[.int .i64 (k : Int)] 183)).frozen? ⟨rb, k * 2 + 1, none⟩ = false := hN0.rfz hk _
  obtain ⟨m0, m1, m2⟩ : (0 : Int) ≤ (m : Int) ∧ (m : Int).toNat = m ∧ (m : Int) < (L.sites.l.length : Int) := ⟨by omega, by omega, by omega⟩
  clear c0 d1x d0
  go_enter Tryz.func291, Tryz.ntmps291
  go_upto_region 2 with (go_at_call 258; ((with_reducible refine (HAT.out).mono ?_); rintro e w' ⟨rfl, rfl⟩))
  generalize (w.alloc (.cells #[.int .i64 (k : Int)] 183)) = w1 at *
  by_cases hd : 0 < g.lk.l.length
  · have g1 : decide (0 < g.lk.l.length) = true := decide_eq_true hd
    have g2 : decide ((0 : Int) < (g.lk.l.length : Int)) = true := decide_eq_true (by omega)
    by_cases hz : s.men = 0
    · have g3 : (s.men == 0) = true := by simpa using hz
      have HX := Lib.hid (show deed (.strike (k : Int)) L.val = .ok { L.val with rigs := L.val.rigs.set k ⟨g.st, []⟩ } by rw [HX2.out, if_neg (by rw [g1, decide_eq_true hz]; simp)])
      clear hz
      refine wp_region_noPanic ?_
      refine wp_region_held_drew (S := (fun w' => (∀ b o, b < w1.heap.size → w'.cell? ⟨b, o, none⟩ = w1.cell? ⟨b, o, none⟩) ∧ (∀ b o, b < w1.heap.size → w'.frozen? ⟨b, o, none⟩ = w1.frozen? ⟨b, o, none⟩) ∧ Below w1.heap.size w1 w')) (by kernel_rfl) (kq_draw kq_refl) (fun hS0 => ?_)
      refine tk 0 9 ?gv1 rfl (by kernel_rfl) (fun _ _ _ h => h) ?gy1 (by assumption) ?_
      case gy1 => (intro w' hSw; go_simp; try with_reducible rfl)
      try simp only [AP]
      refine tk 1 10 ?gv2 rfl (by kernel_rfl) (fun _ _ _ h => h) ?gy2 (by assumption) ?_
      case gy2 => (intro w' hSw; go_simp; try with_reducible rfl)
      try simp only [AP]
      refine tk 2 11 ?gv3 rfl (by kernel_rfl) (fun _ _ _ h => h) ?gy3 (by assumption) ?_
      case gy3 => (intro w' hSw; go_simp; try with_reducible rfl)
      try simp only [AP]
      refine tk 3 12 ?gv4 rfl (by kernel_rfl) (fun _ _ _ h => h) ?gy4 (by assumption) ?_
      case gy4 => (intro w' hSw; go_simp; try with_reducible rfl)
      try simp only [AP]
      refine tk 4 13 ?gv5 rfl (by kernel_rfl) (fun _ _ _ h => h) ?gy5 (by assumption) ?_
      case gy5 => (intro w' hSw; go_simp; try with_reducible rfl)
      try simp only [AP]
      refine tk 5 14 ?gv6 rfl (by kernel_rfl) (fun _ _ _ h => h) ?gy6 (by assumption) ?_
      case gy6 => (intro w' hSw; go_simp; try with_reducible rfl)
      try simp only [AP]
      refine tk 6 15 ?gv7 rfl (by kernel_rfl) (fun _ _ _ h => h) ?gy7 (by assumption) ?_
      case gy7 => (intro w' hSw; go_simp; try with_reducible rfl)
      try simp only [AP]
      refine tg 7 16 6 true ?gv8 rfl (by kernel_rfl) (fun _ _ _ h => h) (by rfl) ?gy8 (by assumption) ?_
      case gy8 => (intro w' hSw; go_simp; try with_reducible rfl)
      try simp only [AP]
      refine tg 8 17 6 true ?gv9 rfl (by kernel_rfl) (fun _ _ _ h => h) (by rfl) ?gy9 (by assumption) ?_
      case gy9 => (intro w' hSw; go_simp; try with_reducible rfl)
      try simp only [AP]
      refine tg 9 18 6 true ?gv10 rfl (by kernel_rfl) (fun _ _ _ h => h) (by rfl) ?gy10 (by assumption) ?_
      case gy10 => (intro w' hSw; go_simp; try with_reducible rfl)
      try simp only [AP]
      refine tg 10 19 6 true ?gv11 rfl (by kernel_rfl) (fun _ _ _ h => h) (by rfl) ?gy11 (by assumption) ?_
      case gy11 => (intro w' hSw; go_simp; try with_reducible rfl)
      try simp only [AP]
      refine tg 11 20 6 true ?gv12 rfl (by kernel_rfl) (fun _ _ _ h => h) (by rfl) ?gy12 (by assumption) ?_
      case gy12 => (intro w' hSw; go_simp; try with_reducible rfl)
      try simp only [AP]
      refine tg 12 21 6 true ?gv13 rfl (by kernel_rfl) (fun _ _ _ h => h) (by rfl) ?gy13 (by assumption) ?_
      case gy13 => (intro w' hSw; go_simp; try with_reducible rfl)
      try simp only [AP]
      refine tg 13 22 6 true ?gv14 rfl (by kernel_rfl) (fun _ _ _ h => h) (by rfl) ?gy14 (by assumption) ?_
      case gy14 => (intro w' hSw; go_simp; try with_reducible rfl)
      try simp only [AP]
      refine tg 14 23 6 true ?gv15 rfl (by kernel_rfl) (fun _ _ _ h => h) (by rfl) ?gy15 (by assumption) ?_
      case gy15 => (intro w' hSw; go_simp; try with_reducible rfl)
      try simp only [AP]
      refine tg 15 24 6 true ?gv16 rfl (by kernel_rfl) (fun _ _ _ h => h) (by rfl) ?gy16 (by assumption) ?_
      case gy16 => (intro w' hSw; go_simp; try with_reducible rfl)
      try simp only [AP]
      refine tg 16 25 6 true ?gv17 rfl (by kernel_rfl) (fun _ _ _ h => h) (by rfl) ?gy17 (by assumption) ?_
      case gy17 => (intro w' hSw; go_simp; try with_reducible rfl)
      try simp only [AP]
      refine tg 17 26 6 true ?gv18 rfl (by kernel_rfl) (fun _ _ _ h => h) (by rfl) ?gy18 (by assumption) ?_
      case gy18 => (intro w' hSw; go_simp; try with_reducible rfl)
      try simp only [AP]
      refine tg 18 27 6 true ?gv19 rfl (by kernel_rfl) (fun _ _ _ h => h) (by rfl) ?gy19 (by assumption) ?_
      case gy19 => (intro w' hSw; go_simp; try with_reducible rfl)
      try simp only [AP]
      refine tk 19 28 ?gv20 rfl (by kernel_rfl) (fun _ _ _ h => h) ?gy20 (by assumption) ?_
      case gy20 => (intro w' hSw; go_simp; try with_reducible rfl)
      try simp only [AP]
      refine wpAnyH_ready (rs := [20]) (by kernel_rfl) (by simp) ?_
      refine AllReadyH.cons rfl (fun K hK => ?_) AllReadyH.nil
      go_simp
      (go_at_call 131; ((with_reducible refine (f_must_ok _ _).mono ?_); rintro e w' ⟨rfl, rfl⟩))
      refine hK.out _ _ (by ((show Kq w1 _); (repeat' (first | assumption | exact kq_refl | refine kq_draw ?_ | refine kq_drewN ?_ | refine kq_alloc ?_ | refine kq_set ?_ ?_ | refine kq_step ?_ (by assumption))); (all_goals (first | omega | (simp; omega))))) (fun hS1 => ?_)
      clear hK K
      try simp only [AP]
      refine wpAnyH_done (by kernel_rfl) (NoPanic.normal ?_) _
      go_wp2
      go_end0
      first
        | exact deed_ok HX.out (by rw [setR_val (s' := ⟨g.st, ⟨none, [], 0⟩⟩)]; rfl) (hN.turnR (j := 1) (s' := ⟨g.st, ⟨none, [], 0⟩⟩) (by (repeat' (first | assumption | exact below_refl _ | refine bl_alloc ?_ _ | refine Below.setCell ?_ ?_ _ | refine below_draw ?_ | refine below_drewN ?_ _ | refine below_tr ?_ (by assumption))) <;> (first | omega | (simp; done) | (simp; omega))) hg rfl (fun r hr => by rcases r with _ | _ | r <;> first | rfl | exact absurd rfl hr) rfl rfl)
        | exact deed_ok HX.out (by rw [setR_val (s' := ⟨g.st, ⟨none, [], 0⟩⟩)]; rfl) (Nxd.drew (hN.turnR (j := 1) (s' := ⟨g.st, ⟨none, [], 0⟩⟩) (by (repeat' (first | assumption | exact below_refl _ | refine bl_alloc ?_ _ | refine Below.setCell ?_ ?_ _ | refine below_draw ?_ | refine below_drewN ?_ _ | refine below_tr ?_ (by assumption))) <;> (first | omega | (simp; done) | (simp; omega))) hg rfl (fun r hr => by rcases r with _ | _ | r <;> first | rfl | exact absurd rfl hr) rfl rfl))
    · have g3 : (s.men == 0) = false := by simpa using hz
      have HX := Lib.hid (show deed (.strike (k : Int)) L.val = .error 10 by rw [HX2.out, if_pos (by rw [decide_eq_false hz]; simp)])
      clear hz
      refine wp_region_held_drew (S := (fun w' => (∀ b o, b < w1.heap.size → w'.cell? ⟨b, o, none⟩ = w1.cell? ⟨b, o, none⟩) ∧ (∀ b o, b < w1.heap.size → w'.frozen? ⟨b, o, none⟩ = w1.frozen? ⟨b, o, none⟩) ∧ Below w1.heap.size w1 w')) (by kernel_rfl) (kq_draw kq_refl) (fun hS0 => ?_)
      refine tk 0 9 ?gv21 rfl (by kernel_rfl) ?hq22 ?gy21 (by assumption) ?_
      case hq22 => (intro c a w h; exact h)
      case gy21 => (intro w' hSw; go_simp; try with_reducible rfl)
      try simp only [AP]
      refine tk 1 10 ?gv23 rfl (by kernel_rfl) ?hq24 ?gy23 (by assumption) ?_
      case hq24 => (intro c a w h; exact h)
      case gy23 => (intro w' hSw; go_simp; try with_reducible rfl)
      try simp only [AP]
      refine tk 2 11 ?gv25 rfl (by kernel_rfl) ?hq26 ?gy25 (by assumption) ?_
      case hq26 => (intro c a w h; exact h)
      case gy25 => (intro w' hSw; go_simp; try with_reducible rfl)
      try simp only [AP]
      refine tk 3 12 ?gv27 rfl (by kernel_rfl) ?hq28 ?gy27 (by assumption) ?_
      case hq28 => (intro c a w h; exact h)
      case gy27 => (intro w' hSw; go_simp; try with_reducible rfl)
      try simp only [AP]
      refine tk 4 13 ?gv29 rfl (by kernel_rfl) ?hq30 ?gy29 (by assumption) ?_
      case hq30 => (intro c a w h; exact h)
      case gy29 => (intro w' hSw; go_simp; try with_reducible rfl)
      try simp only [AP]
      refine tk 5 14 ?gv31 rfl (by kernel_rfl) ?hq32 ?gy31 (by assumption) ?_
      case hq32 => (intro c a w h; exact h)
      case gy31 => (intro w' hSw; go_simp; try with_reducible rfl)
      try simp only [AP]
      refine tk 6 15 ?gv33 rfl (by kernel_rfl) ?hq34 ?gy33 (by assumption) ?_
      case hq34 => (intro c a w h; exact h)
      case gy33 => (intro w' hSw; go_simp; try with_reducible rfl)
      try simp only [AP]
      refine tg 7 16 6 true ?gv35 rfl (by kernel_rfl) ?hq36 (by rfl) ?gy35 (by assumption) ?_
      case hq36 => (intro c a w h; exact h)
      case gy35 => (intro w' hSw; go_simp; try with_reducible rfl)
      try simp only [AP]
      refine tg 8 17 6 true ?gv37 rfl (by kernel_rfl) ?hq38 (by rfl) ?gy37 (by assumption) ?_
      case hq38 => (intro c a w h; exact h)
      case gy37 => (intro w' hSw; go_simp; try with_reducible rfl)
      try simp only [AP]
      refine tg 9 18 6 true ?gv39 rfl (by kernel_rfl) ?hq40 (by rfl) ?gy39 (by assumption) ?_
      case hq40 => (intro c a w h; exact h)
      case gy39 => (intro w' hSw; go_simp; try with_reducible rfl)
      try simp only [AP]
      refine tg 10 19 6 true ?gv41 rfl (by kernel_rfl) ?hq42 (by rfl) ?gy41 (by assumption) ?_
      case hq42 => (intro c a w h; exact h)
      case gy41 => (intro w' hSw; go_simp; try with_reducible rfl)
      try simp only [AP]
      refine tg 11 20 6 true ?gv43 rfl (by kernel_rfl) ?hq44 (by rfl) ?gy43 (by assumption) ?_
      case hq44 => (intro c a w h; exact h)
      case gy43 => (intro w' hSw; go_simp; try with_reducible rfl)
      try simp only [AP]
      refine tg 12 21 6 true ?gv45 rfl (by kernel_rfl) ?hq46 (by rfl) ?gy45 (by assumption) ?_
      case hq46 => (intro c a w h; exact h)
      case gy45 => (intro w' hSw; go_simp; try with_reducible rfl)
      try simp only [AP]
      refine tg 13 22 6 true ?gv47 rfl (by kernel_rfl) ?hq48 (by rfl) ?gy47 (by assumption) ?_
      case hq48 => (intro c a w h; exact h)
      case gy47 => (intro w' hSw; go_simp; try with_reducible rfl)
      try simp only [AP]
      refine tg 14 23 6 true ?gv49 rfl (by kernel_rfl) ?hq50 (by rfl) ?gy49 (by assumption) ?_
      case hq50 => (intro c a w h; exact h)
      case gy49 => (intro w' hSw; go_simp; try with_reducible rfl)
      try simp only [AP]
      refine tg 15 24 6 true ?gv51 rfl (by kernel_rfl) ?hq52 (by rfl) ?gy51 (by assumption) ?_
      case hq52 => (intro c a w h; exact h)
      case gy51 => (intro w' hSw; go_simp; try with_reducible rfl)
      try simp only [AP]
      refine tg 16 25 6 true ?gv53 rfl (by kernel_rfl) ?hq54 (by rfl) ?gy53 (by assumption) ?_
      case hq54 => (intro c a w h; exact h)
      case gy53 => (intro w' hSw; go_simp; try with_reducible rfl)
      try simp only [AP]
      refine tg 17 26 6 true ?gv55 rfl (by kernel_rfl) ?hq56 (by rfl) ?gy55 (by assumption) ?_
      case hq56 => (intro c a w h; exact h)
      case gy55 => (intro w' hSw; go_simp; try with_reducible rfl)
      try simp only [AP]
      refine tg 18 27 6 true ?gv57 rfl (by kernel_rfl) ?hq58 (by rfl) ?gy57 (by assumption) ?_
      case hq58 => (intro c a w h; exact h)
      case gy57 => (intro w' hSw; go_simp; try with_reducible rfl)
      try simp only [AP]
      refine tk 19 28 ?gv59 rfl (by kernel_rfl) ?hq60 ?gy59 (by assumption) ?_
      case hq60 => (intro c a w h; exact h)
      case gy59 => (intro w' hSw; go_simp; try with_reducible rfl)
      try simp only [AP]
      refine wpAnyH_ready (rs := [20]) (by kernel_rfl) (by simp) ?_
      refine AllReadyH.cons rfl (fun K hK => ?_) AllReadyH.nil
      go_simp
      (go_at_call 131; ((with_reducible refine (f_must_no _ _).mono ?_); rintro e w' ⟨rfl, rfl⟩))
      exact ⟨rfl, deed_err HX.out (by (repeat' (first | assumption | exact below_refl _ | refine bl_alloc ?_ _ | refine Below.setCell ?_ ?_ _ | refine below_draw ?_ | refine below_drewN ?_ _ | refine below_tr ?_ (by assumption))) <;> (first | omega | (simp; done) | (simp; omega)))⟩
  · have g1 : decide (0 < g.lk.l.length) = false := decide_eq_false hd
    have g2 : decide ((0 : Int) < (g.lk.l.length : Int)) = false := decide_eq_false (by omega)
    have HX := Lib.hid (show deed (.strike (k : Int)) L.val = .error 10 by rw [HX2.out, if_pos (by rw [g1]; simp)])
    refine wp_region_held_drew (S := (fun w' => (∀ b o, b < w1.heap.size → w'.cell? ⟨b, o, none⟩ = w1.cell? ⟨b, o, none⟩) ∧ (∀ b o, b < w1.heap.size → w'.frozen? ⟨b, o, none⟩ = w1.frozen? ⟨b, o, none⟩) ∧ Below w1.heap.size w1 w')) (by kernel_rfl) (kq_draw kq_refl) (fun hS0 => ?_)
    refine tk 0 9 ?gv61 rfl (by kernel_rfl) ?hq62 ?gy61 (by assumption) ?_
    case hq62 => (intro c a w h; exact h)
    case gy61 => (intro w' hSw; go_simp; try with_reducible rfl)
    try simp only [AP]
    refine tk 1 10 ?gv63 rfl (by kernel_rfl) ?hq64 ?gy63 (by assumption) ?_
    case hq64 => (intro c a w h; exact h)
    case gy63 => (intro w' hSw; go_simp; try with_reducible rfl)
    try simp only [AP]
    refine tk 2 11 ?gv65 rfl (by kernel_rfl) ?hq66 ?gy65 (by assumption) ?_
    case hq66 => (intro c a w h; exact h)
    case gy65 => (intro w' hSw; go_simp; try with_reducible rfl)
    try simp only [AP]
    refine tk 3 12 ?gv67 rfl (by kernel_rfl) ?hq68 ?gy67 (by assumption) ?_
    case hq68 => (intro c a w h; exact h)
    case gy67 => (intro w' hSw; go_simp; try with_reducible rfl)
    try simp only [AP]
    refine tk 4 13 ?gv69 rfl (by kernel_rfl) ?hq70 ?gy69 (by assumption) ?_
    case hq70 => (intro c a w h; exact h)
    case gy69 => (intro w' hSw; go_simp; try with_reducible rfl)
    try simp only [AP]
    refine tk 5 14 ?gv71 rfl (by kernel_rfl) ?hq72 ?gy71 (by assumption) ?_
    case hq72 => (intro c a w h; exact h)
    case gy71 => (intro w' hSw; go_simp; try with_reducible rfl)
    try simp only [AP]
    refine tk 6 15 ?gv73 rfl (by kernel_rfl) ?hq74 ?gy73 (by assumption) ?_
    case hq74 => (intro c a w h; exact h)
    case gy73 => (intro w' hSw; go_simp; try with_reducible rfl)
    try simp only [AP]
    refine tu 7 16 6 true rfl (by kernel_rfl) ?hq75 (by rfl) (by assumption) ?_
    case hq75 => (intro c a w h; exact h)
    try simp only [AP]
    refine tu 8 17 6 true rfl (by kernel_rfl) ?hq76 (by rfl) (by assumption) ?_
    case hq76 => (intro c a w h; exact h)
    try simp only [AP]
    refine tu 9 18 6 true rfl (by kernel_rfl) ?hq77 (by rfl) (by assumption) ?_
    case hq77 => (intro c a w h; exact h)
    try simp only [AP]
    refine tu 10 19 6 true rfl (by kernel_rfl) ?hq78 (by rfl) (by assumption) ?_
    case hq78 => (intro c a w h; exact h)
    try simp only [AP]
    refine tu 11 20 6 true rfl (by kernel_rfl) ?hq79 (by rfl) (by assumption) ?_
    case hq79 => (intro c a w h; exact h)
    try simp only [AP]
    refine tu 12 21 6 true rfl (by kernel_rfl) ?hq80 (by rfl) (by assumption) ?_
    case hq80 => (intro c a w h; exact h)
    try simp only [AP]
    refine tu 13 22 6 true rfl (by kernel_rfl) ?hq81 (by rfl) (by assumption) ?_
    case hq81 => (intro c a w h; exact h)
    try simp only [AP]
    refine tu 14 23 6 true rfl (by kernel_rfl) ?hq82 (by rfl) (by assumption) ?_
    case hq82 => (intro c a w h; exact h)
    try simp only [AP]
    refine tu 15 24 6 true rfl (by kernel_rfl) ?hq83 (by rfl) (by assumption) ?_
    case hq83 => (intro c a w h; exact h)
    try simp only [AP]
    refine tu 16 25 6 true rfl (by kernel_rfl) ?hq84 (by rfl) (by assumption) ?_
    case hq84 => (intro c a w h; exact h)
    try simp only [AP]
    refine tu 17 26 6 true rfl (by kernel_rfl) ?hq85 (by rfl) (by assumption) ?_
    case hq85 => (intro c a w h; exact h)
    try simp only [AP]
    refine tu 18 27 6 true rfl (by kernel_rfl) ?hq86 (by rfl) (by assumption) ?_
    case hq86 => (intro c a w h; exact h)
    try simp only [AP]
    refine tk 19 28 ?gv87 rfl (by kernel_rfl) ?hq88 ?gy87 (by assumption) ?_
    case hq88 => (intro c a w h; exact h)
    case gy87 => (intro w' hSw; go_simp; try with_reducible rfl)
    try simp only [AP]
    refine wpAnyH_ready (rs := [20]) (by kernel_rfl) (by simp) ?_
    refine AllReadyH.cons rfl (fun K hK => ?_) AllReadyH.nil
    go_simp
    (go_at_call 131; ((with_reducible refine (f_must_no _ _).mono ?_); rintro e w' ⟨rfl, rfl⟩))
    exact ⟨rfl, deed_err HX.out (by (repeat' (first | assumption | exact below_refl _ | refine bl_alloc ?_ _ | refine Below.setCell ?_ ?_ _ | refine below_draw ?_ | refine below_drewN ?_ _ | refine below_tr ?_ (by assumption))) <;> (first | omega | (simp; done) | (simp; omega)))⟩
end Go.Proofs.YtmjgljdmjpabdaaGreatDoor.Fi
set_option linter.unusedSimpArgs false
set_option linter.unusedVariables false
namespace Go.Proofs.YtmjgljdmjpabdaaGreatDoor.Fi
open Go.RowKit Go.Lib Tx
set_option maxHeartbeats 4000000 in
set_option maxRecDepth 20000 in
theorem d_bill (i : Int) (T : Nat → Prop) (nb sb rb : Nat) (L : LS) (w : World) (hN : Nxt T nb sb rb w L) (hI : Inv L.val) :
    Calls Tryz.prog 300 #[.agg #[.int .i64 i], .pointer (some ⟨nb, 0, none⟩)] w (DeedP (.bill i) T nb sb rb L w) := by
  have x0 := Blk.new w 185 #[.int .i64 i]
  have B0 := bl_alloc (below_refl w) (.cells #[.int .i64 i] 185)
  have b0 := x0.cell 0
  simp only [List.getElem?_toArray, List.getElem?_cons_zero, List.getElem?_cons_succ] at b0
  have hN0 := hN.on B0
  have hsl : L.sites.l.length ≤ 8 := hI.slen
  have hsl0 : L.sites.l.length ≤ 1000 := by omega
  cases hth : thB L.val i
  · have HX := Lib.hid (show deed (.bill i) L.val = .error 5 by unfold deed; dsimp only; rw [if_pos hth])
    have HAT := Lib.hid (f_at_no nb L i _ hN0.cel hsl0 hth)
    go_enter Tryz.func300, Tryz.ntmps300
    go_wp2_with (go_at_call 239; ((with_reducible refine (HAT.out).mono ?_); rintro e w' ⟨rfl, rfl⟩))
    exact ⟨rfl, deed_err HX.out B0⟩
  obtain ⟨i0, i1⟩ := thB_iff.1 hth
  obtain ⟨k, rfl⟩ := Int.eq_ofNat_of_zero_le i0
  have hk : k < L.sites.l.length := by omega
  obtain ⟨s, cur, hs, ha, hbs, hir, c0, c1, c2⟩ := hN0.site hk
  have hfz := hbs.frozen
  have HAT := Lib.hid (f_at nb L k _ sb 0 hN0.cel hsl0 hk ha)
  have HSA := Lib.hid (siteA_of hs)
  have hsm := hI.men hs
  have lsb := hbs.lt
  have lnb := hN0.lt
  have lw := x0.lt
  obtain ⟨y, jb, jo, hy, hja, ljb, cj, hJ, hJv⟩ := hN0.stks hI hk
  have hJl : y.l.length ≤ 100000 := by have := (S.valid_all hJv).2.2; omega
  have HJA := Lib.hid (stkA_of hy)
  have hkj : (k : Int) < (L.x.stk.l.length : Int) := by rw [hI.lens.1]; omega
  have mm0 : 0 ≤ L.money := hI.m0
  have mm1 : L.money ≤ 1000000000000 := hI.m1
  obtain ⟨H, hH⟩ : ∃ H, H = S.heightR y.l := ⟨_, rfl⟩
  obtain ⟨hp0, hp1⟩ := pri_bd (r := L.x.rt) (h := H.1) (vSu_parts hI.su).2.2.2.2.2.2.2.1
  have HX2 := Lib.hid (show deed (.bill (k : Int)) L.val = if H.2 ≠ 0 then .error H.2 else if priE L.x.rt H.1 ≠ 0 then .error (priE L.x.rt H.1)
      else if ¬ L.money + priV L.x.rt H.1 ≤ 1000000000000 then .error 4 else .ok { L.val with money := L.money + priV L.x.rt H.1 } by
    unfold deed; dsimp only; rw [if_neg (by rw [hth]; simp), HJA.out, hH]; rfl)
  have c_12 : (w.alloc (.cells #[.int .i64 (k : Int)] 185)).cell? ⟨nb, 12, none⟩ = some (.int .i64 L.x.rt.lo) := hN0.cel 12 _ rfl
  have c_13 : (w.alloc (.cells #[.int .i64 (k : Int)] 185)).cell? ⟨nb, 13, none⟩ = some (.int .i64 L.x.rt.hi) := hN0.cel 13 _ rfl
  have c_14 : (w.alloc (.cells #[.int .i64 (k : Int)] 185)).cell? ⟨nb, 14, none⟩ = some (.int .i64 L.x.rt.ab) := hN0.cel 14 _ rfl
  have c_15 : (w.alloc (.cells #[.int .i64 (k : Int)] 185)).cell? ⟨nb, 15, none⟩ = some (.int .i64 L.x.rt.co) := hN0.cel 15 _ rfl
  have c23 : (w.alloc (.cells #[.int .i64 (k : Int)] 185)).cell? ⟨nb, 23, none⟩ = some (.int .i64 L.money) := hN0.cel 23 _ rfl
  have cja : (w.alloc (.cells #[.int .i64 (k : Int)] 185)).cell? ⟨nb, 0, none⟩ = some (.slice (some ⟨jb, jo, none⟩) L.x.stk.l.length L.x.stk.c) := by rw [← hja]; exact hN0.cel 0 _ rfl
  have hfn := hN0.blk.frozen
  clear c0 c1 c2
  go_enter Tryz.func300, Tryz.ntmps300
  go_upto_region 2 with (go_at_call 239; ((with_reducible refine (HAT.out).mono ?_); rintro e w' ⟨rfl, rfl⟩))
  generalize (w.alloc (.cells #[.int .i64 (k : Int)] 185)) = w1 at *
  have HHT := Lib.hid (fun w' (h : Below w1.heap.size w1 w') => (show Calls Tryz.prog 82 #[.slice y.a y.l.length y.c] w' fun e w2 => e = .returned (.tuple #[.int .i64 H.1, .int .i64 H.2]) ∧ Below w'.heap.size w' w2 by rw [hH]; exact S.s_height y.a y.l y.c w' hJl (hJ.on h).rd))
  have HPR := Lib.hid (fun w' (h : Below w1.heap.size w1 w') => (show Calls Tryz.prog 302 #[.agg #[.int .i64 L.x.rt.lo, .int .i64 L.x.rt.hi, .int .i64 L.x.rt.ab, .int .i64 L.x.rt.co], .int .i64 H.1] w' fun e w2 => e = .returned (.tuple #[.int .i64 (priV L.x.rt H.1), .int .i64 (priE L.x.rt H.1)]) ∧ Below w'.heap.size w' w2 from j_Price L.x.rt H.1 w'))
  have HN0 := Lib.hid hN0
  have HHH := Lib.hid hH
  clear hI hN0 hH
  obtain ⟨h1, h2⟩ := H
  dsimp only at *
  generalize hPV : priV L.x.rt h1 = PV at *
  generalize hPE : priE L.x.rt h1 = PE at *
  obtain ⟨k0, k1⟩ : (0 : Int) ≤ (k : Int) ∧ (k : Int).toNat = k := ⟨by omega, by omega⟩
  refine wp_region_noPanic ?_
  refine wp_region_held_drew (S := (fun w' => (∀ b o, b < w1.heap.size → w'.cell? ⟨b, o, none⟩ = w1.cell? ⟨b, o, none⟩) ∧ (∀ b o, b < w1.heap.size → w'.frozen? ⟨b, o, none⟩ = w1.frozen? ⟨b, o, none⟩) ∧ Below w1.heap.size w1 w')) (by kernel_rfl) (kq_draw kq_refl) (fun hS0 => ?_)
  refine tk 0 12 ?gv1 rfl (by kernel_rfl) (fun _ _ _ h => h) ?gy1 (by assumption) ?_
  case gy1 => (intro w' hSw; go_simp; try with_reducible rfl)
  try simp only [AP]
  refine tk 1 13 ?gv2 rfl (by kernel_rfl) (fun _ _ _ h => h) ?gy2 (by assumption) ?_
  case gy2 => (intro w' hSw; go_simp; try with_reducible rfl)
  try simp only [AP]
  refine tk 2 14 ?gv3 rfl (by kernel_rfl) (fun _ _ _ h => h) ?gy3 (by assumption) ?_
  case gy3 => (intro w' hSw; go_simp; try with_reducible rfl)
  try simp only [AP]
  refine tk 3 15 ?gv4 rfl (by kernel_rfl) (fun _ _ _ h => h) ?gy4 (by assumption) ?_
  case gy4 => (intro w' hSw; go_simp; try with_reducible rfl)
  try simp only [AP]
  refine tk 4 16 ?gv5 rfl (by kernel_rfl) (fun _ _ _ h => h) ?gy5 (by assumption) ?_
  case gy5 => (intro w' hSw; go_simp; try with_reducible rfl)
  try simp only [AP]
  refine tk 5 17 ?gv6 rfl (by kernel_rfl) (fun _ _ _ h => h) ?gy6 (by assumption) ?_
  case gy6 => (intro w' hSw; go_simp; try with_reducible rfl)
  try simp only [AP]
  refine tk 6 18 ?gv7 rfl (by kernel_rfl) (fun _ _ _ h => h) ?gy7 (by assumption) ?_
  case gy7 => (intro w' hSw; go_simp; try with_reducible rfl)
  try simp only [AP]
  refine tk 7 19 ?gv8 rfl (by kernel_rfl) (fun _ _ _ h => h) ?gy8 (by assumption) ?_
  case gy8 => (intro w' hSw; go_simp; try with_reducible rfl)
  try simp only [AP]
  refine tk 8 20 ?gv9 rfl (by kernel_rfl) (fun _ _ _ h => h) ?gy9 (by assumption) ?_
  case gy9 => (intro w' hSw; go_simp; try with_reducible rfl)
  try simp only [AP]
  refine wpAnyH_ready (rs := [9]) (by kernel_rfl) (by simp) ?_
  refine AllReadyH.cons rfl (fun K hK => ?_) AllReadyH.nil
  go_simp
  (go_at_call 82; ((with_reducible refine (HHT.out _ (by (repeat' (first | assumption | exact below_refl _ | refine bl_alloc ?_ _ | refine Below.setCell ?_ ?_ _ | refine below_draw ?_ | refine below_drewN ?_ _ | refine below_tr ?_ (by assumption))) <;> (first | omega | (simp; done) | (simp; omega)))).mono ?_); rintro e w5 ⟨rfl, hb5⟩; obtain ⟨hc5, hf5⟩ := bcell hb5; have hz5 := hb5.size; (try simp [sz_drew, sz_drewN] at hz5); (try simp only [sz_drew, sz_drewN] at hc5 hf5)))
  refine hK.out _ _ (by ((show Kq w1 _); (repeat' (first | assumption | exact kq_refl | refine kq_draw ?_ | refine kq_drewN ?_ | refine kq_alloc ?_ | refine kq_set ?_ ?_ | refine kq_step ?_ (by assumption))); (all_goals (first | omega | (simp; omega))))) (fun hS1 => ?_)
  clear hK K
  try simp only [AP]
  refine tk 10 11 ?gv10 rfl (by kernel_rfl) (fun _ _ _ h => h) ?gy10 (by assumption) ?_
  case gy10 => (intro w' hSw; go_simp; try with_reducible rfl)
  try simp only [AP]
  refine tk 11 22 ?gv11 rfl (by kernel_rfl) (fun _ _ _ h => h) ?gy11 (by assumption) ?_
  case gy11 => (intro w' hSw; go_simp; try with_reducible rfl)
  try simp only [AP]
  refine tk 12 23 ?gv12 rfl (by kernel_rfl) (fun _ _ _ h => h) ?gy12 (by assumption) ?_
  case gy12 => (intro w' hSw; go_simp; try with_reducible rfl)
  try simp only [AP]
  refine tk 13 4 ?gv13 rfl (by kernel_rfl) (fun _ _ _ h => h) ?gy13 (by assumption) ?_
  case gy13 => (intro w' hSw; go_simp; try with_reducible rfl)
  try simp only [AP]
  refine tk 14 5 ?gv14 rfl (by kernel_rfl) (fun _ _ _ h => h) ?gy14 (by assumption) ?_
  case gy14 => (intro w' hSw; go_simp; try with_reducible rfl)
  try simp only [AP]
  refine wpAnyH_done (by kernel_rfl) (NoPanic.normal ?_) _
  by_cases he : h2 = 0
  · subst he
    by_cases hp : PE = 0
    · subst hp
      have B5 : Below w1.heap.size w1 w5 := by (repeat' (first | assumption | exact below_refl _ | refine bl_alloc ?_ _ | refine Below.setCell ?_ ?_ _ | refine below_draw ?_ | refine below_drewN ?_ _ | refine below_tr ?_ (by assumption))) <;> (first | omega | (simp; done) | (simp; omega))
      obtain ⟨hcx, hfx⟩ := bcell B5
      have q_12 := (hcx nb 12 lnb).trans c_12
      have q_13 := (hcx nb 13 lnb).trans c_13
      have q_14 := (hcx nb 14 lnb).trans c_14
      have q_15 := (hcx nb 15 lnb).trans c_15
      go_upto_region 6 with (first | (go_at_call 246; ((with_reducible refine (f_passed_ok _).mono ?_); rintro e w' ⟨rfl, rfl⟩)) | (go_at_call 302; ((with_reducible refine (HPR.out _ (by (repeat' (first | assumption | exact below_refl _ | refine bl_alloc ?_ _ | refine Below.setCell ?_ ?_ _ | refine below_draw ?_ | refine below_drewN ?_ _ | refine below_tr ?_ (by assumption))) <;> (first | omega | (simp; done) | (simp; omega)))).mono ?_); rintro e w6 ⟨rfl, hb6⟩; obtain ⟨hc6, hf6⟩ := bcell hb6; have hz6 := hb6.size; (try simp [sz_drew, sz_drewN] at hz6); (try simp only [sz_drew, sz_drewN] at hc6 hf6))))
      have B6 : Below w1.heap.size w1 w6 := by (repeat' (first | assumption | exact below_refl _ | refine bl_alloc ?_ _ | refine Below.setCell ?_ ?_ _ | refine below_draw ?_ | refine below_drewN ?_ _ | refine below_tr ?_ (by assumption))) <;> (first | omega | (simp; done) | (simp; omega))
      obtain ⟨hcy, hfy⟩ := bcell B6
      have q23 := (hcy nb 23 lnb).trans c23
      have qf := (hfy nb 23 lnb).trans (hfn 23)
      have hw1 : IntKind.i64.wrap (L.money + PV) = L.money + PV := fits_wrap ⟨by omega, by omega⟩
      by_cases hm : L.money + PV ≤ 1000000000000
      · have g1 : decide (L.money + PV ≤ 1000000000000) = true := decide_eq_true hm
        have HX := Lib.hid (show deed (.bill (k : Int)) L.val = .ok { L.val with money := L.money + PV } by rw [HX2.out, if_neg (by simp), if_neg (by simp), if_neg (by omega)])
        go_wp2_with (go_at_call 131; ((with_reducible refine (f_must_ok _ _).mono ?_); rintro e w' ⟨rfl, rfl⟩))
        go_end0
        have st := nb_step (nb := nb) (below_tr B0 B6) 23 (.int .i64 (L.money + PV))
        have K := hN.kept st
        exact deed_ok (L' := { L with money := L.money + PV }) HX.out rfl ⟨((HN0.out.blk.below B6 lnb).set_ 23 (.int .i64 (L.money + PV))), ⟨K.su, K.gusts, K.rigs, K.rk, K.sites, K.sk, K.items, K.back⟩, K.stp, rfl, rfl⟩
      · have g1 : decide (L.money + PV ≤ 1000000000000) = false := decide_eq_false hm
        have HX := Lib.hid (show deed (.bill (k : Int)) L.val = .error 4 by rw [HX2.out, if_neg (by simp), if_neg (by simp)]; first | rw [if_pos hm] | rw [if_pos (by omega)])
        go_wp2_with (go_at_call 131; ((with_reducible refine (f_must_no _ _).mono ?_); rintro e w' ⟨rfl, rfl⟩))
        exact ⟨rfl, deed_err HX.out (by (repeat' (first | assumption | exact below_refl _ | refine bl_alloc ?_ _ | refine Below.setCell ?_ ?_ _ | refine below_draw ?_ | refine below_drewN ?_ _ | refine below_tr ?_ (by assumption))) <;> (first | omega | (simp; done) | (simp; omega)))⟩
    · have HX := Lib.hid (show deed (.bill (k : Int)) L.val = .error PE by rw [HX2.out, if_neg (by simp), if_pos hp])
      have HNZ := Lib.hid hp
      have B5 : Below w1.heap.size w1 w5 := by (repeat' (first | assumption | exact below_refl _ | refine bl_alloc ?_ _ | refine Below.setCell ?_ ?_ _ | refine below_draw ?_ | refine below_drewN ?_ _ | refine below_tr ?_ (by assumption))) <;> (first | omega | (simp; done) | (simp; omega))
      obtain ⟨hcx, hfx⟩ := bcell B5
      have q_12 := (hcx nb 12 lnb).trans c_12
      have q_13 := (hcx nb 13 lnb).trans c_13
      have q_14 := (hcx nb 14 lnb).trans c_14
      have q_15 := (hcx nb 15 lnb).trans c_15
      go_wp2_with (first | (go_at_call 246; ((with_reducible refine (f_passed_ok _).mono ?_); rintro e w' ⟨rfl, rfl⟩)) | (go_at_call 302; ((with_reducible refine (HPR.out _ (by (repeat' (first | assumption | exact below_refl _ | refine bl_alloc ?_ _ | refine Below.setCell ?_ ?_ _ | refine below_draw ?_ | refine below_drewN ?_ _ | refine below_tr ?_ (by assumption))) <;> (first | omega | (simp; done) | (simp; omega)))).mono ?_); rintro e w6 ⟨rfl, hb6⟩; obtain ⟨hc6, hf6⟩ := bcell hb6; have hz6 := hb6.size; (try simp [sz_drew, sz_drewN] at hz6); (try simp only [sz_drew, sz_drewN] at hc6 hf6))) | (go_at_call 246; ((with_reducible refine (f_passed_no _ HNZ.out _).mono ?_); rintro e w' ⟨rfl, rfl⟩)))
      exact ⟨rfl, deed_err HX.out (by (repeat' (first | assumption | exact below_refl _ | refine bl_alloc ?_ _ | refine Below.setCell ?_ ?_ _ | refine below_draw ?_ | refine below_drewN ?_ _ | refine below_tr ?_ (by assumption))) <;> (first | omega | (simp; done) | (simp; omega)))⟩
  · have HX := Lib.hid (show deed (.bill (k : Int)) L.val = .error h2 by rw [HX2.out, if_pos he])
    have HNZ := Lib.hid he
    go_wp2_with (go_at_call 246; ((with_reducible refine (f_passed_no _ HNZ.out _).mono ?_); rintro e w' ⟨rfl, rfl⟩))
    exact ⟨rfl, deed_err HX.out (by (repeat' (first | assumption | exact below_refl _ | refine bl_alloc ?_ _ | refine Below.setCell ?_ ?_ _ | refine below_draw ?_ | refine below_drewN ?_ _ | refine below_tr ?_ (by assumption))) <;> (first | omega | (simp; done) | (simp; omega)))⟩
end Go.Proofs.YtmjgljdmjpabdaaGreatDoor.Fi
