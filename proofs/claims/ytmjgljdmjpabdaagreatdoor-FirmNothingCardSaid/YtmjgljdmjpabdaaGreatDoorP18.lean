/- The parts of the proof, part 18. -/
import Derived.Test.YtmjgljdmjpabdaaGreatDoorP0
import Derived.Test.YtmjgljdmjpabdaaGreatDoorP17
set_option linter.unusedSimpArgs false
set_option linter.unusedVariables false
namespace Go.Proofs.YtmjgljdmjpabdaaGreatDoor.Fi
open Go.RowKit Go.Lib Tx
theorem Nxd.drew {T : Nat → Prop} {nb sb rb : Nat} {w w' : World} {L L' : LS} (h : Nxd T nb sb rb w L w' L') : Nxd T nb sb rb w L w'.drew L' :=
  ⟨h.blk.drew, h.ok.on (below_draw (below_refl _)), h.stp.drew, h.lines, h.x⟩
set_option maxHeartbeats 4000000 in
set_option maxRecDepth 20000 in
theorem d_up (i m : Int) (T : Nat → Prop) (nb sb rb : Nat) (L : LS) (w : World) (hN : Nxt T nb sb rb w L) (hI : Inv L.val) :
    Calls Tryz.prog 278 #[.agg #[.int .i64 i, .int .i64 m], .pointer (some ⟨nb, 0, none⟩)] w (DeedP (.up i m) T nb sb rb L w) := by
  have x0 := Blk.new w 172 #[.int .i64 i, .int .i64 m]
  have B0 := bl_alloc (below_refl w) (.cells #[.int .i64 i, .int .i64 m] 172)
  have b0 := x0.cell 0
  have b1 := x0.cell 1
  simp only [List.getElem?_toArray, List.getElem?_cons_zero, List.getElem?_cons_succ] at b0 b1
  have hN0 := hN.on B0
  have hsl : L.sites.l.length ≤ 1000 := by
    have h1 := hI.sl
    have h2 := (vSu_parts hI.su).1
    unfold LS.val at h1 h2
    dsimp only at h1 h2
    rw [List.length_map] at h1
    omega
  have HD := Lib.hid (show deed (.up i m) L.val = _ from rfl)
  cases hth : thB L.val i
  · have HX := Lib.hid (show deed (.up i m) L.val = .error 5 by unfold deed; dsimp only; rw [if_pos hth])
    have HAT := Lib.hid (f_at_no nb L i _ hN0.cel hsl hth)
    go_enter Tryz.func278, Tryz.ntmps278
    go_wp2_with (go_at_call 239; ((with_reducible refine HAT.out.mono ?_); rintro e w' ⟨rfl, rfl⟩))
    exact ⟨rfl, deed_err HX.out B0⟩
  obtain ⟨i0, i1⟩ := thB_iff.1 hth
  obtain ⟨k, rfl⟩ := Int.eq_ofNat_of_zero_le i0
  have hk : k < L.sites.l.length := by omega
  obtain ⟨s, cur, hs, ha, hbs, hir, c0, c1, c2⟩ := hN0.site hk
  have hfz := hbs.frozen
  have HAT := Lib.hid (f_at nb L k _ sb 0 hN0.cel hsl hk ha)
  have hsm := hI.sm s.val (by unfold LS.val; exact List.mem_map.2 ⟨s, List.mem_of_getElem? hs, rfl⟩)
  have HSA := Lib.hid (siteA_of hs)
  cases hwn : wn m 2 16
  · have HX := Lib.hid (show deed (.up (k : Int) m) L.val = .error 7 by unfold deed; dsimp only; rw [if_neg (by rw [hth]; simp), if_pos hwn])
    go_enter Tryz.func278, Tryz.ntmps278
    go_wp2_with (first
      | (go_at_call 239; ((with_reducible refine HAT.out.mono ?_); rintro e w' ⟨rfl, rfl⟩))
      | (go_at_call 70; ((with_reducible refine (f_withinV hwn _).mono ?_); rintro e w' ⟨rfl, rfl⟩))
      | (go_at_call 131; ((with_reducible refine (f_must_no _ _).mono ?_); rintro e w' ⟨rfl, rfl⟩)))
    exact ⟨rfl, deed_err HX.out B0⟩
  obtain ⟨m0, m1⟩ := wn_iff.1 hwn
  unfold LSi.val at hsm
  obtain ⟨sm0, sm1⟩ := hsm
  dsimp only at sm0 sm1
  have hw1 : IntKind.i64.wrap (s.men + m) = s.men + m := fits_wrap ⟨by omega, by omega⟩
  obtain ⟨u0, u1⟩ := upN_bd hI
  have HX2 := Lib.hid (show deed (.up (k : Int) m) L.val = if (!s.fel && (decide (0 < s.dogs.l.length) && decide (upN L.val + m ≤ L.x.men))) = false then .error 10 else if goB L.val L.val.gusts = false then .error 11 else .ok (setS L.val (k : Int) { s.val with men := s.men + m }) by
    unfold deed; dsimp only; rw [if_neg (by rw [hth]; simp), if_neg (by rw [hwn]; simp), HSA.out]; rfl)
  have lsb := hbs.lt
  have lnb := hN0.lt
  have lw := x0.lt
  have c0x : (w.alloc (.cells #[.int .i64 (k : Int), .int .i64 m] 172)).cell? ⟨sb, k * 3, none⟩ = some (.slice s.dogs.a s.dogs.l.length s.dogs.c) := c0
  have c16 : (w.alloc (.cells #[.int .i64 (k : Int), .int .i64 m] 172)).cell? ⟨nb, 16, none⟩ = some (.int .i64 L.x.men) := hN0.cel 16 _ rfl
  have c18 : (w.alloc (.cells #[.int .i64 (k : Int), .int .i64 m] 172)).cell? ⟨nb, 18, none⟩ = some (.slice L.gusts.a L.gusts.l.length L.gusts.c) := hN0.cel 18 _ rfl
  clear c0
  go_enter Tryz.func278, Tryz.ntmps278
  go_upto_region 3 with (first
      | (go_at_call 239; ((with_reducible refine HAT.out.mono ?_); rintro e w' ⟨rfl, rfl⟩))
      | (go_at_call 70; ((with_reducible refine (f_withinV hwn _).mono ?_); rintro e w' ⟨rfl, rfl⟩))
      | (go_at_call 131; ((with_reducible refine (f_must_ok _ _).mono ?_); rintro e w' ⟨rfl, rfl⟩)))
  generalize w.alloc (.cells #[.int .i64 (k : Int), .int .i64 m] 172) = w1 at *
  have HAL := Lib.hid (fun w' (h : Below w1.heap.size w1 w') => (hN0.on h).aloft hI)
  have HGV := Lib.hid (fun w' (h : Below w1.heap.size w1 w') v hv => (hN0.on h).goes hI (v := v) hv)
  have HI := Lib.hid hI
  have HN0 := Lib.hid hN0
  clear hI hN0
  generalize hU : upN L.val = U at *
  have hw2 : IntKind.i64.wrap (U + m) = U + m := fits_wrap ⟨by omega, by omega⟩
  cases hf : s.fel
  · rw [hf] at c1
    by_cases hd : 0 < s.dogs.l.length
    · have d1 : decide (0 < s.dogs.l.length) = true := decide_eq_true hd
      have d2 : decide ((0 : Int) < (s.dogs.l.length : Int)) = true := decide_eq_true (by omega)
      by_cases hm : U + m ≤ L.x.men
      · have hm1 : decide (U + m ≤ L.x.men) = true := decide_eq_true hm
        refine wp_region_noPanic ?_
        refine wp_region_held_drew (S := (fun w' => (∀ b o, b < w1.heap.size → w'.cell? ⟨b, o, none⟩ = w1.cell? ⟨b, o, none⟩) ∧ (∀ b o, b < w1.heap.size → w'.frozen? ⟨b, o, none⟩ = w1.frozen? ⟨b, o, none⟩) ∧ Below w1.heap.size w1 w')) (by kernel_rfl) (kq_draw kq_refl) (fun hS0 => ?_)
        refine tk 0 13 ?gv1 rfl (by kernel_rfl) (fun _ _ _ h => h) ?gy1 (by assumption) ?_
        case gy1 => (intro w' hSw; go_simp; try with_reducible rfl)
        try simp only [AP]
        refine tk 1 14 ?gv2 rfl (by kernel_rfl) (fun _ _ _ h => h) ?gy2 (by assumption) ?_
        case gy2 => (intro w' hSw; go_simp; try with_reducible rfl)
        try simp only [AP]
        refine tk 2 15 ?gv3 rfl (by kernel_rfl) (fun _ _ _ h => h) ?gy3 (by assumption) ?_
        case gy3 => (intro w' hSw; go_simp; try with_reducible rfl)
        try simp only [AP]
        refine tk 3 16 ?gv4 rfl (by kernel_rfl) (fun _ _ _ h => h) ?gy4 (by assumption) ?_
        case gy4 => (intro w' hSw; go_simp; try with_reducible rfl)
        try simp only [AP]
        refine tk 4 17 ?gv5 rfl (by kernel_rfl) (fun _ _ _ h => h) ?gy5 (by assumption) ?_
        case gy5 => (intro w' hSw; go_simp; try with_reducible rfl)
        try simp only [AP]
        refine tk 5 18 ?gv6 rfl (by kernel_rfl) (fun _ _ _ h => h) ?gy6 (by assumption) ?_
        case gy6 => (intro w' hSw; go_simp; try with_reducible rfl)
        try simp only [AP]
        refine tg 6 19 5 true ?gv7 rfl (by kernel_rfl) (fun _ _ _ h => h) (by rfl) ?gy7 (by assumption) ?_
        case gy7 => (intro w' hSw; go_simp; try with_reducible rfl)
        try simp only [AP]
        refine tg 7 20 5 true ?gv8 rfl (by kernel_rfl) (fun _ _ _ h => h) (by rfl) ?gy8 (by assumption) ?_
        case gy8 => (intro w' hSw; go_simp; try with_reducible rfl)
        try simp only [AP]
        refine tg 8 21 5 true ?gv9 rfl (by kernel_rfl) (fun _ _ _ h => h) (by rfl) ?gy9 (by assumption) ?_
        case gy9 => (intro w' hSw; go_simp; try with_reducible rfl)
        try simp only [AP]
        refine tg 9 22 5 true ?gv10 rfl (by kernel_rfl) (fun _ _ _ h => h) (by rfl) ?gy10 (by assumption) ?_
        case gy10 => (intro w' hSw; go_simp; try with_reducible rfl)
        try simp only [AP]
        refine tg 10 23 5 true ?gv11 rfl (by kernel_rfl) (fun _ _ _ h => h) (by rfl) ?gy11 (by assumption) ?_
        case gy11 => (intro w' hSw; go_simp; try with_reducible rfl)
        try simp only [AP]
        refine tg 11 24 5 true ?gv12 rfl (by kernel_rfl) (fun _ _ _ h => h) (by rfl) ?gy12 (by assumption) ?_
        case gy12 => (intro w' hSw; go_simp; try with_reducible rfl)
        try simp only [AP]
        refine tk 12 25 ?gv13 rfl (by kernel_rfl) (fun _ _ _ h => h) ?gy13 (by assumption) ?_
        case gy13 => (intro w' hSw; go_simp; try with_reducible rfl)
        try simp only [AP]
        refine tk 13 26 ?gv14 rfl (by kernel_rfl) (fun _ _ _ h => h) ?gy14 (by assumption) ?_
        case gy14 => (intro w' hSw; go_simp; try with_reducible rfl)
        try simp only [AP]
        refine tg 14 27 13 true ?gv15 rfl (by kernel_rfl) (fun _ _ _ h => h) (by rfl) ?gy15 (by assumption) ?_
        case gy15 => (intro w' hSw; go_simp; try with_reducible rfl)
        try simp only [AP]
        refine tg 16 29 13 true ?gv16 rfl (by kernel_rfl) (fun _ _ _ h => h) (by rfl) ?gy16 (by assumption) ?_
        case gy16 => (intro w' hSw; go_simp; try with_reducible rfl)
        try simp only [AP]
        refine tg 17 30 13 true ?gv17 rfl (by kernel_rfl) (fun _ _ _ h => h) (by rfl) ?gy17 (by assumption) ?_
        case gy17 => (intro w' hSw; go_simp; try with_reducible rfl)
        try simp only [AP]
        refine tg 19 32 13 true ?gv18 rfl (by kernel_rfl) (fun _ _ _ h => h) (by rfl) ?gy18 (by assumption) ?_
        case gy18 => (intro w' hSw; go_simp; try with_reducible rfl)
        try simp only [AP]
        refine tg 20 33 13 true ?gv19 rfl (by kernel_rfl) (fun _ _ _ h => h) (by rfl) ?gy19 (by assumption) ?_
        case gy19 => (intro w' hSw; go_simp; try with_reducible rfl)
        try simp only [AP]
        refine tg 21 34 13 true ?gv20 rfl (by kernel_rfl) (fun _ _ _ h => h) (by rfl) ?gy20 (by assumption) ?_
        case gy20 => (intro w' hSw; go_simp; try with_reducible rfl)
        try simp only [AP]
        refine tg 22 35 13 true ?gv21 rfl (by kernel_rfl) (fun _ _ _ h => h) (by rfl) ?gy21 (by assumption) ?_
        case gy21 => (intro w' hSw; go_simp; try with_reducible rfl)
        try simp only [AP]
        refine tg 23 36 13 true ?gv22 rfl (by kernel_rfl) (fun _ _ _ h => h) (by rfl) ?gy22 (by assumption) ?_
        case gy22 => (intro w' hSw; go_simp; try with_reducible rfl)
        try simp only [AP]
        refine wpAnyH_ready (rs := [15]) (by kernel_rfl) (by simp) ?_
        refine AllReadyH.cons rfl (fun K hK => ?_) AllReadyH.nil
        go_simp
        (go_at_call 236; ((with_reducible refine (HAL.out _ (by (repeat' (first | assumption | exact below_refl _ | refine bl_alloc ?_ _ | refine Below.setCell ?_ ?_ _ | refine below_draw ?_ | refine below_drewN ?_ _ | refine below_tr ?_ (by assumption))) <;> (first | omega | (simp; done) | (simp; omega)))).mono ?_); rintro e w3 ⟨rfl, hb3⟩; obtain ⟨hc3, hf3⟩ := bcell hb3; have hz3 := hb3.size; (try simp [sz_drew, sz_drewN] at hz3); (try simp only [sz_drew, sz_drewN] at hc3 hf3)))
        refine hK.out _ _ (by ((show Kq w1 _); (repeat' (first | assumption | exact kq_refl | refine kq_draw ?_ | refine kq_drewN ?_ | refine kq_alloc ?_ | refine kq_set ?_ ?_ | refine kq_step ?_ (by assumption))); (all_goals (first | omega | (simp; omega))))) (fun hS1 => ?_)
        clear hK K
        try simp only [AP]
        refine tg 18 31 13 true ?gv23 rfl (by kernel_rfl) (fun _ _ _ h => h) (by rfl) ?gy23 (by assumption) ?_
        case gy23 => (intro w' hSw; go_simp; try with_reducible rfl)
        try simp only [AP]
        refine tg 24 37 13 true ?gv24 rfl (by kernel_rfl) (fun _ _ _ h => h) (by rfl) ?gy24 (by assumption) ?_
        case gy24 => (intro w' hSw; go_simp; try with_reducible rfl)
        try simp only [AP]
        refine tk 25 38 ?gv25 rfl (by kernel_rfl) (fun _ _ _ h => h) ?gy25 (by assumption) ?_
        case gy25 => (intro w' hSw; go_simp; try with_reducible rfl)
        try simp only [AP]
        refine wpAnyH_ready (rs := [26]) (by kernel_rfl) (by simp) ?_
        refine AllReadyH.cons rfl (fun K hK => ?_) AllReadyH.nil
        go_simp
        (go_at_call 131; ((with_reducible refine (f_must_ok _ _).mono ?_); rintro e w' ⟨rfl, rfl⟩))
        refine hK.out _ _ (by ((show Kq w1 _); (repeat' (first | assumption | exact kq_refl | refine kq_draw ?_ | refine kq_drewN ?_ | refine kq_alloc ?_ | refine kq_set ?_ ?_ | refine kq_step ?_ (by assumption))); (all_goals (first | omega | (simp; omega))))) (fun hS2 => ?_)
        clear hK K
        try simp only [AP]
        refine wpAnyH_done (by kernel_rfl) (NoPanic.normal ?_) _
        cases hg : goB L.val L.val.gusts
        · have HX := Lib.hid (show deed (.up (k : Int) m) L.val = .error 11 by rw [HX2.out, if_neg (by rw [hf, d1, hm1]; simp), if_pos hg])
          have HGO := Lib.hid (fun w' h => HGV.out w' h _ hg)
          go_wp2_with (first | (go_at_call 57; ((with_reducible refine (HGO.out _ (by (repeat' (first | assumption | exact below_refl _ | refine bl_alloc ?_ _ | refine Below.setCell ?_ ?_ _ | refine below_draw ?_ | refine below_drewN ?_ _ | refine below_tr ?_ (by assumption))) <;> (first | omega | (simp; done) | (simp; omega)))).mono ?_); rintro e w4 ⟨rfl, hb4⟩; obtain ⟨hc4, hf4⟩ := bcell hb4; have hz4 := hb4.size; (try simp [sz_drew, sz_drewN] at hz4); (try simp only [sz_drew, sz_drewN] at hc4 hf4))) | (go_at_call 131; ((with_reducible refine (f_must_no _ _).mono ?_); rintro e w' ⟨rfl, rfl⟩)))
          exact ⟨rfl, deed_err HX.out (by (repeat' (first | assumption | exact below_refl _ | refine bl_alloc ?_ _ | refine Below.setCell ?_ ?_ _ | refine below_draw ?_ | refine below_drewN ?_ _ | refine below_tr ?_ (by assumption))) <;> (first | omega | (simp; done) | (simp; omega)))⟩
        · have HX := Lib.hid (show deed (.up (k : Int) m) L.val = .ok (setS L.val (k : Int) { s.val with men := s.men + m }) by rw [HX2.out, if_neg (by rw [hf, d1, hm1]; simp), if_neg (by rw [hg]; simp)])
          have HGO := Lib.hid (fun w' h => HGV.out w' h _ hg)
          go_wp2_with (first | (go_at_call 57; ((with_reducible refine (HGO.out _ (by (repeat' (first | assumption | exact below_refl _ | refine bl_alloc ?_ _ | refine Below.setCell ?_ ?_ _ | refine below_draw ?_ | refine below_drewN ?_ _ | refine below_tr ?_ (by assumption))) <;> (first | omega | (simp; done) | (simp; omega)))).mono ?_); rintro e w4 ⟨rfl, hb4⟩; obtain ⟨hc4, hf4⟩ := bcell hb4; have hz4 := hb4.size; (try simp [sz_drew, sz_drewN] at hz4); (try simp only [sz_drew, sz_drewN] at hc4 hf4))) | (go_at_call 131; ((with_reducible refine (f_must_ok _ _).mono ?_); rintro e w' ⟨rfl, rfl⟩)))
          have B4 : Below w1.heap.size w1 w4 := by (repeat' (first | assumption | exact below_refl _ | refine bl_alloc ?_ _ | refine Below.setCell ?_ ?_ _ | refine below_draw ?_ | refine below_drewN ?_ _ | refine below_tr ?_ (by assumption))) <;> (first | omega | (simp; done) | (simp; omega))
          obtain ⟨hcx, hfx⟩ := bcell B4
          have q2 := (hcx sb (k * 3 + 2) lsb).trans c2
          have qf := (hfx sb (k * 3 + 2) lsb).trans (hfz (k * 3 + 2))
          have q1 := (hcx w.heap.size 1 lw).trans b1
          go_region
          all_goals go_wp2
          all_goals go_end0
          all_goals first
            | exact deed_ok HX.out (by rw [set_val (s' := { s with men := s.men + m })]; rfl) (hN.turnS (j := 2) (s' := { s with men := s.men + m }) (by (repeat' (first | assumption | exact below_refl _ | refine bl_alloc ?_ _ | refine Below.setCell ?_ ?_ _ | refine below_draw ?_ | refine below_drewN ?_ _ | refine below_tr ?_ (by assumption))) <;> (first | omega | (simp; done) | (simp; omega))) hs rfl (fun r hr => by rcases r with _ | _ | _ | r <;> first | rfl | exact absurd rfl hr) (.inl rfl))
            | exact deed_ok HX.out (by rw [set_val (s' := { s with men := s.men + m })]; rfl) (Nxd.drew (hN.turnS (j := 2) (s' := { s with men := s.men + m }) (by (repeat' (first | assumption | exact below_refl _ | refine bl_alloc ?_ _ | refine Below.setCell ?_ ?_ _ | refine below_draw ?_ | refine below_drewN ?_ _ | refine below_tr ?_ (by assumption))) <;> (first | omega | (simp; done) | (simp; omega))) hs rfl (fun r hr => by rcases r with _ | _ | _ | r <;> first | rfl | exact absurd rfl hr) (.inl rfl)))
      · have hm1 : decide (U + m ≤ L.x.men) = false := decide_eq_false hm
        have HX := Lib.hid (show deed (.up (k : Int) m) L.val = .error 10 by rw [HX2.out, if_pos (by rw [hm1]; simp)])
        refine wp_region_held_drew (S := (fun w' => (∀ b o, b < w1.heap.size → w'.cell? ⟨b, o, none⟩ = w1.cell? ⟨b, o, none⟩) ∧ (∀ b o, b < w1.heap.size → w'.frozen? ⟨b, o, none⟩ = w1.frozen? ⟨b, o, none⟩) ∧ Below w1.heap.size w1 w')) (by kernel_rfl) (kq_draw kq_refl) (fun hS0 => ?_)
        refine tk 0 13 ?gv26 rfl (by kernel_rfl) ?hq27 ?gy26 (by assumption) ?_
        case hq27 => (intro c a w h; exact h)
        case gy26 => (intro w' hSw; go_simp; try with_reducible rfl)
        try simp only [AP]
        refine tk 1 14 ?gv28 rfl (by kernel_rfl) ?hq29 ?gy28 (by assumption) ?_
        case hq29 => (intro c a w h; exact h)
        case gy28 => (intro w' hSw; go_simp; try with_reducible rfl)
        try simp only [AP]
        refine tk 2 15 ?gv30 rfl (by kernel_rfl) ?hq31 ?gy30 (by assumption) ?_
        case hq31 => (intro c a w h; exact h)
        case gy30 => (intro w' hSw; go_simp; try with_reducible rfl)
        try simp only [AP]
        refine tk 3 16 ?gv32 rfl (by kernel_rfl) ?hq33 ?gy32 (by assumption) ?_
        case hq33 => (intro c a w h; exact h)
        case gy32 => (intro w' hSw; go_simp; try with_reducible rfl)
        try simp only [AP]
        refine tk 4 17 ?gv34 rfl (by kernel_rfl) ?hq35 ?gy34 (by assumption) ?_
        case hq35 => (intro c a w h; exact h)
        case gy34 => (intro w' hSw; go_simp; try with_reducible rfl)
        try simp only [AP]
        refine tk 5 18 ?gv36 rfl (by kernel_rfl) ?hq37 ?gy36 (by assumption) ?_
        case hq37 => (intro c a w h; exact h)
        case gy36 => (intro w' hSw; go_simp; try with_reducible rfl)
        try simp only [AP]
        refine tg 6 19 5 true ?gv38 rfl (by kernel_rfl) ?hq39 (by rfl) ?gy38 (by assumption) ?_
        case hq39 => (intro c a w h; exact h)
        case gy38 => (intro w' hSw; go_simp; try with_reducible rfl)
        try simp only [AP]
        refine tg 7 20 5 true ?gv40 rfl (by kernel_rfl) ?hq41 (by rfl) ?gy40 (by assumption) ?_
        case hq41 => (intro c a w h; exact h)
        case gy40 => (intro w' hSw; go_simp; try with_reducible rfl)
        try simp only [AP]
        refine tg 8 21 5 true ?gv42 rfl (by kernel_rfl) ?hq43 (by rfl) ?gy42 (by assumption) ?_
        case hq43 => (intro c a w h; exact h)
        case gy42 => (intro w' hSw; go_simp; try with_reducible rfl)
        try simp only [AP]
        refine tg 9 22 5 true ?gv44 rfl (by kernel_rfl) ?hq45 (by rfl) ?gy44 (by assumption) ?_
        case hq45 => (intro c a w h; exact h)
        case gy44 => (intro w' hSw; go_simp; try with_reducible rfl)
        try simp only [AP]
        refine tg 10 23 5 true ?gv46 rfl (by kernel_rfl) ?hq47 (by rfl) ?gy46 (by assumption) ?_
        case hq47 => (intro c a w h; exact h)
        case gy46 => (intro w' hSw; go_simp; try with_reducible rfl)
        try simp only [AP]
        refine tg 11 24 5 true ?gv48 rfl (by kernel_rfl) ?hq49 (by rfl) ?gy48 (by assumption) ?_
        case hq49 => (intro c a w h; exact h)
        case gy48 => (intro w' hSw; go_simp; try with_reducible rfl)
        try simp only [AP]
        refine tk 12 25 ?gv50 rfl (by kernel_rfl) ?hq51 ?gy50 (by assumption) ?_
        case hq51 => (intro c a w h; exact h)
        case gy50 => (intro w' hSw; go_simp; try with_reducible rfl)
        try simp only [AP]
        refine tk 13 26 ?gv52 rfl (by kernel_rfl) ?hq53 ?gy52 (by assumption) ?_
        case hq53 => (intro c a w h; exact h)
        case gy52 => (intro w' hSw; go_simp; try with_reducible rfl)
        try simp only [AP]
        refine tg 14 27 13 true ?gv54 rfl (by kernel_rfl) ?hq55 (by rfl) ?gy54 (by assumption) ?_
        case hq55 => (intro c a w h; exact h)
        case gy54 => (intro w' hSw; go_simp; try with_reducible rfl)
        try simp only [AP]
        refine tg 16 29 13 true ?gv56 rfl (by kernel_rfl) ?hq57 (by rfl) ?gy56 (by assumption) ?_
        case hq57 => (intro c a w h; exact h)
        case gy56 => (intro w' hSw; go_simp; try with_reducible rfl)
        try simp only [AP]
        refine tg 17 30 13 true ?gv58 rfl (by kernel_rfl) ?hq59 (by rfl) ?gy58 (by assumption) ?_
        case hq59 => (intro c a w h; exact h)
        case gy58 => (intro w' hSw; go_simp; try with_reducible rfl)
        try simp only [AP]
        refine tg 19 32 13 true ?gv60 rfl (by kernel_rfl) ?hq61 (by rfl) ?gy60 (by assumption) ?_
        case hq61 => (intro c a w h; exact h)
        case gy60 => (intro w' hSw; go_simp; try with_reducible rfl)
        try simp only [AP]
        refine tg 20 33 13 true ?gv62 rfl (by kernel_rfl) ?hq63 (by rfl) ?gy62 (by assumption) ?_
        case hq63 => (intro c a w h; exact h)
        case gy62 => (intro w' hSw; go_simp; try with_reducible rfl)
        try simp only [AP]
        refine tg 21 34 13 true ?gv64 rfl (by kernel_rfl) ?hq65 (by rfl) ?gy64 (by assumption) ?_
        case hq65 => (intro c a w h; exact h)
        case gy64 => (intro w' hSw; go_simp; try with_reducible rfl)
        try simp only [AP]
        refine tg 22 35 13 true ?gv66 rfl (by kernel_rfl) ?hq67 (by rfl) ?gy66 (by assumption) ?_
        case hq67 => (intro c a w h; exact h)
        case gy66 => (intro w' hSw; go_simp; try with_reducible rfl)
        try simp only [AP]
        refine tg 23 36 13 true ?gv68 rfl (by kernel_rfl) ?hq69 (by rfl) ?gy68 (by assumption) ?_
        case hq69 => (intro c a w h; exact h)
        case gy68 => (intro w' hSw; go_simp; try with_reducible rfl)
        try simp only [AP]
        refine wpAnyH_ready (rs := [15]) (by kernel_rfl) (by simp) ?_
        refine AllReadyH.cons rfl (fun K hK => ?_) AllReadyH.nil
        go_simp
        (go_at_call 236; ((with_reducible refine (HAL.out _ (by (repeat' (first | assumption | exact below_refl _ | refine bl_alloc ?_ _ | refine Below.setCell ?_ ?_ _ | refine below_draw ?_ | refine below_drewN ?_ _ | refine below_tr ?_ (by assumption))) <;> (first | omega | (simp; done) | (simp; omega)))).mono ?_); rintro e w3 ⟨rfl, hb3⟩; obtain ⟨hc3, hf3⟩ := bcell hb3; have hz3 := hb3.size; (try simp [sz_drew, sz_drewN] at hz3); (try simp only [sz_drew, sz_drewN] at hc3 hf3)))
        refine hK.out _ _ (by ((show Kq w1 _); (repeat' (first | assumption | exact kq_refl | refine kq_draw ?_ | refine kq_drewN ?_ | refine kq_alloc ?_ | refine kq_set ?_ ?_ | refine kq_step ?_ (by assumption))); (all_goals (first | omega | (simp; omega))))) (fun hS1 => ?_)
        clear hK K
        try simp only [AP]
        refine tg 18 31 13 true ?gv70 rfl (by kernel_rfl) ?hq71 (by rfl) ?gy70 (by assumption) ?_
        case hq71 => (intro c a w h; exact h)
        case gy70 => (intro w' hSw; go_simp; try with_reducible rfl)
        try simp only [AP]
        refine tg 24 37 13 true ?gv72 rfl (by kernel_rfl) ?hq73 (by rfl) ?gy72 (by assumption) ?_
        case hq73 => (intro c a w h; exact h)
        case gy72 => (intro w' hSw; go_simp; try with_reducible rfl)
        try simp only [AP]
        refine tk 25 38 ?gv74 rfl (by kernel_rfl) ?hq75 ?gy74 (by assumption) ?_
        case hq75 => (intro c a w h; exact h)
        case gy74 => (intro w' hSw; go_simp; try with_reducible rfl)
        try simp only [AP]
        refine wpAnyH_ready (rs := [26]) (by kernel_rfl) (by simp) ?_
        refine AllReadyH.cons rfl (fun K hK => ?_) AllReadyH.nil
        go_simp
        (go_at_call 131; ((with_reducible refine (f_must_no _ _).mono ?_); rintro e w' ⟨rfl, rfl⟩))
        exact ⟨rfl, deed_err HX.out (by (repeat' (first | assumption | exact below_refl _ | refine bl_alloc ?_ _ | refine Below.setCell ?_ ?_ _ | refine below_draw ?_ | refine below_drewN ?_ _ | refine below_tr ?_ (by assumption))) <;> (first | omega | (simp; done) | (simp; omega)))⟩
    · have d1 : decide (0 < s.dogs.l.length) = false := decide_eq_false hd
      have d2 : decide ((0 : Int) < (s.dogs.l.length : Int)) = false := decide_eq_false (by omega)
      have HX := Lib.hid (show deed (.up (k : Int) m) L.val = .error 10 by rw [HX2.out, if_pos (by rw [d1]; simp)])
      refine wp_region_held_drew (S := (fun w' => (∀ b o, b < w1.heap.size → w'.cell? ⟨b, o, none⟩ = w1.cell? ⟨b, o, none⟩) ∧ (∀ b o, b < w1.heap.size → w'.frozen? ⟨b, o, none⟩ = w1.frozen? ⟨b, o, none⟩) ∧ Below w1.heap.size w1 w')) (by kernel_rfl) (kq_draw kq_refl) (fun hS0 => ?_)
      refine tk 0 13 ?gv76 rfl (by kernel_rfl) ?hq77 ?gy76 (by assumption) ?_
      case hq77 => (intro c a w h; exact h)
      case gy76 => (intro w' hSw; go_simp; try with_reducible rfl)
      try simp only [AP]
      refine tk 1 14 ?gv78 rfl (by kernel_rfl) ?hq79 ?gy78 (by assumption) ?_
      case hq79 => (intro c a w h; exact h)
      case gy78 => (intro w' hSw; go_simp; try with_reducible rfl)
      try simp only [AP]
      refine tk 2 15 ?gv80 rfl (by kernel_rfl) ?hq81 ?gy80 (by assumption) ?_
      case hq81 => (intro c a w h; exact h)
      case gy80 => (intro w' hSw; go_simp; try with_reducible rfl)
      try simp only [AP]
      refine tk 3 16 ?gv82 rfl (by kernel_rfl) ?hq83 ?gy82 (by assumption) ?_
      case hq83 => (intro c a w h; exact h)
      case gy82 => (intro w' hSw; go_simp; try with_reducible rfl)
      try simp only [AP]
      refine tk 4 17 ?gv84 rfl (by kernel_rfl) ?hq85 ?gy84 (by assumption) ?_
      case hq85 => (intro c a w h; exact h)
      case gy84 => (intro w' hSw; go_simp; try with_reducible rfl)
      try simp only [AP]
      refine tk 5 18 ?gv86 rfl (by kernel_rfl) ?hq87 ?gy86 (by assumption) ?_
      case hq87 => (intro c a w h; exact h)
      case gy86 => (intro w' hSw; go_simp; try with_reducible rfl)
      try simp only [AP]
      refine tg 6 19 5 true ?gv88 rfl (by kernel_rfl) ?hq89 (by rfl) ?gy88 (by assumption) ?_
      case hq89 => (intro c a w h; exact h)
      case gy88 => (intro w' hSw; go_simp; try with_reducible rfl)
      try simp only [AP]
      refine tg 7 20 5 true ?gv90 rfl (by kernel_rfl) ?hq91 (by rfl) ?gy90 (by assumption) ?_
      case hq91 => (intro c a w h; exact h)
      case gy90 => (intro w' hSw; go_simp; try with_reducible rfl)
      try simp only [AP]
      refine tg 8 21 5 true ?gv92 rfl (by kernel_rfl) ?hq93 (by rfl) ?gy92 (by assumption) ?_
      case hq93 => (intro c a w h; exact h)
      case gy92 => (intro w' hSw; go_simp; try with_reducible rfl)
      try simp only [AP]
      refine tg 9 22 5 true ?gv94 rfl (by kernel_rfl) ?hq95 (by rfl) ?gy94 (by assumption) ?_
      case hq95 => (intro c a w h; exact h)
      case gy94 => (intro w' hSw; go_simp; try with_reducible rfl)
      try simp only [AP]
      refine tg 10 23 5 true ?gv96 rfl (by kernel_rfl) ?hq97 (by rfl) ?gy96 (by assumption) ?_
      case hq97 => (intro c a w h; exact h)
      case gy96 => (intro w' hSw; go_simp; try with_reducible rfl)
      try simp only [AP]
      refine tg 11 24 5 true ?gv98 rfl (by kernel_rfl) ?hq99 (by rfl) ?gy98 (by assumption) ?_
      case hq99 => (intro c a w h; exact h)
      case gy98 => (intro w' hSw; go_simp; try with_reducible rfl)
      try simp only [AP]
      refine tk 12 25 ?gv100 rfl (by kernel_rfl) ?hq101 ?gy100 (by assumption) ?_
      case hq101 => (intro c a w h; exact h)
      case gy100 => (intro w' hSw; go_simp; try with_reducible rfl)
      try simp only [AP]
      refine tk 13 26 ?gv102 rfl (by kernel_rfl) ?hq103 ?gy102 (by assumption) ?_
      case hq103 => (intro c a w h; exact h)
      case gy102 => (intro w' hSw; go_simp; try with_reducible rfl)
      try simp only [AP]
      refine tu 14 27 13 true rfl (by kernel_rfl) ?hq104 (by rfl) (by assumption) ?_
      case hq104 => (intro c a w h; exact h)
      try simp only [AP]
      refine tu 15 28 13 true rfl (by kernel_rfl) ?hq105 (by rfl) (by assumption) ?_
      case hq105 => (intro c a w h; exact h)
      try simp only [AP]
      refine tu 16 29 13 true rfl (by kernel_rfl) ?hq106 (by rfl) (by assumption) ?_
      case hq106 => (intro c a w h; exact h)
      try simp only [AP]
      refine tu 17 30 13 true rfl (by kernel_rfl) ?hq107 (by rfl) (by assumption) ?_
      case hq107 => (intro c a w h; exact h)
      try simp only [AP]
      refine tu 18 31 13 true rfl (by kernel_rfl) ?hq108 (by rfl) (by assumption) ?_
      case hq108 => (intro c a w h; exact h)
      try simp only [AP]
      refine tu 19 32 13 true rfl (by kernel_rfl) ?hq109 (by rfl) (by assumption) ?_
      case hq109 => (intro c a w h; exact h)
      try simp only [AP]
      refine tu 20 33 13 true rfl (by kernel_rfl) ?hq110 (by rfl) (by assumption) ?_
      case hq110 => (intro c a w h; exact h)
      try simp only [AP]
      refine tu 21 34 13 true rfl (by kernel_rfl) ?hq111 (by rfl) (by assumption) ?_
      case hq111 => (intro c a w h; exact h)
      try simp only [AP]
      refine tu 22 35 13 true rfl (by kernel_rfl) ?hq112 (by rfl) (by assumption) ?_
      case hq112 => (intro c a w h; exact h)
      try simp only [AP]
      refine tu 23 36 13 true rfl (by kernel_rfl) ?hq113 (by rfl) (by assumption) ?_
      case hq113 => (intro c a w h; exact h)
      try simp only [AP]
      refine tu 24 37 13 true rfl (by kernel_rfl) ?hq114 (by rfl) (by assumption) ?_
      case hq114 => (intro c a w h; exact h)
      try simp only [AP]
      refine tk 25 38 ?gv115 rfl (by kernel_rfl) ?hq116 ?gy115 (by assumption) ?_
      case hq116 => (intro c a w h; exact h)
      case gy115 => (intro w' hSw; go_simp; try with_reducible rfl)
      try simp only [AP]
      refine wpAnyH_ready (rs := [26]) (by kernel_rfl) (by simp) ?_
      refine AllReadyH.cons rfl (fun K hK => ?_) AllReadyH.nil
      go_simp
      (go_at_call 131; ((with_reducible refine (f_must_no _ _).mono ?_); rintro e w' ⟨rfl, rfl⟩))
      exact ⟨rfl, deed_err HX.out (by (repeat' (first | assumption | exact below_refl _ | refine bl_alloc ?_ _ | refine Below.setCell ?_ ?_ _ | refine below_draw ?_ | refine below_drewN ?_ _ | refine below_tr ?_ (by assumption))) <;> (first | omega | (simp; done) | (simp; omega)))⟩
  · rw [hf] at c1
    have HX := Lib.hid (show deed (.up (k : Int) m) L.val = .error 10 by rw [HX2.out, if_pos (by rw [hf]; rfl)])
    refine wp_region_held_drew (S := (fun w' => (∀ b o, b < w1.heap.size → w'.cell? ⟨b, o, none⟩ = w1.cell? ⟨b, o, none⟩) ∧ (∀ b o, b < w1.heap.size → w'.frozen? ⟨b, o, none⟩ = w1.frozen? ⟨b, o, none⟩) ∧ Below w1.heap.size w1 w')) (by kernel_rfl) (kq_draw kq_refl) (fun hS0 => ?_)
    refine tk 0 13 ?gv117 rfl (by kernel_rfl) ?hq118 ?gy117 (by assumption) ?_
    case hq118 => (intro c a w h; exact h)
    case gy117 => (intro w' hSw; go_simp; try with_reducible rfl)
    try simp only [AP]
    refine tk 1 14 ?gv119 rfl (by kernel_rfl) ?hq120 ?gy119 (by assumption) ?_
    case hq120 => (intro c a w h; exact h)
    case gy119 => (intro w' hSw; go_simp; try with_reducible rfl)
    try simp only [AP]
    refine tk 2 15 ?gv121 rfl (by kernel_rfl) ?hq122 ?gy121 (by assumption) ?_
    case hq122 => (intro c a w h; exact h)
    case gy121 => (intro w' hSw; go_simp; try with_reducible rfl)
    try simp only [AP]
    refine tk 3 16 ?gv123 rfl (by kernel_rfl) ?hq124 ?gy123 (by assumption) ?_
    case hq124 => (intro c a w h; exact h)
    case gy123 => (intro w' hSw; go_simp; try with_reducible rfl)
    try simp only [AP]
    refine tk 4 17 ?gv125 rfl (by kernel_rfl) ?hq126 ?gy125 (by assumption) ?_
    case hq126 => (intro c a w h; exact h)
    case gy125 => (intro w' hSw; go_simp; try with_reducible rfl)
    try simp only [AP]
    refine tk 5 18 ?gv127 rfl (by kernel_rfl) ?hq128 ?gy127 (by assumption) ?_
    case hq128 => (intro c a w h; exact h)
    case gy127 => (intro w' hSw; go_simp; try with_reducible rfl)
    try simp only [AP]
    refine tu 6 19 5 true rfl (by kernel_rfl) ?hq129 (by rfl) (by assumption) ?_
    case hq129 => (intro c a w h; exact h)
    try simp only [AP]
    refine tu 7 20 5 true rfl (by kernel_rfl) ?hq130 (by rfl) (by assumption) ?_
    case hq130 => (intro c a w h; exact h)
    try simp only [AP]
    refine tu 8 21 5 true rfl (by kernel_rfl) ?hq131 (by rfl) (by assumption) ?_
    case hq131 => (intro c a w h; exact h)
    try simp only [AP]
    refine tu 9 22 5 true rfl (by kernel_rfl) ?hq132 (by rfl) (by assumption) ?_
    case hq132 => (intro c a w h; exact h)
    try simp only [AP]
    refine tu 10 23 5 true rfl (by kernel_rfl) ?hq133 (by rfl) (by assumption) ?_
    case hq133 => (intro c a w h; exact h)
    try simp only [AP]
    refine tu 11 24 5 true rfl (by kernel_rfl) ?hq134 (by rfl) (by assumption) ?_
    case hq134 => (intro c a w h; exact h)
    try simp only [AP]
    refine tk 12 25 ?gv135 rfl (by kernel_rfl) ?hq136 ?gy135 (by assumption) ?_
    case hq136 => (intro c a w h; exact h)
    case gy135 => (intro w' hSw; go_simp; try with_reducible rfl)
    try simp only [AP]
    refine tk 13 26 ?gv137 rfl (by kernel_rfl) ?hq138 ?gy137 (by assumption) ?_
    case hq138 => (intro c a w h; exact h)
    case gy137 => (intro w' hSw; go_simp; try with_reducible rfl)
    try simp only [AP]
    refine tu 14 27 13 true rfl (by kernel_rfl) ?hq139 (by rfl) (by assumption) ?_
    case hq139 => (intro c a w h; exact h)
    try simp only [AP]
    refine tu 15 28 13 true rfl (by kernel_rfl) ?hq140 (by rfl) (by assumption) ?_
    case hq140 => (intro c a w h; exact h)
    try simp only [AP]
    refine tu 16 29 13 true rfl (by kernel_rfl) ?hq141 (by rfl) (by assumption) ?_
    case hq141 => (intro c a w h; exact h)
    try simp only [AP]
    refine tu 17 30 13 true rfl (by kernel_rfl) ?hq142 (by rfl) (by assumption) ?_
    case hq142 => (intro c a w h; exact h)
    try simp only [AP]
    refine tu 18 31 13 true rfl (by kernel_rfl) ?hq143 (by rfl) (by assumption) ?_
    case hq143 => (intro c a w h; exact h)
    try simp only [AP]
    refine tu 19 32 13 true rfl (by kernel_rfl) ?hq144 (by rfl) (by assumption) ?_
    case hq144 => (intro c a w h; exact h)
    try simp only [AP]
    refine tu 20 33 13 true rfl (by kernel_rfl) ?hq145 (by rfl) (by assumption) ?_
    case hq145 => (intro c a w h; exact h)
    try simp only [AP]
    refine tu 21 34 13 true rfl (by kernel_rfl) ?hq146 (by rfl) (by assumption) ?_
    case hq146 => (intro c a w h; exact h)
    try simp only [AP]
    refine tu 22 35 13 true rfl (by kernel_rfl) ?hq147 (by rfl) (by assumption) ?_
    case hq147 => (intro c a w h; exact h)
    try simp only [AP]
    refine tu 23 36 13 true rfl (by kernel_rfl) ?hq148 (by rfl) (by assumption) ?_
    case hq148 => (intro c a w h; exact h)
    try simp only [AP]
    refine tu 24 37 13 true rfl (by kernel_rfl) ?hq149 (by rfl) (by assumption) ?_
    case hq149 => (intro c a w h; exact h)
    try simp only [AP]
    refine tk 25 38 ?gv150 rfl (by kernel_rfl) ?hq151 ?gy150 (by assumption) ?_
    case hq151 => (intro c a w h; exact h)
    case gy150 => (intro w' hSw; go_simp; try with_reducible rfl)
    try simp only [AP]
    refine wpAnyH_ready (rs := [26]) (by kernel_rfl) (by simp) ?_
    refine AllReadyH.cons rfl (fun K hK => ?_) AllReadyH.nil
    go_simp
    (go_at_call 131; ((with_reducible refine (f_must_no _ _).mono ?_); rintro e w' ⟨rfl, rfl⟩))
    exact ⟨rfl, deed_err HX.out (by (repeat' (first | assumption | exact below_refl _ | refine bl_alloc ?_ _ | refine Below.setCell ?_ ?_ _ | refine below_draw ?_ | refine below_drewN ?_ _ | refine below_tr ?_ (by assumption))) <;> (first | omega | (simp; done) | (simp; omega)))⟩
end Go.Proofs.YtmjgljdmjpabdaaGreatDoor.Fi
set_option linter.unusedSimpArgs false
set_option linter.unusedVariables false
namespace Go.Proofs.YtmjgljdmjpabdaaGreatDoor.Fi
open Go.RowKit Go.Lib Tx
theorem Inv.slen {L : LS} (h : Inv L.val) : L.sites.l.length ≤ 8 := by
  have h1 := h.sl
  have h2 := (vSu_parts h.su).1
  unfold LS.val at h1 h2
  dsimp only at h1 h2
  rw [List.length_map] at h1
  omega
theorem Inv.men {L : LS} (h : Inv L.val) {k : Nat} {s : LSi} (hs : L.sites.l[k]? = some s) : 0 ≤ s.men ∧ s.men ≤ 16 :=
  h.sm s.val (by unfold LS.val; exact List.mem_map.2 ⟨s, List.mem_of_getElem? hs, rfl⟩)
theorem Inv.lens {L : LS} (h : Inv L.val) : L.x.stk.l.length = L.sites.l.length ∧ L.x.jnt.l.length = L.sites.l.length := by
  have h1 := h.sl
  have h2 := (vSu_parts h.su).2.1
  unfold LS.val LSu.val at h1 h2
  dsimp only at h1 h2
  simp only [List.length_map] at h1 h2
  omega
theorem stkA_of {L : LS} {i : Nat} {s : Sl S.Course} (h : L.x.stk.l[i]? = some s) : stkA L.val (i : Int) = s.l := by
  unfold stkA LS.val LSu.val
  rw [Int.toNat_natCast, List.getD_eq_getElem?_getD, List.getElem?_map, h]; rfl
theorem jntA_of {L : LS} {i : Nat} {s : Sl Jt} (h : L.x.jnt.l[i]? = some s) : jntA L.val (i : Int) = s.l := by
  unfold jntA LS.val LSu.val
  rw [Int.toNat_natCast, List.getD_eq_getElem?_getD, List.getElem?_map, h]; rfl
theorem rigA_of {L : LS} {i : Nat} {s : LRg} (h : L.rigs.l[i]? = some s) : rigA L.val (i : Int) = s.val := by
  unfold rigA LS.val
  rw [Int.toNat_natCast, List.getD_eq_getElem?_getD, List.getElem?_map, h]; rfl
theorem rtB_iff {L : LS} {i : Int} : rtB L.val i = true ↔ 0 ≤ i ∧ i < L.rigs.l.length := by
  unfold rtB LS.val
  rw [wn_iff, List.length_map]; omega
section
variable {T : Nat → Prop} {nb sb rb : Nat} {w w' : World} {L : LS}
theorem Nxt.jnts (h : Nxt T nb sb rb w L) (hI : Inv L.val) {k : Nat} (hk : k < L.sites.l.length) : ∃ y b off, L.x.jnt.l[k]? = some y ∧ L.x.jnt.a = some ⟨b, off, none⟩ ∧ b < w.heap.size ∧ w.cell? ⟨b, off + k, none⟩ = some (.slice y.a y.l.length y.c) ∧ Got T w Jt.cs 2 y ∧ y.l.length ≤ 200 := by
  obtain ⟨y, hy⟩ := get_lt (show k < L.x.jnt.l.length by rw [hI.lens.2]; exact hk)
  obtain ⟨b, off, e, hb, hc⟩ := h.su.jnt.rd.get hy
  have h1 := (vSu_parts hI.su).2.2.2.1 y.l (by unfold LS.val LSu.val; exact List.mem_map.2 ⟨y, List.mem_of_getElem? hy, rfl⟩)
  have h2 : y.l.length ≤ 200 := by unfold vJ at h1; exact of_decide_eq_true (Bool.and_eq_true_iff.1 h1).2
  exact ⟨y, b, off, hy, e, hb, by have := hc 0 _ rfl; simpa using this, h.su.jnts y (List.mem_of_getElem? hy), h2⟩
theorem Nxt.stks (h : Nxt T nb sb rb w L) (hI : Inv L.val) {k : Nat} (hk : k < L.sites.l.length) : ∃ y b off, L.x.stk.l[k]? = some y ∧ L.x.stk.a = some ⟨b, off, none⟩ ∧ b < w.heap.size ∧ w.cell? ⟨b, off + k, none⟩ = some (.slice y.a y.l.length y.c) ∧ Got T w S.Course.cs 6 y ∧ S.validC y.l = true := by
  obtain ⟨y, hy⟩ := get_lt (show k < L.x.stk.l.length by rw [hI.lens.1]; exact hk)
  obtain ⟨b, off, e, hb, hc⟩ := h.su.stk.rd.get hy
  have h1 := (vSu_parts hI.su).2.2.1 y.l (by unfold LS.val LSu.val; exact List.mem_map.2 ⟨y, List.mem_of_getElem? hy, rfl⟩)
  exact ⟨y, b, off, hy, e, hb, by have := hc 0 _ rfl; simpa using this, h.su.stks y (List.mem_of_getElem? hy), h1⟩
theorem Nxt.turnR (h : Nxt T nb sb rb w L) {w1 : World} (B : Below w.heap.size w w1) {k j : Nat} {s s' : LRg} {v : Value} (hs : L.rigs.l[k]? = some s) (hj : s'.cs[j]? = some v) (ho : ∀ r, r ≠ j → s'.cs[r]? = s.cs[r]?)
    (hd : s'.lk.l = []) (hdc : s'.lk.c = 0) : Nxd T nb sb rb w L (w1.setCell ⟨rb, k * 2 + j, none⟩ v) { L with rigs := ⟨L.rigs.a, L.rigs.l.set k s', L.rigs.c⟩ } := by
  have hk := (List.getElem?_eq_some_iff.1 hs).1
  have h1 := h.on B
  obtain ⟨g, cap, cur, hv, _, hb, hir⟩ := own_row LRg.cs_len h1.rrow (by omega)
  have ha : L.rigs.a = some ⟨g, 0, none⟩ := by have := hv; unfold Sl.v at this; injection this
  have hg : g = rb := h.rb_ g (by show (Value.slice L.rigs.a _ _).ownBlock = _; rw [ha]; rfl)
  subst hg
  have hst : Stp (fun g' => g' = g) w (w1.setCell ⟨g, k * 2 + j, none⟩ v) := Stp.setCell (N := fun g' => g' = g) (p := ⟨g, k * 2 + j, none⟩) ((Stp.refl _ _).below B (Nat.le_refl _)) (.inl rfl) v
  have h3 : Stp (fun g' => g' = nb ∨ g' = sb ∨ g' = g) w (w1.setCell ⟨g, k * 2 + j, none⟩ v) := hst.mono fun b _ e => .inr (.inr e)
  have hR' := inrow_put LRg.cs_len hir hs hj ho
  have hc := own_caps h.rrow
  refine ⟨?_, ⟨h.keepSu h3, h.keep h.gusts h3, ?_, ?_, h.keepS (hst.mono fun b _ e => .inr e), fun s hs' => h.keep (h.sk s hs') h3, h.keep h.items h3, h.keep h.back h3⟩, h3, rfl, rfl⟩
  · have hb1 := hst.blk h.blk h.n2
    have e : ({ L with rigs := ⟨L.rigs.a, L.rigs.l.set k s', L.rigs.c⟩ } : LS).cs = L.cs := by unfold LS.cs Sl.v; simp
    rw [e]; exact hb1
  · refine ⟨fun hne => ?_, fun hne a ha' => ?_, by simpa using hc.1, hc.2⟩
    · dsimp only
      rw [ha]
      exact row_rd (hb.set_ _ _) hR' hne
    · dsimp only at ha'
      rw [ha] at ha'; cases ha'
      exact .inr (.inr (.inl rfl))
  · intro r hr
    rcases List.mem_or_eq_of_mem_set hr with h1 | h1
    · exact h.keep (h.rk r h1) h3
    · rw [h1]
      exact ⟨fun hne => absurd hd hne, fun hne => absurd hd hne, by rw [hd, hdc]; simp, by rw [hdc]; simp⟩
theorem Nxt.rfz (h : Nxt T nb sb rb w L) {k : Nat} (hk : k < L.rigs.l.length) (j : Nat) : w.frozen? ⟨rb, j, none⟩ = false := by
  obtain ⟨g, cap, cur, hv, _, hb, hir⟩ := own_row LRg.cs_len h.rrow (by omega)
  have ha : L.rigs.a = some ⟨g, 0, none⟩ := by have := hv; unfold Sl.v at this; injection this
  have hg : g = rb := h.rb_ g (by show (Value.slice L.rigs.a _ _).ownBlock = _; rw [ha]; rfl)
  subst hg
  exact hb.frozen j
theorem setR_val {i : Nat} {s' : LRg} : ({ L with rigs := ⟨L.rigs.a, L.rigs.l.set i s', L.rigs.c⟩ } : LS).val = { L.val with rigs := L.val.rigs.set i s'.val } := by
  unfold LS.val
  simp [List.map_set]
end
theorem pri_bd {r : Rt} {h : Int} (hv : vRt r = true) : 0 ≤ priV r h ∧ priV r h ≤ 1000000000000 := by
  unfold priV
  by_cases he : priE r h = 0
  · rw [if_pos he]
    unfold priE at he
    rw [if_pos hv] at he
    by_cases hw : wn h 0 200000 = true
    · obtain ⟨h0, h1⟩ := wn_iff.1 hw
      unfold vRt at hv
      obtain ⟨v1, hv⟩ := Bool.and_eq_true_iff.1 hv
      obtain ⟨v2, hv⟩ := Bool.and_eq_true_iff.1 hv
      obtain ⟨v3, v4⟩ := Bool.and_eq_true_iff.1 hv
      obtain ⟨a1, a2⟩ := wn_iff.1 v1
      obtain ⟨a3, a4⟩ := wn_iff.1 v2
      obtain ⟨a5, a6⟩ := wn_iff.1 v3
      obtain ⟨a7, a8⟩ := wn_iff.1 v4
      have m1 : 0 ≤ mtr (min h r.hi) ∧ mtr (min h r.hi) ≤ 201 := by unfold mtr; omega
      have m2 : 0 ≤ mtr (max 0 (h - r.hi)) ∧ mtr (max 0 (h - r.hi)) ≤ 201 := by unfold mtr; omega
      generalize mtr (min h r.hi) = A at *
      generalize mtr (max 0 (h - r.hi)) = B at *
      have p1 := Int.mul_nonneg a3 m1.1
      have p2 := Int.mul_nonneg a5 m2.1
      have p3 : r.lo * A ≤ 1000000 * 201 := Int.mul_le_mul a4 m1.2 m1.1 (by omega)
      have p4 : r.ab * B ≤ 1000000 * 201 := Int.mul_le_mul a6 m2.2 m2.1 (by omega)
      omega
    · rw [if_neg hw] at he; omega
  · rw [if_neg he]; omega
end Go.Proofs.YtmjgljdmjpabdaaGreatDoor.Fi
