/- The parts of the proof, part 29. -/
import Derived.Test.YtmjgljdmjpabdaaGreatDoorP0
import Derived.Test.YtmjgljdmjpabdaaGreatDoorP19
import Derived.Test.YtmjgljdmjpabdaaGreatDoorP20
import Derived.Test.YtmjgljdmjpabdaaGreatDoorP27
import Derived.Deep.DeepCutAuto
set_option linter.unusedSimpArgs false
set_option linter.unusedVariables false
namespace Go.Proofs.YtmjgljdmjpabdaaGreatDoor.Fi
open Go.RowKit Go.Lib Tx
set_option maxHeartbeats 4000000 in
set_option maxRecDepth 20000 in
theorem d_rigup (i : Int) (l : Sl G.Lk) (T : Nat → Prop) (nb sb rb : Nat) (L : LS) (w : World) (hN : Nxt T nb sb rb w L) (hI : Inv L.val) (hll : l.l.length ≤ 100000) (hlw : ∀ q ∈ l.l, G.LW q) (hRl : Rd G.Lk.cs 2 w l.a l.l) :
    Calls Tryz.prog 237 #[.agg #[.int .i64 i, .slice l.a l.l.length l.c], .pointer (some ⟨nb, 0, none⟩)] w (DeedP (.rig i l.l) T nb sb rb L w) := by
  have x0 := Blk.new w 158 #[.int .i64 i, .slice l.a l.l.length l.c]
  have B0 := bl_alloc (below_refl w) (.cells #[.int .i64 i, .slice l.a l.l.length l.c] 158)
  have b0 := x0.cell 0
  have b1 := x0.cell 1
  simp only [List.getElem?_toArray, List.getElem?_cons_zero, List.getElem?_cons_succ] at b0 b1
  have hN0 := hN.on B0
  have hsl : L.sites.l.length ≤ 8 := hI.slen
  have hsl0 : L.sites.l.length ≤ 1000 := by omega
  cases hth : thB L.val i
  · have HX := Lib.hid (show deed (.rig i l.l) L.val = .error 5 by unfold deed; dsimp only; rw [if_pos hth])
    have HAT := Lib.hid (f_at_no nb L i _ hN0.cel hsl0 hth)
    go_enter Tryz.func237, Tryz.ntmps237
    go_wp2_with (go_at_call 239; ((with_reducible refine (HAT.out).mono ?_); rintro e w' ⟨rfl, rfl⟩))
    exact ⟨rfl, deed_err HX.out B0⟩
  obtain ⟨i0, i1⟩ := thB_iff.1 hth
  obtain ⟨k, rfl⟩ := Int.eq_ofNat_of_zero_le i0
  have hk : k < L.sites.l.length := by omega
  obtain ⟨s, cur, hs, ha, hbs, hir, c0, c1, c2⟩ := hN0.site hk
  have hfz := hbs.frozen
  have HAT := Lib.hid (f_at nb L k _ sb 0 hN0.cel hsl0 hk ha)
  have HSA := Lib.hid (siteA_of hs)
  have hsm := hI.men hs
  have lsb := hbs.lt
  have lnb := hN0.lt
  have lw := x0.lt
  have hRl0 := hRl.on B0
  have hrl : L.rigs.l.length ≤ 50 := by have h := hI.rl; unfold LS.val at h; dsimp only at h; rw [List.length_map] at h; exact h
  have hit : G.vldG L.items.l = true := hI.it
  have hiw : ∀ x ∈ L.items.l, G.IW x := hI.iw
  have hil : L.items.l.length ≤ 100000 := by have := G.vldG_len hit; omega
  have hbl : L.back.l.length ≤ 100000 := by have : L.back.l.length ≤ 100 := hI.bl; omega
  have dd0 : 0 ≤ L.day := hI.d0
  have dd1 : L.day ≤ 100000 := hI.d1
  have HX2 := Lib.hid (show deed (.rig (k : Int) l.l) L.val = if s.fel = true then .error 10 else if ((G.vldG L.items.l && G.vldR L.items.l l.l) && decide (L.rigs.l.length < 50)) = false then .error 1
      else if l.l.any (badK L.val) = true then .error 12 else .ok { L.val with rigs := L.val.rigs ++ [⟨(k : Int), l.l⟩] } by
    have e : L.val.rigs.length = L.rigs.l.length := by unfold LS.val; dsimp only; rw [List.length_map]
    unfold deed; dsimp only; rw [if_neg (by rw [hth]; simp), HSA.out, e]; rfl)
  have hfn := hN0.blk.frozen
  have c17 : (w.alloc (.cells #[.int .i64 (k : Int), .slice l.a l.l.length l.c] 158)).cell? ⟨nb, 17, none⟩ = some (.int .i64 L.day) := hN0.cel 17 _ rfl
  have c19 : (w.alloc (.cells #[.int .i64 (k : Int), .slice l.a l.l.length l.c] 158)).cell? ⟨nb, 19, none⟩ = some (.slice L.rigs.a L.rigs.l.length L.rigs.c) := hN0.cel 19 _ rfl
  have c21 : (w.alloc (.cells #[.int .i64 (k : Int), .slice l.a l.l.length l.c] 158)).cell? ⟨nb, 21, none⟩ = some (.slice L.items.a L.items.l.length L.items.c) := hN0.cel 21 _ rfl
  have c22 : (w.alloc (.cells #[.int .i64 (k : Int), .slice l.a l.l.length l.c] 158)).cell? ⟨nb, 22, none⟩ = some (.slice L.back.a L.back.l.length L.back.c) := hN0.cel 22 _ rfl
  clear c0 c2
  cases hfel : s.fel
  rotate_left
  · have HX := Lib.hid (show deed (.rig (k : Int) l.l) L.val = .error 10 by rw [HX2.out, if_pos hfel])
    rw [hfel] at c1
    go_enter Tryz.func237, Tryz.ntmps237
    go_wp2_with (first | (go_at_call 239; ((with_reducible refine (HAT.out).mono ?_); rintro e w' ⟨rfl, rfl⟩)) | (go_at_call 131; ((with_reducible refine (f_must_no _ _).mono ?_); rintro e w' ⟨rfl, rfl⟩)))
    exact ⟨rfl, deed_err HX.out B0⟩
  rw [hfel] at c1
  go_enter Tryz.func237, Tryz.ntmps237
  go_upto_region 2 with (first | (go_at_call 239; ((with_reducible refine (HAT.out).mono ?_); rintro e w' ⟨rfl, rfl⟩)) | (go_at_call 131; ((with_reducible refine (f_must_ok _ _).mono ?_); rintro e w' ⟨rfl, rfl⟩)))
  generalize (w.alloc (.cells #[.int .i64 (k : Int), .slice l.a l.l.length l.c] 158)) = w1 at *
  have HVRr := Lib.hid (fun w' (h : Below w1.heap.size w1 w') b hb => G.p_ValidRigV (b := b) (c := L.items.c) (d := l.c) hb hil hll ((hN0.on h).items.rd) hiw (hRl0.on h) hlw)
  have HHG := Lib.hid (fun w' (h : Below w1.heap.size w1 w') m lb hc => (hN0.on h).hangs hI m lb hc)
  have HFDr := Lib.hid (fun w' (h : Below w1.heap.size w1 w') (m : ByteArray) (hm : m.size ≤ maxLen) => G.p_Find L.items.a L.items.l L.items.c m w' hil ((hN0.on h).items.rd) hiw hm)
  have HCTr := Lib.hid (fun w' (h : Below w1.heap.size w1 w') (m : ByteArray) => G.p_contains L.back.a L.back.l L.back.c m w' hbl (hN0.on h).back.rd)
  have HIR := Lib.hid (hN0.items.rd)
  have HLR := Lib.hid hRl0
  have HLW := Lib.hid hlw
  have HIT := Lib.hid hit
  have HCLr := Lib.hid (fun w' (h : Below w1.heap.size w1 w') => (show Calls Tryz.prog 60 #[.slice l.a l.l.length l.c] w' (CloP G.Lk.cs 2 102 l.l w') from c_CloneLink l w' hll (hRl0.on h)))
  have HN0 := Lib.hid hN0
  have HI := Lib.hid hI
  clear hI hN0 hRl0 hlw hit hiw hRl
  cases hvr : (G.vldG L.items.l && G.vldR L.items.l l.l)
  · have HX := Lib.hid (show deed (.rig (k : Int) l.l) L.val = .error 1 by rw [HX2.out, if_neg (by rw [hfel]; simp), hvr]; rfl)
    have HVR := Lib.hid (fun w' (h : Below w1.heap.size w1 w') => HVRr.out w' h _ hvr)
    refine wp_region_held_drew (S := (fun w' => (∀ b o, b < w1.heap.size → w'.cell? ⟨b, o, none⟩ = w1.cell? ⟨b, o, none⟩) ∧ (∀ b o, b < w1.heap.size → w'.frozen? ⟨b, o, none⟩ = w1.frozen? ⟨b, o, none⟩) ∧ Below w1.heap.size w1 w')) (by kernel_rfl) (kq_draw kq_refl) (fun hS0 => ?_)
    refine tk 0 18 ?gv1 rfl (by kernel_rfl) ?hq2 ?gy1 (by assumption) ?_
    case hq2 => (intro c a w h; exact h)
    case gy1 => (intro w' hSw; go_simp; try with_reducible rfl)
    try simp only [AP]
    refine tk 1 19 ?gv3 rfl (by kernel_rfl) ?hq4 ?gy3 (by assumption) ?_
    case hq4 => (intro c a w h; exact h)
    case gy3 => (intro w' hSw; go_simp; try with_reducible rfl)
    try simp only [AP]
    refine tk 2 20 ?gv5 rfl (by kernel_rfl) ?hq6 ?gy5 (by assumption) ?_
    case hq6 => (intro c a w h; exact h)
    case gy5 => (intro w' hSw; go_simp; try with_reducible rfl)
    try simp only [AP]
    refine tk 3 21 ?gv7 rfl (by kernel_rfl) ?hq8 ?gy7 (by assumption) ?_
    case hq8 => (intro c a w h; exact h)
    case gy7 => (intro w' hSw; go_simp; try with_reducible rfl)
    try simp only [AP]
    refine tk 4 22 ?gv9 rfl (by kernel_rfl) ?hq10 ?gy9 (by assumption) ?_
    case hq10 => (intro c a w h; exact h)
    case gy9 => (intro w' hSw; go_simp; try with_reducible rfl)
    try simp only [AP]
    refine tk 5 23 ?gv11 rfl (by kernel_rfl) ?hq12 ?gy11 (by assumption) ?_
    case hq12 => (intro c a w h; exact h)
    case gy11 => (intro w' hSw; go_simp; try with_reducible rfl)
    try simp only [AP]
    refine wpAnyH_ready (rs := [6]) (by kernel_rfl) (by simp) ?_
    refine AllReadyH.cons rfl (fun K hK => ?_) AllReadyH.nil
    go_simp
    (go_at_call 240; ((with_reducible refine (HVR.out _ (by (repeat' (first | assumption | exact below_refl _ | refine bl_alloc ?_ _ | refine Below.setCell ?_ ?_ _ | refine below_draw ?_ | refine below_drewN ?_ _ | refine below_tr ?_ (by assumption))) <;> (first | omega | (simp; done) | (simp; omega)))).mono ?_); rintro e w3 ⟨rfl, hb3⟩; obtain ⟨hc3, hf3⟩ := bcell hb3; have hz3 := hb3.size; (try simp [sz_drew, sz_drewN] at hz3); (try simp only [sz_drew, sz_drewN] at hc3 hf3)))
    refine hK.out _ _ (by ((show Kq w1 _); (repeat' (first | assumption | exact kq_refl | refine kq_draw ?_ | refine kq_drewN ?_ | refine kq_alloc ?_ | refine kq_set ?_ ?_ | refine kq_step ?_ (by assumption))); (all_goals (first | omega | (simp; omega))))) (fun hS1 => ?_)
    clear hK K
    try simp only [AP]
    refine tk 7 25 ?gv13 rfl (by kernel_rfl) ?hq14 ?gy13 (by assumption) ?_
    case hq14 => (intro c a w h; exact h)
    case gy13 => (intro w' hSw; go_simp; try with_reducible rfl)
    try simp only [AP]
    refine tu 8 26 7 true rfl (by kernel_rfl) ?hq15 (by rfl) (by assumption) ?_
    case hq15 => (intro c a w h; exact h)
    try simp only [AP]
    refine tu 9 27 7 true rfl (by kernel_rfl) ?hq16 (by rfl) (by assumption) ?_
    case hq16 => (intro c a w h; exact h)
    try simp only [AP]
    refine tu 10 28 7 true rfl (by kernel_rfl) ?hq17 (by rfl) (by assumption) ?_
    case hq17 => (intro c a w h; exact h)
    try simp only [AP]
    refine tu 11 29 7 true rfl (by kernel_rfl) ?hq18 (by rfl) (by assumption) ?_
    case hq18 => (intro c a w h; exact h)
    try simp only [AP]
    refine tu 12 30 7 true rfl (by kernel_rfl) ?hq19 (by rfl) (by assumption) ?_
    case hq19 => (intro c a w h; exact h)
    try simp only [AP]
    refine tu 13 31 7 true rfl (by kernel_rfl) ?hq20 (by rfl) (by assumption) ?_
    case hq20 => (intro c a w h; exact h)
    try simp only [AP]
    refine tk 14 32 ?gv21 rfl (by kernel_rfl) ?hq22 ?gy21 (by assumption) ?_
    case hq22 => (intro c a w h; exact h)
    case gy21 => (intro w' hSw; go_simp; try with_reducible rfl)
    try simp only [AP]
    refine wpAnyH_ready (rs := [15]) (by kernel_rfl) (by simp) ?_
    refine AllReadyH.cons rfl (fun K hK => ?_) AllReadyH.nil
    go_simp
    (go_at_call 131; ((with_reducible refine (f_must_no _ _).mono ?_); rintro e w' ⟨rfl, rfl⟩))
    exact ⟨rfl, deed_err HX.out (by (repeat' (first | assumption | exact below_refl _ | refine bl_alloc ?_ _ | refine Below.setCell ?_ ?_ _ | refine below_draw ?_ | refine below_drewN ?_ _ | refine below_tr ?_ (by assumption))) <;> (first | omega | (simp; done) | (simp; omega)))⟩
  have HVR := Lib.hid (fun w' (h : Below w1.heap.size w1 w') => HVRr.out w' h _ hvr)
  by_cases hlen : L.rigs.l.length < 50
  rotate_left
  · have g1 : decide (L.rigs.l.length < 50) = false := decide_eq_false hlen
    have g2 : decide ((L.rigs.l.length : Int) < 50) = false := decide_eq_false (by omega)
    have HX := Lib.hid (show deed (.rig (k : Int) l.l) L.val = .error 1 by rw [HX2.out, if_neg (by rw [hfel]; simp), hvr, g1]; rfl)
    refine wp_region_held_drew (S := (fun w' => (∀ b o, b < w1.heap.size → w'.cell? ⟨b, o, none⟩ = w1.cell? ⟨b, o, none⟩) ∧ (∀ b o, b < w1.heap.size → w'.frozen? ⟨b, o, none⟩ = w1.frozen? ⟨b, o, none⟩) ∧ Below w1.heap.size w1 w')) (by kernel_rfl) (kq_draw kq_refl) (fun hS0 => ?_)
    refine tk 0 18 ?gv23 rfl (by kernel_rfl) ?hq24 ?gy23 (by assumption) ?_
    case hq24 => (intro c a w h; exact h)
    case gy23 => (intro w' hSw; go_simp; try with_reducible rfl)
    try simp only [AP]
    refine tk 1 19 ?gv25 rfl (by kernel_rfl) ?hq26 ?gy25 (by assumption) ?_
    case hq26 => (intro c a w h; exact h)
    case gy25 => (intro w' hSw; go_simp; try with_reducible rfl)
    try simp only [AP]
    refine tk 2 20 ?gv27 rfl (by kernel_rfl) ?hq28 ?gy27 (by assumption) ?_
    case hq28 => (intro c a w h; exact h)
    case gy27 => (intro w' hSw; go_simp; try with_reducible rfl)
    try simp only [AP]
    refine tk 3 21 ?gv29 rfl (by kernel_rfl) ?hq30 ?gy29 (by assumption) ?_
    case hq30 => (intro c a w h; exact h)
    case gy29 => (intro w' hSw; go_simp; try with_reducible rfl)
    try simp only [AP]
    refine tk 4 22 ?gv31 rfl (by kernel_rfl) ?hq32 ?gy31 (by assumption) ?_
    case hq32 => (intro c a w h; exact h)
    case gy31 => (intro w' hSw; go_simp; try with_reducible rfl)
    try simp only [AP]
    refine tk 5 23 ?gv33 rfl (by kernel_rfl) ?hq34 ?gy33 (by assumption) ?_
    case hq34 => (intro c a w h; exact h)
    case gy33 => (intro w' hSw; go_simp; try with_reducible rfl)
    try simp only [AP]
    refine wpAnyH_ready (rs := [6]) (by kernel_rfl) (by simp) ?_
    refine AllReadyH.cons rfl (fun K hK => ?_) AllReadyH.nil
    go_simp
    (go_at_call 240; ((with_reducible refine (HVR.out _ (by (repeat' (first | assumption | exact below_refl _ | refine bl_alloc ?_ _ | refine Below.setCell ?_ ?_ _ | refine below_draw ?_ | refine below_drewN ?_ _ | refine below_tr ?_ (by assumption))) <;> (first | omega | (simp; done) | (simp; omega)))).mono ?_); rintro e w3 ⟨rfl, hb3⟩; obtain ⟨hc3, hf3⟩ := bcell hb3; have hz3 := hb3.size; (try simp [sz_drew, sz_drewN] at hz3); (try simp only [sz_drew, sz_drewN] at hc3 hf3)))
    refine hK.out _ _ (by ((show Kq w1 _); (repeat' (first | assumption | exact kq_refl | refine kq_draw ?_ | refine kq_drewN ?_ | refine kq_alloc ?_ | refine kq_set ?_ ?_ | refine kq_step ?_ (by assumption))); (all_goals (first | omega | (simp; omega))))) (fun hS1 => ?_)
    clear hK K
    try simp only [AP]
    refine tk 7 25 ?gv35 rfl (by kernel_rfl) ?hq36 ?gy35 (by assumption) ?_
    case hq36 => (intro c a w h; exact h)
    case gy35 => (intro w' hSw; go_simp; try with_reducible rfl)
    try simp only [AP]
    refine tg 8 26 7 true ?gv37 rfl (by kernel_rfl) ?hq38 (by rfl) ?gy37 (by assumption) ?_
    case hq38 => (intro c a w h; exact h)
    case gy37 => (intro w' hSw; go_simp; try with_reducible rfl)
    try simp only [AP]
    refine tg 9 27 7 true ?gv39 rfl (by kernel_rfl) ?hq40 (by rfl) ?gy39 (by assumption) ?_
    case hq40 => (intro c a w h; exact h)
    case gy39 => (intro w' hSw; go_simp; try with_reducible rfl)
    try simp only [AP]
    refine tg 10 28 7 true ?gv41 rfl (by kernel_rfl) ?hq42 (by rfl) ?gy41 (by assumption) ?_
    case hq42 => (intro c a w h; exact h)
    case gy41 => (intro w' hSw; go_simp; try with_reducible rfl)
    try simp only [AP]
    refine tg 11 29 7 true ?gv43 rfl (by kernel_rfl) ?hq44 (by rfl) ?gy43 (by assumption) ?_
    case hq44 => (intro c a w h; exact h)
    case gy43 => (intro w' hSw; go_simp; try with_reducible rfl)
    try simp only [AP]
    refine tg 12 30 7 true ?gv45 rfl (by kernel_rfl) ?hq46 (by rfl) ?gy45 (by assumption) ?_
    case hq46 => (intro c a w h; exact h)
    case gy45 => (intro w' hSw; go_simp; try with_reducible rfl)
    try simp only [AP]
    refine tg 13 31 7 true ?gv47 rfl (by kernel_rfl) ?hq48 (by rfl) ?gy47 (by assumption) ?_
    case hq48 => (intro c a w h; exact h)
    case gy47 => (intro w' hSw; go_simp; try with_reducible rfl)
    try simp only [AP]
    refine tk 14 32 ?gv49 rfl (by kernel_rfl) ?hq50 ?gy49 (by assumption) ?_
    case hq50 => (intro c a w h; exact h)
    case gy49 => (intro w' hSw; go_simp; try with_reducible rfl)
    try simp only [AP]
    refine wpAnyH_ready (rs := [15]) (by kernel_rfl) (by simp) ?_
    refine AllReadyH.cons rfl (fun K hK => ?_) AllReadyH.nil
    go_simp
    (go_at_call 131; ((with_reducible refine (f_must_no _ _).mono ?_); rintro e w' ⟨rfl, rfl⟩))
    exact ⟨rfl, deed_err HX.out (by (repeat' (first | assumption | exact below_refl _ | refine bl_alloc ?_ _ | refine Below.setCell ?_ ?_ _ | refine below_draw ?_ | refine below_drewN ?_ _ | refine below_tr ?_ (by assumption))) <;> (first | omega | (simp; done) | (simp; omega)))⟩
  have g1 : decide (L.rigs.l.length < 50) = true := decide_eq_true hlen
  have g2 : decide ((L.rigs.l.length : Int) < 50) = true := decide_eq_true (by omega)
  have HX3 := Lib.hid (show deed (.rig (k : Int) l.l) L.val = if l.l.any (badK L.val) = true then .error 12 else .ok { L.val with rigs := L.val.rigs ++ [⟨(k : Int), l.l⟩] } by rw [HX2.out, if_neg (by rw [hfel]; simp), hvr, g1]; rfl)
  have HVP := Lib.hid (vldR_parts HIT.out (Bool.and_eq_true_iff.1 hvr).2)
  refine wp_region_noPanic ?_
  refine wp_region_held_drew (S := (fun w' => (∀ b o, b < w1.heap.size → w'.cell? ⟨b, o, none⟩ = w1.cell? ⟨b, o, none⟩) ∧ (∀ b o, b < w1.heap.size → w'.frozen? ⟨b, o, none⟩ = w1.frozen? ⟨b, o, none⟩) ∧ Below w1.heap.size w1 w')) (by kernel_rfl) (kq_draw kq_refl) (fun hS0 => ?_)
  refine tk 0 18 ?gv51 rfl (by kernel_rfl) (fun _ _ _ h => h) ?gy51 (by assumption) ?_
  case gy51 => (intro w' hSw; go_simp; try with_reducible rfl)
  try simp only [AP]
  refine tk 1 19 ?gv52 rfl (by kernel_rfl) (fun _ _ _ h => h) ?gy52 (by assumption) ?_
  case gy52 => (intro w' hSw; go_simp; try with_reducible rfl)
  try simp only [AP]
  refine tk 2 20 ?gv53 rfl (by kernel_rfl) (fun _ _ _ h => h) ?gy53 (by assumption) ?_
  case gy53 => (intro w' hSw; go_simp; try with_reducible rfl)
  try simp only [AP]
  refine tk 3 21 ?gv54 rfl (by kernel_rfl) (fun _ _ _ h => h) ?gy54 (by assumption) ?_
  case gy54 => (intro w' hSw; go_simp; try with_reducible rfl)
  try simp only [AP]
  refine tk 4 22 ?gv55 rfl (by kernel_rfl) (fun _ _ _ h => h) ?gy55 (by assumption) ?_
  case gy55 => (intro w' hSw; go_simp; try with_reducible rfl)
  try simp only [AP]
  refine tk 5 23 ?gv56 rfl (by kernel_rfl) (fun _ _ _ h => h) ?gy56 (by assumption) ?_
  case gy56 => (intro w' hSw; go_simp; try with_reducible rfl)
  try simp only [AP]
  refine wpAnyH_ready (rs := [6]) (by kernel_rfl) (by simp) ?_
  refine AllReadyH.cons rfl (fun K hK => ?_) AllReadyH.nil
  go_simp
  (go_at_call 240; ((with_reducible refine (HVR.out _ (by (repeat' (first | assumption | exact below_refl _ | refine bl_alloc ?_ _ | refine Below.setCell ?_ ?_ _ | refine below_draw ?_ | refine below_drewN ?_ _ | refine below_tr ?_ (by assumption))) <;> (first | omega | (simp; done) | (simp; omega)))).mono ?_); rintro e w3 ⟨rfl, hb3⟩; obtain ⟨hc3, hf3⟩ := bcell hb3; have hz3 := hb3.size; (try simp [sz_drew, sz_drewN] at hz3); (try simp only [sz_drew, sz_drewN] at hc3 hf3)))
  refine hK.out _ _ (by ((show Kq w1 _); (repeat' (first | assumption | exact kq_refl | refine kq_draw ?_ | refine kq_drewN ?_ | refine kq_alloc ?_ | refine kq_set ?_ ?_ | refine kq_step ?_ (by assumption))); (all_goals (first | omega | (simp; omega))))) (fun hS1 => ?_)
  clear hK K
  try simp only [AP]
  refine tk 7 25 ?gv57 rfl (by kernel_rfl) (fun _ _ _ h => h) ?gy57 (by assumption) ?_
  case gy57 => (intro w' hSw; go_simp; try with_reducible rfl)
  try simp only [AP]
  refine tg 8 26 7 true ?gv58 rfl (by kernel_rfl) (fun _ _ _ h => h) (by rfl) ?gy58 (by assumption) ?_
  case gy58 => (intro w' hSw; go_simp; try with_reducible rfl)
  try simp only [AP]
  refine tg 9 27 7 true ?gv59 rfl (by kernel_rfl) (fun _ _ _ h => h) (by rfl) ?gy59 (by assumption) ?_
  case gy59 => (intro w' hSw; go_simp; try with_reducible rfl)
  try simp only [AP]
  refine tg 10 28 7 true ?gv60 rfl (by kernel_rfl) (fun _ _ _ h => h) (by rfl) ?gy60 (by assumption) ?_
  case gy60 => (intro w' hSw; go_simp; try with_reducible rfl)
  try simp only [AP]
  refine tg 11 29 7 true ?gv61 rfl (by kernel_rfl) (fun _ _ _ h => h) (by rfl) ?gy61 (by assumption) ?_
  case gy61 => (intro w' hSw; go_simp; try with_reducible rfl)
  try simp only [AP]
  refine tg 12 30 7 true ?gv62 rfl (by kernel_rfl) (fun _ _ _ h => h) (by rfl) ?gy62 (by assumption) ?_
  case gy62 => (intro w' hSw; go_simp; try with_reducible rfl)
  try simp only [AP]
  refine tg 13 31 7 true ?gv63 rfl (by kernel_rfl) (fun _ _ _ h => h) (by rfl) ?gy63 (by assumption) ?_
  case gy63 => (intro w' hSw; go_simp; try with_reducible rfl)
  try simp only [AP]
  refine tk 14 32 ?gv64 rfl (by kernel_rfl) (fun _ _ _ h => h) ?gy64 (by assumption) ?_
  case gy64 => (intro w' hSw; go_simp; try with_reducible rfl)
  try simp only [AP]
  refine wpAnyH_ready (rs := [15]) (by kernel_rfl) (by simp) ?_
  refine AllReadyH.cons rfl (fun K hK => ?_) AllReadyH.nil
  go_simp
  (go_at_call 131; ((with_reducible refine (f_must_ok _ _).mono ?_); rintro e w' ⟨rfl, rfl⟩))
  refine hK.out _ _ (by ((show Kq w1 _); (repeat' (first | assumption | exact kq_refl | refine kq_draw ?_ | refine kq_drewN ?_ | refine kq_alloc ?_ | refine kq_set ?_ ?_ | refine kq_step ?_ (by assumption))); (all_goals (first | omega | (simp; omega))))) (fun hS2 => ?_)
  clear hK K
  try simp only [AP]
  refine wpAnyH_done (by kernel_rfl) (NoPanic.normal ?_) _
  obtain ⟨wq, hwq⟩ : ∃ x, x = w3 := ⟨_, rfl⟩
  have BQ : Below w1.heap.size w1 w3 := by (repeat' (first | assumption | exact below_refl _ | refine bl_alloc ?_ _ | refine Below.setCell ?_ ?_ _ | refine below_draw ?_ | refine below_drewN ?_ _ | refine below_tr ?_ (by assumption))) <;> (first | omega | (simp; done) | (simp; omega))
  rw [← hwq] at BQ
  rw [← hwq]
  obtain ⟨hcq, hfq⟩ := bcell BQ
  have lzq := BQ.size
  have lq : ∀ z, z < w1.heap.size → z < wq.heap.size := fun z hz => by omega
  have lwq := lq _ lw
  have lnbq := lq _ lnb
  have qb0 := (hcq w.heap.size 0 lw).trans b0
  have qb1 := (hcq w.heap.size 1 lw).trans b1
  have q17 := (hcq nb 17 lnb).trans c17
  have q19 := (hcq nb 19 lnb).trans c19
  have q21 := (hcq nb 21 lnb).trans c21
  have q22 := (hcq nb 22 lnb).trans c22
  have qfn := fun j => (hfq nb j lnb).trans (hfn j)
  clear hwq hcq hfq b0 b1 c17 c19 c21 c22 hfn hc3 hf3 hz3 hb3 c1 HVR HVRr hS0 hS1 hS2
  go_wp2
  go_loopw [37] (fun j wr => ∃ q : Nat, q ≤ l.l.length ∧ j = .int .i64 q ∧ Below wq.heap.size wq wr ∧ Hid ((l.l.take q).any (badK L.val) = false)) (fun j _ => l.l.length - (RowKit.intOf j).toNat)
  case atStart => exact ⟨0, by omega, rfl, below_refl _, Lib.hid rfl⟩
  case round =>
    obtain ⟨q, hq, rfl, hbw, HB⟩ := hrel
    have q0 : (0 : Int) ≤ (q : Int) := Int.natCast_nonneg _
    obtain ⟨hcr, hfr⟩ := bcell hbw
    have lzr := hbw.size
    have lr : ∀ z, z < wq.heap.size → z < wr.heap.size := fun z hz => by omega
    have lwr := lr _ lwq
    have lnbr := lr _ lnbq
    have BW1 := below_tr BQ hbw
    by_cases hlt : q < l.l.length
    · have q1 : (q : Int) < (l.l.length : Int) := by omega
      obtain ⟨x, xb, xo, hx, hxa, hxl, d0, d1⟩ := G.rdL (HLR.out.on BW1) hlt
      obtain ⟨v0, v1, v2, v3⟩ := HVP.out.2 x (List.mem_of_getElem? hx)
      have hxw := HLW.out x (List.mem_of_getElem? hx)
      have hxm := hxw.m
      have HTK := Lib.hid (show ∀ b, badK L.val x = b → (l.l.take (q + 1)).any (badK L.val) = b from fun b hb => by rw [List.take_add_one, hx, List.any_append, HB.out]; simp [hb])
      have HAN := Lib.hid (show badK L.val x = true → l.l.any (badK L.val) = true from fun h => List.any_eq_true.2 ⟨x, List.mem_of_getElem? hx, h⟩)
      obtain ⟨n, hn⟩ := Int.eq_ofNat_of_zero_le v0
      have hnl : n < L.items.l.length := by have := (G.fnd_bd L.items.l x.nm).2; omega
      obtain ⟨y, yb, yo, hy, hya, hyl, y0, y1, y2, y3⟩ := G.rdI (HIR.out.on BW1) hnl
      have HBK := Lib.hid (show badK L.val x = (hangB L.val x.nm || (decide (y.du < L.day) || G.hasB L.back.l y.bt)) by
        unfold badK
        show (hangB L.val x.nm || (decide ((G.itAt L.items.l (G.fndI L.items.l x.nm).toNat).du < L.day) || memB L.back.l (G.itAt L.items.l (G.fndI L.items.l x.nm).toNat).bt)) = _
        rw [hn, Int.toNat_natCast, G.itAt_of hy, memB_is])
      have HFDp := Lib.hid (fun w' (h : Below wr.heap.size wr w') => (show Calls Tryz.prog 245 #[.slice L.items.a L.items.l.length L.items.c, .string x.nm] w' fun e w2 => e = .returned (.tuple #[.int .i64 (n : Int), .int .i64 0]) ∧ Below w'.heap.size w' w2 by
        have h1 := HFDr.out w' (below_tr BW1 h) x.nm hxm
        have e1 : G.fdI L.items.l x.nm = (n : Int) := by unfold G.fdI; rw [if_pos ⟨HIT.out, by omega⟩]; exact hn
        have e2 : G.fdE L.items.l x.nm = 0 := by unfold G.fdE; rw [if_pos HIT.out, if_pos (by omega)]
        rw [e1, e2] at h1; exact h1))
      have HCTp := Lib.hid (fun w' (h : Below wr.heap.size wr w') => HCTr.out w' (below_tr BW1 h) y.bt)
      have r17 := (hcr nb 17 lnbq).trans q17
      have r19 := (hcr nb 19 lnbq).trans q19
      have r21 := (hcr nb 21 lnbq).trans q21
      have r22 := (hcr nb 22 lnbq).trans q22
      rw [hya] at r21 HFDp
      have n0 : (0 : Int) ≤ (n : Int) := Int.natCast_nonneg _
      have n1 : (n : Int) < (L.items.l.length : Int) := by omega
      have x5 := Blk.new wr 102 #[.string x.nm, .int .i64 x.fr]
      have B5 := bl_alloc (below_refl wr) (.cells #[.string x.nm, .int .i64 x.fr] 102)
      have e0 := x5.cell 0
      simp only [List.getElem?_toArray, List.getElem?_cons_zero, List.getElem?_cons_succ] at e0
      have l5 := x5.lt
      have HHGp := Lib.hid (HHG.out _ (below_tr BW1 B5) x.nm wr.heap.size e0)
      obtain ⟨LA, LL, LC⟩ := l
      obtain ⟨XN, XF⟩ := x
      obtain ⟨YN, YL, YD, YB⟩ := y
      dsimp only at *
      subst hxa
      clear hx hy hn hya v0 v1 v2 v3 hcr hfr q17 q19 q21 q22 hxw HN0 x5
      go_upto_region 6 with fail
      generalize (wr.alloc (.cells #[.string XN, .int .i64 XF] 102)) = w5 at *
      have HHG := Lib.hid HHGp.out
      obtain ⟨hc5, hf5⟩ := bcell B5
      have lz5 := B5.size
      have s17 := (hc5 nb 17 lnbr).trans r17
      have s19 := (hc5 nb 19 lnbr).trans r19
      have s21 := (hc5 nb 21 lnbr).trans r21
      have s22 := (hc5 nb 22 lnbr).trans r22
      have t2 := (hc5 yb _ hyl).trans y2
      have t3 := (hc5 yb _ hyl).trans y3
      clear r17 r19 r21 r22 y0 y1 y2 y3 hc5 hf5
      have l6 : ∀ z, z < wr.heap.size → z < w5.heap.size := fun z hz => by omega
      have lnb5 := l6 _ lnbr
      have lyb5 := l6 _ hyl
      generalize hHB : hangB L.val XN = HB at *
      go_upto_region 7 with (go_at_call 241; ((with_reducible refine HHG.out.mono ?_); rintro e w6 ⟨rfl, hb6⟩))
      obtain ⟨hc6, hf6⟩ := bcell hb6
      have lz6 := hb6.size
      have B6 : Below wr.heap.size wr w6 := below_tr B5 hb6
      have u17 := (hc6 nb 17 lnb5).trans s17
      have u21 := (hc6 nb 21 lnb5).trans s21
      have u22 := (hc6 nb 22 lnb5).trans s22
      have uu2 := (hc6 yb _ lyb5).trans t2
      have uu3 := (hc6 yb _ lyb5).trans t3
      have ue0 := (hc6 wr.heap.size 0 l5).trans e0
      clear s17 s19 s21 s22 t2 t3 e0 hc6 hf6
      have l7 : ∀ z, z < w5.heap.size → z < w6.heap.size := fun z hz => by omega
      have lnb6 := l7 _ lnb5
      have lyb6 := l7 _ lyb5
      have lx6 := l7 _ l5
      have HFD := Lib.hid (fun w' (h : Below w6.heap.size w6 w') => HFDp.out w' (below_tr B6 h))
      have HCTq := Lib.hid (fun w' (h : Below w6.heap.size w6 w') => HCTp.out w' (below_tr B6 h))
      clear HHG hHB HFDp HCTp
      refine wp_region_noPanic ?_
      refine wp_region_held_drew (S := (fun w' => (∀ b o, b < w6.heap.size → w'.cell? ⟨b, o, none⟩ = w6.cell? ⟨b, o, none⟩) ∧ (∀ b o, b < w6.heap.size → w'.frozen? ⟨b, o, none⟩ = w6.frozen? ⟨b, o, none⟩) ∧ Below w6.heap.size w6 w')) (by kernel_rfl) (kq_draw kq_refl) (fun hS0 => ?_)
      refine tk 0 48 ?gv65 rfl (by kernel_rfl) (fun _ _ _ h => h) ?gy65 (by assumption) ?_
      case gy65 => (intro w' hSw; go_simp; try with_reducible rfl)
      try simp only [AP]
      refine tk 1 49 ?gv66 rfl (by kernel_rfl) (fun _ _ _ h => h) ?gy66 (by assumption) ?_
      case gy66 => (intro w' hSw; go_simp; try with_reducible rfl)
      try simp only [AP]
      refine tk 2 50 ?gv67 rfl (by kernel_rfl) (fun _ _ _ h => h) ?gy67 (by assumption) ?_
      case gy67 => (intro w' hSw; go_simp; try with_reducible rfl)
      try simp only [AP]
      refine tk 3 51 ?gv68 rfl (by kernel_rfl) (fun _ _ _ h => h) ?gy68 (by assumption) ?_
      case gy68 => (intro w' hSw; go_simp; try with_reducible rfl)
      try simp only [AP]
      refine tk 4 52 ?gv69 rfl (by kernel_rfl) (fun _ _ _ h => h) ?gy69 (by assumption) ?_
      case gy69 => (intro w' hSw; go_simp; try with_reducible rfl)
      try simp only [AP]
      refine tk 5 53 ?gv70 rfl (by kernel_rfl) (fun _ _ _ h => h) ?gy70 (by assumption) ?_
      case gy70 => (intro w' hSw; go_simp; try with_reducible rfl)
      try simp only [AP]
      refine wpAnyH_ready (rs := [6]) (by kernel_rfl) (by simp) ?_
      refine AllReadyH.cons rfl (fun K hK => ?_) AllReadyH.nil
      go_simp
      (go_at_call 245; ((with_reducible refine (HFD.out _ (by (repeat' (first | assumption | exact below_refl _ | refine bl_alloc ?_ _ | refine Below.setCell ?_ ?_ _ | refine below_draw ?_ | refine below_drewN ?_ _ | refine below_tr ?_ (by assumption))) <;> (first | omega | (simp; done) | (simp; omega)))).mono ?_); rintro e w7 ⟨rfl, hb7⟩; obtain ⟨hc7, hf7⟩ := bcell hb7; have hz7 := hb7.size; (try simp [sz_drew, sz_drewN] at hz7); (try simp only [sz_drew, sz_drewN] at hc7 hf7)))
      refine hK.out _ _ (by ((show Kq w6 _); (repeat' (first | assumption | exact kq_refl | refine kq_draw ?_ | refine kq_drewN ?_ | refine kq_alloc ?_ | refine kq_set ?_ ?_ | refine kq_step ?_ (by assumption))); (all_goals (first | omega | (simp; omega))))) (fun hS1 => ?_)
      clear hK K
      try simp only [AP]
      refine tk 7 47 ?gv71 rfl (by kernel_rfl) (fun _ _ _ h => h) ?gy71 (by assumption) ?_
      case gy71 => (intro w' hSw; go_simp; try with_reducible rfl)
      try simp only [AP]
      refine tk 8 55 ?gv72 rfl (by kernel_rfl) (fun _ _ _ h => h) ?gy72 (by assumption) ?_
      case gy72 => (intro w' hSw; go_simp; try with_reducible rfl)
      try simp only [AP]
      refine tk 9 56 ?gv73 rfl (by kernel_rfl) (fun _ _ _ h => h) ?gy73 (by assumption) ?_
      case gy73 => (intro w' hSw; go_simp; try with_reducible rfl)
      try simp only [AP]
      refine tk 10 7 ?gv74 rfl (by kernel_rfl) (fun _ _ _ h => h) ?gy74 (by assumption) ?_
      case gy74 => (intro w' hSw; go_simp; try with_reducible rfl)
      try simp only [AP]
      refine tk 11 8 ?gv75 rfl (by kernel_rfl) (fun _ _ _ h => h) ?gy75 (by assumption) ?_
      case gy75 => (intro w' hSw; go_simp; try with_reducible rfl)
      try simp only [AP]
      refine wpAnyH_done (by kernel_rfl) (NoPanic.normal ?_) _
      have B7 : Below w6.heap.size w6 w7 := by (repeat' (first | assumption | exact below_refl _ | refine bl_alloc ?_ _ | refine Below.setCell ?_ ?_ _ | refine below_draw ?_ | refine below_drewN ?_ _ | refine below_tr ?_ (by assumption))) <;> (first | omega | (simp; done) | (simp; omega))
      obtain ⟨hc7x, hf7x⟩ := bcell B7
      have lz7 := B7.size
      have x17 := (hc7x nb 17 lnb6).trans u17
      have x21 := (hc7x nb 21 lnb6).trans u21
      have x22 := (hc7x nb 22 lnb6).trans u22
      have xx2 := (hc7x yb _ lyb6).trans uu2
      have xx3 := (hc7x yb _ lyb6).trans uu3
      clear u17 u21 u22 uu2 uu3 ue0 hc7x hf7x hc7 hf7 hz7 hS0 hS1
      have l8 : ∀ z, z < w6.heap.size → z < w7.heap.size := fun z hz => by omega
      have lnb7 := l8 _ lnb6
      have lyb7 := l8 _ lyb6
      have HCT := Lib.hid (fun w' (h : Below w7.heap.size w7 w') => HCTq.out w' (below_tr B7 h))
      have BE : Below w.heap.size w w7 := below_tr B0 (below_tr BQ (below_tr hbw (below_tr B6 B7)))
      have BR : Below wq.heap.size wq w7 := below_tr hbw (below_tr B6 B7)
      clear HCTq HFD hb7 hb6 B5 B6 B7
      go_upto_region 9 with (go_at_call 246; ((with_reducible refine (f_passed_ok _).mono ?_); rintro e w' ⟨rfl, rfl⟩))
      cases HB
      rotate_left
      · have HX := Lib.hid (show deed (.rig (k : Int) LL) L.val = .error 12 by rw [HX3.out, if_pos (HAN.out (by rw [HBK.out]; rfl))])
        refine wp_region_held_drew (S := (fun w' => (∀ b o, b < w7.heap.size → w'.cell? ⟨b, o, none⟩ = w7.cell? ⟨b, o, none⟩) ∧ (∀ b o, b < w7.heap.size → w'.frozen? ⟨b, o, none⟩ = w7.frozen? ⟨b, o, none⟩) ∧ Below w7.heap.size w7 w')) (by kernel_rfl) (kq_draw kq_refl) (fun hS0 => ?_)
        refine tk 0 59 ?gv76 rfl (by kernel_rfl) ?hq77 ?gy76 (by assumption) ?_
        case hq77 => (intro c a w h; exact h)
        case gy76 => (intro w' hSw; go_simp; try with_reducible rfl)
        try simp only [AP]
        refine tk 1 60 ?gv78 rfl (by kernel_rfl) ?hq79 ?gy78 (by assumption) ?_
        case hq79 => (intro c a w h; exact h)
        case gy78 => (intro w' hSw; go_simp; try with_reducible rfl)
        try simp only [AP]
        refine tk 2 61 ?gv80 rfl (by kernel_rfl) ?hq81 ?gy80 (by assumption) ?_
        case hq81 => (intro c a w h; exact h)
        case gy80 => (intro w' hSw; go_simp; try with_reducible rfl)
        try simp only [AP]
        refine tu 3 62 2 true rfl (by kernel_rfl) ?hq82 (by rfl) (by assumption) ?_
        case hq82 => (intro c a w h; exact h)
        try simp only [AP]
        refine tu 4 63 2 true rfl (by kernel_rfl) ?hq83 (by rfl) (by assumption) ?_
        case hq83 => (intro c a w h; exact h)
        try simp only [AP]
        refine tu 5 64 2 true rfl (by kernel_rfl) ?hq84 (by rfl) (by assumption) ?_
        case hq84 => (intro c a w h; exact h)
        try simp only [AP]
        refine tu 6 65 2 true rfl (by kernel_rfl) ?hq85 (by rfl) (by assumption) ?_
        case hq85 => (intro c a w h; exact h)
        try simp only [AP]
        refine tu 7 66 2 true rfl (by kernel_rfl) ?hq86 (by rfl) (by assumption) ?_
        case hq86 => (intro c a w h; exact h)
        try simp only [AP]
        refine tu 8 67 2 true rfl (by kernel_rfl) ?hq87 (by rfl) (by assumption) ?_
        case hq87 => (intro c a w h; exact h)
        try simp only [AP]
        refine tu 9 68 2 true rfl (by kernel_rfl) ?hq88 (by rfl) (by assumption) ?_
        case hq88 => (intro c a w h; exact h)
        try simp only [AP]
        refine tu 10 69 2 true rfl (by kernel_rfl) ?hq89 (by rfl) (by assumption) ?_
        case hq89 => (intro c a w h; exact h)
        try simp only [AP]
        refine tu 11 70 2 true rfl (by kernel_rfl) ?hq90 (by rfl) (by assumption) ?_
        case hq90 => (intro c a w h; exact h)
        try simp only [AP]
        refine tu 12 71 2 true rfl (by kernel_rfl) ?hq91 (by rfl) (by assumption) ?_
        case hq91 => (intro c a w h; exact h)
        try simp only [AP]
        refine tu 13 72 2 true rfl (by kernel_rfl) ?hq92 (by rfl) (by assumption) ?_
        case hq92 => (intro c a w h; exact h)
        try simp only [AP]
        refine tu 14 73 2 true rfl (by kernel_rfl) ?hq93 (by rfl) (by assumption) ?_
        case hq93 => (intro c a w h; exact h)
        try simp only [AP]
        refine tu 15 74 2 true rfl (by kernel_rfl) ?hq94 (by rfl) (by assumption) ?_
        case hq94 => (intro c a w h; exact h)
        try simp only [AP]
        refine tk 16 75 ?gv95 rfl (by kernel_rfl) ?hq96 ?gy95 (by assumption) ?_
        case hq96 => (intro c a w h; exact h)
        case gy95 => (intro w' hSw; go_simp; try with_reducible rfl)
        try simp only [AP]
        refine tk 17 76 ?gv97 rfl (by kernel_rfl) ?hq98 ?gy97 (by assumption) ?_
        case hq98 => (intro c a w h; exact h)
        case gy97 => (intro w' hSw; go_simp; try with_reducible rfl)
        try simp only [AP]
        refine tu 18 77 17 true rfl (by kernel_rfl) ?hq99 (by rfl) (by assumption) ?_
        case hq99 => (intro c a w h; exact h)
        try simp only [AP]
        refine tu 19 78 17 true rfl (by kernel_rfl) ?hq100 (by rfl) (by assumption) ?_
        case hq100 => (intro c a w h; exact h)
        try simp only [AP]
        refine tu 20 79 17 true rfl (by kernel_rfl) ?hq101 (by rfl) (by assumption) ?_
        case hq101 => (intro c a w h; exact h)
        try simp only [AP]
        refine tu 21 80 17 true rfl (by kernel_rfl) ?hq102 (by rfl) (by assumption) ?_
        case hq102 => (intro c a w h; exact h)
        try simp only [AP]
        refine tu 22 81 17 true rfl (by kernel_rfl) ?hq103 (by rfl) (by assumption) ?_
        case hq103 => (intro c a w h; exact h)
        try simp only [AP]
        refine tu 23 82 17 true rfl (by kernel_rfl) ?hq104 (by rfl) (by assumption) ?_
        case hq104 => (intro c a w h; exact h)
        try simp only [AP]
        refine tu 24 83 17 true rfl (by kernel_rfl) ?hq105 (by rfl) (by assumption) ?_
        case hq105 => (intro c a w h; exact h)
        try simp only [AP]
        refine tu 25 84 17 true rfl (by kernel_rfl) ?hq106 (by rfl) (by assumption) ?_
        case hq106 => (intro c a w h; exact h)
        try simp only [AP]
        refine tu 26 85 17 true rfl (by kernel_rfl) ?hq107 (by rfl) (by assumption) ?_
        case hq107 => (intro c a w h; exact h)
        try simp only [AP]
        refine tu 27 86 17 true rfl (by kernel_rfl) ?hq108 (by rfl) (by assumption) ?_
        case hq108 => (intro c a w h; exact h)
        try simp only [AP]
        refine tu 28 87 17 true rfl (by kernel_rfl) ?hq109 (by rfl) (by assumption) ?_
        case hq109 => (intro c a w h; exact h)
        try simp only [AP]
        refine tu 29 88 17 true rfl (by kernel_rfl) ?hq110 (by rfl) (by assumption) ?_
        case hq110 => (intro c a w h; exact h)
        try simp only [AP]
        refine tu 30 89 17 true rfl (by kernel_rfl) ?hq111 (by rfl) (by assumption) ?_
        case hq111 => (intro c a w h; exact h)
        try simp only [AP]
        refine tu 31 90 17 true rfl (by kernel_rfl) ?hq112 (by rfl) (by assumption) ?_
        case hq112 => (intro c a w h; exact h)
        try simp only [AP]
        refine tk 32 91 ?gv113 rfl (by kernel_rfl) ?hq114 ?gy113 (by assumption) ?_
        case hq114 => (intro c a w h; exact h)
        case gy113 => (intro w' hSw; go_simp; try with_reducible rfl)
        try simp only [AP]
        refine wpAnyH_ready (rs := [33]) (by kernel_rfl) (by simp) ?_
        refine AllReadyH.cons rfl (fun K hK => ?_) AllReadyH.nil
        go_simp
        (go_at_call 131; ((with_reducible refine (f_must_no _ _).mono ?_); rintro e w' ⟨rfl, rfl⟩))
        exact ⟨rfl, deed_err HX.out (by (repeat' (first | assumption | exact below_refl _ | refine bl_alloc ?_ _ | refine Below.setCell ?_ ?_ _ | refine below_draw ?_ | refine below_drewN ?_ _ | refine below_tr ?_ (by assumption))) <;> (first | omega | (simp; done) | (simp; omega)))⟩
      by_cases hdu : L.day ≤ YD
      rotate_left
      · have gd : decide (L.day ≤ YD) = false := decide_eq_false hdu
        have HX := Lib.hid (show deed (.rig (k : Int) LL) L.val = .error 12 by rw [HX3.out, if_pos (HAN.out (by rw [HBK.out, decide_eq_true (by omega)]; rfl))])
        refine wp_region_held_drew (S := (fun w' => (∀ b o, b < w7.heap.size → w'.cell? ⟨b, o, none⟩ = w7.cell? ⟨b, o, none⟩) ∧ (∀ b o, b < w7.heap.size → w'.frozen? ⟨b, o, none⟩ = w7.frozen? ⟨b, o, none⟩) ∧ Below w7.heap.size w7 w')) (by kernel_rfl) (kq_draw kq_refl) (fun hS0 => ?_)
        refine tk 0 59 ?gv115 rfl (by kernel_rfl) ?hq116 ?gy115 (by assumption) ?_
        case hq116 => (intro c a w h; exact h)
        case gy115 => (intro w' hSw; go_simp; try with_reducible rfl)
        try simp only [AP]
        refine tk 1 60 ?gv117 rfl (by kernel_rfl) ?hq118 ?gy117 (by assumption) ?_
        case hq118 => (intro c a w h; exact h)
        case gy117 => (intro w' hSw; go_simp; try with_reducible rfl)
        try simp only [AP]
        refine tk 2 61 ?gv119 rfl (by kernel_rfl) ?hq120 ?gy119 (by assumption) ?_
        case hq120 => (intro c a w h; exact h)
        case gy119 => (intro w' hSw; go_simp; try with_reducible rfl)
        try simp only [AP]
        refine tg 3 62 2 true ?gv121 rfl (by kernel_rfl) ?hq122 (by rfl) ?gy121 (by assumption) ?_
        case hq122 => (intro c a w h; exact h)
        case gy121 => (intro w' hSw; go_simp; try with_reducible rfl)
        try simp only [AP]
        refine tg 4 63 2 true ?gv123 rfl (by kernel_rfl) ?hq124 (by rfl) ?gy123 (by assumption) ?_
        case hq124 => (intro c a w h; exact h)
        case gy123 => (intro w' hSw; go_simp; try with_reducible rfl)
        try simp only [AP]
        refine tg 5 64 2 true ?gv125 rfl (by kernel_rfl) ?hq126 (by rfl) ?gy125 (by assumption) ?_
        case hq126 => (intro c a w h; exact h)
        case gy125 => (intro w' hSw; go_simp; try with_reducible rfl)
        try simp only [AP]
        refine tg 6 65 2 true ?gv127 rfl (by kernel_rfl) ?hq128 (by rfl) ?gy127 (by assumption) ?_
        case hq128 => (intro c a w h; exact h)
        case gy127 => (intro w' hSw; go_simp; try with_reducible rfl)
        try simp only [AP]
        refine tg 7 66 2 true ?gv129 rfl (by kernel_rfl) ?hq130 (by rfl) ?gy129 (by assumption) ?_
        case hq130 => (intro c a w h; exact h)
        case gy129 => (intro w' hSw; go_simp; try with_reducible rfl)
        try simp only [AP]
        refine tg 8 67 2 true ?gv131 rfl (by kernel_rfl) ?hq132 (by rfl) ?gy131 (by assumption) ?_
        case hq132 => (intro c a w h; exact h)
        case gy131 => (intro w' hSw; go_simp; try with_reducible rfl)
        try simp only [AP]
        refine tg 9 68 2 true ?gv133 rfl (by kernel_rfl) ?hq134 (by rfl) ?gy133 (by assumption) ?_
        case hq134 => (intro c a w h; exact h)
        case gy133 => (intro w' hSw; go_simp; try with_reducible rfl)
        try simp only [AP]
        refine tg 10 69 2 true ?gv135 rfl (by kernel_rfl) ?hq136 (by rfl) ?gy135 (by assumption) ?_
        case hq136 => (intro c a w h; exact h)
        case gy135 => (intro w' hSw; go_simp; try with_reducible rfl)
        try simp only [AP]
        refine tg 11 70 2 true ?gv137 rfl (by kernel_rfl) ?hq138 (by rfl) ?gy137 (by assumption) ?_
        case hq138 => (intro c a w h; exact h)
        case gy137 => (intro w' hSw; go_simp; try with_reducible rfl)
        try simp only [AP]
        refine tg 12 71 2 true ?gv139 rfl (by kernel_rfl) ?hq140 (by rfl) ?gy139 (by assumption) ?_
        case hq140 => (intro c a w h; exact h)
        case gy139 => (intro w' hSw; go_simp; try with_reducible rfl)
        try simp only [AP]
        refine tg 13 72 2 true ?gv141 rfl (by kernel_rfl) ?hq142 (by rfl) ?gy141 (by assumption) ?_
        case hq142 => (intro c a w h; exact h)
        case gy141 => (intro w' hSw; go_simp; try with_reducible rfl)
        try simp only [AP]
        refine tg 14 73 2 true ?gv143 rfl (by kernel_rfl) ?hq144 (by rfl) ?gy143 (by assumption) ?_
        case hq144 => (intro c a w h; exact h)
        case gy143 => (intro w' hSw; go_simp; try with_reducible rfl)
        try simp only [AP]
        refine tg 15 74 2 true ?gv145 rfl (by kernel_rfl) ?hq146 (by rfl) ?gy145 (by assumption) ?_
        case hq146 => (intro c a w h; exact h)
        case gy145 => (intro w' hSw; go_simp; try with_reducible rfl)
        try simp only [AP]
        refine tk 16 75 ?gv147 rfl (by kernel_rfl) ?hq148 ?gy147 (by assumption) ?_
        case hq148 => (intro c a w h; exact h)
        case gy147 => (intro w' hSw; go_simp; try with_reducible rfl)
        try simp only [AP]
        refine tk 17 76 ?gv149 rfl (by kernel_rfl) ?hq150 ?gy149 (by assumption) ?_
        case hq150 => (intro c a w h; exact h)
        case gy149 => (intro w' hSw; go_simp; try with_reducible rfl)
        try simp only [AP]
        refine tu 18 77 17 true rfl (by kernel_rfl) ?hq151 (by rfl) (by assumption) ?_
        case hq151 => (intro c a w h; exact h)
        try simp only [AP]
        refine tu 19 78 17 true rfl (by kernel_rfl) ?hq152 (by rfl) (by assumption) ?_
        case hq152 => (intro c a w h; exact h)
        try simp only [AP]
        refine tu 20 79 17 true rfl (by kernel_rfl) ?hq153 (by rfl) (by assumption) ?_
        case hq153 => (intro c a w h; exact h)
        try simp only [AP]
        refine tu 21 80 17 true rfl (by kernel_rfl) ?hq154 (by rfl) (by assumption) ?_
        case hq154 => (intro c a w h; exact h)
        try simp only [AP]
        refine tu 22 81 17 true rfl (by kernel_rfl) ?hq155 (by rfl) (by assumption) ?_
        case hq155 => (intro c a w h; exact h)
        try simp only [AP]
        refine tu 23 82 17 true rfl (by kernel_rfl) ?hq156 (by rfl) (by assumption) ?_
        case hq156 => (intro c a w h; exact h)
        try simp only [AP]
        refine tu 24 83 17 true rfl (by kernel_rfl) ?hq157 (by rfl) (by assumption) ?_
        case hq157 => (intro c a w h; exact h)
        try simp only [AP]
        refine tu 25 84 17 true rfl (by kernel_rfl) ?hq158 (by rfl) (by assumption) ?_
        case hq158 => (intro c a w h; exact h)
        try simp only [AP]
        refine tu 26 85 17 true rfl (by kernel_rfl) ?hq159 (by rfl) (by assumption) ?_
        case hq159 => (intro c a w h; exact h)
        try simp only [AP]
        refine tu 27 86 17 true rfl (by kernel_rfl) ?hq160 (by rfl) (by assumption) ?_
        case hq160 => (intro c a w h; exact h)
        try simp only [AP]
        refine tu 28 87 17 true rfl (by kernel_rfl) ?hq161 (by rfl) (by assumption) ?_
        case hq161 => (intro c a w h; exact h)
        try simp only [AP]
        refine tu 29 88 17 true rfl (by kernel_rfl) ?hq162 (by rfl) (by assumption) ?_
        case hq162 => (intro c a w h; exact h)
        try simp only [AP]
        refine tu 30 89 17 true rfl (by kernel_rfl) ?hq163 (by rfl) (by assumption) ?_
        case hq163 => (intro c a w h; exact h)
        try simp only [AP]
        refine tu 31 90 17 true rfl (by kernel_rfl) ?hq164 (by rfl) (by assumption) ?_
        case hq164 => (intro c a w h; exact h)
        try simp only [AP]
        refine tk 32 91 ?gv165 rfl (by kernel_rfl) ?hq166 ?gy165 (by assumption) ?_
        case hq166 => (intro c a w h; exact h)
        case gy165 => (intro w' hSw; go_simp; try with_reducible rfl)
        try simp only [AP]
        refine wpAnyH_ready (rs := [33]) (by kernel_rfl) (by simp) ?_
        refine AllReadyH.cons rfl (fun K hK => ?_) AllReadyH.nil
        go_simp
        (go_at_call 131; ((with_reducible refine (f_must_no _ _).mono ?_); rintro e w' ⟨rfl, rfl⟩))
        exact ⟨rfl, deed_err HX.out (by (repeat' (first | assumption | exact below_refl _ | refine bl_alloc ?_ _ | refine Below.setCell ?_ ?_ _ | refine below_draw ?_ | refine below_drewN ?_ _ | refine below_tr ?_ (by assumption))) <;> (first | omega | (simp; done) | (simp; omega)))⟩
      have gd : decide (L.day ≤ YD) = true := decide_eq_true hdu
      cases hhs : G.hasB L.back.l YB
      rotate_left
      · rw [hhs] at HCT
        have HX := Lib.hid (show deed (.rig (k : Int) LL) L.val = .error 12 by rw [HX3.out, if_pos (HAN.out (by rw [HBK.out, hhs]; simp))])
        refine wp_region_held_drew (S := (fun w' => (∀ b o, b < w7.heap.size → w'.cell? ⟨b, o, none⟩ = w7.cell? ⟨b, o, none⟩) ∧ (∀ b o, b < w7.heap.size → w'.frozen? ⟨b, o, none⟩ = w7.frozen? ⟨b, o, none⟩) ∧ Below w7.heap.size w7 w')) (by kernel_rfl) (kq_draw kq_refl) (fun hS0 => ?_)
        refine tk 0 59 ?gv167 rfl (by kernel_rfl) ?hq168 ?gy167 (by assumption) ?_
        case hq168 => (intro c a w h; exact h)
        case gy167 => (intro w' hSw; go_simp; try with_reducible rfl)
        try simp only [AP]
        refine tk 1 60 ?gv169 rfl (by kernel_rfl) ?hq170 ?gy169 (by assumption) ?_
        case hq170 => (intro c a w h; exact h)
        case gy169 => (intro w' hSw; go_simp; try with_reducible rfl)
        try simp only [AP]
        refine tk 2 61 ?gv171 rfl (by kernel_rfl) ?hq172 ?gy171 (by assumption) ?_
        case hq172 => (intro c a w h; exact h)
        case gy171 => (intro w' hSw; go_simp; try with_reducible rfl)
        try simp only [AP]
        refine tg 3 62 2 true ?gv173 rfl (by kernel_rfl) ?hq174 (by rfl) ?gy173 (by assumption) ?_
        case hq174 => (intro c a w h; exact h)
        case gy173 => (intro w' hSw; go_simp; try with_reducible rfl)
        try simp only [AP]
        refine tg 4 63 2 true ?gv175 rfl (by kernel_rfl) ?hq176 (by rfl) ?gy175 (by assumption) ?_
        case hq176 => (intro c a w h; exact h)
        case gy175 => (intro w' hSw; go_simp; try with_reducible rfl)
        try simp only [AP]
        refine tg 5 64 2 true ?gv177 rfl (by kernel_rfl) ?hq178 (by rfl) ?gy177 (by assumption) ?_
        case hq178 => (intro c a w h; exact h)
        case gy177 => (intro w' hSw; go_simp; try with_reducible rfl)
        try simp only [AP]
        refine tg 6 65 2 true ?gv179 rfl (by kernel_rfl) ?hq180 (by rfl) ?gy179 (by assumption) ?_
        case hq180 => (intro c a w h; exact h)
        case gy179 => (intro w' hSw; go_simp; try with_reducible rfl)
        try simp only [AP]
        refine tg 7 66 2 true ?gv181 rfl (by kernel_rfl) ?hq182 (by rfl) ?gy181 (by assumption) ?_
        case hq182 => (intro c a w h; exact h)
        case gy181 => (intro w' hSw; go_simp; try with_reducible rfl)
        try simp only [AP]
        refine tg 8 67 2 true ?gv183 rfl (by kernel_rfl) ?hq184 (by rfl) ?gy183 (by assumption) ?_
        case hq184 => (intro c a w h; exact h)
        case gy183 => (intro w' hSw; go_simp; try with_reducible rfl)
        try simp only [AP]
        refine tg 9 68 2 true ?gv185 rfl (by kernel_rfl) ?hq186 (by rfl) ?gy185 (by assumption) ?_
        case hq186 => (intro c a w h; exact h)
        case gy185 => (intro w' hSw; go_simp; try with_reducible rfl)
        try simp only [AP]
        refine tg 10 69 2 true ?gv187 rfl (by kernel_rfl) ?hq188 (by rfl) ?gy187 (by assumption) ?_
        case hq188 => (intro c a w h; exact h)
        case gy187 => (intro w' hSw; go_simp; try with_reducible rfl)
        try simp only [AP]
        refine tg 11 70 2 true ?gv189 rfl (by kernel_rfl) ?hq190 (by rfl) ?gy189 (by assumption) ?_
        case hq190 => (intro c a w h; exact h)
        case gy189 => (intro w' hSw; go_simp; try with_reducible rfl)
        try simp only [AP]
        refine tg 12 71 2 true ?gv191 rfl (by kernel_rfl) ?hq192 (by rfl) ?gy191 (by assumption) ?_
        case hq192 => (intro c a w h; exact h)
        case gy191 => (intro w' hSw; go_simp; try with_reducible rfl)
        try simp only [AP]
        refine tg 13 72 2 true ?gv193 rfl (by kernel_rfl) ?hq194 (by rfl) ?gy193 (by assumption) ?_
        case hq194 => (intro c a w h; exact h)
        case gy193 => (intro w' hSw; go_simp; try with_reducible rfl)
        try simp only [AP]
        refine tg 14 73 2 true ?gv195 rfl (by kernel_rfl) ?hq196 (by rfl) ?gy195 (by assumption) ?_
        case hq196 => (intro c a w h; exact h)
        case gy195 => (intro w' hSw; go_simp; try with_reducible rfl)
        try simp only [AP]
        refine tg 15 74 2 true ?gv197 rfl (by kernel_rfl) ?hq198 (by rfl) ?gy197 (by assumption) ?_
        case hq198 => (intro c a w h; exact h)
        case gy197 => (intro w' hSw; go_simp; try with_reducible rfl)
        try simp only [AP]
        refine tk 16 75 ?gv199 rfl (by kernel_rfl) ?hq200 ?gy199 (by assumption) ?_
        case hq200 => (intro c a w h; exact h)
        case gy199 => (intro w' hSw; go_simp; try with_reducible rfl)
        try simp only [AP]
        refine tk 17 76 ?gv201 rfl (by kernel_rfl) ?hq202 ?gy201 (by assumption) ?_
        case hq202 => (intro c a w h; exact h)
        case gy201 => (intro w' hSw; go_simp; try with_reducible rfl)
        try simp only [AP]
        refine tg 18 77 17 true ?gv203 rfl (by kernel_rfl) ?hq204 (by rfl) ?gy203 (by assumption) ?_
        case hq204 => (intro c a w h; exact h)
        case gy203 => (intro w' hSw; go_simp; try with_reducible rfl)
        try simp only [AP]
        refine tg 19 78 17 true ?gv205 rfl (by kernel_rfl) ?hq206 (by rfl) ?gy205 (by assumption) ?_
        case hq206 => (intro c a w h; exact h)
        case gy205 => (intro w' hSw; go_simp; try with_reducible rfl)
        try simp only [AP]
        refine tg 20 79 17 true ?gv207 rfl (by kernel_rfl) ?hq208 (by rfl) ?gy207 (by assumption) ?_
        case hq208 => (intro c a w h; exact h)
        case gy207 => (intro w' hSw; go_simp; try with_reducible rfl)
        try simp only [AP]
        refine tg 21 80 17 true ?gv209 rfl (by kernel_rfl) ?hq210 (by rfl) ?gy209 (by assumption) ?_
        case hq210 => (intro c a w h; exact h)
        case gy209 => (intro w' hSw; go_simp; try with_reducible rfl)
        try simp only [AP]
        refine tg 22 81 17 true ?gv211 rfl (by kernel_rfl) ?hq212 (by rfl) ?gy211 (by assumption) ?_
        case hq212 => (intro c a w h; exact h)
        case gy211 => (intro w' hSw; go_simp; try with_reducible rfl)
        try simp only [AP]
        refine tg 23 82 17 true ?gv213 rfl (by kernel_rfl) ?hq214 (by rfl) ?gy213 (by assumption) ?_
        case hq214 => (intro c a w h; exact h)
        case gy213 => (intro w' hSw; go_simp; try with_reducible rfl)
        try simp only [AP]
        refine tg 24 83 17 true ?gv215 rfl (by kernel_rfl) ?hq216 (by rfl) ?gy215 (by assumption) ?_
        case hq216 => (intro c a w h; exact h)
        case gy215 => (intro w' hSw; go_simp; try with_reducible rfl)
        try simp only [AP]
        refine tg 25 84 17 true ?gv217 rfl (by kernel_rfl) ?hq218 (by rfl) ?gy217 (by assumption) ?_
        case hq218 => (intro c a w h; exact h)
        case gy217 => (intro w' hSw; go_simp; try with_reducible rfl)
        try simp only [AP]
        refine tg 26 85 17 true ?gv219 rfl (by kernel_rfl) ?hq220 (by rfl) ?gy219 (by assumption) ?_
        case hq220 => (intro c a w h; exact h)
        case gy219 => (intro w' hSw; go_simp; try with_reducible rfl)
        try simp only [AP]
        refine tg 27 86 17 true ?gv221 rfl (by kernel_rfl) ?hq222 (by rfl) ?gy221 (by assumption) ?_
        case hq222 => (intro c a w h; exact h)
        case gy221 => (intro w' hSw; go_simp; try with_reducible rfl)
        try simp only [AP]
        refine tg 28 87 17 true ?gv223 rfl (by kernel_rfl) ?hq224 (by rfl) ?gy223 (by assumption) ?_
        case hq224 => (intro c a w h; exact h)
        case gy223 => (intro w' hSw; go_simp; try with_reducible rfl)
        try simp only [AP]
        refine tg 29 88 17 true ?gv225 rfl (by kernel_rfl) ?hq226 (by rfl) ?gy225 (by assumption) ?_
        case hq226 => (intro c a w h; exact h)
        case gy225 => (intro w' hSw; go_simp; try with_reducible rfl)
        try simp only [AP]
        refine wpAnyH_ready (rs := [30]) (by kernel_rfl) (by simp) ?_
        refine AllReadyH.cons rfl (fun K hK => ?_) AllReadyH.nil
        go_simp
        (go_at_call 86; ((with_reducible refine (HCT.out _ (by (repeat' (first | assumption | exact below_refl _ | refine bl_alloc ?_ _ | refine Below.setCell ?_ ?_ _ | refine below_draw ?_ | refine below_drewN ?_ _ | refine below_tr ?_ (by assumption))) <;> (first | omega | (simp; done) | (simp; omega)))).mono ?_); rintro e w' ⟨rfl, rfl⟩))
        refine hK.out _ _ (by ((show Kq w7 _); (repeat' (first | assumption | exact kq_refl | refine kq_draw ?_ | refine kq_drewN ?_ | refine kq_alloc ?_ | refine kq_set ?_ ?_ | refine kq_step ?_ (by assumption))); (all_goals (first | omega | (simp; omega))))) (fun hS1 => ?_)
        clear hK K
        try simp only [AP]
        refine tg 31 90 17 true ?gv227 rfl (by kernel_rfl) ?hq228 (by rfl) ?gy227 (by assumption) ?_
        case hq228 => (intro c a w h; exact h)
        case gy227 => (intro w' hSw; go_simp; try with_reducible rfl)
        try simp only [AP]
        refine tk 32 91 ?gv229 rfl (by kernel_rfl) ?hq230 ?gy229 (by assumption) ?_
        case hq230 => (intro c a w h; exact h)
        case gy229 => (intro w' hSw; go_simp; try with_reducible rfl)
        try simp only [AP]
        refine wpAnyH_ready (rs := [33]) (by kernel_rfl) (by simp) ?_
        refine AllReadyH.cons rfl (fun K hK => ?_) AllReadyH.nil
        go_simp
        (go_at_call 131; ((with_reducible refine (f_must_no _ _).mono ?_); rintro e w' ⟨rfl, rfl⟩))
        exact ⟨rfl, deed_err HX.out (by (repeat' (first | assumption | exact below_refl _ | refine bl_alloc ?_ _ | refine Below.setCell ?_ ?_ _ | refine below_draw ?_ | refine below_drewN ?_ _ | refine below_tr ?_ (by assumption))) <;> (first | omega | (simp; done) | (simp; omega)))⟩
      · rw [hhs] at HCT
        have HTF := Lib.hid (HTK.out false (by rw [HBK.out, hhs, decide_eq_false (by omega)]; rfl))
        clear hhs hdu
        refine wp_region_noPanic ?_
        refine wp_region_held_drew (S := (fun w' => (∀ b o, b < w7.heap.size → w'.cell? ⟨b, o, none⟩ = w7.cell? ⟨b, o, none⟩) ∧ (∀ b o, b < w7.heap.size → w'.frozen? ⟨b, o, none⟩ = w7.frozen? ⟨b, o, none⟩) ∧ Below w7.heap.size w7 w')) (by kernel_rfl) (kq_draw kq_refl) (fun hS0 => ?_)
        refine tk 0 59 ?gv231 rfl (by kernel_rfl) (fun _ _ _ h => h) ?gy231 (by assumption) ?_
        case gy231 => (intro w' hSw; go_simp; try with_reducible rfl)
        try simp only [AP]
        refine tk 1 60 ?gv232 rfl (by kernel_rfl) (fun _ _ _ h => h) ?gy232 (by assumption) ?_
        case gy232 => (intro w' hSw; go_simp; try with_reducible rfl)
        try simp only [AP]
        refine tk 2 61 ?gv233 rfl (by kernel_rfl) (fun _ _ _ h => h) ?gy233 (by assumption) ?_
        case gy233 => (intro w' hSw; go_simp; try with_reducible rfl)
        try simp only [AP]
        refine tg 3 62 2 true ?gv234 rfl (by kernel_rfl) (fun _ _ _ h => h) (by rfl) ?gy234 (by assumption) ?_
        case gy234 => (intro w' hSw; go_simp; try with_reducible rfl)
        try simp only [AP]
        refine tg 4 63 2 true ?gv235 rfl (by kernel_rfl) (fun _ _ _ h => h) (by rfl) ?gy235 (by assumption) ?_
        case gy235 => (intro w' hSw; go_simp; try with_reducible rfl)
        try simp only [AP]
        refine tg 5 64 2 true ?gv236 rfl (by kernel_rfl) (fun _ _ _ h => h) (by rfl) ?gy236 (by assumption) ?_
        case gy236 => (intro w' hSw; go_simp; try with_reducible rfl)
        try simp only [AP]
        refine tg 6 65 2 true ?gv237 rfl (by kernel_rfl) (fun _ _ _ h => h) (by rfl) ?gy237 (by assumption) ?_
        case gy237 => (intro w' hSw; go_simp; try with_reducible rfl)
        try simp only [AP]
        refine tg 7 66 2 true ?gv238 rfl (by kernel_rfl) (fun _ _ _ h => h) (by rfl) ?gy238 (by assumption) ?_
        case gy238 => (intro w' hSw; go_simp; try with_reducible rfl)
        try simp only [AP]
        refine tg 8 67 2 true ?gv239 rfl (by kernel_rfl) (fun _ _ _ h => h) (by rfl) ?gy239 (by assumption) ?_
        case gy239 => (intro w' hSw; go_simp; try with_reducible rfl)
        try simp only [AP]
        refine tg 9 68 2 true ?gv240 rfl (by kernel_rfl) (fun _ _ _ h => h) (by rfl) ?gy240 (by assumption) ?_
        case gy240 => (intro w' hSw; go_simp; try with_reducible rfl)
        try simp only [AP]
        refine tg 10 69 2 true ?gv241 rfl (by kernel_rfl) (fun _ _ _ h => h) (by rfl) ?gy241 (by assumption) ?_
        case gy241 => (intro w' hSw; go_simp; try with_reducible rfl)
        try simp only [AP]
        refine tg 11 70 2 true ?gv242 rfl (by kernel_rfl) (fun _ _ _ h => h) (by rfl) ?gy242 (by assumption) ?_
        case gy242 => (intro w' hSw; go_simp; try with_reducible rfl)
        try simp only [AP]
        refine tg 12 71 2 true ?gv243 rfl (by kernel_rfl) (fun _ _ _ h => h) (by rfl) ?gy243 (by assumption) ?_
        case gy243 => (intro w' hSw; go_simp; try with_reducible rfl)
        try simp only [AP]
        refine tg 13 72 2 true ?gv244 rfl (by kernel_rfl) (fun _ _ _ h => h) (by rfl) ?gy244 (by assumption) ?_
        case gy244 => (intro w' hSw; go_simp; try with_reducible rfl)
        try simp only [AP]
        refine tg 14 73 2 true ?gv245 rfl (by kernel_rfl) (fun _ _ _ h => h) (by rfl) ?gy245 (by assumption) ?_
        case gy245 => (intro w' hSw; go_simp; try with_reducible rfl)
        try simp only [AP]
        refine tg 15 74 2 true ?gv246 rfl (by kernel_rfl) (fun _ _ _ h => h) (by rfl) ?gy246 (by assumption) ?_
        case gy246 => (intro w' hSw; go_simp; try with_reducible rfl)
        try simp only [AP]
        refine tk 16 75 ?gv247 rfl (by kernel_rfl) (fun _ _ _ h => h) ?gy247 (by assumption) ?_
        case gy247 => (intro w' hSw; go_simp; try with_reducible rfl)
        try simp only [AP]
        refine tk 17 76 ?gv248 rfl (by kernel_rfl) (fun _ _ _ h => h) ?gy248 (by assumption) ?_
        case gy248 => (intro w' hSw; go_simp; try with_reducible rfl)
        try simp only [AP]
        refine tg 18 77 17 true ?gv249 rfl (by kernel_rfl) (fun _ _ _ h => h) (by rfl) ?gy249 (by assumption) ?_
        case gy249 => (intro w' hSw; go_simp; try with_reducible rfl)
        try simp only [AP]
        refine tg 19 78 17 true ?gv250 rfl (by kernel_rfl) (fun _ _ _ h => h) (by rfl) ?gy250 (by assumption) ?_
        case gy250 => (intro w' hSw; go_simp; try with_reducible rfl)
        try simp only [AP]
        refine tg 20 79 17 true ?gv251 rfl (by kernel_rfl) (fun _ _ _ h => h) (by rfl) ?gy251 (by assumption) ?_
        case gy251 => (intro w' hSw; go_simp; try with_reducible rfl)
        try simp only [AP]
        refine tg 21 80 17 true ?gv252 rfl (by kernel_rfl) (fun _ _ _ h => h) (by rfl) ?gy252 (by assumption) ?_
        case gy252 => (intro w' hSw; go_simp; try with_reducible rfl)
        try simp only [AP]
        refine tg 22 81 17 true ?gv253 rfl (by kernel_rfl) (fun _ _ _ h => h) (by rfl) ?gy253 (by assumption) ?_
        case gy253 => (intro w' hSw; go_simp; try with_reducible rfl)
        try simp only [AP]
        refine tg 23 82 17 true ?gv254 rfl (by kernel_rfl) (fun _ _ _ h => h) (by rfl) ?gy254 (by assumption) ?_
        case gy254 => (intro w' hSw; go_simp; try with_reducible rfl)
        try simp only [AP]
        refine tg 24 83 17 true ?gv255 rfl (by kernel_rfl) (fun _ _ _ h => h) (by rfl) ?gy255 (by assumption) ?_
        case gy255 => (intro w' hSw; go_simp; try with_reducible rfl)
        try simp only [AP]
        refine tg 25 84 17 true ?gv256 rfl (by kernel_rfl) (fun _ _ _ h => h) (by rfl) ?gy256 (by assumption) ?_
        case gy256 => (intro w' hSw; go_simp; try with_reducible rfl)
        try simp only [AP]
        refine tg 26 85 17 true ?gv257 rfl (by kernel_rfl) (fun _ _ _ h => h) (by rfl) ?gy257 (by assumption) ?_
        case gy257 => (intro w' hSw; go_simp; try with_reducible rfl)
        try simp only [AP]
        refine tg 27 86 17 true ?gv258 rfl (by kernel_rfl) (fun _ _ _ h => h) (by rfl) ?gy258 (by assumption) ?_
        case gy258 => (intro w' hSw; go_simp; try with_reducible rfl)
        try simp only [AP]
        refine tg 28 87 17 true ?gv259 rfl (by kernel_rfl) (fun _ _ _ h => h) (by rfl) ?gy259 (by assumption) ?_
        case gy259 => (intro w' hSw; go_simp; try with_reducible rfl)
        try simp only [AP]
        refine tg 29 88 17 true ?gv260 rfl (by kernel_rfl) (fun _ _ _ h => h) (by rfl) ?gy260 (by assumption) ?_
        case gy260 => (intro w' hSw; go_simp; try with_reducible rfl)
        try simp only [AP]
        refine wpAnyH_ready (rs := [30]) (by kernel_rfl) (by simp) ?_
        refine AllReadyH.cons rfl (fun K hK => ?_) AllReadyH.nil
        go_simp
        (go_at_call 86; ((with_reducible refine (HCT.out _ (by (repeat' (first | assumption | exact below_refl _ | refine bl_alloc ?_ _ | refine Below.setCell ?_ ?_ _ | refine below_draw ?_ | refine below_drewN ?_ _ | refine below_tr ?_ (by assumption))) <;> (first | omega | (simp; done) | (simp; omega)))).mono ?_); rintro e w' ⟨rfl, rfl⟩))
        refine hK.out _ _ (by ((show Kq w7 _); (repeat' (first | assumption | exact kq_refl | refine kq_draw ?_ | refine kq_drewN ?_ | refine kq_alloc ?_ | refine kq_set ?_ ?_ | refine kq_step ?_ (by assumption))); (all_goals (first | omega | (simp; omega))))) (fun hS1 => ?_)
        clear hK K
        try simp only [AP]
        refine tg 31 90 17 true ?gv261 rfl (by kernel_rfl) (fun _ _ _ h => h) (by rfl) ?gy261 (by assumption) ?_
        case gy261 => (intro w' hSw; go_simp; try with_reducible rfl)
        try simp only [AP]
        refine tk 32 91 ?gv262 rfl (by kernel_rfl) (fun _ _ _ h => h) ?gy262 (by assumption) ?_
        case gy262 => (intro w' hSw; go_simp; try with_reducible rfl)
        try simp only [AP]
        refine wpAnyH_ready (rs := [33]) (by kernel_rfl) (by simp) ?_
        refine AllReadyH.cons rfl (fun K hK => ?_) AllReadyH.nil
        go_simp
        (go_at_call 131; ((with_reducible refine (f_must_ok _ _).mono ?_); rintro e w' ⟨rfl, rfl⟩))
        refine hK.out _ _ (by ((show Kq w7 _); (repeat' (first | assumption | exact kq_refl | refine kq_draw ?_ | refine kq_drewN ?_ | refine kq_alloc ?_ | refine kq_set ?_ ?_ | refine kq_step ?_ (by assumption))); (all_goals (first | omega | (simp; omega))))) (fun hS2 => ?_)
        clear hK K
        try simp only [AP]
        refine wpAnyH_done (by kernel_rfl) (NoPanic.normal ?_) _
        go_wp2
        go_roundw
        case rel => exact ⟨q + 1, by omega, by go_num, below_tr BR (by (repeat' (first | assumption | exact below_refl _ | refine bl_alloc ?_ _ | refine Below.setCell ?_ ?_ _ | refine below_draw ?_ | refine below_drewN ?_ _ | refine below_tr ?_ (by assumption))) <;> (first | omega | (simp; done) | (simp; omega))), HTF⟩
        case measure => simp [RowKit.intOf]; omega
    · obtain rfl : q = l.l.length := by omega
      have HX := Lib.hid (show deed (.rig (k : Int) l.l) L.val = .ok { L.val with rigs := L.val.rigs ++ [⟨(k : Int), l.l⟩] } by
        have h := HB.out
        rw [List.take_length] at h
        rw [HX3.out, h]; rfl)
      have rb0 := (hcr w.heap.size 0 lwq).trans qb0
      have rb1 := (hcr w.heap.size 1 lwq).trans qb1
      have r19 := (hcr nb 19 lnbq).trans q19
      have rf19 := (hfr nb 19 lnbq).trans (qfn 19)
      have BE : Below w.heap.size w wr := below_tr B0 BW1
      have HRW := Lib.hid ((hN.on BE).rrow)
      have HCL := Lib.hid (fun w' (h : Below wr.heap.size wr w') => HCLr.out w' (below_tr BW1 h))
      obtain ⟨_, _, _, _, hbs00, _⟩ := hN.site hk
      have lsb0 := hbs00.lt
      have lnb0 := hN.lt
      obtain ⟨tb, htb, hnt, hbt⟩ : ∃ tb, (∀ g, L.rigs.v.ownBlock = some g → g = tb) ∧ nb ≠ tb ∧ w.heap.size ≠ tb := by
        cases ho : L.rigs.v.ownBlock with
        | none => exact ⟨sb, fun g h => (by cases h), hN.n1, by omega⟩
        | some g => exact ⟨g, fun g' h => (by cases h; rfl), by have h1 := hN.rb_ g ho; have := hN.n2; omega, by have := (own_ge hN.rrow g ho).2; omega⟩
      have HTB := Lib.hid htb
      obtain ⟨we, hwe⟩ : ∃ x, x = wr := ⟨_, rfl⟩
      rw [← hwe] at rb0 rb1 r19 rf19 BE HRW HCL lwr lnbr hbw
      rw [← hwe]
      have lze := hbw.size
      clear hwe hcr hfr qb0 qb1 q17 q19 q21 q22 qfn htb HI HN0 HHG HFDr HCTr HIR HLR HLW HIT HCLr lr lzr lq BW1 HX2 HX3 HVP HSA HAT hvr hsm hfz hbs hir hbs00 lsb lwq lnbq
      obtain ⟨i0, hi, hi1, hi2, hi3⟩ := info_Rig
      go_upto_region 11 with fail
      refine wp_region_noPanic ?_
      refine wp_region_last 15 (fun w' => (∀ b o, b < we.heap.size → b ≠ tb → w'.cell? ⟨b, o, none⟩ = we.cell? ⟨b, o, none⟩) ∧ (∀ b o, b < we.heap.size → b ≠ tb → w'.frozen? ⟨b, o, none⟩ = we.frozen? ⟨b, o, none⟩) ∧ Stp (fun g => g = tb) we w') (by kernel_rfl) (km_draw km_refl) (fun hS0 => ?_)
      refine wpAnyL_take (i := 0) (oi := { dst := some 94, op := _, type := _, pos := _, after := _, guard := none }) (v := ?gv263) rfl (by kernel_rfl) (by kernel_rfl) (by kernel_rfl) (by kernel_rfl) (by kernel_rfl) (by decide) (fun _ _ _ h => h) (Or.inl ⟨by rfl, ?gy263⟩) (by assumption) ?_
      case gy263 => (intro w' hSw; go_simp; try with_reducible rfl)
      try simp only [AP]
      refine wpAnyL_take (i := 1) (oi := { dst := some 95, op := _, type := _, pos := _, after := _, guard := none }) (v := ?gv264) rfl (by kernel_rfl) (by kernel_rfl) (by kernel_rfl) (by kernel_rfl) (by kernel_rfl) (by decide) (fun _ _ _ h => h) (Or.inl ⟨by rfl, ?gy264⟩) (by assumption) ?_
      case gy264 => (intro w' hSw; go_simp; try with_reducible rfl)
      try simp only [AP]
      refine wpAnyL_take (i := 2) (oi := { dst := some 96, op := _, type := _, pos := _, after := _, guard := none }) (v := ?gv265) rfl (by kernel_rfl) (by kernel_rfl) (by kernel_rfl) (by kernel_rfl) (by kernel_rfl) (by decide) (fun _ _ _ h => h) (Or.inl ⟨by rfl, ?gy265⟩) (by assumption) ?_
      case gy265 => (intro w' hSw; go_simp; try with_reducible rfl)
      try simp only [AP]
      refine wpAnyL_take (i := 3) (oi := { dst := some 97, op := _, type := _, pos := _, after := _, guard := none }) (v := ?gv266) rfl (by kernel_rfl) (by kernel_rfl) (by kernel_rfl) (by kernel_rfl) (by kernel_rfl) (by decide) (fun _ _ _ h => h) (Or.inl ⟨by rfl, ?gy266⟩) (by assumption) ?_
      case gy266 => (intro w' hSw; go_simp; try with_reducible rfl)
      try simp only [AP]
      refine wpAnyL_take (i := 4) (oi := { dst := some 98, op := _, type := _, pos := _, after := _, guard := none }) (v := ?gv267) rfl (by kernel_rfl) (by kernel_rfl) (by kernel_rfl) (by kernel_rfl) (by kernel_rfl) (by decide) (fun _ _ _ h => h) (Or.inl ⟨by rfl, ?gy267⟩) (by assumption) ?_
      case gy267 => (intro w' hSw; go_simp; try with_reducible rfl)
      try simp only [AP]
      refine wpAnyL_take (i := 5) (oi := { dst := some 99, op := _, type := _, pos := _, after := _, guard := none }) (v := ?gv268) rfl (by kernel_rfl) (by kernel_rfl) (by kernel_rfl) (by kernel_rfl) (by kernel_rfl) (by decide) (fun _ _ _ h => h) (Or.inl ⟨by rfl, ?gy268⟩) (by assumption) ?_
      case gy268 => (intro w' hSw; go_simp; try with_reducible rfl)
      try simp only [AP]
      refine wpAnyL_take (i := 6) (oi := { dst := some 100, op := _, type := _, pos := _, after := _, guard := none }) (v := ?gv269) rfl (by kernel_rfl) (by kernel_rfl) (by kernel_rfl) (by kernel_rfl) (by kernel_rfl) (by decide) (fun _ _ _ h => h) (Or.inl ⟨by rfl, ?gy269⟩) (by assumption) ?_
      case gy269 => (intro w' hSw; go_simp; try with_reducible rfl)
      try simp only [AP]
      refine wpAnyL_take (i := 7) (oi := { dst := some 101, op := _, type := _, pos := _, after := _, guard := none }) (v := ?gv270) rfl (by kernel_rfl) (by kernel_rfl) (by kernel_rfl) (by kernel_rfl) (by kernel_rfl) (by decide) (fun _ _ _ h => h) (Or.inl ⟨by rfl, ?gy270⟩) (by assumption) ?_
      case gy270 => (intro w' hSw; go_simp; try with_reducible rfl)
      try simp only [AP]
      refine wpAnyL_take (i := 8) (oi := { dst := some 102, op := _, type := _, pos := _, after := _, guard := none }) (v := ?gv271) rfl (by kernel_rfl) (by kernel_rfl) (by kernel_rfl) (by kernel_rfl) (by kernel_rfl) (by decide) (fun _ _ _ h => h) (Or.inl ⟨by rfl, ?gy271⟩) (by assumption) ?_
      case gy271 => (intro w' hSw; go_simp; try with_reducible rfl)
      try simp only [AP]
      refine wpAnyL_ready (rs := [9]) (by kernel_rfl) (by simp) ?_
      refine AllReadyL.cons rfl (fun K hK => ?_) AllReadyL.nil
      go_simp
      (go_at_call 60; ((with_reducible refine (HCL.out _ (by (repeat' (first | assumption | exact below_refl _ | refine bl_alloc ?_ _ | refine Below.setCell ?_ ?_ _ | refine below_draw ?_ | refine below_drewN ?_ _ | refine below_tr ?_ (by assumption))) <;> (first | omega | (simp; done) | (simp; omega)))).mono ?_); rintro e w3 ⟨⟨A3, l3, c3⟩, rfl, hl3, ho3, hle3, hcm3, hb3⟩; dsimp only at hl3; subst hl3; dsimp only [Sl.v] at *; obtain ⟨hc3, hf3⟩ := bcell hb3; have hz3 := hb3.size; (try simp [sz_drew, sz_drewN] at hz3); (try simp only [sz_drew, sz_drewN] at hc3 hf3)))
      refine hK.out _ _ (by ((show Km we tb _); (repeat' (first | assumption | exact km_refl | refine km_draw ?_ | refine km_drewN ?_ | refine km_alloc ?_ | refine km_step ?_ (by assumption))); (all_goals (first | omega | (simp; omega))))) (fun hS1 => ?_)
      clear hK K
      try simp only [AP]
      refine wpAnyL_take (i := 10) (oi := { dst := some 104, op := _, type := _, pos := _, after := _, guard := none }) (v := ?gv272) rfl (by kernel_rfl) (by kernel_rfl) (by kernel_rfl) (by kernel_rfl) (by kernel_rfl) (by decide) (fun _ _ _ h => h) (Or.inl ⟨by rfl, ?gy272⟩) (by assumption) ?_
      case gy272 => (intro w' hSw; go_simp; try with_reducible rfl)
      try simp only [AP]
      refine wpAnyL_ready (rs := [11]) (by kernel_rfl) (by simp) ?_
      refine AllReadyL.cons rfl (fun K hK => ?_) AllReadyL.nil
      go_simp
      refine hK.out _ _ (by ((show Km we tb _); (repeat' (first | assumption | exact km_refl | refine km_draw ?_ | refine km_drewN ?_ | refine km_alloc ?_ | refine km_step ?_ (by assumption))); (all_goals (first | omega | (simp; omega))))) (fun hS2 => ?_)
      clear hK K
      try simp only [AP]
      refine wpAnyL_ready (rs := [12]) (by kernel_rfl) (by simp) ?_
      refine AllReadyL.cons rfl (fun K hK => ?_) AllReadyL.nil
      (refine step_append_at2 (by rfl) _ _ _ (by rfl) 0 99 i0 _ 2 32 Tryz.underlying75 hi hi1 hi2 hi3 rfl (by omega) _ _ _ (by rfl) (own_on (own_on HRW.out (by (repeat' (first | assumption | exact below_refl _ | refine bl_alloc ?_ _ | refine Below.setCell ?_ ?_ _ | refine below_draw ?_ | refine below_drewN ?_ _ | refine below_tr ?_ (by assumption))) <;> (first | omega | (simp; done) | (simp; omega)))) (bl_alloc (below_refl _) _)) ⟨w3.heap.size, 0, none⟩ 1 1 [.int .i64 (k : Int), .slice A3 l.l.length c3] (by rfl) rfl (cells_new w3 [.int .i64 (k : Int), .slice A3 l.l.length c3] 99) (fun u hu => by simp at hu; rcases hu with rfl | rfl <;> rfl) (by unfold maxLen; omega) (by omega) (Nat.zero_le _) ?_; intro v4 w4 hown4 hgrow4 hnew4; obtain ⟨A4, c4, rfl⟩ := own_slice hown4; have hkm4 : Km we tb w4 := km_grown (km_alloc (km_step (km_draw km_refl) hb3)) hgrow4 (fun r hr => .inl (HTB.out r hr)))
      refine hK.out _ _ (by ((show Km we tb _); (repeat' (first | assumption | exact km_refl | refine km_draw ?_ | refine km_drewN ?_ | refine km_alloc ?_ | refine km_step ?_ (by assumption))); (all_goals (first | omega | (simp; omega))))) (fun hS3 => ?_)
      clear hK K
      try simp only [AP]
      refine wpAnyL_take (i := 13) (oi := { dst := some 107, op := _, type := _, pos := _, after := _, guard := none }) (v := ?gv273) rfl (by kernel_rfl) (by kernel_rfl) (by kernel_rfl) (by kernel_rfl) (by kernel_rfl) (by decide) (fun _ _ _ h => h) (Or.inl ⟨by rfl, ?gy273⟩) (by assumption) ?_
      case gy273 => (intro w' hSw; go_simp; try with_reducible rfl)
      try simp only [AP]
      refine wpAnyL_take (i := 14) (oi := { dst := some 108, op := _, type := _, pos := _, after := _, guard := none }) (v := ?gv274) rfl (by kernel_rfl) (by kernel_rfl) (by kernel_rfl) (by kernel_rfl) (by kernel_rfl) (by decide) (fun _ _ _ h => h) (Or.inl ⟨by rfl, ?gy274⟩) (by assumption) ?_
      case gy274 => (intro w' hSw; go_simp; try with_reducible rfl)
      try simp only [AP]
      refine wpAnyL_last (by kernel_rfl) rfl (fun K hK => ?_)
      go_simp
      refine hK.out _ _ ?_
      clear hK K
      try simp only [AP]
      refine wpAnyL_done (by kernel_rfl) (NoPanic.normal ?_) _
      go_wp2
      go_end0
      have hb3W : Below we.heap.size we w3 := by (repeat' (first | assumption | exact below_refl _ | refine bl_alloc ?_ _ | refine Below.setCell ?_ ?_ _ | refine below_draw ?_ | refine below_drewN ?_ _ | refine below_tr ?_ (by assumption))) <;> (first | omega | (simp; done) | (simp; omega))
      have st4 : Stp (fun g => L.rigs.v.ownBlock = some g) w w4 := ((((Stp.refl _ w).below BE (Nat.le_refl _)).below hb3W (by omega)).alloc _).grown hgrow4 (fun r hr => .inl hr)
      have st : Stp (fun g => g = nb ∨ g = rb) w (w4.setCell ⟨nb, 19, none⟩ (.slice A4 (L.rigs.l.length + 1) c4)) := Stp.setCell (N := fun g => g = nb ∨ g = rb) (p := ⟨nb, 19, none⟩) (st4.mono fun b _ e => .inr (hN.rb_ b e)) (.inl (.inl rfl)) _
      have st3 : Stp (fun g => g = nb ∨ g = sb ∨ g = rb) w (w4.setCell ⟨nb, 19, none⟩ (.slice A4 (L.rigs.l.length + 1) c4)) := st.mono fun b _ e => by omega
      have stn : Stp (fun g => g = nb) w4 (w4.setCell ⟨nb, 19, none⟩ (.slice A4 (L.rigs.l.length + 1) c4)) := Stp.setCell (N := fun g => g = nb) (p := ⟨nb, 19, none⟩) (Stp.refl _ _) (.inl rfl) _
      have stw : Stp (fun g => L.rigs.v.ownBlock = some g ∨ g = nb) w3 (w4.setCell ⟨nb, 19, none⟩ (.slice A4 (L.rigs.l.length + 1) c4)) := Stp.setCell (N := fun g => L.rigs.v.ownBlock = some g ∨ g = nb) (p := ⟨nb, 19, none⟩) (((Stp.refl _ w3).alloc _).grown hgrow4 (fun r hr => .inl (.inl hr))) (.inl (.inr rfl)) _
      have own5 := own_snoc (enc := LRg.cs) (x := ⟨(k : Int), ⟨A3, l.l, c3⟩⟩) rfl rfl hown4
      have cap5 := own_caps own5
      have hnn : ∀ b, TT T sb rb w b → ¬ b = nb := fun b hb e => by
        subst e
        have := hN.n1
        have := hN.n2
        rcases hb with h | h | h | h
        · exact (hN.nT _ h).1 rfl
        · omega
        · omega
        · omega
      have G4 : Got (TT T sb rb w) w4 LRg.cs 2 ⟨A4, L.rigs.l ++ [⟨(k : Int), ⟨A3, l.l, c3⟩⟩], c4⟩ := by
        refine ⟨own_rd' LRg.cs_len own5, fun hne a ha => ?_, cap5.1, cap5.2⟩
        obtain ⟨b, off, e, _, _⟩ := own_rd' LRg.cs_len own5 hne
        dsimp only at e ha
        rw [e] at ha
        cases ha
        rw [e] at hnew4
        rcases hnew4 with h | h
        · exact .inr (.inr (.inl (hN.rb_ b h.symm)))
        · have h2 : b = (w3.alloc (.cells #[.int .i64 (k : Int), .slice A3 l.l.length c3] 99)).heap.size := Option.some.inj h
          have := hb3W.size
          have := BE.size
          rw [World.size_alloc] at h2
          exact .inr (.inr (.inr (show w.heap.size ≤ b by omega)))
      have GL : Got (TT T sb rb w) (w4.setCell ⟨nb, 19, none⟩ (.slice A4 (L.rigs.l.length + 1) c4)) G.Lk.cs 2 ⟨A3, l.l, c3⟩ := by
        have h1 : Got (fun b => we.heap.size ≤ b) w3 G.Lk.cs 2 ⟨A3, l.l, c3⟩ := got_own (y := ⟨A3, l.l, c3⟩) G.Lk.cs_len ho3 (fun b h1 _ => h1)
        have hes := BE.size
        refine (h1.stp stw fun b hb e => ?_).mono fun b _ hb => .inr (.inr (.inr (show w.heap.size ≤ b from Nat.le_trans hes hb)))
        rcases e with e | e
        · have := (own_ge hN.rrow b e).2
          have : we.heap.size ≤ b := hb
          omega
        · have : we.heap.size ≤ b := hb
          omega
      refine deed_ok (L' := { L with rigs := ⟨A4, L.rigs.l ++ [⟨(k : Int), ⟨A3, l.l, c3⟩⟩], c4⟩ }) HX.out (by unfold LS.val; simp [LRg.val]) ⟨?_, ⟨hN.keepSu st3, hN.keep hN.gusts st3, G4.stp stn hnn, fun r hr => ?_, hN.keepS st, fun s' hs' => hN.keep (hN.sk s' hs') st3, hN.keep hN.items st3, hN.keep hN.back st3⟩, st3, rfl, rfl⟩
      · have h1 := (st4.blk hN.blk (fun e => hN.n2 (hN.rb_ nb e))).set_ 19 (.slice A4 (L.rigs.l.length + 1) c4)
        rw [← show (L.rigs.l ++ [(⟨(k : Int), ⟨A3, l.l, c3⟩⟩ : LRg)]).length = L.rigs.l.length + 1 by simp] at h1 ⊢
        exact h1
      · rcases List.mem_append.1 hr with hr | hr
        · exact hN.keep (hN.rk r hr) st3
        · rw [List.mem_singleton.1 hr]; exact GL
end Go.Proofs.YtmjgljdmjpabdaaGreatDoor.Fi
