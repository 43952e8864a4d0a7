/- The parts of the proof, part 27. -/
import Derived.Test.YtmjgljdmjpabdaaGreatDoorP0
import Derived.Test.YtmjgljdmjpabdaaGreatDoorP3
import Derived.Test.YtmjgljdmjpabdaaGreatDoorP10
import Derived.Test.YtmjgljdmjpabdaaGreatDoorP19
import Derived.Deep.DeepCutAuto
set_option linter.unusedSimpArgs false
set_option linter.unusedVariables false
namespace Go.Proofs.YtmjgljdmjpabdaaGreatDoor.G
open Go.RowKit Go.Maps
set_option maxHeartbeats 4000000 in
set_option maxRecDepth 20000 in
theorem l_Looked (A : Option Addr) (g : List It) (c : Nat) (s : ByteArray) (du : Int) (w : World) (hl : g.length ≤ 100000) (hc : g.length ≤ c) (hcm : c ≤ maxLen) (hR : Rd It.cs 4 w A g) (hW : ∀ x ∈ g, IW x) (hs : s.size ≤ maxLen) :
    Calls Tryz.prog 252 #[.slice A g.length c, .string s, .int .i64 du] w fun e w' => ∃ A' c', e = .returned (.tuple #[.slice A' (lkL g s du).length c', .int .i64 (lkE g s du)]) ∧ Rd It.cs 4 w' A' (lkL g s du) ∧ (lkL g s du).length ≤ c' ∧ c' ≤ maxLen ∧ (∀ a, A' = some a → w.heap.size ≤ a.block) ∧ Below w.heap.size w w' := by
  have H1 := Lib.hid (fun b (h : vldG g = b) => calls_bool h (p_Valid A g c w hl hR hW))
  have H2 := Lib.hid (fun W (h : Below w.heap.size w W) => p_byMark A g c W hl (hR.on h) hW)
  have hkey := keyS hs
  cases h : vldG g
  · have HE := Lib.hid (show lkE g s du = 1 by unfold lkE; rw [if_neg (by simp [h])])
    have HL := Lib.hid (show lkL g s du = [] by unfold lkL; rw [HE.out]; rfl)
    go_enter Tryz.func252, Tryz.ntmps252
    go_wp2_with (go_at_call 74; ((with_reducible refine (H1.out _ h).mono ?_); rintro e w1 ⟨rfl, hb1⟩; obtain ⟨hc1, hf1⟩ := bcell hb1; have hz1 := hb1.size; (try simp [sz_drew, sz_drewN] at hz1); (try simp only [sz_drew, sz_drewN] at hc1 hf1)))
    go_ret2
    exact ⟨none, 0, by rw [HE.out, HL.out]; rfl, by rw [HL.out]; exact fun h => absurd rfl h, by rw [HL.out]; exact Nat.le_refl _, Nat.zero_le _, fun a ha => (by cases ha), by (repeat' (first | assumption | exact below_refl _ | refine bl_alloc ?_ _ | refine Below.setCell ?_ ?_ _ | refine below_draw ?_ | refine below_drewN ?_ _ | refine below_tr ?_ (by assumption))) <;> (first | omega | (simp; done) | (simp; omega))⟩
  cases h2 : wn du 0 100000
  · have HE := Lib.hid (show lkE g s du = 7 by unfold lkE; rw [if_pos h, if_neg (by simp [h2])])
    have HL := Lib.hid (show lkL g s du = [] by unfold lkL; rw [HE.out]; rfl)
    have Q := Lib.hid (p_isDayV h2)
    go_enter Tryz.func252, Tryz.ntmps252
    go_wp2_with (first | (go_at_call 74; ((with_reducible refine (H1.out _ h).mono ?_); rintro e w1 ⟨rfl, hb1⟩; obtain ⟨hc1, hf1⟩ := bcell hb1; have hz1 := hb1.size; (try simp [sz_drew, sz_drewN] at hz1); (try simp only [sz_drew, sz_drewN] at hc1 hf1))) | (go_at_call 107; ((with_reducible refine (Q.out _).mono ?_); rintro e w' ⟨rfl, rfl⟩)))
    go_ret2
    exact ⟨none, 0, by rw [HE.out, HL.out]; rfl, by rw [HL.out]; exact fun h => absurd rfl h, by rw [HL.out]; exact Nat.le_refl _, Nat.zero_le _, fun a ha => (by cases ha), by (repeat' (first | assumption | exact below_refl _ | refine bl_alloc ?_ _ | refine Below.setCell ?_ ?_ _ | refine below_draw ?_ | refine below_drewN ?_ _ | refine below_tr ?_ (by assumption))) <;> (first | omega | (simp; done) | (simp; omega))⟩
  have Q := Lib.hid (p_isDayV h2)
  obtain ⟨f1, f2⟩ := fnd_bd g s
  have HH := mkD_has g s g.length (Nat.le_refl _)
  have HA := mkD_at (vldG_dst h) s g.length (Nat.le_refl _)
  by_cases h3 : 0 ≤ fndI g s
  rotate_left
  · have HE := Lib.hid (show lkE g s du = 5 by unfold lkE; rw [if_pos h, if_pos h2, if_neg h3])
    have HL := Lib.hid (show lkL g s du = [] by unfold lkL; rw [HE.out]; rfl)
    rw [decide_eq_false (by omega)] at HH
    have HHH := Lib.hid HH
    clear HH HA h3
    go_enter Tryz.func252, Tryz.ntmps252
    go_wp2_with (first
      | (go_at_call 74; ((with_reducible refine (H1.out _ h).mono ?_); rintro e w1 ⟨rfl, hb1⟩; obtain ⟨hc1, hf1⟩ := bcell hb1; have hz1 := hb1.size; (try simp [sz_drew, sz_drewN] at hz1); (try simp only [sz_drew, sz_drewN] at hc1 hf1)))
      | (go_at_call 107; ((with_reducible refine (Q.out _).mono ?_); rintro e w' ⟨rfl, rfl⟩))
      | (go_at_call 108; refine (H2.out _ hb1).mono ?_; rintro e w2 ⟨rfl, hown, hb2⟩)
      | (at_lookup; refine wpList_lookup_own_ok_int _ rfl _ _ 196 rfl 9 3 .i64 lawS und_map und_int (zeroN _) _ g.length _ rfl hown _ _ rfl hkey ?_; intro cc hat hwc; rw [HHH.out]))
    go_ret2
    exact ⟨none, 0, by rw [HE.out, HL.out]; rfl, by rw [HL.out]; exact fun h => absurd rfl h, by rw [HL.out]; exact Nat.le_refl _, Nat.zero_le _, fun a ha => (by cases ha), by (repeat' (first | assumption | exact below_refl _ | refine bl_alloc ?_ _ | refine Below.setCell ?_ ?_ _ | refine below_draw ?_ | refine below_drewN ?_ _ | refine below_tr ?_ (by assumption))) <;> (first | omega | (simp; done) | (simp; omega))⟩
  have HE := Lib.hid (show lkE g s du = 0 by unfold lkE; rw [if_pos h, if_pos h2, if_pos h3])
  have HL := Lib.hid (show lkL g s du = setDu g (fndI g s).toNat du by unfold lkL; rw [if_pos HE.out])
  have hg64 := vldG_len h
  rw [decide_eq_true (by omega)] at HH
  rw [if_pos (by omega)] at HA
  obtain ⟨k, hk⟩ := Int.eq_ofNat_of_zero_le h3
  rw [hk] at HL f2 HA
  have hkl : k < g.length := by omega
  obtain ⟨b, off, rfl, hb⟩ : ∃ b off, A = some ⟨b, off, none⟩ ∧ b < w.heap.size := by
    obtain ⟨x, b, off, _, e, hb, _⟩ := rdI hR hkl
    exact ⟨b, off, e, hb⟩
  have HHH := Lib.hid HH
  have HAA := Lib.hid HA
  have HR := Lib.hid (fun W (h : Below w.heap.size w W) => hR.on h)
  obtain ⟨i0, hi, hi1, hi2, hi3⟩ := info_item
  have k0 : (0 : Int) ≤ (k : Int) := by omega
  have k1 : (k : Int) < (g.length : Int) := by omega
  have k2 : (k : Int) ≤ (c : Int) := by omega
  obtain ⟨m, hm⟩ : ∃ m, m = k + 1 := ⟨_, rfl⟩
  have e1 : IntKind.i64.wrap ((k : Int) + 1) = (m : Int) := by rw [fits_wrap ⟨by omega, by omega⟩]; omega
  have m0 : (0 : Int) ≤ (m : Int) := by omega
  have m1 : (m : Int) ≤ (g.length : Int) := by omega
  have HM1 := Lib.hid hm
  clear hm
  unfold maxLen at hcm
  have HO1 := Lib.hid (show ∀ u ∈ fl It.cs (g.drop m), u.oneCell' = true by
    intro u hu
    simp only [fl, List.mem_flatMap] at hu
    obtain ⟨y, _, hy⟩ := hu
    simp only [It.cs, List.mem_cons, List.not_mem_nil, or_false] at hy
    rcases hy with rfl | rfl | rfl | rfl <;> rfl)
  clear h3 hk HH HA
  go_enter Tryz.func252, Tryz.ntmps252
  go_wp2_with (first
    | (go_at_call 74; ((with_reducible refine (H1.out _ h).mono ?_); rintro e w1 ⟨rfl, hb1⟩; obtain ⟨hc1, hf1⟩ := bcell hb1; have hz1 := hb1.size; (try simp [sz_drew, sz_drewN] at hz1); (try simp only [sz_drew, sz_drewN] at hc1 hf1)))
    | (go_at_call 107; ((with_reducible refine (Q.out _).mono ?_); rintro e w' ⟨rfl, rfl⟩))
    | (go_at_call 108; refine (H2.out _ hb1).mono ?_; rintro e w2 ⟨rfl, hown, hb2⟩; have B2 := below_tr hb1 hb2; obtain ⟨x, b', off', hx, e9, _, c0, c1, c2, c3⟩ := rdI (HR.out _ B2) hkl; cases e9; have HX := Lib.hid hx; clear hx; have hbw : b < w2.heap.size := (by have := B2.size; omega); have hbne : b ≠ w2.heap.size := (by omega))
    | (at_lookup; refine wpList_lookup_own_ok_int _ rfl _ _ 196 rfl 9 3 .i64 lawS und_map und_int (zeroN _) _ g.length _ rfl hown _ _ rfl hkey ?_; intro cc hat hwc; rw [HHH.out]; rw [HAA.out] at hat; obtain rfl : (k : Int) = cc := by (cases hat; rfl)))
  refine wp_world ?_
  intro W hW
  have bW : Below w.heap.size w W := by rw [hW]; (repeat' (first | assumption | exact below_refl _ | refine bl_alloc ?_ _ | refine Below.setCell ?_ ?_ _ | refine below_draw ?_ | refine below_drewN ?_ _ | refine below_tr ?_ (by assumption))) <;> (first | omega | (simp; done) | (simp; omega))
  have gW_0 : w2.heap.size < W.heap.size := by rw [hW]; (first | assumption | (simp; done) | (simp; omega))
  have gW_0_0 : W.cell? ⟨w2.heap.size, 0, none⟩ = some (.string x.nm) := by rw [hW]; go_simp
  have gW_0_1 : W.cell? ⟨w2.heap.size, 1, none⟩ = some (.int .i64 x.ld) := by rw [hW]; go_simp
  have gW_0_2 : W.cell? ⟨w2.heap.size, 2, none⟩ = some (.int .i64 du) := by rw [hW]; go_simp
  have gW_0_3 : W.cell? ⟨w2.heap.size, 3, none⟩ = some (.string x.bt) := by rw [hW]; go_simp
  clear hW
  have BW : Below w.heap.size w W := by (repeat' (first | assumption | exact below_refl _ | refine bl_alloc ?_ _ | refine Below.setCell ?_ ?_ _ | refine below_draw ?_ | refine below_drewN ?_ _ | refine below_tr ?_ (by assumption))) <;> (first | omega | (simp; done) | (simp; omega))
  have HGT := Lib.hid (fun V (h : Below W.heap.size W V) => rd_fl It.cs_len (rdI_take ((HR.out _ BW).on h) k))
  clear c0 c1 c2 c3 hown
  have HGD := Lib.hid (fun V (h : Below W.heap.size W V) => rd_fl It.cs_len (rdI_drop ((HR.out _ BW).on h) m))
  have zW : w.heap.size ≤ W.heap.size := BW.size
  by_cases hcm2 : c = m
  · subst hcm2
    have hgc : g.length = c := by omega
    go_region_held3 (fun w' => (∀ b o, b < W.heap.size → w'.cell? ⟨b, o, none⟩ = W.cell? ⟨b, o, none⟩) ∧ (∀ b o, b < W.heap.size → w'.frozen? ⟨b, o, none⟩ = W.frozen? ⟨b, o, none⟩) ∧ Below W.heap.size W w') ((first | assumption | (refine kp_of ?_; (repeat' (first | assumption | exact below_refl _ | refine bl_alloc ?_ _ | refine Below.setCell ?_ ?_ _ | refine below_draw ?_ | refine below_drewN ?_ _ | refine below_tr ?_ (by assumption))) <;> (first | omega | (simp; done) | (simp; omega))))) ((first
          | (refine step_append_grows _ (by rfl) _ _ _ (by rfl) 71 i0 _ 4 48 Tryz.underlying26 hi hi1 hi2 hi3 rfl (by omega) ⟨b, off, none⟩ k k (fl It.cs (g.take k)) (by rfl) (by rw [fl_length It.cs_len]; simp; omega) (HGT.out _ (by (repeat' (first | assumption | exact below_refl _ | refine bl_alloc ?_ _ | refine Below.setCell ?_ ?_ _ | refine below_draw ?_ | refine below_drewN ?_ _ | refine below_tr ?_ (by assumption))) <;> (first | omega | (simp; done) | (simp; omega)))) ⟨W.heap.size, 0, none⟩ 1 1 (It.cs ⟨x.nm, x.ld, du, x.bt⟩) (by rfl) (by rfl) (cells_new _ _ _) (by omega) (by unfold maxLen; omega) (by omega) ?_; intro v4 w4 hown4 hgrow4; have B4 : Below W.heap.size W w4 := bl_grown (by (repeat' (first | assumption | exact below_refl _ | refine bl_alloc ?_ _ | refine Below.setCell ?_ ?_ _ | refine below_draw ?_ | refine below_drewN ?_ _ | refine below_tr ?_ (by assumption))) <;> (first | omega | (simp; done) | (simp; omega))) hgrow4 (fun r h => by cases h) (by simp))
          | ((refine step_append_own _ (by rfl) _ _ _ (by rfl) W.heap.size 71 i0 _ 4 48 Tryz.underlying26 hi hi1 hi2 hi3 rfl (by omega) _ (k + 1) (fl It.cs (g.take k) ++ It.cs ⟨x.nm, x.ld, du, x.bt⟩) (by rfl) (own_base hown4 (by simp)) ⟨b, off, none⟩ _ _ [] (by rfl) (by first | (simp; done) | (simp; omega)) (fun j u hu => by simp at hu) (fun u hu => by cases hu) (by unfold maxLen; omega) (by omega) B4.size ?_; intro v5 w5 hown5 hgrow5; have B5 : Below W.heap.size W w5 := bl_grown B4 hgrow5 (fun r h => (own_ge hown4 r h).1 |> Nat.le_trans (by simp)) (by have := B4.size; omega)))
          ))
    go_wp2
    go_ret2
    have hown6 : w5.ownsRow W.heap.size 71 4 v5 (setDu g k du).length (fl It.cs (setDu g k du)) := by
      have e1 : setDu g k du = g.take k ++ [⟨x.nm, x.ld, du, x.bt⟩] ++ g.drop c := by
        unfold setDu
        rw [itAt_of HX.out, List.set_eq_take_append_cons_drop, if_pos hkl, HM1.out]; simp
      have e2 : (setDu g k du).length = k + 1 + (g.length - c) := by
        have := HM1.out
        unfold setDu; rw [List.length_set]; omega
      rw [e2, e1]
      simp only [fl, List.flatMap_append, List.flatMap_cons, List.flatMap_nil, List.append_nil] at hown5 ⊢
      have e3 : g.drop c = [] := List.drop_eq_nil_of_le (by omega)
      rw [e3, show g.length - c = 0 by omega]
      simp only [fl, List.flatMap_nil, List.append_nil] at hown5 ⊢
      exact hown5
    obtain ⟨A', c', e, hr, hc1', hc2'⟩ := own_rdc It.cs_len hown6
    have hkk : ((k : Int)).toNat = k := by omega
    exact ⟨A', c', by rw [HE.out, HL.out, hkk, ← e]; rfl, by rw [HL.out, hkk]; exact hr, by rw [HL.out, hkk]; exact hc1', hc2', fun a ha => Nat.le_trans zW (own_ge hown6 a.block (by rw [e, ha]; rfl)).1, below_tr BW B5⟩
  · have hcm3 := hcm2
    go_region_held3 (fun w' => (∀ b o, b < W.heap.size → w'.cell? ⟨b, o, none⟩ = W.cell? ⟨b, o, none⟩) ∧ (∀ b o, b < W.heap.size → w'.frozen? ⟨b, o, none⟩ = W.frozen? ⟨b, o, none⟩) ∧ Below W.heap.size W w') ((first | assumption | (refine kp_of ?_; (repeat' (first | assumption | exact below_refl _ | refine bl_alloc ?_ _ | refine Below.setCell ?_ ?_ _ | refine below_draw ?_ | refine below_drewN ?_ _ | refine below_tr ?_ (by assumption))) <;> (first | omega | (simp; done) | (simp; omega))))) ((first
          | (refine step_append_grows _ (by rfl) _ _ _ (by rfl) 71 i0 _ 4 48 Tryz.underlying26 hi hi1 hi2 hi3 rfl (by omega) ⟨b, off, none⟩ k k (fl It.cs (g.take k)) (by rfl) (by rw [fl_length It.cs_len]; simp; omega) (HGT.out _ (by (repeat' (first | assumption | exact below_refl _ | refine bl_alloc ?_ _ | refine Below.setCell ?_ ?_ _ | refine below_draw ?_ | refine below_drewN ?_ _ | refine below_tr ?_ (by assumption))) <;> (first | omega | (simp; done) | (simp; omega)))) ⟨W.heap.size, 0, none⟩ 1 1 (It.cs ⟨x.nm, x.ld, du, x.bt⟩) (by rfl) (by rfl) (cells_new _ _ _) (by omega) (by unfold maxLen; omega) (by omega) ?_; intro v4 w4 hown4 hgrow4; have B4 : Below W.heap.size W w4 := bl_grown (by (repeat' (first | assumption | exact below_refl _ | refine bl_alloc ?_ _ | refine Below.setCell ?_ ?_ _ | refine below_draw ?_ | refine below_drewN ?_ _ | refine below_tr ?_ (by assumption))) <;> (first | omega | (simp; done) | (simp; omega))) hgrow4 (fun r h => by cases h) (by simp))
          | ((refine step_append_own _ (by rfl) _ _ _ (by rfl) W.heap.size 71 i0 _ 4 48 Tryz.underlying26 hi hi1 hi2 hi3 rfl (by omega) _ (k + 1) (fl It.cs (g.take k) ++ It.cs ⟨x.nm, x.ld, du, x.bt⟩) (by rfl) (own_base hown4 (by simp)) ⟨b, off + m * 4, none⟩ (g.length - m) (c - m) (fl It.cs (g.drop m)) (by rfl) (by rw [fl_length It.cs_len]; simp) (HGD.out _ B4) (fun u hu => HO1.out u hu) (by unfold maxLen; omega) (by omega) B4.size ?_; intro v5 w5 hown5 hgrow5; have B5 : Below W.heap.size W w5 := bl_grown B4 hgrow5 (fun r h => (own_ge hown4 r h).1 |> Nat.le_trans (by simp)) (by have := B4.size; omega)))
          ))
    go_wp2
    go_ret2
    have hown6 : w5.ownsRow W.heap.size 71 4 v5 (setDu g k du).length (fl It.cs (setDu g k du)) := by
      have e1 : setDu g k du = g.take k ++ [⟨x.nm, x.ld, du, x.bt⟩] ++ g.drop m := by
        unfold setDu
        rw [itAt_of HX.out, List.set_eq_take_append_cons_drop, if_pos hkl, HM1.out]; simp
      have e2 : (setDu g k du).length = k + 1 + (g.length - m) := by
        have := HM1.out
        unfold setDu; rw [List.length_set]; omega
      rw [e2, e1]
      simp only [fl, List.flatMap_append, List.flatMap_cons, List.flatMap_nil, List.append_nil] at hown5 ⊢
      exact hown5
    obtain ⟨A', c', e, hr, hc1', hc2'⟩ := own_rdc It.cs_len hown6
    have hkk : ((k : Int)).toNat = k := by omega
    exact ⟨A', c', by rw [HE.out, HL.out, hkk, ← e]; rfl, by rw [HL.out, hkk]; exact hr, by rw [HL.out, hkk]; exact hc1', hc2', fun a ha => Nat.le_trans zW (own_ge hown6 a.block (by rw [e, ha]; rfl)).1, below_tr BW B5⟩
end Go.Proofs.YtmjgljdmjpabdaaGreatDoor.G
set_option linter.unusedSimpArgs false
set_option linter.unusedVariables false
namespace Go.Proofs.YtmjgljdmjpabdaaGreatDoor.Fi
open Go.RowKit Go.Lib Tx
set_option maxHeartbeats 4000000 in
set_option maxRecDepth 20000 in
theorem d_look (m : ByteArray) (T : Nat → Prop) (nb sb rb : Nat) (L : LS) (w : World) (hN : Nxt T nb sb rb w L) (hI : Inv L.val) (hms : m.size ≤ 1000000) :
    Calls Tryz.prog 250 #[.agg #[.string m], .pointer (some ⟨nb, 0, none⟩)] w (DeedP (.look m) T nb sb rb L w) := by
  have x0 := Blk.new w 160 #[.string m]
  have B0 := bl_alloc (below_refl w) (.cells #[.string m] 160)
  have b0 := x0.cell 0
  simp only [List.getElem?_toArray, List.getElem?_cons_zero, List.getElem?_cons_succ] at b0
  have hN0 := hN.on B0
  have lnb := hN0.lt
  have lw := x0.lt
  have hfn := hN0.blk.frozen
  have dd0 : 0 ≤ L.day := hI.d0
  have dd1 : L.day ≤ 100000 := hI.d1
  have hit : G.vldG L.items.l = true := hI.it
  have hiw : ∀ x ∈ L.items.l, G.IW x := hI.iw
  have hil : L.items.l.length ≤ 100000 := by have := G.vldG_len hit; omega
  have hcap := hN0.items.lc
  have hcm := hN0.items.cm
  obtain ⟨D, hD⟩ : ∃ D, D = min (L.day + 180) 100000 := ⟨_, rfl⟩
  have hw1 : IntKind.i64.wrap (L.day + 180) = L.day + 180 := fits_wrap ⟨by omega, by omega⟩
  have HX2 := Lib.hid (show deed (.look m) L.val = if G.lkE L.items.l m D ≠ 0 then .error (G.lkE L.items.l m D) else .ok { L.val with items := G.lkL L.items.l m D } by rw [hD]; rfl)
  have c17 : (w.alloc (.cells #[.string m] 160)).cell? ⟨nb, 17, none⟩ = some (.int .i64 L.day) := hN0.cel 17 _ rfl
  have c21 : (w.alloc (.cells #[.string m] 160)).cell? ⟨nb, 21, none⟩ = some (.slice L.items.a L.items.l.length L.items.c) := hN0.cel 21 _ rfl
  go_enter Tryz.func250, Tryz.ntmps250
  go_upto_region 1 with fail
  generalize (w.alloc (.cells #[.string m] 160)) = w1 at *
  have HLK := Lib.hid (fun w' (h : Below w1.heap.size w1 w') => G.l_Looked L.items.a L.items.l L.items.c m D w' hil hcap hcm ((hN0.on h).items.rd) hiw (by unfold maxLen; omega))
  have HN0 := Lib.hid hN0
  clear hI hN0 hit hiw hcap hcm
  have HMN := Lib.hid hD
  clear hD
  refine wp_region_noPanic ?_
  refine wp_region_held_drew (S := (fun w' => (∀ b o, b < w1.heap.size → w'.cell? ⟨b, o, none⟩ = w1.cell? ⟨b, o, none⟩) ∧ (∀ b o, b < w1.heap.size → w'.frozen? ⟨b, o, none⟩ = w1.frozen? ⟨b, o, none⟩) ∧ Below w1.heap.size w1 w')) (by kernel_rfl) (kq_draw kq_refl) (fun hS0 => ?_)
  refine tk 0 7 ?gv1 rfl (by kernel_rfl) (fun _ _ _ h => h) ?gy1 (by assumption) ?_
  case gy1 => (intro w' hSw; go_simp; try with_reducible rfl)
  try simp only [AP]
  refine tk 1 8 ?gv2 rfl (by kernel_rfl) (fun _ _ _ h => h) ?gy2 (by assumption) ?_
  case gy2 => (intro w' hSw; go_simp; try with_reducible rfl)
  try simp only [AP]
  refine tk 2 9 ?gv3 rfl (by kernel_rfl) (fun _ _ _ h => h) ?gy3 (by assumption) ?_
  case gy3 => (intro w' hSw; go_simp; try with_reducible rfl)
  try simp only [AP]
  refine tk 3 10 ?gv4 rfl (by kernel_rfl) (fun _ _ _ h => h) ?gy4 (by assumption) ?_
  case gy4 => (intro w' hSw; go_simp; try with_reducible rfl)
  try simp only [AP]
  refine tk 4 11 ?gv5 rfl (by kernel_rfl) (fun _ _ _ h => h) ?gy5 (by assumption) ?_
  case gy5 => (intro w' hSw; go_simp; try with_reducible rfl)
  try simp only [AP]
  refine tk 5 12 ?gv6 rfl (by kernel_rfl) (fun _ _ _ h => h) ?gy6 (by assumption) ?_
  case gy6 => (intro w' hSw; go_simp; try with_reducible rfl)
  try simp only [AP]
  refine tk 6 13 ?gv7 rfl (by kernel_rfl) (fun _ _ _ h => h) ?gy7 (by assumption) ?_
  case gy7 => (intro w' hSw; go_simp; try with_reducible rfl)
  try simp only [AP]
  refine tk 7 14 ?gv8 rfl (by kernel_rfl) (fun _ _ _ h => h) ?gy8 (by assumption) ?_
  case gy8 => (intro w' hSw; go_simp; try with_reducible rfl)
  try simp only [AP]
  refine tk 8 15 ?gv9 rfl (by kernel_rfl) (fun _ _ _ h => h) ?gy9 (by assumption) ?_
  case gy9 => (intro w' hSw; go_simp; try with_reducible rfl)
  try simp only [AP]
  refine tk 9 16 ?gv10 rfl (by kernel_rfl) (fun _ _ _ h => h) ?gy10 (by assumption) ?_
  case gy10 => (intro w' hSw; go_simp; try with_reducible rfl)
  try simp only [AP]
  refine tk 10 17 ?gv11 rfl (by kernel_rfl) (fun _ _ _ h => h) ?gy11 (by assumption) ?_
  case gy11 => (intro w' hSw; go_simp; try with_reducible rfl)
  try simp only [AP]
  refine tk 11 18 ?gv12 rfl (by kernel_rfl) (fun _ _ _ h => h) ?gy12 (by assumption) ?_
  case gy12 => (intro w' hSw; go_simp; try with_reducible rfl)
  try simp only [AP]
  refine wpAnyH_ready (rs := [12]) (by kernel_rfl) (by simp) ?_
  refine AllReadyH.cons rfl (fun K hK => ?_) AllReadyH.nil
  go_simp
  (go_at_call 252; (first | rw [show min (L.day + 180) 100000 = D from HMN.out.symm] | skip); ((with_reducible refine (HLK.out _ (by (repeat' (first | assumption | exact below_refl _ | refine bl_alloc ?_ _ | refine Below.setCell ?_ ?_ _ | refine below_draw ?_ | refine below_drewN ?_ _ | refine below_tr ?_ (by assumption))) <;> (first | omega | (simp; done) | (simp; omega)))).mono ?_); rintro e w3 ⟨A3, c3, rfl, hR3, hl3, hm3, hf3', hb3⟩; obtain ⟨hc3, hf3⟩ := bcell hb3; have hz3 := hb3.size; (try simp [sz_drew, sz_drewN] at hz3); (try simp only [sz_drew, sz_drewN] at hc3 hf3)))
  refine hK.out _ _ (by ((show Kq w1 _); (repeat' (first | assumption | exact kq_refl | refine kq_draw ?_ | refine kq_drewN ?_ | refine kq_alloc ?_ | refine kq_set ?_ ?_ | refine kq_step ?_ (by assumption))); (all_goals (first | omega | (simp; omega))))) (fun hS1 => ?_)
  clear hK K
  try simp only [AP]
  refine tk 13 6 ?gv13 rfl (by kernel_rfl) (fun _ _ _ h => h) ?gy13 (by assumption) ?_
  case gy13 => (intro w' hSw; go_simp; try with_reducible rfl)
  try simp only [AP]
  refine tk 14 20 ?gv14 rfl (by kernel_rfl) (fun _ _ _ h => h) ?gy14 (by assumption) ?_
  case gy14 => (intro w' hSw; go_simp; try with_reducible rfl)
  try simp only [AP]
  refine tk 15 21 ?gv15 rfl (by kernel_rfl) (fun _ _ _ h => h) ?gy15 (by assumption) ?_
  case gy15 => (intro w' hSw; go_simp; try with_reducible rfl)
  try simp only [AP]
  refine tk 16 4 ?gv16 rfl (by kernel_rfl) (fun _ _ _ h => h) ?gy16 (by assumption) ?_
  case gy16 => (intro w' hSw; go_simp; try with_reducible rfl)
  try simp only [AP]
  refine tk 17 5 ?gv17 rfl (by kernel_rfl) (fun _ _ _ h => h) ?gy17 (by assumption) ?_
  case gy17 => (intro w' hSw; go_simp; try with_reducible rfl)
  try simp only [AP]
  refine wpAnyH_done (by kernel_rfl) (NoPanic.normal ?_) _
  by_cases hz : G.lkE L.items.l m D = 0
  rotate_left
  · have HNZ := Lib.hid hz
    have HX := Lib.hid (show deed (.look m) L.val = .error (G.lkE L.items.l m D) by rw [HX2.out, if_pos hz])
    clear hz
    generalize G.lkE L.items.l m D = ER at *
    go_wp2_with (go_at_call 246; ((with_reducible refine (f_passed_no _ HNZ.out _).mono ?_); rintro e w' ⟨rfl, rfl⟩))
    exact ⟨rfl, deed_err HX.out (by (repeat' (first | assumption | exact below_refl _ | refine bl_alloc ?_ _ | refine Below.setCell ?_ ?_ _ | refine below_draw ?_ | refine below_drewN ?_ _ | refine below_tr ?_ (by assumption))) <;> (first | omega | (simp; done) | (simp; omega)))⟩
  have HX := Lib.hid (show deed (.look m) L.val = .ok { L.val with items := G.lkL L.items.l m D } by rw [HX2.out, if_neg (by rw [hz]; simp)])
  rw [hz]
  have B3 : Below w1.heap.size w1 w3 := by (repeat' (first | assumption | exact below_refl _ | refine bl_alloc ?_ _ | refine Below.setCell ?_ ?_ _ | refine below_draw ?_ | refine below_drewN ?_ _ | refine below_tr ?_ (by assumption))) <;> (first | omega | (simp; done) | (simp; omega))
  obtain ⟨hcx, hfx⟩ := bcell B3
  have q21 := (hcx nb 21 lnb).trans c21
  have qf := (hfx nb 21 lnb).trans (hfn 21)
  go_wp2_with (go_at_call 246; ((with_reducible refine (f_passed_ok _).mono ?_); rintro e w' ⟨rfl, rfl⟩))
  go_end0
  have st := nb_step (nb := nb) (below_tr B0 B3) 21 (.slice A3 (G.lkL L.items.l m D).length c3)
  have K := hN.kept st
  have hG5 : Got (fun b => w.heap.size ≤ b) w3 G.It.cs 4 ⟨A3, G.lkL L.items.l m D, c3⟩ := ⟨hR3, fun hne a ha => (by have h := hf3' a ha; have := B0.size; (try simp only [sz_drew, sz_drewN] at h); show w.heap.size ≤ a.block; omega), hl3, hm3⟩
  have hG6 := got_new (T := T) (sb := sb) (rb := rb) hG5 hN.lt (Stp.setCell (N := fun b => b = nb) (p := ⟨nb, 21, none⟩) (Stp.refl _ w3) (.inl rfl) (.slice A3 (G.lkL L.items.l m D).length c3))
  exact deed_ok (L' := { L with items := ⟨A3, G.lkL L.items.l m D, c3⟩ }) HX.out rfl ⟨(HN0.out.blk.below B3 lnb).set_ 21 (.slice A3 (G.lkL L.items.l m D).length c3), ⟨K.su, K.gusts, K.rigs, K.rk, K.sites, K.sk, hG6, K.back⟩, K.stp, rfl, rfl⟩
end Go.Proofs.YtmjgljdmjpabdaaGreatDoor.Fi
set_option linter.unusedSimpArgs false
set_option linter.unusedVariables false
namespace Go.Proofs.YtmjgljdmjpabdaaGreatDoor.Fi
open Go.RowKit Go.Lib Tx
theorem rdRg {w : World} {A : Option Addr} {l : List LRg} (h : Rd LRg.cs 2 w A l) {k : Nat} (hk : k < l.length) :
    ∃ x b off, l[k]? = some x ∧ A = some ⟨b, off, none⟩ ∧ b < w.heap.size ∧ w.cell? ⟨b, off + k * 2, none⟩ = some (.int .i64 x.st) ∧ w.cell? ⟨b, off + k * 2 + 1, none⟩ = some (.slice x.lk.a x.lk.l.length x.lk.c) := by
  obtain ⟨x, hx⟩ := get_lt hk
  obtain ⟨b, off, e, hb, hc⟩ := h.get hx
  exact ⟨x, b, off, hx, e, hb, hc 0 _ rfl, hc 1 _ rfl⟩
section
open G
theorem c_indexRg (A : Option Addr) (l : List (LRg)) (c : Nat) (p : LRg → Bool) (f : FuncId) (cap : Array Value) (w : World) (hl : l.length ≤ 100000) (hR : Rd LRg.cs 2 w A l)
    (he : ∀ args W, (callFunc f args).run Tryz.prog W = .ok (.enter f args) W)
    (hf : ∀ W x, Below w.heap.size w W → x ∈ l → Calls Tryz.prog f (#[.agg #[.int .i64 x.st, .slice x.lk.a x.lk.l.length x.lk.c]] ++ cap) W fun e W' => e = .returned (.bool (p x)) ∧ Below W.heap.size W W') :
    Calls Tryz.prog 248 #[.slice A l.length c, .func (.func f) #[] cap] w fun e w' => e = .returned (.int .i64 (idxOf p l 0)) ∧ Below w.heap.size w w' := by
  have HF := Lib.hid hf
  clear hf
  go_enter Tryz.func248, Tryz.ntmps248
  go_wp2
  go_loopw [8] (fun i wr => ∃ k : Nat, k ≤ l.length ∧ i = .int .i64 k ∧ Below w.heap.size w wr ∧ Hid (idxOf p l 0 = idxOf p (l.drop k) k)) (fun i _ => l.length - (RowKit.intOf i).toNat)
  case atStart => exact ⟨0, by omega, rfl, Below.refl _ _, rfl⟩
  case round =>
    obtain ⟨k, hk, rfl, hB, HI⟩ := hrel
    by_cases hlt : k < l.length
    · obtain ⟨x, b, off, hx, rfl, hb, c0, c1⟩ := rdRg (hR.on hB) hlt
      have HD := Lib.hid (idxOf_drop p l k x hx)
      have hm := List.mem_of_getElem? hx
      have HC := Lib.hid (HF.out wr x hB hm)
      clear hx hm
      cases hp : p x
      all_goals
        have HP := Lib.hid hp
        clear hp
        go_wp2_with fail
        refine HC.out.mono ?_
        rintro e w1 ⟨rfl, hb1⟩
        rw [HP.out]
        go_wp2
      · go_roundw
        case rel => exact ⟨k + 1, by omega, by go_num, hB.trans (hb1.mono hB.size), by rw [HI.out, HD.out, HP.out]; rfl⟩
        case measure => simp [RowKit.intOf]; omega
      · go_ret
        exact ⟨ret_int (by rw [HI.out, HD.out, HP.out]; rfl), hB.trans (hb1.mono hB.size)⟩
    · go_wp2
      go_ret
      exact ⟨ret_int (by rw [HI.out, List.drop_of_length_le (by omega)]; rfl), hB⟩
theorem c_containsRg (A : Option Addr) (l : List (LRg)) (c : Nat) (p : LRg → Bool) (f : FuncId) (cap : Array Value) (w : World) (hl : l.length ≤ 100000) (hR : Rd LRg.cs 2 w A l)
    (he : ∀ args W, (callFunc f args).run Tryz.prog W = .ok (.enter f args) W)
    (hf : ∀ W x, Below w.heap.size w W → x ∈ l → Calls Tryz.prog f (#[.agg #[.int .i64 x.st, .slice x.lk.a x.lk.l.length x.lk.c]] ++ cap) W fun e W' => e = .returned (.bool (p x)) ∧ Below W.heap.size W W') :
    Calls Tryz.prog 241 #[.slice A l.length c, .func (.func f) #[] cap] w fun e w' => e = .returned (.bool (l.any p)) ∧ Below w.heap.size w w' := by
  have HC := Lib.hid (c_indexRg A l c p f cap w hl hR he hf)
  have HA := Lib.hid (idxOf_nonneg p l 0)
  clear he hf hR
  go_enter Tryz.func241, Tryz.ntmps241
  go_wp2_with (go_at_call 248; refine HC.out.mono ?_; rintro e w' ⟨rfl, hb⟩)
  go_ret
  exact ⟨ret_bool (by rw [Bool.eq_iff_iff, ← HA.out]; simp), hb⟩
end
theorem f_cut1 (x : LRg) (i : Int) (cb : Nat) (w : World) (hc : w.cell? ⟨cb, 0, none⟩ = some (.int .i64 i)) :
    Calls Tryz.prog 295 #[.agg #[.int .i64 x.st, .slice x.lk.a x.lk.l.length x.lk.c], .pointer (some ⟨cb, 0, none⟩)] w fun e w' => e = .returned (.bool (decide (x.st = i) && decide (0 < x.lk.l.length))) ∧ Below w.heap.size w w' := by
  have hb : cb < w.heap.size := World.block_lt_of_cell? w ⟨cb, 0, none⟩ hc
  have hne : cb ≠ w.heap.size := by omega
  by_cases h1 : x.st = i
  · have g1 : (x.st == i) = true := by simpa using h1
    rw [decide_eq_true h1, Bool.true_and]
    clear h1
    generalize x.lk.l.length = n at *
    have g2 : decide (0 < (n : Int)) = decide (0 < n) := by simp
    go_enter Tryz.func295, Tryz.ntmps295
    go_wp2
    go_ret
    exact ⟨ret_bool (by first | rfl | exact g2 | simp), by (repeat' (first | assumption | exact below_refl _ | refine bl_alloc ?_ _ | refine Below.setCell ?_ ?_ _ | refine below_draw ?_ | refine below_drewN ?_ _ | refine below_tr ?_ (by assumption))) <;> (first | omega | (simp; done) | (simp; omega))⟩
  · have g1 : (x.st == i) = false := by simpa using h1
    rw [decide_eq_false h1, Bool.false_and]
    clear h1
    go_enter Tryz.func295, Tryz.ntmps295
    go_wp2
    go_ret
    exact ⟨rfl, by (repeat' (first | assumption | exact below_refl _ | refine bl_alloc ?_ _ | refine Below.setCell ?_ ?_ _ | refine below_draw ?_ | refine below_drewN ?_ _ | refine below_tr ?_ (by assumption))) <;> (first | omega | (simp; done) | (simp; omega))⟩
theorem f_rig11 (x : G.Lk) (m : ByteArray) (lb : Nat) (w : World) (hc : w.cell? ⟨lb, 0, none⟩ = some (.string m)) :
    Calls Tryz.prog 244 #[.agg #[.string x.nm, .int .i64 x.fr], .pointer (some ⟨lb, 0, none⟩)] w fun e w' => e = .returned (.bool (x.nm.toList == m.toList)) ∧ Below w.heap.size w w' := by
  have hb : lb < w.heap.size := World.block_lt_of_cell? w ⟨lb, 0, none⟩ hc
  have hne : lb ≠ w.heap.size := by omega
  go_enter Tryz.func244, Tryz.ntmps244
  go_wp2
  go_ret
  exact ⟨rfl, by (repeat' (first | assumption | exact below_refl _ | refine bl_alloc ?_ _ | refine Below.setCell ?_ ?_ _ | refine below_draw ?_ | refine below_drewN ?_ _ | refine below_tr ?_ (by assumption))) <;> (first | omega | (simp; done) | (simp; omega))⟩
theorem f_rig1 (x : LRg) (m : ByteArray) (lb : Nat) (w : World) (hc : w.cell? ⟨lb, 0, none⟩ = some (.string m)) (hl : x.lk.l.length ≤ 100000) (hR : Rd G.Lk.cs 2 w x.lk.a x.lk.l) :
    Calls Tryz.prog 242 #[.agg #[.int .i64 x.st, .slice x.lk.a x.lk.l.length x.lk.c], .pointer (some ⟨lb, 0, none⟩)] w fun e w' => e = .returned (.bool (x.lk.l.any fun k => k.nm.toList == m.toList)) ∧ Below w.heap.size w w' := by
  have hb : lb < w.heap.size := World.block_lt_of_cell? w ⟨lb, 0, none⟩ hc
  have HC := Lib.hid (fun W (h : Below w.heap.size w W) => G.c_containsL x.lk.a x.lk.l x.lk.c (fun k => k.nm.toList == m.toList) 244 #[.pointer (some ⟨lb, 0, none⟩)] W hl (hR.on h) (enters_of Tryz.func244 (by kernel_rfl) rfl)
    (fun V y hV _ => f_rig11 y m lb V (((bcell hV).1 lb 0 (Nat.lt_of_lt_of_le hb h.size)).trans (((bcell h).1 lb 0 hb).trans hc))))
  clear hR hc
  go_enter Tryz.func242, Tryz.ntmps242
  go_wp2_with (go_at_call 243; refine (HC.out _ (bl_alloc (below_refl _) _)).mono ?_; rintro e w1 ⟨rfl, hb1⟩)
  go_ret
  exact ⟨rfl, by (repeat' (first | assumption | exact below_refl _ | refine bl_alloc ?_ _ | refine Below.setCell ?_ ?_ _ | refine below_draw ?_ | refine below_drewN ?_ _ | refine below_tr ?_ (by assumption))) <;> (first | omega | (simp; done) | (simp; omega))⟩
theorem eqB_is (a b : ByteArray) : eqB a b = (a.toList == b.toList) := by
  unfold eqB
  rw [ByteArray.toList_eq, ByteArray.toList_eq, Bool.eq_iff_iff, decide_eq_true_iff, beq_iff_eq]
section
variable {T : Nat → Prop} {nb sb rb : Nat} {w w' : World} {L : LS}
theorem Nxt.rigged (h : Nxt T nb sb rb w L) (hI : Inv L.val) (i : Int) (cb : Nat) (hc : w.cell? ⟨cb, 0, none⟩ = some (.int .i64 i)) :
    Calls Tryz.prog 241 #[.slice L.rigs.a L.rigs.l.length L.rigs.c, .func (.func 295) #[] #[.pointer (some ⟨cb, 0, none⟩)]] w fun e w' => e = .returned (.bool (rggB L.val i)) ∧ Below w.heap.size w w' := by
  have hcb : cb < w.heap.size := World.block_lt_of_cell? w ⟨cb, 0, none⟩ hc
  have hrl : L.rigs.l.length ≤ 50 := by have h := hI.rl; unfold LS.val at h; dsimp only at h; rw [List.length_map] at h; exact h
  have e : rggB L.val i = L.rigs.l.any fun x => decide (x.st = i) && decide (0 < x.lk.l.length) := by
    unfold rggB LS.val; dsimp only; rw [List.any_map]; rfl
  rw [e]
  exact c_containsRg L.rigs.a L.rigs.l L.rigs.c _ _ #[.pointer (some ⟨cb, 0, none⟩)] w (by omega) h.rrd (enters_of Tryz.func295 (by kernel_rfl) rfl) fun W x hW _ => f_cut1 x i cb W (((bcell hW).1 cb 0 hcb).trans hc)
theorem Nxt.hangs (h : Nxt T nb sb rb w L) (hI : Inv L.val) (m : ByteArray) (lb : Nat) (hc : w.cell? ⟨lb, 0, none⟩ = some (.string m)) :
    Calls Tryz.prog 241 #[.slice L.rigs.a L.rigs.l.length L.rigs.c, .func (.func 242) #[] #[.pointer (some ⟨lb, 0, none⟩)]] w fun e w' => e = .returned (.bool (hangB L.val m)) ∧ Below w.heap.size w w' := by
  have hlb : lb < w.heap.size := World.block_lt_of_cell? w ⟨lb, 0, none⟩ hc
  have hrl : L.rigs.l.length ≤ 50 := by have h := hI.rl; unfold LS.val at h; dsimp only at h; rw [List.length_map] at h; exact h
  have e : hangB L.val m = L.rigs.l.any fun x => x.lk.l.any fun k => k.nm.toList == m.toList := by
    unfold hangB LS.val; dsimp only; rw [List.any_map]
    congr 1; funext x
    show (x.lk.l.any fun k => eqB k.nm m) = _
    congr 1; funext k; exact eqB_is _ _
  rw [e]
  refine c_containsRg L.rigs.a L.rigs.l L.rigs.c _ _ #[.pointer (some ⟨lb, 0, none⟩)] w (by omega) h.rrd (enters_of Tryz.func242 (by kernel_rfl) rfl) fun W x hW hx => ?_
  have h1 := (hI.rk x.val (by unfold LS.val; exact List.mem_map.2 ⟨x, hx, rfl⟩)).1
  exact f_rig1 x m lb W (((bcell hW).1 lb 0 hlb).trans hc) (by unfold LRg.val at h1; dsimp only at h1; omega) ((h.on hW).rk x hx).rd
end
end Go.Proofs.YtmjgljdmjpabdaaGreatDoor.Fi
