/- Gear: Looked by the program, with its capacity. -/
import Derived.Test.YtijlglanpgcdiaaGvf
set_option linter.unusedSimpArgs false
set_option linter.unusedVariables false
namespace Go.Proofs.Ytijlglanpgcdiaa
open Go.RowKit Go.Maps

theorem own_rdc {α : Type} {enc : α → List Value} {sz base : Nat} {W : World} {e : TypeId} {v : Value} {l : List α} (h : ∀ a, (enc a).length = sz) (hw : W.ownsRow base e sz v l.length (fl enc l)) : ∃ A c, v = .slice A l.length c ∧ Rd enc sz W A l ∧ l.length ≤ c ∧ c ≤ maxLen := by
  obtain ⟨A, c, e1, hr⟩ := own_rd h hw
  refine ⟨A, c, e1, hr, ?_⟩
  rcases hw.2 with ⟨e2, h0⟩ | ⟨g, cap, cur, e2, _, _, h1, h2, _⟩
  · rw [e1] at e2; injection e2 with a1 a2 a3; subst a3; exact ⟨by omega, Nat.zero_le _⟩
  · rw [e1] at e2; injection e2 with a1 a2 a3; subst a3; exact ⟨h1, h2⟩
set_option maxHeartbeats 4000000 in
set_option maxRecDepth 20000 in
theorem p_LookedC (A : Option Addr) (g : List It) (c : Nat) (s : ByteArray) (du : Int) (w : World) (hl : g.length ≤ 100000) (hc : g.length ≤ c) (hcm : c ≤ maxLen) (hR : Rd It.cs 4 w A g) (hW : ∀ x ∈ g, IW x) (hs : s.size ≤ maxLen) :
    Calls Try.prog 22 #[.slice A g.length c, .string s, .int .i64 du] w fun e w' => ∃ A' c', e = .returned (.tuple #[.slice A' (lkL g s du).length c', .int .i64 (lkE g s du)]) ∧ Rd It.cs 4 w' A' (lkL g s du) ∧ (lkL g s du).length ≤ c' ∧ c' ≤ maxLen ∧ Below w.heap.size w w' := by
  have H1 := Lib.hid (fun b (h : vldG g = b) => calls_bool h (p_Valid A g c w hl hR hW))
  have H2 := Lib.hid (fun W (h : Below w.heap.size w W) => p_byMark A g c W hl (hR.on h) hW)
  have hkey := keyS hs
  cases h : vldG g
  · have HE := Lib.hid (show lkE g s du = 1 by unfold lkE; rw [if_neg (by simp [h])])
    have HL := Lib.hid (show lkL g s du = [] by unfold lkL; rw [HE.out]; rfl)
    go_enter Try.func22, Try.ntmps22
    go_wp2_with (go_at_call 15; ((with_reducible refine (H1.out _ h).mono ?_); rintro e w1 ⟨rfl, hb1⟩; obtain ⟨hc1, hf1⟩ := bcell hb1; have hz1 := hb1.size; (try simp [sz_drew, sz_drewN] at hz1); (try simp only [sz_drew, sz_drewN] at hc1 hf1)))
    go_ret2
    exact ⟨none, 0, by rw [HE.out, HL.out]; rfl, by rw [HL.out]; exact fun h => absurd rfl h, by rw [HL.out]; exact Nat.le_refl _, Nat.zero_le _, by (repeat' (first | assumption | exact below_refl _ | refine bl_alloc ?_ _ | refine Below.setCell ?_ ?_ _ | refine below_draw ?_ | refine below_drewN ?_ _ | refine below_tr ?_ (by assumption))) <;> (first | omega | (simp; done) | (simp; omega))⟩
  cases h2 : wn du 0 100000
  · have HE := Lib.hid (show lkE g s du = 7 by unfold lkE; rw [if_pos h, if_neg (by simp [h2])])
    have HL := Lib.hid (show lkL g s du = [] by unfold lkL; rw [HE.out]; rfl)
    have Q := Lib.hid (p_isDayV h2)
    go_enter Try.func22, Try.ntmps22
    go_wp2_with (first | (go_at_call 15; ((with_reducible refine (H1.out _ h).mono ?_); rintro e w1 ⟨rfl, hb1⟩; obtain ⟨hc1, hf1⟩ := bcell hb1; have hz1 := hb1.size; (try simp [sz_drew, sz_drewN] at hz1); (try simp only [sz_drew, sz_drewN] at hc1 hf1))) | (go_at_call 55; ((with_reducible refine (Q.out _).mono ?_); rintro e w' ⟨rfl, rfl⟩)))
    go_ret2
    exact ⟨none, 0, by rw [HE.out, HL.out]; rfl, by rw [HL.out]; exact fun h => absurd rfl h, by rw [HL.out]; exact Nat.le_refl _, Nat.zero_le _, by (repeat' (first | assumption | exact below_refl _ | refine bl_alloc ?_ _ | refine Below.setCell ?_ ?_ _ | refine below_draw ?_ | refine below_drewN ?_ _ | refine below_tr ?_ (by assumption))) <;> (first | omega | (simp; done) | (simp; omega))⟩
  have Q := Lib.hid (p_isDayV h2)
  obtain ⟨f1, f2⟩ := fnd_bd g s
  have HH := mkD_has g s g.length (Nat.le_refl _)
  have HA := mkD_at (vldG_dst h) s g.length (Nat.le_refl _)
  by_cases h3 : 0 ≤ fndI g s
  rotate_left
  · have HE := Lib.hid (show lkE g s du = 5 by unfold lkE; rw [if_pos h, if_pos h2, if_neg h3])
    have HL := Lib.hid (show lkL g s du = [] by unfold lkL; rw [HE.out]; rfl)
    rw [decide_eq_false (by omega)] at HH
    have HHH := Lib.hid HH
    clear HH HA h3
    go_enter Try.func22, Try.ntmps22
    go_wp2_with (first
      | (go_at_call 15; ((with_reducible refine (H1.out _ h).mono ?_); rintro e w1 ⟨rfl, hb1⟩; obtain ⟨hc1, hf1⟩ := bcell hb1; have hz1 := hb1.size; (try simp [sz_drew, sz_drewN] at hz1); (try simp only [sz_drew, sz_drewN] at hc1 hf1)))
      | (go_at_call 55; ((with_reducible refine (Q.out _).mono ?_); rintro e w' ⟨rfl, rfl⟩))
      | (go_at_call 49; refine (H2.out _ hb1).mono ?_; rintro e w2 ⟨rfl, hown, hb2⟩)
      | (at_lookup; refine wpList_lookup_own_ok_int _ rfl _ _ 64 rfl 9 3 .i64 lawS und_map und_int (zeroN _) _ g.length _ rfl hown _ _ rfl hkey ?_; intro cc hat hwc; rw [HHH.out]))
    go_ret2
    exact ⟨none, 0, by rw [HE.out, HL.out]; rfl, by rw [HL.out]; exact fun h => absurd rfl h, by rw [HL.out]; exact Nat.le_refl _, Nat.zero_le _, by (repeat' (first | assumption | exact below_refl _ | refine bl_alloc ?_ _ | refine Below.setCell ?_ ?_ _ | refine below_draw ?_ | refine below_drewN ?_ _ | refine below_tr ?_ (by assumption))) <;> (first | omega | (simp; done) | (simp; omega))⟩
  have HE := Lib.hid (show lkE g s du = 0 by unfold lkE; rw [if_pos h, if_pos h2, if_pos h3])
  have HL := Lib.hid (show lkL g s du = setDu g (fndI g s).toNat du by unfold lkL; rw [if_pos HE.out])
  have hg64 := vldG_len h
  rw [decide_eq_true (by omega)] at HH
  rw [if_pos (by omega)] at HA
  obtain ⟨k, hk⟩ := Int.eq_ofNat_of_zero_le h3
  rw [hk] at HL f2 HA
  have hkl : k < g.length := by omega
  obtain ⟨b, off, rfl, hb⟩ : ∃ b off, A = some ⟨b, off, none⟩ ∧ b < w.heap.size := by
    obtain ⟨x, b, off, _, e, hb, _⟩ := rdI hR hkl
    exact ⟨b, off, e, hb⟩
  have HHH := Lib.hid HH
  have HAA := Lib.hid HA
  have HR := Lib.hid (fun W (h : Below w.heap.size w W) => hR.on h)
  obtain ⟨i0, hi, hi1, hi2, hi3⟩ := info_item
  have k0 : (0 : Int) ≤ (k : Int) := by omega
  have k1 : (k : Int) < (g.length : Int) := by omega
  have k2 : (k : Int) ≤ (c : Int) := by omega
  obtain ⟨m, hm⟩ : ∃ m, m = k + 1 := ⟨_, rfl⟩
  have e1 : IntKind.i64.wrap ((k : Int) + 1) = (m : Int) := by rw [fits_wrap ⟨by omega, by omega⟩]; omega
  have m0 : (0 : Int) ≤ (m : Int) := by omega
  have m1 : (m : Int) ≤ (g.length : Int) := by omega
  have HM1 := Lib.hid hm
  clear hm
  unfold maxLen at hcm
  have HO1 := Lib.hid (show ∀ u ∈ fl It.cs (g.drop m), u.oneCell' = true by
    intro u hu
    simp only [fl, List.mem_flatMap] at hu
    obtain ⟨y, _, hy⟩ := hu
    simp only [It.cs, List.mem_cons, List.not_mem_nil, or_false] at hy
    rcases hy with rfl | rfl | rfl | rfl <;> rfl)
  clear h3 hk HH HA
  go_enter Try.func22, Try.ntmps22
  go_wp2_with (first
    | (go_at_call 15; ((with_reducible refine (H1.out _ h).mono ?_); rintro e w1 ⟨rfl, hb1⟩; obtain ⟨hc1, hf1⟩ := bcell hb1; have hz1 := hb1.size; (try simp [sz_drew, sz_drewN] at hz1); (try simp only [sz_drew, sz_drewN] at hc1 hf1)))
    | (go_at_call 55; ((with_reducible refine (Q.out _).mono ?_); rintro e w' ⟨rfl, rfl⟩))
    | (go_at_call 49; refine (H2.out _ hb1).mono ?_; rintro e w2 ⟨rfl, hown, hb2⟩; have B2 := below_tr hb1 hb2; obtain ⟨x, b', off', hx, e9, _, c0, c1, c2, c3⟩ := rdI (HR.out _ B2) hkl; cases e9; have HX := Lib.hid hx; clear hx; have hbw : b < w2.heap.size := (by have := B2.size; omega); have hbne : b ≠ w2.heap.size := (by omega))
    | (at_lookup; refine wpList_lookup_own_ok_int _ rfl _ _ 64 rfl 9 3 .i64 lawS und_map und_int (zeroN _) _ g.length _ rfl hown _ _ rfl hkey ?_; intro cc hat hwc; rw [HHH.out]; rw [HAA.out] at hat; obtain rfl : (k : Int) = cc := by (cases hat; rfl)))
  refine wp_world ?_
  intro W hW
  have bW : Below w.heap.size w W := by rw [hW]; (repeat' (first | assumption | exact below_refl _ | refine bl_alloc ?_ _ | refine Below.setCell ?_ ?_ _ | refine below_draw ?_ | refine below_drewN ?_ _ | refine below_tr ?_ (by assumption))) <;> (first | omega | (simp; done) | (simp; omega))
  have gW_0 : w2.heap.size < W.heap.size := by rw [hW]; (first | assumption | (simp; done) | (simp; omega))
  have gW_0_0 : W.cell? ⟨w2.heap.size, 0, none⟩ = some (.string x.nm) := by rw [hW]; go_simp
  have gW_0_1 : W.cell? ⟨w2.heap.size, 1, none⟩ = some (.int .i64 x.ld) := by rw [hW]; go_simp
  have gW_0_2 : W.cell? ⟨w2.heap.size, 2, none⟩ = some (.int .i64 du) := by rw [hW]; go_simp
  have gW_0_3 : W.cell? ⟨w2.heap.size, 3, none⟩ = some (.string x.bt) := by rw [hW]; go_simp
  clear hW
  have BW : Below w.heap.size w W := by (repeat' (first | assumption | exact below_refl _ | refine bl_alloc ?_ _ | refine Below.setCell ?_ ?_ _ | refine below_draw ?_ | refine below_drewN ?_ _ | refine below_tr ?_ (by assumption))) <;> (first | omega | (simp; done) | (simp; omega))
  have HGT := Lib.hid (fun V (h : Below W.heap.size W V) => rd_fl It.cs_len (rdI_take ((HR.out _ BW).on h) k))
  clear c0 c1 c2 c3 hown
  have HGD := Lib.hid (fun V (h : Below W.heap.size W V) => rd_fl It.cs_len (rdI_drop ((HR.out _ BW).on h) m))
  have zW : w.heap.size ≤ W.heap.size := BW.size
  by_cases hcm2 : c = m
  · subst hcm2
    have hgc : g.length = c := by omega
    go_region_held3 (fun w' => (∀ b o, b < W.heap.size → w'.cell? ⟨b, o, none⟩ = W.cell? ⟨b, o, none⟩) ∧ (∀ b o, b < W.heap.size → w'.frozen? ⟨b, o, none⟩ = W.frozen? ⟨b, o, none⟩) ∧ Below W.heap.size W w') ((first | assumption | (refine kp_of ?_; (repeat' (first | assumption | exact below_refl _ | refine bl_alloc ?_ _ | refine Below.setCell ?_ ?_ _ | refine below_draw ?_ | refine below_drewN ?_ _ | refine below_tr ?_ (by assumption))) <;> (first | omega | (simp; done) | (simp; omega))))) ((first
          | (refine step_append_grows _ (by rfl) _ _ _ (by rfl) 62 i0 _ 4 48 Try.underlying22 hi hi1 hi2 hi3 rfl (by omega) ⟨b, off, none⟩ k k (fl It.cs (g.take k)) (by rfl) (by rw [fl_length It.cs_len]; simp; omega) (HGT.out _ (by (repeat' (first | assumption | exact below_refl _ | refine bl_alloc ?_ _ | refine Below.setCell ?_ ?_ _ | refine below_draw ?_ | refine below_drewN ?_ _ | refine below_tr ?_ (by assumption))) <;> (first | omega | (simp; done) | (simp; omega)))) ⟨W.heap.size, 0, none⟩ 1 1 (It.cs ⟨x.nm, x.ld, du, x.bt⟩) (by rfl) (by rfl) (cells_new _ _ _) (by omega) (by unfold maxLen; omega) (by omega) ?_; intro v4 w4 hown4 hgrow4; have B4 : Below W.heap.size W w4 := bl_grown (by (repeat' (first | assumption | exact below_refl _ | refine bl_alloc ?_ _ | refine Below.setCell ?_ ?_ _ | refine below_draw ?_ | refine below_drewN ?_ _ | refine below_tr ?_ (by assumption))) <;> (first | omega | (simp; done) | (simp; omega))) hgrow4 (fun r h => by cases h) (by simp))
          | ((refine step_append_own _ (by rfl) _ _ _ (by rfl) W.heap.size 62 i0 _ 4 48 Try.underlying22 hi hi1 hi2 hi3 rfl (by omega) _ (k + 1) (fl It.cs (g.take k) ++ It.cs ⟨x.nm, x.ld, du, x.bt⟩) (by rfl) (own_base hown4 (by simp)) ⟨b, off, none⟩ _ _ [] (by rfl) (by first | (simp; done) | (simp; omega)) (fun j u hu => by simp at hu) (fun u hu => by cases hu) (by unfold maxLen; omega) (by omega) B4.size ?_; intro v5 w5 hown5 hgrow5; have B5 : Below W.heap.size W w5 := bl_grown B4 hgrow5 (fun r h => (own_ge hown4 r h).1 |> Nat.le_trans (by simp)) (by have := B4.size; omega)))
          ))
    go_wp2
    go_ret2
    have hown6 : w5.ownsRow W.heap.size 62 4 v5 (setDu g k du).length (fl It.cs (setDu g k du)) := by
      have e1 : setDu g k du = g.take k ++ [⟨x.nm, x.ld, du, x.bt⟩] ++ g.drop c := by
        unfold setDu
        rw [itAt_of HX.out, List.set_eq_take_append_cons_drop, if_pos hkl, HM1.out]; simp
      have e2 : (setDu g k du).length = k + 1 + (g.length - c) := by
        have := HM1.out
        unfold setDu; rw [List.length_set]; omega
      rw [e2, e1]
      simp only [fl, List.flatMap_append, List.flatMap_cons, List.flatMap_nil, List.append_nil] at hown5 ⊢
      have e3 : g.drop c = [] := List.drop_eq_nil_of_le (by omega)
      rw [e3, show g.length - c = 0 by omega]
      simp only [fl, List.flatMap_nil, List.append_nil] at hown5 ⊢
      exact hown5
    obtain ⟨A', c', e, hr, hc1', hc2'⟩ := own_rdc It.cs_len hown6
    have hkk : ((k : Int)).toNat = k := by omega
    exact ⟨A', c', by rw [HE.out, HL.out, hkk, ← e]; rfl, by rw [HL.out, hkk]; exact hr, by rw [HL.out, hkk]; exact hc1', hc2', below_tr BW B5⟩
  · have hcm3 := hcm2
    go_region_held3 (fun w' => (∀ b o, b < W.heap.size → w'.cell? ⟨b, o, none⟩ = W.cell? ⟨b, o, none⟩) ∧ (∀ b o, b < W.heap.size → w'.frozen? ⟨b, o, none⟩ = W.frozen? ⟨b, o, none⟩) ∧ Below W.heap.size W w') ((first | assumption | (refine kp_of ?_; (repeat' (first | assumption | exact below_refl _ | refine bl_alloc ?_ _ | refine Below.setCell ?_ ?_ _ | refine below_draw ?_ | refine below_drewN ?_ _ | refine below_tr ?_ (by assumption))) <;> (first | omega | (simp; done) | (simp; omega))))) ((first
          | (refine step_append_grows _ (by rfl) _ _ _ (by rfl) 62 i0 _ 4 48 Try.underlying22 hi hi1 hi2 hi3 rfl (by omega) ⟨b, off, none⟩ k k (fl It.cs (g.take k)) (by rfl) (by rw [fl_length It.cs_len]; simp; omega) (HGT.out _ (by (repeat' (first | assumption | exact below_refl _ | refine bl_alloc ?_ _ | refine Below.setCell ?_ ?_ _ | refine below_draw ?_ | refine below_drewN ?_ _ | refine below_tr ?_ (by assumption))) <;> (first | omega | (simp; done) | (simp; omega)))) ⟨W.heap.size, 0, none⟩ 1 1 (It.cs ⟨x.nm, x.ld, du, x.bt⟩) (by rfl) (by rfl) (cells_new _ _ _) (by omega) (by unfold maxLen; omega) (by omega) ?_; intro v4 w4 hown4 hgrow4; have B4 : Below W.heap.size W w4 := bl_grown (by (repeat' (first | assumption | exact below_refl _ | refine bl_alloc ?_ _ | refine Below.setCell ?_ ?_ _ | refine below_draw ?_ | refine below_drewN ?_ _ | refine below_tr ?_ (by assumption))) <;> (first | omega | (simp; done) | (simp; omega))) hgrow4 (fun r h => by cases h) (by simp))
          | ((refine step_append_own _ (by rfl) _ _ _ (by rfl) W.heap.size 62 i0 _ 4 48 Try.underlying22 hi hi1 hi2 hi3 rfl (by omega) _ (k + 1) (fl It.cs (g.take k) ++ It.cs ⟨x.nm, x.ld, du, x.bt⟩) (by rfl) (own_base hown4 (by simp)) ⟨b, off + m * 4, none⟩ (g.length - m) (c - m) (fl It.cs (g.drop m)) (by rfl) (by rw [fl_length It.cs_len]; simp) (HGD.out _ B4) (fun u hu => HO1.out u hu) (by unfold maxLen; omega) (by omega) B4.size ?_; intro v5 w5 hown5 hgrow5; have B5 : Below W.heap.size W w5 := bl_grown B4 hgrow5 (fun r h => (own_ge hown4 r h).1 |> Nat.le_trans (by simp)) (by have := B4.size; omega)))
          ))
    go_wp2
    go_ret2
    have hown6 : w5.ownsRow W.heap.size 62 4 v5 (setDu g k du).length (fl It.cs (setDu g k du)) := by
      have e1 : setDu g k du = g.take k ++ [⟨x.nm, x.ld, du, x.bt⟩] ++ g.drop m := by
        unfold setDu
        rw [itAt_of HX.out, List.set_eq_take_append_cons_drop, if_pos hkl, HM1.out]; simp
      have e2 : (setDu g k du).length = k + 1 + (g.length - m) := by
        have := HM1.out
        unfold setDu; rw [List.length_set]; omega
      rw [e2, e1]
      simp only [fl, List.flatMap_append, List.flatMap_cons, List.flatMap_nil, List.append_nil] at hown5 ⊢
      exact hown5
    obtain ⟨A', c', e, hr, hc1', hc2'⟩ := own_rdc It.cs_len hown6
    have hkk : ((k : Int)).toNat = k := by omega
    exact ⟨A', c', by rw [HE.out, HL.out, hkk, ← e]; rfl, by rw [HL.out, hkk]; exact hr, by rw [HL.out, hkk]; exact hc1', hc2', below_tr BW B5⟩
end Go.Proofs.Ytijlglanpgcdiaa
