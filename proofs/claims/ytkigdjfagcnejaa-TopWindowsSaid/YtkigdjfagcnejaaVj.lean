/- Wind: TopWindows walked. -/
import Derived.Test.YtkigdjfagcnejaaVi
set_option linter.unusedSimpArgs false
set_option linter.unusedVariables false
namespace Go.Proofs.Ytkigdjfagcnejaa
open Go.RowKit

theorem win_at {fine : Int → Bool} {n fr to : Int} (h : winE fine n fr to = 0) : fr ≤ winI fine n fr to ∧ winI fine n fr to + n ≤ to ∧ ∀ i, winI fine n fr to ≤ i → i < winI fine n fr to + n → fine i = true := by
  unfold winE at h
  unfold winI
  cases hw : winO fine n fr to with
  | none => rw [hw] at h; simp at h
  | some k =>
    dsimp only
    unfold winO at hw
    rw [List.find?_range_eq_some] at hw
    obtain ⟨h1, h2, _⟩ := hw
    have hk : k < (to - fr).toNat := by simpa using h2
    unfold hitB at h1
    rw [Bool.and_eq_true, decide_eq_true_iff] at h1
    obtain ⟨b1, b2, b3⟩ := bgS_bd fine fr k
    refine ⟨b1, by omega, fun i hi1 hi2 => ?_⟩
    by_cases hik : i = fr + k
    · subst hik; exact h1.1
    · exact b3 i hi1 (by omega)
theorem winE_or (fine : Int → Bool) (n fr to : Int) : winE fine n fr to = 0 ∨ winE fine n fr to = 8 := by
  unfold winE
  split
  · exact Or.inl rfl
  · exact Or.inr rfl
theorem spS_nil {p : Nat → Bool} : ∀ {n : Nat}, spS p n = [] → ∀ k, k < n → p k = false
  | 0, _, k, hk => by omega
  | n + 1, h, k, hk => by
    unfold spS at h
    split at h
    · split at h
      · split at h <;> simp at h
      · cases h
    · rename_i hp
      by_cases hkn : k = n
      · subst hkn; simpa using hp
      · exact spS_nil h k (by omega)
theorem fZ_nil {p : Nat → Bool} {n : Nat} (h : fZ p n = []) {k : Nat} (hk : k < n) : p k = false := by
  unfold fZ fN at h
  rw [List.map_eq_nil_iff, List.filter_eq_nil_iff] at h
  have := h k (by simpa using hk)
  simpa using this
/-- work that goes goes on while gusts are low -/
theorem go_on {r : Ru} {l : List Int} {i : Nat} (h : gA r l i = true) (h0 : 0 ≤ l.getD (i + 1) 0) (h1 : l.getD (i + 1) 0 < r.s) : gA r l (i + 1) = true := by
  unfold gA gB at h ⊢
  rw [Bool.and_eq_true, Bool.and_eq_true, decide_eq_true_iff, decide_eq_true_iff, decide_eq_true_iff] at h ⊢
  refine ⟨?_, h0, h1⟩
  rw [stA]
  unfold nx
  rw [if_pos h.1, if_neg (by omega)]; omega
/-- .. and goes again behind the calm minutes -/
theorem go_again {r : Ru} (hv : vRu r = true) {l : List Int} {a : Nat} : ∀ j : Nat, (∀ i, a ≤ i → i < a + j → 0 ≤ l.getD i 0 ∧ l.getD i 0 < r.g) → stA r l (a + j) < 0 ∨ (j : Int) ≤ stA r l (a + j)
  | 0, _ => by
    have := stA_bd hv l a
    by_cases h : stA r l a < 0
    · exact Or.inl h
    · exact Or.inr (by simp; omega)
  | j + 1, h => by
    have ih := go_again hv j (fun i h1 h2 => h i h1 (by omega))
    have hg := h (a + j) (by omega) (by omega)
    have hr := vru hv
    rw [show a + (j + 1) = a + j + 1 by omega, stA]
    unfold nx
    rcases ih with ih | ih
    · rw [if_pos ih, if_neg (by omega)]; left; omega
    · by_cases hs : stA r l (a + j) < 0
      · rw [if_pos hs, if_neg (by omega)]; left; omega
      · rw [if_neg hs, if_neg (by omega)]
        split
        · left; omega
        · right; omega
theorem go_then {r : Ru} (hv : vRu r = true) {l : List Int} {a i : Nat} (hi : (a : Int) + r.c ≤ i) (h : ∀ k, a ≤ k → k ≤ i → 0 ≤ l.getD k 0 ∧ l.getD k 0 < r.g) : gA r l i = true := by
  have hr := vru hv
  obtain ⟨j, rfl⟩ : ∃ j, i = a + j := ⟨i - a, by omega⟩
  have h1 := go_again hv (l := l) (a := a) j (fun k h1 h2 => h k h1 (by omega))
  have h2 := stA_bd hv l (a + j)
  have h3 := h (a + j) (by omega) (Nat.le_refl _)
  unfold gA gB
  rw [Bool.and_eq_true, Bool.and_eq_true, decide_eq_true_iff, decide_eq_true_iff, decide_eq_true_iff]
  omega
def aw8L : List Int := [3]
def aw8R : Ru := ⟨9, 5, 1⟩
theorem aw8_go : goB aw8R aw8L 0 = true ∧ goE aw8R aw8L 0 = 0 := by
  constructor <;> decide +kernel
theorem blk_rdZ1 {w : World} {b : Nat} {x : Int} (h : Blk w b 3 #[.int .i64 x]) : Rd zC 1 w (some ⟨b, 0, none⟩) [x] := fun _ => by
  refine ⟨b, 0, rfl, h.lt, fun k y hy j v hv => ?_⟩
  have hk : k < 1 := (List.getElem?_eq_some_iff.1 hy).1
  rw [Nat.zero_add, h.cell]
  obtain rfl : k = 0 := by omega
  cases hy
  have hj : j < 1 := (List.getElem?_eq_some_iff.1 hv).1
  obtain rfl : j = 0 := by omega
  exact hv
set_option maxHeartbeats 1000000 in
theorem l_awake8 (w : World) : Calls Try.prog 7 #[] w fun e w' => e = .returned (.bool true) ∧ Below w.heap.size w w' := by
  have HG : Hid (∀ (b : Nat) W, Rd zC 1 W (some ⟨b, 0, none⟩) aw8L → Calls Try.prog 11 #[.agg #[.int .i64 9, .int .i64 5, .int .i64 1], .slice (some ⟨b, 0, none⟩) 1 1, .int .i64 0] W fun e w' => e = .returned (.tuple #[.bool true, .int .i64 0]) ∧ Below W.heap.size W w') := Lib.hid (fun (b : Nat) W hR => by
    have := p_Goes (some ⟨b, 0, none⟩) aw8R aw8L 1 0 W (by decide) hR
    rwa [aw8_go.1, aw8_go.2] at this)
  go_enter Try.func7, Try.ntmps7
  go_wp2_with fail
  refine (HG.out _ _ (blk_rdZ1 (Blk.new _ _ _))).mono ?_
  rintro e w1 ⟨rfl, hb1⟩
  go_wp2
  go_ret
  exact ⟨rfl, below_tr (bl_alloc (below_refl _) _) hb1⟩
set_option maxHeartbeats 4000000 in
set_option maxRecDepth 20000 in
theorem l_TopWindows (r : Ru) (A : Option Addr) (cs : List Ca) (c : Nat) (B : Option Addr) (l : List Int) (d : Nat) (mk n : Int) (w : World) (hcl0 : cs.length ≤ maxLen) (hR : Rd Ca.cs 4 w A cs) (hl0 : l.length ≤ maxLen) (hS : Rd zC 1 w B l) :
    Calls Try.prog 3 #[ruV r, .slice A cs.length c, .slice B l.length d, .int .i64 mk, .int .i64 n] w fun e w' => e = .returned (.bool true) ∧ Below w.heap.size w w' := by
  by_cases c1 : 200 < (l.length : Int)
  · clear hR hS
    unfold maxLen at hl0
    go_enter Try.func3, Try.ntmps3
    go_wp2_with (go_at_call 7; ((with_reducible refine (l_awake8 _).mono ?_); rintro e w1 ⟨rfl, hb1⟩; obtain ⟨hc1, hf1⟩ := bcell hb1; have hz1 := hb1.size; (try simp [sz_drew, sz_drewN] at hz1); (try simp only [sz_drew, sz_drewN] at hc1 hf1); have z1_0 : w.heap.size < w1.heap.size := (by omega)))
    go_ret
    exact ⟨rfl, by (repeat' (first | assumption | exact below_refl _ | refine bl_alloc ?_ _ | refine Below.setCell ?_ ?_ _ | refine below_draw ?_ | refine below_drewN ?_ _ | refine below_tr ?_ (by assumption))) <;> (first | omega | (simp; done) | (simp; omega))⟩
  by_cases c2 : 30 < (cs.length : Int)
  · clear hR hS
    unfold maxLen at hcl0
    go_enter Try.func3, Try.ntmps3
    go_wp2_with (go_at_call 7; ((with_reducible refine (l_awake8 _).mono ?_); rintro e w1 ⟨rfl, hb1⟩; obtain ⟨hc1, hf1⟩ := bcell hb1; have hz1 := hb1.size; (try simp [sz_drew, sz_drewN] at hz1); (try simp only [sz_drew, sz_drewN] at hc1 hf1); have z1_0 : w.heap.size < w1.heap.size := (by omega)))
    go_ret
    exact ⟨rfl, by (repeat' (first | assumption | exact below_refl _ | refine bl_alloc ?_ _ | refine Below.setCell ?_ ?_ _ | refine below_draw ?_ | refine below_drewN ?_ _ | refine below_tr ?_ (by assumption))) <;> (first | omega | (simp; done) | (simp; omega))⟩
  have hl : l.length ≤ 100000 := by omega
  have hcl : cs.length ≤ 100000 := by omega
  go_enter Try.func3, Try.ntmps3
  go_wp2_with fail
  have k0 := Blk.new w 23 #[.int .i64 r.s, .int .i64 r.g, .int .i64 r.c]
  have B0 := bl_alloc (below_refl w) (.cells #[.int .i64 r.s, .int .i64 r.g, .int .i64 r.c] 23)
  generalize w.alloc (.cells #[.int .i64 r.s, .int .i64 r.g, .int .i64 r.c] 23) = W0 at *
  refine (r_ValidRule r W0).mono ?_
  rintro e w1 ⟨rfl, hb1⟩
  have B1 := below_tr B0 hb1
  have k1 := k0.below hb1 k0.lt
  clear hb1 k0 B0
  cases h1 : vRu r
  · go_wp2_with (go_at_call 7; ((with_reducible refine (l_awake8 _).mono ?_); rintro e w2 ⟨rfl, hb2⟩; obtain ⟨hc2, hf2⟩ := bcell hb2; have hz2 := hb2.size; (try simp [sz_drew, sz_drewN] at hz2); (try simp only [sz_drew, sz_drewN] at hc2 hf2)))
    go_ret
    exact ⟨rfl, below_tr B1 hb2⟩
  go_wp2_with fail
  refine (r_ValidGusts B l d w1 hl (hS.on B1)).mono ?_
  rintro e w1' ⟨rfl, rfl⟩
  cases h2 : vGu l
  · go_wp2_with (go_at_call 7; ((with_reducible refine (l_awake8 _).mono ?_); rintro e w2 ⟨rfl, hb2⟩; obtain ⟨hc2, hf2⟩ := bcell hb2; have hz2 := hb2.size; (try simp [sz_drew, sz_drewN] at hz2); (try simp only [sz_drew, sz_drewN] at hc2 hf2)))
    go_ret
    exact ⟨rfl, below_tr B1 hb2⟩
  go_wp2_with fail
  refine (r_ValidCasts A cs c w1 hcl (hR.on B1)).mono ?_
  rintro e w2 ⟨rfl, hb2⟩
  have B2 := below_tr B1 hb2
  have k2 := k1.below hb2 k1.lt
  have q0 := k2.cell 0
  have q1 := k2.cell 1
  have q2 := k2.cell 2
  simp only [List.getElem?_toArray, List.getElem?_cons_zero, List.getElem?_cons_succ] at q0 q1 q2
  clear hb2 k1 B1
  cases h3 : vCa cs
  · go_wp2_with (go_at_call 7; ((with_reducible refine (l_awake8 _).mono ?_); rintro e w3 ⟨rfl, hb3⟩; obtain ⟨hc3, hf3⟩ := bcell hb3; have hz3 := hb3.size; (try simp [sz_drew, sz_drewN] at hz3); (try simp only [sz_drew, sz_drewN] at hc3 hf3)))
    go_ret
    exact ⟨rfl, below_tr B2 hb3⟩
  by_cases h4 : mk < 1
  · go_wp2_with (go_at_call 7; ((with_reducible refine (l_awake8 _).mono ?_); rintro e w3 ⟨rfl, hb3⟩; obtain ⟨hc3, hf3⟩ := bcell hb3; have hz3 := hb3.size; (try simp [sz_drew, sz_drewN] at hz3); (try simp only [sz_drew, sz_drewN] at hc3 hf3)))
    go_ret
    exact ⟨rfl, below_tr B2 hb3⟩
  by_cases h5 : r.s < mk
  · go_wp2_with (go_at_call 7; ((with_reducible refine (l_awake8 _).mono ?_); rintro e w3 ⟨rfl, hb3⟩; obtain ⟨hc3, hf3⟩ := bcell hb3; have hz3 := hb3.size; (try simp [sz_drew, sz_drewN] at hz3); (try simp only [sz_drew, sz_drewN] at hc3 hf3)))
    go_ret
    exact ⟨rfl, below_tr B2 hb3⟩
  by_cases h6 : n < 1
  · go_wp2_with (go_at_call 7; ((with_reducible refine (l_awake8 _).mono ?_); rintro e w3 ⟨rfl, hb3⟩; obtain ⟨hc3, hf3⟩ := bcell hb3; have hz3 := hb3.size; (try simp [sz_drew, sz_drewN] at hz3); (try simp only [sz_drew, sz_drewN] at hc3 hf3)))
    go_ret
    exact ⟨rfl, below_tr B2 hb3⟩
  by_cases h7 : 200 < n
  · go_wp2_with (go_at_call 7; ((with_reducible refine (l_awake8 _).mono ?_); rintro e w3 ⟨rfl, hb3⟩; obtain ⟨hc3, hf3⟩ := bcell hb3; have hz3 := hb3.size; (try simp [sz_drew, sz_drewN] at hz3); (try simp only [sz_drew, sz_drewN] at hc3 hf3)))
    go_ret
    exact ⟨rfl, below_tr B2 hb3⟩
  have hru := vru h1
  have H1 := Lib.hid (fun W (h : Below w.heap.size w W) => p_Missing B l d W hl (hS.on h))
  have H2 := Lib.hid (fun W (h : Below w.heap.size w W) => p_Kept A B cs l c d W hcl hl (hR.on h) (hS.on h))
  have H3 := Lib.hid (fun W (h : Below w.heap.size w W) => p_Sure A cs c mk n 0 l.length W hcl (hR.on h))
  have hme : msE l = 0 := by unfold msE; rw [if_pos h2]
  have hke : kpE cs l = 0 := by unfold kpE; rw [h3, h2]; rfl
  rw [hme] at H1
  rw [hke] at H2
  have hmL : msL l = spS (msP l) l.length := by unfold msL; rw [if_pos hme]
  have hkZ : kpZ cs l = fZ (kpP cs l) l.length := by unfold kpZ; rw [if_pos hke]
  by_cases hm1 : 0 < (msL l).length
  · generalize msL l = ML at *
    generalize kpZ cs l = KZ at *
    clear hmL hkZ hme hke
    go_wp2_with (first
      | (go_at_call 8; ((with_reducible refine (H1.out _ B2).mono ?_); rintro e w3 ⟨v, rfl, ⟨A3, c3, rfl, _⟩, hb3⟩; have B3 := below_tr B2 hb3))
      | (go_at_call 9; ((with_reducible refine (H2.out _ B3).mono ?_); rintro e w4 ⟨v, rfl, ⟨A4, c4, rfl, _⟩, hb4⟩; have B4 := below_tr B3 hb4))
      | (go_at_call 7; ((with_reducible refine (l_awake8 _).mono ?_); rintro e w5 ⟨rfl, hb5⟩; obtain ⟨hc5, hf5⟩ := bcell hb5; have hz5 := hb5.size; (try simp [sz_drew, sz_drewN] at hz5); (try simp only [sz_drew, sz_drewN] at hc5 hf5))))
    go_ret
    exact ⟨rfl, below_tr B4 hb5⟩
  have hml0 : msL l = [] := List.eq_nil_of_length_eq_zero (by omega)
  rw [hml0] at H1
  by_cases hk1 : 0 < (kpZ cs l).length
  · clear hm1 hml0
    generalize kpZ cs l = KZ at *
    clear hmL hkZ hme hke
    go_wp2_with (first
      | (go_at_call 8; ((with_reducible refine (H1.out _ B2).mono ?_); rintro e w3 ⟨v, rfl, ⟨A3, c3, rfl, _⟩, hb3⟩; have B3 := below_tr B2 hb3))
      | (go_at_call 9; ((with_reducible refine (H2.out _ B3).mono ?_); rintro e w4 ⟨v, rfl, ⟨A4, c4, rfl, _⟩, hb4⟩; have B4 := below_tr B3 hb4))
      | (go_at_call 7; ((with_reducible refine (l_awake8 _).mono ?_); rintro e w5 ⟨rfl, hb5⟩; obtain ⟨hc5, hf5⟩ := bcell hb5; have hz5 := hb5.size; (try simp [sz_drew, sz_drewN] at hz5); (try simp only [sz_drew, sz_drewN] at hc5 hf5))))
    go_ret
    exact ⟨rfl, below_tr B4 hb5⟩
  have hml : msL l = [] := hml0
  have hkl : kpZ cs l = [] := List.eq_nil_of_length_eq_zero (by omega)
  rw [hkl] at H2
  rw [hmL] at hml
  rw [hkZ] at hkl
  clear hm1 hk1 hml0
  have hwd : wdE cs mk n 0 l.length = 0 := by
    unfold wdE
    rw [if_pos h3, if_pos ⟨wn_iff.2 ⟨by omega, by omega⟩, wn_iff.2 ⟨by omega, by omega⟩, wn_iff.2 ⟨by omega, by omega⟩, by omega⟩]
  have hsE : sfE (suQ mk) cs mk n 0 l.length = winE (fun t => suQ mk (ctO cs t)) n 0 l.length := by unfold sfE; rw [if_pos hwd]
  have hsI : sfI (suQ mk) cs mk n 0 l.length = winI (fun t => suQ mk (ctO cs t)) n 0 l.length := by unfold sfI; rw [if_pos hwd]
  rw [hsE, hsI] at H3
  rcases winE_or (fun t => suQ mk (ctO cs t)) n 0 l.length with hw | hw
  rotate_left
  · rw [hw] at H3
    clear hmL hkZ hme hke hml hkl hsE hsI
    generalize winI (fun t => suQ mk (ctO cs t)) n 0 l.length = X at *
    go_wp2_with (first
      | (go_at_call 8; ((with_reducible refine (H1.out _ B2).mono ?_); rintro e w3 ⟨v, rfl, ⟨A3, c3, rfl, _⟩, hb3⟩; have B3 := below_tr B2 hb3))
      | (go_at_call 9; ((with_reducible refine (H2.out _ B3).mono ?_); rintro e w4 ⟨v, rfl, ⟨A4, c4, rfl, _⟩, hb4⟩; have B4 := below_tr B3 hb4))
      | (go_at_call 10; ((with_reducible refine (H3.out _ B4).mono ?_); rintro e w5 ⟨rfl, hb5⟩; have B5 := below_tr B4 hb5))
      | (go_at_call 7; ((with_reducible refine (l_awake8 _).mono ?_); rintro e w6 ⟨rfl, hb6⟩; obtain ⟨hc6, hf6⟩ := bcell hb6; have hz6 := hb6.size; (try simp [sz_drew, sz_drewN] at hz6); (try simp only [sz_drew, sz_drewN] at hc6 hf6))))
    go_ret
    exact ⟨rfl, below_tr B5 hb6⟩
  obtain ⟨a0, a1, a2⟩ := win_at hw
  rw [hw] at H3
  generalize winI (fun t => suQ mk (ctO cs t)) n 0 l.length = X at *
  obtain ⟨a, rfl⟩ := Int.eq_ofNat_of_zero_le a0
  have hgu := (vgu h2).2
  have hlow : ∀ i : Nat, a ≤ i → (i : Int) < a + n → 0 ≤ l.getD i 0 ∧ l.getD i 0 < mk := fun i hi1 hi2 => by
    have hil : i < l.length := by omega
    obtain ⟨x, hx⟩ := get_lt hil
    have hg := hgu i x hx
    have h8 := spS_nil hml i hil
    have h9 := fZ_nil hkl hil
    have h10 := a2 (i : Int) (by omega) hi2
    unfold msP at h8
    unfold kpP at h9
    unfold suQ at h10
    rw [getD_of hx] at h8 h9 ⊢
    have h8' : x ≠ -1 := by simpa using h8
    split at h10
    · rename_i y hy
      rw [hy] at h9
      dsimp only at h9
      rw [decide_eq_true h8', Bool.true_and, Bool.not_eq_false'] at h9
      have := wn_iff.1 h9
      have : y.hi < mk := by simpa using h10
      omega
    · cases h10
  have HLOW := Lib.hid hlow
  have HV := Lib.hid h1
  have H4 := Lib.hid (fun W (h : Below w.heap.size w W) (i : Nat) (hi : i < l.length) => show Calls Try.prog 11 #[ruV r, .slice B l.length d, .int .i64 (i : Nat)] W fun e w' => e = .returned (.tuple #[.bool (gA r l i), .int .i64 0]) ∧ Below W.heap.size W w' by
    have h8 : goE r l (i : Int) = 0 := by
      unfold goE aE
      rw [h1, h2]
      rw [if_pos (by rfl), if_pos (wn_iff.2 ⟨by omega, by omega⟩)]
    have h9 : goB r l (i : Int) = gA r l i := by unfold goB; rw [if_pos h8, show ((i : Int)).toNat = i by omega]
    have := p_Goes B r l d (i : Int) W hl (hS.on h)
    rwa [h8, h9] at this)
  clear hmL hkZ hme hke hml hkl hsE hsI a2 hgu hlow hw h1 h2 h3 hwd
  go_wp2_with (first
    | (go_at_call 8; ((with_reducible refine (H1.out _ B2).mono ?_); rintro e w3 ⟨v, rfl, ⟨A3, c3, rfl, _⟩, hb3⟩; have B3 := below_tr B2 hb3))
    | (go_at_call 9; ((with_reducible refine (H2.out _ B3).mono ?_); rintro e w4 ⟨v, rfl, ⟨A4, c4, rfl, _⟩, hb4⟩; have B4 := below_tr B3 hb4))
    | (go_at_call 10; ((with_reducible refine (H3.out _ B4).mono ?_); rintro e w5 ⟨rfl, hb5⟩; have B5 := below_tr B4 hb5)))
  have k5 := ((k2.below hb3 k2.lt).below hb4 (k2.below hb3 k2.lt).lt).below hb5 ((k2.below hb3 k2.lt).below hb4 (k2.below hb3 k2.lt).lt).lt
  clear hb3 hb4 hb5 B2 B3 B4 k2 q0 q1 q2
  go_loopw [16, 17] (fun g i wr => ∃ k : Nat, a ≤ k ∧ (k : Int) ≤ a + n ∧ i = .int .i64 k ∧ g = .bool (if a < k then gA r l (k - 1) else false) ∧ Below w.heap.size w wr ∧ Blk wr w.heap.size 23 #[.int .i64 r.s, .int .i64 r.g, .int .i64 r.c]) (fun _ i _ => ((a : Int) + n - intOf i).toNat)
  case atStart => exact ⟨a, Nat.le_refl _, by omega, rfl, by rw [if_neg (by omega)], B5, k5⟩
  case round =>
    clear B5 k5
    obtain ⟨k, hk0, hk1', rfl, rfl, hbw, kr⟩ := hrel
    have kk0 : (0 : Int) ≤ (k : Int) := Int.natCast_nonneg _
    by_cases hlt : (k : Int) < a + n
    · have hkl2 : k < l.length := by omega
      have HC := Lib.hid (H4.out _ hbw k hkl2)
      have hnow : (if a < k then gA r l (k - 1) else false) = true → gA r l k = true := fun h => by
        split at h
        · obtain ⟨j, rfl⟩ : ∃ j, k = j + 1 := ⟨k - 1, by omega⟩
          have := HLOW.out (j + 1) hk0 hlt
          exact go_on h this.1 (by omega)
        · cases h
      have hthen : mk ≤ r.g → (a : Int) + r.c + 1 ≤ k → gA r l k = true := fun h8 h9 => go_then HV.out (a := a) (i := k) (by omega) (fun i hi1 hi2 => by
        have := HLOW.out i hi1 (by omega); omega)
      have HNX := Lib.hid (show (if a < k + 1 then gA r l (k + 1 - 1) else false) = gA r l k by rw [if_pos (by omega)]; rfl)
      have p0 := kr.cell 0
      have p1 := kr.cell 1
      have p2 := kr.cell 2
      simp only [List.getElem?_toArray, List.getElem?_cons_zero, List.getElem?_cons_succ] at p0 p1 p2
      have hcase : gA r l k = true ∨ (gA r l k = false ∧ (if a < k then gA r l (k - 1) else false) = false ∧ (¬ mk ≤ r.g ∨ ¬ (a : Int) + r.c + 1 ≤ k)) := by
        cases hg : gA r l k with
        | true => exact Or.inl rfl
        | false =>
          refine Or.inr ⟨rfl, ?_, ?_⟩
          · cases hp : (if a < k then gA r l (k - 1) else false) with
            | false => rfl
            | true => rw [hnow hp] at hg; cases hg
          · by_cases h8 : mk ≤ r.g
            · right; intro h9; rw [hthen h8 h9] at hg; cases hg
            · exact Or.inl h8
      clear hnow hthen
      generalize (if a < k then gA r l (k - 1) else false) = P at *
      generalize gA r l k = N at *
      rcases hcase with rfl | ⟨rfl, rfl, h8⟩
      · rcases (by omega : ¬ mk ≤ r.g ∨ (mk ≤ r.g ∧ ¬ (a : Int) + r.c + 1 ≤ k) ∨ (mk ≤ r.g ∧ (a : Int) + r.c + 1 ≤ k)) with h9 | ⟨h9, h10⟩ | ⟨h9, h10⟩ <;> cases P
        all_goals
          go_wp2_with (go_at_call 11; ((with_reducible refine HC.out.mono ?_); rintro e w6 ⟨rfl, hb6⟩; have B6 := below_tr hbw hb6; have k6 := kr.below hb6 kr.lt; have p1' := k6.cell 1; have p2' := k6.cell 2; simp only [List.getElem?_toArray, List.getElem?_cons_zero, List.getElem?_cons_succ] at p1' p2'))
          go_roundw
          case rel => exact ⟨k + 1, by omega, by omega, by go_num, by rw [HNX.out], B6, k6⟩
          case measure => simp [intOf]; omega
      · by_cases h9 : mk ≤ r.g
        · have h10 : ¬ (a : Int) + r.c + 1 ≤ k := by rcases h8 with h8 | h8; exact absurd h9 h8; exact h8
          go_wp2_with (go_at_call 11; ((with_reducible refine HC.out.mono ?_); rintro e w6 ⟨rfl, hb6⟩; have B6 := below_tr hbw hb6; have k6 := kr.below hb6 kr.lt; have p1' := k6.cell 1; have p2' := k6.cell 2; simp only [List.getElem?_toArray, List.getElem?_cons_zero, List.getElem?_cons_succ] at p1' p2'))
          go_roundw
          case rel => exact ⟨k + 1, by omega, by omega, by go_num, by rw [HNX.out], B6, k6⟩
          case measure => simp [intOf]; omega
        · go_wp2_with (go_at_call 11; ((with_reducible refine HC.out.mono ?_); rintro e w6 ⟨rfl, hb6⟩; have B6 := below_tr hbw hb6; have k6 := kr.below hb6 kr.lt; have p1' := k6.cell 1; have p2' := k6.cell 2; simp only [List.getElem?_toArray, List.getElem?_cons_zero, List.getElem?_cons_succ] at p1' p2'))
          go_roundw
          case rel => exact ⟨k + 1, by omega, by omega, by go_num, by rw [HNX.out], B6, k6⟩
          case measure => simp [intOf]; omega
    · go_wp2_with (go_at_call 7; ((with_reducible refine (l_awake8 _).mono ?_); rintro e w6 ⟨rfl, hb6⟩; obtain ⟨hc6, hf6⟩ := bcell hb6; have hz6 := hb6.size; (try simp [sz_drew, sz_drewN] at hz6); (try simp only [sz_drew, sz_drewN] at hc6 hf6)))
      go_ret
      exact ⟨rfl, below_tr hbw hb6⟩
end Go.Proofs.Ytkigdjfagcnejaa
