/- Gear: no loads that may hang have a greater sum than Shares (plain). -/
import Derived.Test.YtijlglanpgcdiaaGz
set_option linter.unusedSimpArgs false
set_option linter.unusedVariables false
namespace Go.Proofs.Ytijlglanpgcdiaa
open Go.RowKit Go.Maps

theorem kids_noend {g : List It} {r : List Lk} (hv : VR g r) {i : Nat} (hk : kids r i r.length ≠ []) : i ∉ endN r r.length := by
  intro hm
  unfold endN at hm
  rw [List.mem_filter] at hm
  obtain ⟨j, hj⟩ := List.exists_mem_of_ne_nil _ hk
  obtain ⟨_, hjl⟩ := kid_gt hv hj
  obtain ⟨x, hx⟩ := get_lt hjl
  have h3 := isE_no hx ((mem_kids hx).1 hj)
  rw [h3] at hm; simp at hm
theorem nokids_end {r : List Lk} {i : Nat} (hi : i < r.length) (hk : kids r i r.length = []) : i ∈ endN r r.length := by
  unfold endN
  rw [List.mem_filter]
  refine ⟨by simpa using hi, ?_⟩
  unfold isE
  rw [Bool.not_eq_true', List.any_eq_false]
  intro x hx
  obtain ⟨k, hk'⟩ := List.getElem?_of_mem hx
  intro he
  have hm := (mem_kids (i := i) hk').2 (by simpa using he)
  rw [hk] at hm; cases hm
theorem sumL_mono {f h : Nat → Int} {l : List Nat} (e : ∀ x ∈ l, f x ≤ h x) : sumL f l ≤ sumL h l := by
  induction l with
  | nil => exact Int.le_refl _
  | cons x l ih =>
    rw [sumL_cons, sumL_cons]
    have := e x (List.mem_cons_self ..)
    have := ih fun y hy => e y (List.mem_cons_of_mem _ hy)
    omega
theorem bv_ub {g : List It} {r : List Lk} (hv : VR g r) {L : List Int} {K : Nat} (hK : K ≤ (endN r r.length).length)
    (hb : ∀ i, i < r.length → bv r (endN r r.length) L K i ≤ (ldL g r).getD i 0) : ∀ (f i : Nat), i < r.length → r.length - i ≤ f → bv r (endN r r.length) L K i ≤ gr g r i
  | 0, i, hi, hf => by omega
  | f + 1, i, hi, hf => by
    rw [gr_eq hv hi]
    split
    · rename_i h
      rw [Bool.and_eq_true] at h
      have hne : kids r i r.length ≠ [] := by
        intro e; rw [e] at h; simp at h
      rw [bv_kids hv _ L (fun k n => endN_lt) i K hK, av_end (kids_noend hv hne) K hK, Int.zero_add]
      exact sumL_mono fun j hj => by
        obtain ⟨h1, h2⟩ := kid_gt hv hj
        exact bv_ub hv hK hb f j h2 (by omega)
    · exact hb i hi
theorem chn_pre {g : List It} {r : List Lk} (hv : VR g r) (c : Nat) : ∀ (n : Nat), n < r.length → c ∈ chn r (n : Int) → ∃ pre, chn r (n : Int) = pre ++ chn r (c : Int) ∧ ∀ p ∈ pre, c < p := by
  intro n
  induction n using Nat.strongRecOn with
  | _ n ih =>
    intro hn hc
    obtain ⟨x, hx⟩ := get_lt hn
    have hf := hv.frs hx
    by_cases he : c = n
    · subst he; exact ⟨[], rfl, by simp⟩
    · have hc0 := hc
      rw [chn_step hv hx] at hc
      rcases List.mem_cons.1 hc with h | h
      · exact absurd h he
      · by_cases hneg : x.fr < 0
        · rw [chn_neg hneg] at h; cases h
        · obtain ⟨u, hu⟩ := Int.eq_ofNat_of_zero_le (show 0 ≤ x.fr by omega)
          rw [hu] at h
          obtain ⟨pre, h1, h2⟩ := ih u (by omega) (by omega) h
          have h3 := chn_lt hv (n + 1) n (by omega) (by omega) c hc0
          refine ⟨n :: pre, by rw [chn_step hv hx, hu, h1]; rfl, ?_⟩
          intro p hp
          rcases List.mem_cons.1 hp with rfl | hp
          · omega
          · exact h2 p hp
theorem bv_lb {g : List It} {r : List Lk} (hv : VR g r) {L : List Int} {K : Nat} (hK : K ≤ (endN r r.length).length) (hL : ∀ x ∈ L, 0 ≤ x) : ∀ (f i : Nat), i < r.length → r.length - i ≤ f →
    (∀ n ∈ endN r r.length, i ∈ chn r (n : Int) → ∃ m ∈ chn r (n : Int), i ≤ m ∧ (ldL g r).getD m 0 ≤ bv r (endN r r.length) L K m) → gr g r i ≤ bv r (endN r r.length) L K i
  | 0, i, hi, hf, _ => by omega
  | f + 1, i, hi, hf, ht => by
    by_cases htt : (ldL g r).getD i 0 ≤ bv r (endN r r.length) L K i
    · have := (gr_bd hv _ i hi (Nat.le_refl _)).2; omega
    · have hne : kids r i r.length ≠ [] := by
        intro e
        obtain ⟨x, hx⟩ := get_lt hi
        have him : i ∈ chn r (i : Int) := by rw [chn_step hv hx]; exact List.mem_cons_self ..
        obtain ⟨m, h1, h2, h3⟩ := ht i (nokids_end hi e) him
        have h4 := chn_lt hv (i + 1) i (by omega) (by omega) m h1
        obtain rfl : m = i := by omega
        exact htt h3
      have hin : ∀ c ∈ kids r i r.length, gr g r c ≤ bv r (endN r r.length) L K c := fun c hc => by
        obtain ⟨h1, h2⟩ := kid_gt hv hc
        refine bv_lb hv hK hL f c h2 (by omega) fun n hn hcn => ?_
        have hnl : n < r.length := by
          unfold endN at hn; rw [List.mem_filter] at hn; simpa using hn.1
        obtain ⟨pre, e1, e2⟩ := chn_pre hv c n hnl hcn
        obtain ⟨x, hx⟩ := get_lt h2
        have hfr := (mem_kids hx).1 hc
        have e3 : chn r (c : Int) = c :: chn r (i : Int) := by rw [chn_step hv hx, hfr]
        obtain ⟨y, hy⟩ := get_lt hi
        have hi2 : i ∈ chn r (i : Int) := by rw [chn_step hv hy]; exact List.mem_cons_self ..
        have hin : i ∈ chn r (n : Int) := by rw [e1, e3]; simp [hi2]
        obtain ⟨m, m1, m2, m3⟩ := ht n hn hin
        refine ⟨m, m1, ?_, m3⟩
        rw [e1, e3] at m1
        rcases List.mem_append.1 m1 with h | h
        · have := e2 m h; omega
        · rcases List.mem_cons.1 h with rfl | h
          · exact Nat.le_refl _
          · have h4 := chn_lt hv (i + 1) i (by omega) (by omega) m h
            have : m = i := by omega
            subst this
            exact absurd m3 htt
      have hs : sumL (gr g r) (kids r i r.length) ≤ sumL (fun c => bv r (endN r r.length) L K c) (kids r i r.length) := sumL_mono hin
      have ha := av_nonneg (E := endN r r.length) hL i K
      rw [bv_kids hv _ L (fun k n => endN_lt) i K hK, gr_eq hv hi]
      split
      · omega
      · rename_i h
        have hz : (kids r i r.length).isEmpty = false := by
          cases hq : kids r i r.length with
          | nil => exact absurd hq hne
          | cons _ _ => rfl
        rw [hz] at h
        simp only [Bool.not_false, Bool.true_and, decide_eq_true_eq] at h
        omega
theorem lowC_at (l : List Int) : ∀ (c : List Nat) (s : Int), lowC l s c = s ∨ ∃ i ∈ c, lowC l s c = l.getD i 0
  | [], s => Or.inl rfl
  | i :: c, s => by
    have e : lowC l s (i :: c) = lowC l (if l.getD i 0 < s then l.getD i 0 else s) c := rfl
    rw [e]
    rcases lowC_at l c (if l.getD i 0 < s then l.getD i 0 else s) with h | ⟨j, hj, h⟩
    · rw [h]
      split
      · exact Or.inr ⟨i, List.mem_cons_self .., rfl⟩
      · exact Or.inl rfl
    · exact Or.inr ⟨j, List.mem_cons_of_mem _ hj, h⟩
theorem upZ_at {g : List It} {r : List Lk} (hv : VR g r) (l : List Int) {n : Nat} (hn : n < r.length) : ∃ m ∈ chn r (n : Int), upZ r l n = l.getD m 0 := by
  obtain ⟨x, hx⟩ := get_lt hn
  rw [chn_step hv hx]
  unfold upZ
  rw [lkAt_of hx]
  rcases lowC_at l (chn r x.fr) (l.getD n 0) with h | ⟨j, hj, h⟩
  · exact ⟨n, List.mem_cons_self .., h⟩
  · exact ⟨j, List.mem_cons_of_mem _ hj, h⟩
theorem cnt_nn (r : List Lk) (i v : Nat) : 0 ≤ cnt r i v := Int.natCast_nonneg _
theorem bv_mono {r : List Lk} {E : List Nat} {L : List Int} (hL : ∀ x ∈ L, 0 ≤ x) (i : Nat) (k : Nat) : ∀ n, k ≤ n → bv r E L k i ≤ bv r E L n i
  | 0, h => by
    have h0 : k = 0 := by omega
    subst h0; exact Int.le_refl _
  | n + 1, h => by
    by_cases hk : k = n + 1
    · subst hk; exact Int.le_refl _
    · have h1 := bv_mono (r := r) (E := E) hL i k n (by omega)
      have h2 : 0 ≤ L.getD n 0 := by
        cases hx : L[n]? with
        | none => simp [List.getD_eq_getElem?_getD, hx]
        | some x => rw [getD_of hx]; exact hL x (List.mem_of_getElem? hx)
      have h3 := Int.mul_nonneg h2 (cnt_nn r i (E.getD n 0))
      show _ ≤ bv r E L n i + L.getD n 0 * cnt r i (E.getD n 0)
      omega
/-- the shares given by stage k are the first k of all -/
theorem shS_pre (r : List Lk) (l : List Int) (E : List Nat) (k : Nat) : ∀ n, k ≤ n → ∀ j, j < k → (shS r l E n).2.getD j 0 = (shS r l E k).2.getD j 0
  | 0, h, j, hj => by omega
  | n + 1, h, j, hj => by
    by_cases hk : k = n + 1
    · subst hk; rfl
    · rw [← shS_pre r l E k n (by omega) j hj, shS]
      have hl := shS_len r l E n
      rw [List.getD_eq_getElem?_getD, List.getElem?_append_left (by omega), ← List.getD_eq_getElem?_getD]
theorem shZ_nn {g : List It} {r : List Lk} (hv : VR g r) : ∀ x ∈ shZ g r, 0 ≤ x := fun x hx => by
  obtain ⟨k, hk⟩ := List.getElem?_of_mem hx
  exact (shZ_bd hv k x hk).1
/-- with Shares no link bears more than its load -/
theorem sh_fit {g : List It} {r : List Lk} (hv : VR g r) {i : Nat} : bv r (endN r r.length) (shZ g r) (endN r r.length).length i ≤ (ldL g r).getD i 0 := by
  have h := shS_left hv i (endN r r.length).length (Nat.le_refl _)
  have hb := ((shS_bd hv (endN r r.length).length (Nat.le_refl _)).1.getD i).1
  show bv r (endN r r.length) (shS r (ldL g r) (endN r r.length) (endN r r.length).length).2 (endN r r.length).length i ≤ _
  omega
theorem sh_tight {g : List It} {r : List Lk} (hv : VR g r) {n : Nat} (hn : n ∈ endN r r.length) : ∃ m ∈ chn r (n : Int), (ldL g r).getD m 0 ≤ bv r (endN r r.length) (shZ g r) (endN r r.length).length m := by
  obtain ⟨k, hk⟩ := List.getElem?_of_mem hn
  have hkl := (List.getElem?_eq_some_iff.1 hk).1
  have hnl := endN_lt hk
  have e1 : (endN r r.length).getD k 0 = n := by simp [List.getD_eq_getElem?_getD, hk]
  obtain ⟨m, hm, hu⟩ := upZ_at hv (shS r (ldL g r) (endN r r.length) k).1 hnl
  refine ⟨m, hm, ?_⟩
  have hleft := shS_left hv m k (by omega)
  have hmono := bv_mono (r := r) (E := endN r r.length) (shZ_nn hv) m (k + 1) (endN r r.length).length (by omega)
  have hpre := bv_snoc (r := r) (E := endN r r.length) (L := shZ g r) (M := (shS r (ldL g r) (endN r r.length) k).2) m k (fun j hj => shS_pre r (ldL g r) (endN r r.length) k _ (by omega) j hj)
  have hat : (shZ g r).getD k 0 = upZ r (shS r (ldL g r) (endN r r.length) k).1 n := by
    show (shS r (ldL g r) (endN r r.length) (endN r r.length).length).2.getD k 0 = _
    rw [shS_pre r (ldL g r) (endN r r.length) (k + 1) _ (by omega) k (by omega), shS, e1, List.getD_eq_getElem?_getD, List.getElem?_append_right (by rw [shS_len]; omega), shS_len]
    simp
  have hc : 1 ≤ cnt r m n := by
    unfold cnt
    have := List.count_pos_iff.2 hm
    omega
  have hs : bv r (endN r r.length) (shZ g r) (k + 1) m = bv r (endN r r.length) (shZ g r) k m + (shZ g r).getD k 0 * cnt r m n := by
    show _ + _ * cnt r m ((endN r r.length).getD k 0) = _; rw [e1]
  have hnn : 0 ≤ (shZ g r).getD k 0 := ((shZ_bd hv).getD k).1
  have hmul : (shZ g r).getD k 0 * 1 ≤ (shZ g r).getD k 0 * cnt r m n := Int.mul_le_mul_of_nonneg_left hc hnn
  rw [hs, hpre, hat] at hmono
  rw [hat] at hmul
  rw [hu] at hmono hmul
  generalize (shS r (ldL g r) (endN r r.length) k).1.getD m 0 * cnt r m n = q at *
  omega
theorem sh_top {g : List It} {r : List Lk} (hv : VR g r) : bv r (endN r r.length) (shZ g r) (endN r r.length).length 0 = gr g r 0 := by
  have h0 := hv.l0
  have h1 := bv_ub hv (L := shZ g r) (Nat.le_refl _) (fun i _ => sh_fit hv) r.length 0 (by omega) (by omega)
  have h2 := bv_lb hv (L := shZ g r) (Nat.le_refl _) (shZ_nn hv) r.length 0 (by omega) (by omega) (fun n hn _ => by
    obtain ⟨m, a, b⟩ := sh_tight hv hn
    exact ⟨m, a, by omega, b⟩)
  omega
theorem sh_sum {g : List It} {r : List Lk} (hv : VR g r) : sumN (shZ g r) (shZ g r).length = gr g r 0 := by
  rw [← sh_top hv, bv_top hv _ _ (fun k n => endN_lt) _ (Nat.le_refl _) (by rw [shZ_len]; omega), shZ_len]
theorem sh_ok {g : List It} {r : List Lk} (hv : VR g r) : ldE r (shZ g r) = 0 := by
  unfold ldE
  rw [if_pos shZ_len, if_pos]
  rw [List.all_eq_true]
  intro x hx
  obtain ⟨k, hk⟩ := List.getElem?_of_mem hx
  exact wn_iff.2 (shZ_bd hv k x hk)
/-- what is summed up with loads that fit is at most the greatest -/
theorem other_le {g : List It} {r : List Lk} (hv : VR g r) {L : List Int} (h : ldE r L = 0) (hb : ∀ i, i < r.length → (boZ r L).getD i 0 ≤ (ldL g r).getD i 0) : (boZ r L).getD 0 0 ≤ gr g r 0 := by
  have h0 := hv.l0
  obtain ⟨h1, h2⟩ := ldE_z h
  rw [boZ_at hv h (by omega), h1]
  refine bv_ub hv (Nat.le_refl _) (fun i hi => ?_) r.length 0 (by omega) (by omega)
  have := hb i hi
  rwa [boZ_at hv h hi, h1] at this
theorem sh_fits {g : List It} {r : List Lk} (hv : VR g r) {i : Nat} (hi : i < r.length) : (boZ r (shZ g r)).getD i 0 ≤ (ldL g r).getD i 0 := by
  rw [boZ_at hv (sh_ok hv) hi, shZ_len]; exact sh_fit hv
theorem sh_all {g : List It} {r : List Lk} (hv : VR g r) : (boZ r (shZ g r)).getD 0 0 = gr g r 0 := by
  rw [boZ_at hv (sh_ok hv) (by have := hv.l0; omega), shZ_len]; exact sh_top hv
end Go.Proofs.Ytijlglanpgcdiaa
