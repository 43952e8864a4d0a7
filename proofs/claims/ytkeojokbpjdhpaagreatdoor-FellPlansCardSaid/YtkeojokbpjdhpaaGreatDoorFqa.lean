/- Fell: plans, plain: what stands behind the deeds of a plan (part of the text of TopFalls, for another seat). -/
import Derived.Test.YtkeojokbpjdhpaaGreatDoorFpd
set_option linter.unusedSimpArgs false
set_option linter.unusedVariables false
namespace Go.Proofs.YtkeojokbpjdhpaaGreatDoor
open Go.RowKit

theorem thM_app (M : List Bool) (a : List Int) (d : Int) : thM M (a ++ [d]) = (thM M a).bind fun m => dsB m d := by unfold thM; rw [List.foldl_append]; rfl
theorem runs_thM {l : List Pr} {s : Sp} {ds M} (h : Runs l s ds M) : thM (List.replicate l.length true) ds = some M ∧ ∀ d ∈ ds, 0 ≤ d ∧ d ≤ 2 * (l.length : Int) - 1 := by
  induction h with
  | nil => exact ⟨rfl, fun d hd => by cases hd⟩
  | @step ds M i h1 h2 h3 h4 ih =>
    refine ⟨?_, fun d hd => ?_⟩
    · rw [thM_app, ih.1]; exact dsB_even h3
    · rcases List.mem_append.1 hd with hd | hd
      · exact ih.2 d hd
      · have := h1.len; simp only [List.mem_singleton] at hd; omega
theorem mM_count (M : List Bool) : (mM M).length = M.count true := by
  have e : M = (List.range M.length).map fun i => M.getD i false := List.ext_getElem (by simp) fun i h1 h2 => by simp [List.getD, h1]
  have h : ((List.range M.length).map fun i => M.getD i false).count true = (mM M).length := by
    unfold mM
    rw [List.count_eq_countP, List.countP_map, List.countP_eq_length_filter]
    congr 2
    funext i
    simp [Function.comp]
  rw [← h, ← e]
theorem plans_after {l : List Pr} {s t : Sp} {ds : List Int} (hl : l.length ≤ 24) (h : Plans l s t ds) : ∃ M, M.length = l.length ∧ aftO l ds = some M ∧ fallM l s t M = true ∧ lsB l.length ds = true ∧ (mM M).length + ds.length = l.length := by
  obtain ⟨ds0, M0, i, h1, h2, h3, h4, rfl⟩ := h
  obtain ⟨a1, a2⟩ := runs_thM h1
  have hlen := h1.len
  have hc := runs_count h1
  have hs := count_set h2 h3
  refine ⟨M0.set i false, by rw [List.length_set]; exact hlen, ?_, h4, ?_, ?_⟩
  · unfold aftO; rw [thM_app, a1]; exact dsB_even h3
  · unfold lsB
    rw [Bool.and_eq_true, decide_eq_true_eq, List.all_eq_true]
    refine ⟨by simp; omega, fun d hd => wn_iff.2 ?_⟩
    rcases List.mem_append.1 hd with hd | hd
    · exact a2 d hd
    · simp only [List.mem_singleton] at hd; omega
  · rw [mM_count]; simp; omega
def RL (l : List Pr) (M : List Bool) : List Pr := (mM M).map (prAt l)
theorem RL_spots (l : List Pr) (M : List Bool) : spL (RL l M) = lfS l M := by unfold spL RL lfS; rw [List.map_map]; rfl
theorem RL_sub {l : List Pr} {M : List Bool} (h : M.length = l.length) : (RL l M).Sublist l := by
  have h1 : (mM M).Sublist (List.range l.length) := by unfold mM; rw [h]; exact List.filter_sublist
  have h2 : (List.range l.length).map (prAt l) = l := List.ext_getElem (by simp) fun i h1 h2 => by simp at h1; simp [prAt, h1]
  have := h1.map (prAt l)
  rwa [h2] at this
end Go.Proofs.YtkeojokbpjdhpaaGreatDoor
namespace Go.Proofs.YtkeojokbpjdhpaaGreatDoor
open Go.RowKit

/-- the reference's search -/
def plF (l : List Pr) (s t : Sp) : Nat → List Int → List Bool → Option (List Int)
  | 0, ds, M => if fallM l s t M = true then some ds else none
  | k + 1, ds, M => if stM l s M = true then (List.range l.length).findSome? fun i => if M.getD i false = true then plF l s t k (ds ++ [2 * (i : Int)]) (M.set i false) else none else none
theorem fs_no {g : Nat → Option (List Int)} {n : Nat} (h : ∀ j, j < n → g j = none) : (List.range n).findSome? g = none :=
  List.findSome?_eq_none_iff.2 fun x hx => h x (List.mem_range.1 hx)
theorem fs_yes {g : Nat → Option (List Int)} {n k : Nat} {d : List Int} (hk : k < n) (h : ∀ j, j < k → g j = none) (hd : g k = some d) : (List.range n).findSome? g = some d := by
  have e : List.range n = List.range k ++ (List.range' k (n - k)) := by
    have := List.range'_append_1 (s := 0) (m := k) (n := n - k)
    rw [Nat.zero_add, show k + (n - k) = n by omega] at this
    rw [List.range_eq_range', List.range_eq_range']; exact this.symm
  rw [e, List.findSome?_append, fs_no h, show n - k = (n - k - 1) + 1 by omega, List.range'_succ, List.findSome?_cons, hd]
  rfl
theorem fs_or (g : Nat → Option (List Int)) : ∀ n : Nat, ((List.range n).findSome? g = none ∧ ∀ j, j < n → g j = none) ∨ ∃ k d, k < n ∧ (∀ j, j < k → g j = none) ∧ g k = some d ∧ (List.range n).findSome? g = some d
  | 0 => .inl ⟨rfl, fun j h => by omega⟩
  | n + 1 => by
    rcases fs_or g n with ⟨_, h⟩ | ⟨k, d, h1, h2, h3, _⟩
    · cases e : g n with
      | none =>
        have h' : ∀ j, j < n + 1 → g j = none := fun j hj => by
          by_cases q : j = n
          · rw [q]; exact e
          · exact h j (by omega)
        exact .inl ⟨fs_no h', h'⟩
      | some d => exact .inr ⟨n, d, by omega, h, e, fs_yes (by omega) h e⟩
    · exact .inr ⟨k, d, by omega, h2, h3, fs_yes (by omega) h2 h3⟩
/-- deeds that fell the stack from what is marked -/
def Xt (l : List Pr) (s t : Sp) : Nat → List Bool → List Int → Prop
  | 0, M, r => r = [] ∧ fallM l s t M = true
  | k + 1, M, r => stM l s M = true ∧ ∃ (i : Nat) (r' : List Int), i < M.length ∧ M.getD i false = true ∧ r = 2 * (i : Int) :: r' ∧ Xt l s t k (M.set i false) r'
theorem ltL_two (i j : Nat) (x y : List Int) (h : i < j) : ltL (2 * (j : Int) :: x) (2 * (i : Int) :: y) = false := by
  unfold ltL
  rw [decide_eq_false (by omega), decide_eq_false (by omega)]; rfl
theorem plF_min (l : List Pr) (s t : Sp) : ∀ (k : Nat) (ds : List Int) (M : List Bool), M.length = l.length → MinOf (fun d => ∃ r, d = ds ++ r ∧ Xt l s t k M r) (plF l s t k ds M)
  | 0, ds, M, _ => by
    unfold plF
    by_cases h : fallM l s t M = true
    · rw [if_pos h]
      exact ⟨⟨[], by simp, rfl, h⟩, fun e ⟨r, he, h2, _⟩ => by rw [h2, List.append_nil] at he; rw [he]; exact ltL_irr _⟩
    · rw [if_neg h]
      rintro d ⟨r, _, _, h2⟩
      exact h h2
  | k + 1, ds, M, hM => by
    unfold plF
    by_cases h : stM l s M = true
    · rw [if_pos h]
      have ih := fun i : Nat => plF_min l s t k (ds ++ [2 * (i : Int)]) (M.set i false) (by rw [List.length_set]; exact hM)
      have nog : ∀ i : Nat, M.getD i false = true → (if M.getD i false = true then plF l s t k (ds ++ [2 * (i : Int)]) (M.set i false) else none) = none → ∀ r', ¬ Xt l s t k (M.set i false) r' := fun i hg hn r' hr => by
        rw [if_pos hg] at hn
        have := ih i
        rw [hn] at this
        exact this _ ⟨r', rfl, hr⟩
      rcases fs_or (fun i => if M.getD i false = true then plF l s t k (ds ++ [2 * (i : Int)]) (M.set i false) else none) l.length with ⟨e, h0⟩ | ⟨i, d, hi, h0, hd, e⟩
      · rw [e]
        rintro d ⟨r, rfl, _, i, r', h1, h2, rfl, h3⟩
        exact nog i h2 (h0 i (by omega)) r' h3
      · rw [e]
        have hg : M.getD i false = true := by
          by_cases q : M.getD i false = true
          · exact q
          · exact absurd hd (by rw [if_neg q]; simp)
        rw [if_pos hg] at hd
        have hm := ih i
        rw [hd] at hm
        obtain ⟨⟨r, rfl, hr⟩, hle⟩ := hm
        refine ⟨⟨2 * (i : Int) :: r, by simp, h, i, r, by omega, hg, rfl, hr⟩, ?_⟩
        rintro e ⟨re, rfl, _, j, r', h1, h2, rfl, h3⟩
        by_cases hji : j < i
        · exact absurd h3 (nog j h2 (h0 j hji) r')
        · by_cases hij : j = i
          · subst hij
            have := hle (ds ++ [2 * (j : Int)] ++ r') ⟨r', rfl, h3⟩
            simpa using this
          · rw [List.append_assoc, ltL_pre]
            exact ltL_two i j _ _ (by omega)
    · rw [if_neg h]
      rintro d ⟨r, _, h2, _⟩
      exact h h2
theorem runs_st {l : List Pr} {s : Sp} {ds M} (h : Runs l s ds M) (h0 : stM l s (List.replicate l.length true) = true) : stM l s M = true := by
  cases h with
  | nil => exact h0
  | step _ _ _ h4 => exact h4
theorem xt_run {l : List Pr} {s t : Sp} {ds M} (h : Runs l s ds M) (h0 : stM l s (List.replicate l.length true) = true) : ∀ {k r}, Xt l s t k M r → Xt l s t (ds.length + k) (List.replicate l.length true) (ds ++ r) := by
  induction h with
  | nil => intro k r hx; simpa using hx
  | @step ds M i h1 h2 h3 h4 ih =>
    intro k r hx
    have := ih (k := k + 1) (r := 2 * (i : Int) :: r) ⟨runs_st h1 h0, i, r, h2, h3, rfl, hx⟩
    simpa [Nat.add_assoc, Nat.add_comm, Nat.add_left_comm] using this
theorem xt_plans {l : List Pr} {s t : Sp} : ∀ {k : Nat} {ds M r}, Runs l s ds M → Xt l s t (k + 1) M r → Plans l s t (ds ++ r) ∧ r.length = k + 1
  | 0, ds, M, r, h, ⟨_, i, r', h1, h2, h3, h4, h5⟩ => by
    subst h4 h3
    exact ⟨⟨ds, M, i, h, h1, h2, h5, rfl⟩, rfl⟩
  | k + 1, ds, M, r, h, ⟨_, i, r', h1, h2, h3, h4⟩ => by
    subst h3
    have hs : stM l s (M.set i false) = true := h4.1
    obtain ⟨a, b⟩ := xt_plans (k := k) (.step h h1 h2 hs) h4
    exact ⟨by simpa using a, by simp [b]⟩
theorem plans_xt {l : List Pr} {s t : Sp} (h0 : stM l s (List.replicate l.length true) = true) {d : List Int} (h : Plans l s t d) : Xt l s t d.length (List.replicate l.length true) d := by
  obtain ⟨ds, M, i, h1, h2, h3, h4, rfl⟩ := h
  have := xt_run h1 h0 (k := 1) (r := [2 * (i : Int)]) ⟨runs_st h1 h0, i, [], h2, h3, rfl, rfl, h4⟩
  simpa using this
/-- the reference's search through lengths -/
theorem plF_plans (l : List Pr) (s t : Sp) (k : Nat) (h0 : stM l s (List.replicate l.length true) = true) : MinOf (fun d => Plans l s t d ∧ d.length = k + 1) (plF l s t (k + 1) [] (List.replicate l.length true)) := by
  refine min_congr (plF_min l s t (k + 1) [] _ (by simp)) fun d => ?_
  constructor
  · rintro ⟨r, rfl, h⟩
    simpa using xt_plans .nil h
  · rintro ⟨h1, h2⟩
    exact ⟨d, by simp, by rw [← h2]; exact plans_xt h0 h1⟩
theorem plans_pos {l : List Pr} {s t : Sp} {d : List Int} (h : Plans l s t d) : 0 < d.length ∧ d.length ≤ l.length := by
  obtain ⟨ds, M, i, h1, h2, h3, h4, rfl⟩ := h
  have hc := runs_count h1
  have hs := count_set h2 h3
  simp only [List.length_append, List.length_cons, List.length_nil]
  omega
theorem plF_found {l : List Pr} {s t : Sp} {k : Nat} {d : List Int} (h0 : stM l s (List.replicate l.length true) = true) (hno : ∀ j, j < k → plF l s t (j + 1) [] (List.replicate l.length true) = none) (h : plF l s t (k + 1) [] (List.replicate l.length true) = some d) : PlanIs l s t (some d) := by
  refine planIs_some (k := k) (fun e he => ?_) (by rw [← h]; exact plF_plans l s t k h0)
  by_cases q : e.length ≤ k
  · obtain ⟨j, hj⟩ : ∃ j, e.length = j + 1 := ⟨e.length - 1, by have := (plans_pos he).1; omega⟩
    have := plF_plans l s t j h0
    rw [hno j (by omega)] at this
    exact absurd ⟨he, hj⟩ (this e)
  · omega
theorem plF_none {l : List Pr} {s t : Sp} (h0 : stM l s (List.replicate l.length true) = true) (hno : ∀ j, j < l.length → plF l s t (j + 1) [] (List.replicate l.length true) = none) : PlanIs l s t none := by
  intro e he
  obtain ⟨h1, h2⟩ := plans_pos he
  have := plF_plans l s t (e.length - 1) h0
  rw [hno _ (by omega)] at this
  exact this e ⟨he, by omega⟩

theorem stM_mono {l : List Pr} {s : Sp} {M : List Bool} {i : Nat} (hi : i < M.length) (h : stM l s M = true) : stM l s (M.set i true) = true := by
  unfold stM at *
  rw [heldB_iff] at *
  refine h.mono fun x hx => ?_
  unfold lfS at *
  obtain ⟨j, hj, rfl⟩ := List.mem_map.1 hx
  obtain ⟨h1, h2⟩ := mem_mM.1 hj
  refine List.mem_map.2 ⟨j, mem_mM.2 ⟨by rw [List.length_set]; exact h1, ?_⟩, rfl⟩
  rw [getD_set hi]
  split
  · rfl
  · exact h2
theorem count_full : ∀ (M : List Bool), M.count true ≤ M.length ∧ (M.count true = M.length → M = List.replicate M.length true)
  | [] => ⟨by simp, fun _ => rfl⟩
  | b :: M => by
    obtain ⟨h1, h2⟩ := count_full M
    cases b
    · simp; omega
    · simp only [List.count_cons_self, List.length_cons, List.replicate_succ]
      exact ⟨by omega, fun h => by rw [← h2 (by omega)]⟩
theorem count_add : ∀ {M : List Bool} {i : Nat}, i < M.length → M.getD i false = false → (M.set i true).count true = M.count true + 1
  | [], i, h, _ => by simp at h
  | b :: M, 0, _, h => by
    simp only [List.getD_cons_zero] at h
    subst h
    simp
  | b :: M, i + 1, h, h2 => by
    simp only [List.getD_cons_succ] at h2
    have := count_add (M := M) (i := i) (by simpa using h) h2
    simp only [List.set_cons_succ, List.count_cons]
    omega
theorem ex_false : ∀ {M : List Bool}, M.count true < M.length → ∃ i, i < M.length ∧ M.getD i false = false
  | [], h => by simp at h
  | false :: M, _ => ⟨0, by simp, rfl⟩
  | true :: M, h => by
    obtain ⟨i, h1, h2⟩ := ex_false (M := M) (by simpa using h)
    exact ⟨i + 1, by simpa using h1, by simpa using h2⟩
theorem set_back {M : List Bool} {i : Nat} (hi : i < M.length) (h : M.getD i false = false) : (M.set i true).set i false = M := by
  rw [List.set_set]
  refine List.ext_getElem (by simp) fun j h1 h2 => ?_
  rw [List.getElem_set]
  split
  · rename_i q; subst q; simpa [List.getD, hi] using h.symm
  · rfl
theorem runs_any {l : List Pr} {s : Sp} : ∀ (n : Nat) {M : List Bool}, M.length = l.length → M.count true + n = l.length → stM l s M = true → ∃ ds, Runs l s ds M ∧ ds.length = n
  | 0, M, hM, hn, _ => by
    have := (count_full M).2 (by omega)
    rw [this, hM]
    exact ⟨[], .nil, rfl⟩
  | n + 1, M, hM, hn, h => by
    obtain ⟨i, h1, h2⟩ := ex_false (M := M) (by omega)
    have h3 := count_add h1 h2
    obtain ⟨ds, h4, h5⟩ := runs_any n (M := M.set i true) (by rw [List.length_set]; exact hM) (by omega) (stM_mono h1 h)
    have h6 : (M.set i true).getD i false = true := by rw [getD_set h1, if_pos rfl]
    have h7 := Runs.step h4 (i := i) (by rw [List.length_set]; exact h1) h6 (by rw [set_back h1 h2]; exact h)
    rw [set_back h1 h2] at h7
    exact ⟨_, h7, by simp [h5]⟩
theorem dsB_count {M m : List Bool} {d : Int} (h : dsB M d = some m) : M.count true ≤ m.count true + 1 := by
  unfold dsB at h
  split at h
  · injection h with h
    subst h
    generalize (d / 2).toNat = i
    by_cases hi : i < M.length
    · cases hg : M.getD i false
      · cases (!decide (d % 2 = 0))
        · have e : M.set i false = M := List.ext_getElem (by simp) fun j h1 h2 => by
            rw [List.getElem_set]; split
            · rename_i q; subst q; simpa [List.getD, hi] using hg.symm
            · rfl
          rw [e]; omega
        · rw [count_add hi hg]; omega
      · cases (!decide (d % 2 = 0))
        · have := count_set hi hg; omega
        · have e : M.set i true = M := List.ext_getElem (by simp) fun j h1 h2 => by
            rw [List.getElem_set]; split
            · rename_i q; subst q; simpa [List.getD, hi] using hg.symm
            · rfl
          rw [e]; omega
    · rw [List.set_eq_of_length_le (by omega)]; omega
  · cases h
theorem thM_count {M : List Bool} {ds : List Int} : ∀ (k : Nat) {m : List Bool}, thM M (ds.take k) = some m → M.count true ≤ m.count true + k
  | 0, m, h => by
    rw [List.take_zero, thM_nil] at h; cases h; omega
  | k + 1, m, h => by
    cases hd : ds[k]? with
    | none =>
      have hl : ds.length ≤ k := List.getElem?_eq_none_iff.1 hd
      rw [List.take_of_length_le (by omega)] at h
      have := thM_count k (M := M) (ds := ds) (m := m) (by rw [List.take_of_length_le hl]; exact h)
      omega
    | some d =>
      rw [thM_step hd] at h
      cases h1 : thM M (ds.take k) with
      | none => rw [h1] at h; cases h
      | some m1 =>
        rw [h1] at h
        have a := thM_count k h1
        have b := dsB_count (show dsB m1 d = some m from h)
        omega
/-- any right deeds that fell the stack towards the spot are no fewer than those of some plan -/
theorem deeds_plan {l : List Pr} {s t : Sp} {ds : List Int} (h0 : stM l s (List.replicate l.length true) = true) (h : feB l s ds = true) (hf : fallM l s t (afM l ds) = true) : ∃ e, Plans l s t e ∧ e.length ≤ ds.length := by
  unfold feB at h
  simp only [Bool.and_eq_true, decide_eq_true_eq, Bool.not_eq_true'] at h
  obtain ⟨hr, hpos, hn⟩ := h
  obtain ⟨n, hn1⟩ : ∃ n, ds.length = n + 1 := ⟨ds.length - 1, by omega⟩
  unfold riA at hr
  simp only [Bool.and_eq_true, List.all_eq_true, List.mem_range] at hr
  obtain ⟨hv, hs, hls, hall⟩ := hr
  obtain ⟨d, hd⟩ : ∃ d, ds[n]? = some d := ⟨ds[n]'(by omega), List.getElem?_eq_getElem _⟩
  have hlast := hall n (by omega)
  unfold riB at hlast
  have hfull : ds.take (n + 1) = ds := List.take_of_length_le (by omega)
  rw [hfull] at hlast
  cases hM' : thM (List.replicate l.length true) ds with
  | none => rw [hM'] at hlast; cases hlast
  | some M' =>
    have haf : afM l ds = M' := by unfold afM; rw [hM']; rfl
    rw [haf] at hn hf
    have h1 := hM'
    rw [← hfull, thM_step hd] at h1
    cases hm : thM (List.replicate l.length true) (ds.take n) with
    | none => rw [hm] at h1; cases h1
    | some m =>
      rw [hm] at h1
      have hdm : dsB m d = some M' := h1
      have hml : m.length = l.length := by rw [thM_len n hm]; simp
      have hcm := thM_count n hm
      rw [List.count_replicate_self] at hcm
      have hst : stM l s m = true := by
        by_cases h00 : n = 0
        · subst h00
          rw [List.take_zero, thM_nil] at hm
          cases hm; exact h0
        · have := hall (n - 1) (by omega)
          unfold riB at this
          rw [show n - 1 + 1 = n by omega, hm] at this
          simp only [Bool.or_eq_true, decide_eq_true_eq] at this
          rcases this with q | q
          · omega
          · exact q
      unfold dsB at hdm
      split at hdm
      · rename_i hg
        injection hdm with hdm
        generalize hi : (d / 2).toNat = i at *
        by_cases hev : d % 2 = 0
        · rw [decide_eq_true hev] at hg hdm
          have him : i < m.length := by
            by_cases q : i < m.length
            · exact q
            · rw [gd_out (by omega)] at hg; cases hg
          obtain ⟨e, he, hel⟩ := runs_any (l := l) (s := s) (l.length - m.count true) hml (by have := (count_full m).1; omega) hst
          refine ⟨e ++ [2 * (i : Int)], ⟨e, m, i, he, him, hg, ?_, rfl⟩, ?_⟩
          · simpa [← hdm] using hf
          · simp only [List.length_append, List.length_cons, List.length_nil]; omega
        · rw [decide_eq_false hev] at hg hdm
          exfalso
          by_cases him : i < m.length
          · have := stM_mono him hst
            unfold stM at this
            rw [show m.set i true = M' by simpa using hdm, hn] at this
            cases this
          · rw [List.set_eq_of_length_le (by omega)] at hdm
            rw [hdm] at hst
            unfold stM at hst
            rw [hn] at hst; cases hst
      · cases hdm
/-- a plan's deeds are right and fell -/
theorem plans_fe {l : List Pr} {s t : Sp} {ds : List Int} (hv : vP l = true) (hs : isS s = true) (h : Plans l s t ds) : feB l s ds = true := by
  have hl : l.length ≤ 24 := vP_len hv
  obtain ⟨M', p1, p2, p3, p4, p5⟩ := plans_after hl h
  obtain ⟨ds0, M0, i, h1, h2, h3, h4, rfl⟩ := h
  have pre : ∀ {e M}, Runs l s e M → ∀ k, k < e.length → ∃ m, thM (List.replicate l.length true) (e.take (k + 1)) = some m ∧ heldB (lfS l m) s = true := by
    intro e M hr
    induction hr with
    | nil => intro k hk; cases hk
    | @step e M j r1 r2 r3 r4 ih =>
      intro k hk
      by_cases q : k < e.length
      · rw [List.take_append_of_le_length (by omega)]; exact ih k q
      · refine ⟨M.set j false, ?_, r4⟩
        rw [List.take_of_length_le (by simp at hk ⊢; omega), thM_app, (runs_thM r1).1]
        exact dsB_even r3
  have haf : afM l (ds0 ++ [2 * (i : Int)]) = M' := by unfold afM; unfold aftO at p2; rw [p2]; rfl
  unfold feB riA
  rw [haf, hv, hs, p4]
  unfold fallM at p3
  simp only [Bool.and_eq_true] at p3
  rw [p3.1]
  simp only [Bool.true_and, Bool.and_true, Bool.and_eq_true, decide_eq_true_eq, List.all_eq_true, List.mem_range]
  refine ⟨fun k hk => ?_, by simp⟩
  unfold riB
  by_cases q : k < ds0.length
  · rw [List.take_append_of_le_length (by omega)]
    obtain ⟨m, e1, e2⟩ := pre h1 k q
    rw [e1]
    simp [e2]
  · have hk2 : k + 1 = (ds0 ++ [2 * (i : Int)]).length := by simp at hk ⊢; omega
    rw [hk2, List.take_length]
    unfold aftO at p2
    rw [p2]
    simp
end Go.Proofs.YtkeojokbpjdhpaaGreatDoor
