/- Fell: plans, plain: lists of deeds in order, the least of a set of them; the steps of a search by sets. -/
import Derived.Test.YtkeojokbpjdhpaaGreatDoorFgd
import Derived.Test.YtkeojokbpjdhpaaGreatDoorFwb
import Derived.Maps.OwnIn
import Derived.Maps.RangeWalk
import Derived.Maps.Views
set_option linter.unusedSimpArgs false
set_option linter.unusedVariables false
namespace Go.Proofs.YtkeojokbpjdhpaaGreatDoor
open Go.RowKit

def ltL : List Int → List Int → Bool
  | _, [] => false
  | [], _ :: _ => true
  | a :: s, b :: t => decide (a < b) || (decide (a = b) && ltL s t)
theorem ltL_irr : ∀ a, ltL a a = false
  | [] => rfl
  | a :: s => by simp [ltL, ltL_irr s]
theorem ltL_trans : ∀ {a b c}, ltL a b = true → ltL b c = true → ltL a c = true
  | _, [], _, h, _ => by cases ‹List Int› <;> simp [ltL] at h
  | _, _ :: _, [], _, h => by simp [ltL] at h
  | [], _ :: _, _ :: _, _, _ => rfl
  | a :: s, b :: t, c :: u, h1, h2 => by
    simp only [ltL, Bool.or_eq_true, Bool.and_eq_true, decide_eq_true_eq] at *
    rcases h1 with h1 | ⟨h1, h3⟩ <;> rcases h2 with h2 | ⟨h2, h4⟩
    · exact .inl (by omega)
    · exact .inl (by omega)
    · exact .inl (by omega)
    · exact .inr ⟨by omega, ltL_trans h3 h4⟩
theorem ltL_tot : ∀ {a b}, ltL a b = false → ltL b a = false → a = b
  | [], [], _, _ => rfl
  | [], _ :: _, h, _ => by simp [ltL] at h
  | _ :: _, [], _, h => by simp [ltL] at h
  | a :: s, b :: t, h1, h2 => by
    simp only [ltL, Bool.or_eq_false_iff, Bool.and_eq_false_iff, decide_eq_false_iff_not] at *
    have e : a = b := by omega
    subst e
    rw [ltL_tot (h1.2.resolve_left (fun h => h rfl)) (h2.2.resolve_left (fun h => h rfl))]
theorem ltL_asym {a b} (h : ltL a b = true) : ltL b a = false := by
  cases h2 : ltL b a
  · rfl
  · rw [← ltL_irr a, ltL_trans h h2]
theorem leL_trans {a b c} (h1 : ltL b a = false) (h2 : ltL c b = false) : ltL c a = false := by
  cases h : ltL c a
  · rfl
  · cases h3 : ltL a b
    · rw [ltL_tot h3 h1] at h; rw [h] at h2; cases h2
    · rw [ltL_trans h h3] at h2; cases h2
theorem ltL_app : ∀ {a b : List Int} (x y : List Int), a.length = b.length → ltL a b = true → ltL (a ++ x) (b ++ y) = true
  | _, [], _, _, _, h => by cases ‹List Int› <;> simp [ltL] at h
  | [], _ :: _, _, _, h, _ => by simp at h
  | a :: s, b :: t, x, y, hl, h => by
    simp only [ltL, List.cons_append, Bool.or_eq_true, Bool.and_eq_true, decide_eq_true_eq, List.length_cons] at *
    rcases h with h | ⟨h1, h2⟩
    · exact .inl h
    · exact .inr ⟨h1, ltL_app x y (by omega) h2⟩
theorem ltL_pre : ∀ (a : List Int) (x y : List Int), ltL (a ++ x) (a ++ y) = ltL x y
  | [], _, _ => rfl
  | a :: s, x, y => by simp [ltL, ltL_pre s x y]
theorem leL_app {a b : List Int} (x : List Int) (hl : a.length = b.length) (h : ltL b a = false) : ltL (b ++ x) (a ++ x) = false := by
  cases h2 : ltL a b
  · rw [ltL_tot h2 h, ltL_irr]
  · exact ltL_asym (ltL_app x x hl h2)
/-- the least of a set of lists -/
def MinOf (S : List Int → Prop) (o : Option (List Int)) : Prop := match o with
  | none => ∀ d, ¬ S d
  | some d => S d ∧ ∀ e, S e → ltL e d = false
def minO (o : Option (List Int)) (d : List Int) : Option (List Int) := match o with
  | none => some d
  | some c => if ltL d c = true then some d else some c
theorem min_congr {S S' : List Int → Prop} {o} (h : MinOf S o) (e : ∀ d, S d ↔ S' d) : MinOf S' o := by
  have : S = S' := funext fun d => propext (e d)
  rw [← this]; exact h
theorem min_add {S : List Int → Prop} {o} (d : List Int) (h : MinOf S o) : MinOf (fun e => S e ∨ e = d) (minO o d) := by
  cases o with
  | none => exact ⟨.inr rfl, fun e he => by rcases he with he | rfl; exact absurd he (h e); exact ltL_irr _⟩
  | some c =>
    unfold minO
    dsimp only
    by_cases hd : ltL d c = true
    · rw [if_pos hd]
      refine ⟨.inr rfl, fun e he => ?_⟩
      rcases he with he | rfl
      · exact leL_trans (ltL_asym hd) (h.2 e he)
      · exact ltL_irr _
    · rw [if_neg hd]
      refine ⟨.inl h.1, fun e he => ?_⟩
      rcases he with he | rfl
      · exact h.2 e he
      · simpa using hd
theorem min_uniq {S : List Int → Prop} {o o'} (h : MinOf S o) (h' : MinOf S o') : o = o' := by
  cases o with
  | none => cases o' with
    | none => rfl
    | some d => exact absurd h'.1 (h d)
  | some c => cases o' with
    | none => exact absurd h.1 (h' c)
    | some d => rw [ltL_tot (h'.2 c h.1) (h.2 d h'.1)]
/-- a set of which each member has a member of a less set at or before it -/
theorem min_less {S S' : List Int → Prop} {o} (h : MinOf S o) (h1 : ∀ d, S d → S' d) (h2 : ∀ d, S' d → ∃ c, S c ∧ ltL d c = false) : MinOf S' o := by
  cases o with
  | none => exact fun d hd => by obtain ⟨c, hc, _⟩ := h2 d hd; exact h c hc
  | some c => exact ⟨h1 c h.1, fun d hd => by obtain ⟨c', hc, hle⟩ := h2 d hd; exact leL_trans (h.2 c' hc) hle⟩

theorem encM_inj {M M' : List Bool} (hl : M.length = M'.length) (h : encM M = encM M') : M = M' := by
  refine List.ext_getElem hl fun i h1 h2 => ?_
  have := congrArg (fun x => x.testBit i) h
  simp only [encM_bit] at this
  simpa [List.getD, h1, h2] using this

section
variable (l : List Pr) (s t : Sp)
/-- the stack stands on what is marked -/
def stM (M : List Bool) : Bool := heldB (lfS l M) s
/-- the stack falls towards the spot from what is marked -/
def fallM (M : List Bool) : Bool := !heldB (lfS l M) s && (decide (0 < (lfS l M).length) && twZ (lfS l M) s t)
/-- deeds that take props away, the stack stands behind each -/
inductive Runs : List Int → List Bool → Prop
  | nil : Runs [] (List.replicate l.length true)
  | step {ds M i} : Runs ds M → i < M.length → M.getD i false = true → stM l s (M.set i false) = true → Runs (ds ++ [2 * (i : Int)]) (M.set i false)
/-- deeds that fell the stack towards the spot by their last one -/
def Plans (d : List Int) : Prop := ∃ ds M i, Runs l s ds M ∧ i < M.length ∧ M.getD i false = true ∧ fallM l s t (M.set i false) = true ∧ d = ds ++ [2 * (i : Int)]
/-- one deed more behind a table's deeds, of the pairs done -/
def Cnd (T : List Bool → Option (List Int)) (P : List Bool → Nat → Prop) (d : List Int) (M' : List Bool) : Prop :=
  ∃ M i ds, P M i ∧ M.length = l.length ∧ i < M.length ∧ M.getD i false = true ∧ T M = some ds ∧ d = ds ++ [2 * (i : Int)] ∧ M' = M.set i false
def NextIs (T : List Bool → Option (List Int)) (P : List Bool → Nat → Prop) (N : List Bool → Option (List Int)) : Prop :=
  ∀ M', M'.length = l.length → MinOf (fun d => Cnd l T P d M' ∧ stM l s M' = true) (N M')
def BestIs (T : List Bool → Option (List Int)) (P : List Bool → Nat → Prop) (b : Option (List Int)) : Prop :=
  MinOf (fun d => ∃ M', Cnd l T P d M' ∧ fallM l s t M' = true) b
def TabIs (k : Nat) (T : List Bool → Option (List Int)) : Prop := ∀ M, M.length = l.length → MinOf (fun d => Runs l s d M ∧ d.length = k) (T M)
end
section
variable {l : List Pr} {s t : Sp} {T N : List Bool → Option (List Int)} {P P' : List Bool → Nat → Prop} {b : Option (List Int)}
theorem Runs.len {ds M} (h : Runs l s ds M) : M.length = l.length := by
  induction h with
  | nil => simp
  | step _ _ _ _ ih => rw [List.length_set, ih]
theorem cand_add {M0 : List Bool} {i0 : Nat} {ds0 : List Int} (hP : ∀ M i, P' M i ↔ (P M i ∨ (M = M0 ∧ i = i0))) (h1 : M0.length = l.length) (h2 : i0 < M0.length) (h3 : M0.getD i0 false = true) (h4 : T M0 = some ds0) (d : List Int) (M' : List Bool) :
    Cnd l T P' d M' ↔ (Cnd l T P d M' ∨ (d = ds0 ++ [2 * (i0 : Int)] ∧ M' = M0.set i0 false)) := by
  constructor
  · rintro ⟨M, i, ds, hp, e1, e2, e3, e4, e5, e6⟩
    rcases (hP M i).1 hp with hp | ⟨rfl, rfl⟩
    · exact .inl ⟨M, i, ds, hp, e1, e2, e3, e4, e5, e6⟩
    · rw [h4] at e4; cases e4; exact .inr ⟨e5, e6⟩
  · rintro (⟨M, i, ds, hp, e1, e2, e3, e4, e5, e6⟩ | ⟨e5, e6⟩)
    · exact ⟨M, i, ds, (hP M i).2 (.inl hp), e1, e2, e3, e4, e5, e6⟩
    · exact ⟨M0, i0, ds0, (hP M0 i0).2 (.inr ⟨rfl, rfl⟩), h1, h2, h3, h4, e5, e6⟩
def updT (N : List Bool → Option (List Int)) (M : List Bool) (o : Option (List Int)) : List Bool → Option (List Int) := fun M' => if M' = M then o else N M'
theorem next_add {M0 : List Bool} {i0 : Nat} {ds0 : List Int} (hP : ∀ M i, P' M i ↔ (P M i ∨ (M = M0 ∧ i = i0))) (h1 : M0.length = l.length) (h2 : i0 < M0.length) (h3 : M0.getD i0 false = true) (h4 : T M0 = some ds0) (h : NextIs l s T P N)
    (hs : stM l s (M0.set i0 false) = true) : NextIs l s T P' (updT N (M0.set i0 false) (minO (N (M0.set i0 false)) (ds0 ++ [2 * (i0 : Int)]))) := by
  intro M' hM'
  unfold updT
  by_cases e : M' = M0.set i0 false
  · subst e
    rw [if_pos rfl]
    refine min_congr (min_add _ (h _ hM')) fun d => ?_
    rw [cand_add hP h1 h2 h3 h4]
    constructor
    · rintro (⟨a, b⟩ | rfl)
      · exact ⟨.inl a, b⟩
      · exact ⟨.inr ⟨rfl, rfl⟩, hs⟩
    · rintro ⟨a | ⟨a, _⟩, b⟩
      · exact .inl ⟨a, b⟩
      · exact .inr a
  · rw [if_neg e]
    refine min_congr (h _ hM') fun d => ?_
    rw [cand_add hP h1 h2 h3 h4]
    constructor
    · rintro ⟨a, b⟩; exact ⟨.inl a, b⟩
    · rintro ⟨a | ⟨_, a⟩, b⟩
      · exact ⟨a, b⟩
      · exact absurd a e
theorem next_same {M0 : List Bool} {i0 : Nat} {ds0 : List Int} (hP : ∀ M i, P' M i ↔ (P M i ∨ (M = M0 ∧ i = i0))) (h1 : M0.length = l.length) (h2 : i0 < M0.length) (h3 : M0.getD i0 false = true) (h4 : T M0 = some ds0) (h : NextIs l s T P N)
    (hs : stM l s (M0.set i0 false) = false) : NextIs l s T P' N := by
  intro M' hM'
  refine min_congr (h _ hM') fun d => ?_
  rw [cand_add hP h1 h2 h3 h4]
  constructor
  · rintro ⟨a, b⟩; exact ⟨.inl a, b⟩
  · rintro ⟨a | ⟨_, a⟩, b⟩
    · exact ⟨a, b⟩
    · rw [a, hs] at b; cases b
theorem best_add {M0 : List Bool} {i0 : Nat} {ds0 : List Int} (hP : ∀ M i, P' M i ↔ (P M i ∨ (M = M0 ∧ i = i0))) (h1 : M0.length = l.length) (h2 : i0 < M0.length) (h3 : M0.getD i0 false = true) (h4 : T M0 = some ds0) (h : BestIs l s t T P b)
    (hs : fallM l s t (M0.set i0 false) = true) : BestIs l s t T P' (minO b (ds0 ++ [2 * (i0 : Int)])) := by
  refine min_congr (min_add _ h) fun d => ?_
  constructor
  · rintro (⟨M', a, b⟩ | rfl)
    · exact ⟨M', (cand_add hP h1 h2 h3 h4 _ _).2 (.inl a), b⟩
    · exact ⟨_, (cand_add hP h1 h2 h3 h4 _ _).2 (.inr ⟨rfl, rfl⟩), hs⟩
  · rintro ⟨M', a, b⟩
    rcases (cand_add hP h1 h2 h3 h4 _ _).1 a with a | ⟨a, _⟩
    · exact .inl ⟨M', a, b⟩
    · exact .inr a
theorem best_same {M0 : List Bool} {i0 : Nat} {ds0 : List Int} (hP : ∀ M i, P' M i ↔ (P M i ∨ (M = M0 ∧ i = i0))) (h1 : M0.length = l.length) (h2 : i0 < M0.length) (h3 : M0.getD i0 false = true) (h4 : T M0 = some ds0) (h : BestIs l s t T P b)
    (hs : fallM l s t (M0.set i0 false) = false) : BestIs l s t T P' b := by
  refine min_congr h fun d => ?_
  constructor
  · rintro ⟨M', a, b⟩; exact ⟨M', (cand_add hP h1 h2 h3 h4 _ _).2 (.inl a), b⟩
  · rintro ⟨M', a, b⟩
    rcases (cand_add hP h1 h2 h3 h4 _ _).1 a with a | ⟨_, a⟩
    · exact ⟨M', a, b⟩
    · rw [a, hs] at b; cases b
theorem fall_not {M : List Bool} (h : stM l s M = true) : fallM l s t M = false := by unfold fallM; unfold stM at h; rw [h]; rfl
/-- all pairs are done -/
def AllP (T : List Bool → Option (List Int)) (P : List Bool → Nat → Prop) : Prop := ∀ M i ds, T M = some ds → M.length = l.length → i < M.length → M.getD i false = true → P M i
theorem cand_runs {k : Nat} (hT : TabIs l s k T) {d M'} (h : Cnd l T P d M') (hs : stM l s M' = true) : Runs l s d M' ∧ d.length = k + 1 := by
  obtain ⟨M, i, ds, hp, e1, e2, e3, e4, rfl, rfl⟩ := h
  have := hT M e1
  rw [e4] at this
  exact ⟨.step this.1.1 e2 e3 hs, by simp [this.1.2]⟩
theorem runs_cand {k : Nat} (hT : TabIs l s k T) (hA : AllP (l := l) T P) {ds M i} (h : Runs l s ds M) (hk : ds.length = k) (hi : i < M.length) (hg : M.getD i false = true) : ∃ c, Cnd l T P c (M.set i false) ∧ ltL (ds ++ [2 * (i : Int)]) c = false := by
  have := hT M h.len
  cases e : T M with
  | none => rw [e] at this; exact absurd ⟨h, hk⟩ (this ds)
  | some c =>
    rw [e] at this
    exact ⟨c ++ [2 * (i : Int)], ⟨M, i, c, hA M i c e h.len hi hg, h.len, hi, hg, e, rfl, rfl⟩, leL_app _ (by rw [this.1.2, hk]) (this.2 ds ⟨h, hk⟩)⟩
theorem runs_snoc {d M'} (h : Runs l s d M') (h0 : d ≠ []) : ∃ ds M i, Runs l s ds M ∧ i < M.length ∧ M.getD i false = true ∧ stM l s (M.set i false) = true ∧ d = ds ++ [2 * (i : Int)] ∧ M' = M.set i false := by
  cases h with
  | nil => exact absurd rfl h0
  | step h1 h2 h3 h4 => exact ⟨_, _, _, h1, h2, h3, h4, rfl, rfl⟩
theorem next_tab {k : Nat} (hT : TabIs l s k T) (hA : AllP (l := l) T P) (h : NextIs l s T P N) : TabIs l s (k + 1) N := by
  intro M' hM'
  refine min_less (h M' hM') (fun d hd => cand_runs hT hd.1 hd.2) fun d hd => ?_
  obtain ⟨h1, h2⟩ := hd
  obtain ⟨ds, M, i, r1, r2, r3, r4, rfl, rfl⟩ := runs_snoc h1 (by intro e; rw [e] at h2; cases h2)
  obtain ⟨c, hc, hle⟩ := runs_cand hT hA r1 (by simpa using h2) r2 r3
  exact ⟨c, ⟨hc, r4⟩, hle⟩
theorem best_plan {k : Nat} (hT : TabIs l s k T) (hA : AllP (l := l) T P) (h : BestIs l s t T P b) : MinOf (fun d => Plans l s t d ∧ d.length = k + 1) b := by
  refine min_less h (fun d hd => ?_) fun d hd => ?_
  · obtain ⟨M', ⟨M, i, ds, hp, e1, e2, e3, e4, rfl, rfl⟩, hf⟩ := hd
    have := hT M e1
    rw [e4] at this
    exact ⟨⟨ds, M, i, this.1.1, e2, e3, hf, rfl⟩, by simp [this.1.2]⟩
  · obtain ⟨⟨ds, M, i, r1, r2, r3, r4, rfl⟩, h2⟩ := hd
    obtain ⟨c, hc, hle⟩ := runs_cand hT hA r1 (by simpa using h2) r2 r3
    exact ⟨c, ⟨_, hc, r4⟩, hle⟩
theorem count_set : ∀ {M : List Bool} {i : Nat}, i < M.length → M.getD i false = true → (M.set i false).count true + 1 = M.count true
  | [], i, h, _ => by simp at h
  | b :: M, 0, _, h => by
    simp only [List.getD_cons_zero] at h
    subst h
    simp
  | b :: M, i + 1, h, h2 => by
    simp only [List.getD_cons_succ] at h2
    have := count_set (M := M) (i := i) (by simpa using h) h2
    simp only [List.set_cons_succ, List.count_cons]
    omega
theorem runs_count {ds M} (h : Runs l s ds M) : M.count true + ds.length = l.length := by
  induction h with
  | nil => simp
  | step _ h2 h3 _ ih => have := count_set h2 h3; simp only [List.length_append, List.length_cons, List.length_nil]; omega
theorem tab_zero (hs : stM l s (List.replicate l.length true) = true) : TabIs l s 0 (fun M => if M = List.replicate l.length true then some [] else none) := by
  intro M hM
  by_cases e : M = List.replicate l.length true
  · subst e
    simp only [if_true]
    exact ⟨⟨.nil, rfl⟩, fun e he => by obtain rfl : e = [] := List.length_eq_zero_iff.1 he.2; rfl⟩
  · simp only [if_neg e]
    rintro d ⟨h1, h2⟩
    obtain rfl : d = [] := List.length_eq_zero_iff.1 h2
    generalize hd : ([] : List Int) = d0 at h1
    cases h1 with
    | nil => exact e rfl
    | step => simp at hd
/-- what a plan is -/
def PlanIs (l : List Pr) (s t : Sp) (o : Option (List Int)) : Prop := match o with
  | none => ∀ d, ¬ Plans l s t d
  | some d => Plans l s t d ∧ ∀ e, Plans l s t e → d.length ≤ e.length ∧ (d.length = e.length → ltL e d = false)
theorem planIs_uniq {o o'} (h : PlanIs l s t o) (h' : PlanIs l s t o') : o = o' := by
  cases o with
  | none => cases o' with
    | none => rfl
    | some d => exact absurd h'.1 (h d)
  | some c => cases o' with
    | none => exact absurd h.1 (h' c)
    | some d =>
      have a := h.2 d h'.1
      have b := h'.2 c h.1
      rw [ltL_tot (b.2 (by omega)) (a.2 (by omega))]
theorem planIs_some {k : Nat} {d : List Int} (hno : ∀ e, Plans l s t e → k < e.length) (h : MinOf (fun d => Plans l s t d ∧ d.length = k + 1) (some d)) : PlanIs l s t (some d) := by
  refine ⟨h.1.1, fun e he => ?_⟩
  have := hno e he
  have h2 := h.1.2
  exact ⟨by omega, fun hl => h.2 e ⟨he, by omega⟩⟩
theorem plans_next {k : Nat} (hno : ∀ e, Plans l s t e → k < e.length) (h : MinOf (fun d => Plans l s t d ∧ d.length = k + 1) none) : ∀ e, Plans l s t e → k + 1 < e.length := fun e he => by
  have := hno e he
  by_cases h2 : e.length = k + 1
  · exact absurd ⟨he, h2⟩ (h e)
  · omega
theorem plans_none {k : Nat} (hT : TabIs l s k T) (h0 : ∀ M, M.length = l.length → T M = none) (hno : ∀ e, Plans l s t e → k < e.length) : PlanIs l s t none := by
  rintro d ⟨ds, M, i, r1, r2, r3, r4, rfl⟩
  have hk := hno _ ⟨ds, M, i, r1, r2, r3, r4, rfl⟩
  simp only [List.length_append, List.length_cons, List.length_nil] at hk
  have pre : ∀ {ds M}, Runs l s ds M → k ≤ ds.length → ∃ ds' M', Runs l s ds' M' ∧ ds'.length = k := by
    intro ds M h
    induction h with
    | nil => intro hk; exact ⟨[], _, .nil, by simp at hk ⊢; omega⟩
    | @step ds M i h1 h2 h3 h4 ih =>
      intro hk
      by_cases e : k ≤ ds.length
      · exact ih e
      · exact ⟨_, _, .step h1 h2 h3 h4, by simp at *; omega⟩
  obtain ⟨ds', M', r', hl'⟩ := pre r1 (by omega)
  have := hT M' r'.len
  rw [h0 M' r'.len] at this
  exact this ds' ⟨r', hl'⟩
end
end Go.Proofs.YtkeojokbpjdhpaaGreatDoor
namespace Go.Proofs.YtkeojokbpjdhpaaGreatDoor
open Go.RowKit Go.Shelf Go.Maps
set_option maxRecDepth 50000

def cmpL : List Int → List Int → Int
  | [], [] => 0
  | [], _ :: _ => -1
  | _ :: _, [] => 1
  | a :: s, b :: t => if a < b then -1 else if b < a then 1 else cmpL s t
theorem cmp_lt : ∀ a b, decide (cmpL a b < 0) = ltL a b
  | [], [] => rfl
  | [], _ :: _ => rfl
  | _ :: _, [] => rfl
  | a :: s, b :: t => by
    unfold cmpL ltL
    by_cases h1 : a < b
    · rw [if_pos h1, decide_eq_true h1]; rfl
    · rw [if_neg h1, decide_eq_false h1, Bool.false_or]
      by_cases h2 : b < a
      · rw [if_pos h2, decide_eq_false (by omega : ¬ a = b)]; rfl
      · rw [if_neg h2, decide_eq_true (by omega : a = b), Bool.true_and]; exact cmp_lt s t
theorem cmp_drop {a b : List Int} {k : Nat} {x y : Int} (hx : a[k]? = some x) (hy : b[k]? = some y) : cmpL (a.drop k) (b.drop k) = if x < y then -1 else if y < x then 1 else cmpL (a.drop (k + 1)) (b.drop (k + 1)) := by
  obtain ⟨h1, rfl⟩ := List.getElem?_eq_some_iff.1 hx
  obtain ⟨h2, rfl⟩ := List.getElem?_eq_some_iff.1 hy
  rw [List.drop_eq_getElem_cons h1, List.drop_eq_getElem_cons h2, cmpL]
theorem cmp_long {a b : List Int} {k : Nat} (hx : k < a.length) (hy : k = b.length) : cmpL (a.drop k) (b.drop k) = 1 := by
  subst hy
  rw [List.drop_eq_getElem_cons hx, List.drop_length, cmpL]
theorem cmp_short {a b : List Int} {k : Nat} (hx : k = a.length) (hy : k < b.length) : cmpL (a.drop k) (b.drop k) = -1 := by
  subst hx
  rw [List.drop_eq_getElem_cons hy, List.drop_length, cmpL]
theorem cmp_same {a b : List Int} {k : Nat} (hx : k = a.length) (hy : k = b.length) : cmpL (a.drop k) (b.drop k) = 0 := by
  subst hx
  rw [List.drop_length, List.drop_eq_nil_of_le (by omega)]; rfl
set_option maxHeartbeats 2000000 in
theorem p_Compare (A B : Option Addr) (a b : List Int) (c d : Nat) (w : World) (hl : a.length ≤ 100000) (hm : b.length ≤ 100000) (hA : Rd zC 1 w A a) (hB : Rd zC 1 w B b) :
    Calls Tryz.prog 20 #[.slice A a.length c, .slice B b.length d] w fun e w' => e = .returned (.int .i64 (cmpL a b)) ∧ w' = w := by
  obtain ⟨R, hR⟩ : ∃ R, R = cmpL a b := ⟨_, rfl⟩
  rw [← hR]
  have HR := Lib.hid hR
  clear hR
  go_enter Tryz.func20, Tryz.ntmps20
  go_wp2
  go_loopw [11] (fun i wr => ∃ k : Nat, k ≤ a.length ∧ k ≤ b.length ∧ i = .int .i64 k ∧ wr = w ∧ Hid (R = cmpL (a.drop k) (b.drop k))) (fun i _ => a.length - (intOf i).toNat)
  case atStart => exact ⟨0, by omega, by omega, rfl, rfl, Lib.hid HR.out⟩
  case round =>
    obtain ⟨k, hk, hkb, rfl, rfl, HK⟩ := hrel
    have k0 : (0 : Int) ≤ (k : Int) := Int.natCast_nonneg _
    by_cases hlt : k < a.length
    · have k1 : (k : Int) < (a.length : Int) := by omega
      obtain ⟨x, b1, off, hx, rfl, hb, c0⟩ := rd_int hA hlt
      by_cases hlb : k < b.length
      · have k2 : (k : Int) < (b.length : Int) := by omega
        obtain ⟨y, b2, off2, hy, rfl, hb2, c1⟩ := rd_int hB hlb
        have HC := Lib.hid (fun W => Tryz.cmp_Compare_int x y W)
        have HS := Lib.hid (HK.out.trans (cmp_drop hx hy))
        clear hx hy
        by_cases h1 : x < y
        · have e1 : Lib.compareInt x y = -1 := by unfold Lib.compareInt; rw [if_pos h1]
          rw [e1] at HC
          have HE := Lib.hid (show R = -1 by rw [HS.out, if_pos h1])
          go_wp2_with (go_at_call 43; ((with_reducible refine (HC.out _).mono ?_); rintro e w' ⟨rfl, rfl⟩))
          go_ret
          exact ⟨by rw [HE.out]; rfl, rfl⟩
        · by_cases h2 : y < x
          · have e1 : Lib.compareInt x y = 1 := by unfold Lib.compareInt; rw [if_neg h1, if_pos h2]
            rw [e1] at HC
            have HE := Lib.hid (show R = 1 by rw [HS.out, if_neg h1, if_pos h2])
            go_wp2_with (go_at_call 43; ((with_reducible refine (HC.out _).mono ?_); rintro e w' ⟨rfl, rfl⟩))
            go_ret
            exact ⟨by rw [HE.out]; rfl, rfl⟩
          · have e1 : Lib.compareInt x y = 0 := by unfold Lib.compareInt; rw [if_neg h1, if_neg h2]
            rw [e1] at HC
            have HE := Lib.hid (show R = cmpL (a.drop (k + 1)) (b.drop (k + 1)) by rw [HS.out, if_neg h1, if_neg h2])
            clear HS HK
            go_wp2_with (go_at_call 43; ((with_reducible refine (HC.out _).mono ?_); rintro e w' ⟨rfl, rfl⟩))
            go_roundw
            case rel => exact ⟨k + 1, by omega, by omega, by go_num, by first | rfl | trivial, Lib.hid HE.out⟩
            case measure => simp [intOf]; omega
      · have hkb' : k = b.length := by omega
        have HE := Lib.hid (show R = 1 by rw [HK.out, cmp_long hlt hkb'])
        subst hkb'
        go_wp2
        go_ret
        exact ⟨by rw [HE.out]; rfl, rfl⟩
    · have hka : k = a.length := by omega
      by_cases hlb : k < b.length
      · have HE := Lib.hid (show R = -1 by rw [HK.out, cmp_short hka hlb])
        have k2 : (a.length : Int) < (b.length : Int) := by omega
        subst hka
        go_wp2
        go_ret
        exact ⟨by rw [HE.out]; rfl, rfl⟩
      · have HE := Lib.hid (show R = 0 by rw [HK.out, cmp_same hka (by omega)])
        have k2 : ¬ (a.length : Int) < (b.length : Int) := by omega
        subst hka
        go_wp2
        go_ret
        exact ⟨by rw [HE.out]; rfl, rfl⟩

theorem und_set : Tryz.prog.underlying 47 = some (.int .u32) := by kernel_rfl
theorem und_mapS : Tryz.prog.underlying 49 = some (.map 47 25) := by kernel_rfl
theorem lawSet : Keyed Tryz.prog 47 := int_keyed und_set
theorem zeroL (w : World) : (zeroValue 25).run Tryz.prog w = .ok (.slice none 0 0) w := by kernel_rfl
abbrev RH : Value → Option (DataW Value × List MemPlace) := fun v => some (.held v, [])
abbrev MH (w : World) (b n : Nat) (D : DataW Value) : Prop := w.ownsMap Tryz.prog 47 RH b n D
def kyM (M : List Bool) : Lit := .int .u32 (encM M : Nat)
theorem kyML (M : List Bool) : WideAt.IsKeyLit (kyM M) := by unfold kyM WideAt.IsKeyLit; trivial
theorem kyM_inj {M M' : List Bool} (hl : M.length = M'.length) (h : kyM M = kyM M') : M = M' := by
  unfold kyM at h; injection h with _ h; exact encM_inj hl (by omega)
theorem encM_lt {M : List Bool} (h : M.length ≤ 24) : encM M < 4294967296 := by have := (encM_set h).lt; omega
theorem keyM {M : List Bool} (h : M.length ≤ 24) : keyOf Tryz.prog 47 (.int .u32 (encM M : Nat)) = some (kyM M) := by
  have := encM_lt h
  exact keyOf_int_mk und_set (by simp [Lit.wf]; exact ⟨by show (0 : Int) ≤ _; omega, by show _ ≤ (4294967295 : Int); omega⟩)
/-- the map reads as a table of deeds -/
def MT (m : Nat) (Q : Nat → List Int → Prop) (D : DataW Value) (T : List Bool → Option (List Int)) : Prop :=
  (∀ x, Maps.has D x = true → ∃ M : List Bool, M.length = m ∧ x = kyM M) ∧
  ∀ M, M.length = m → match T M with
    | none => Maps.has D (kyM M) = false
    | some ds => Maps.has D (kyM M) = true ∧ ∃ g c, (∀ z, D.atKey (kyM M) z = .held (.slice (some ⟨g, 0, none⟩) ds.length c)) ∧ Q g ds
def KeepLI (w w' : World) : Prop := ∀ g ds, LI w g ds → LI w' g ds
theorem keep_below {w w' : World} (h : Below w.heap.size w w') : KeepLI w w' := fun _ _ k => k.on h
theorem li_stpF {N : Nat → Prop} {w w' : World} {b : Nat} {l : List Int} (h : LI w b l) (k : Stp N w w') (hn : ¬ N b) : LI w' b l := by
  obtain ⟨cur, h1, h2⟩ := h
  exact ⟨cur, k.blk h1 hn, h2⟩
theorem keep_stp {N : Nat → Prop} {w w' : World} (h : Stp N w w') (hn : ∀ g cur, Blk w g 3 cur → ¬ N g) : KeepLI w w' := fun g ds k => by
  obtain ⟨cur, h1, h2⟩ := k
  exact ⟨cur, h.blk h1 (hn g cur h1), h2⟩
theorem keep_grown {w w' : World} {r : Option Nat} (h : w.grownBy w' r) (hn : ∀ g cur, Blk w g 3 cur → some g ≠ r) : KeepLI w w' := fun g ds k => by
  obtain ⟨cur, h1, h2⟩ := k
  exact ⟨cur, h1.grown h (hn g cur h1), h2⟩
theorem KeepLI.trans {w w' w'' : World} (h : KeepLI w w') (k : KeepLI w' w'') : KeepLI w w'' := fun g ds q => k g ds (h g ds q)
theorem MT.keep {m : Nat} {Q Q' : Nat → List Int → Prop} {D : DataW Value} {T : List Bool → Option (List Int)} (h : MT m Q D T) (k : ∀ g ds, Q g ds → Q' g ds) : MT m Q' D T := by
  refine ⟨h.1, fun M hM => ?_⟩
  have := h.2 M hM
  cases e : T M with
  | none => rw [e] at this; exact this
  | some ds =>
    rw [e] at this
    obtain ⟨h1, g, c, h2, h3⟩ := this
    exact ⟨h1, g, c, h2, k _ _ h3⟩
theorem MT.put {m : Nat} {Q : Nat → List Int → Prop} {D : DataW Value} {T : List Bool → Option (List Int)} {M : List Bool} {g c : Nat} {ds : List Int} (h : MT m Q D T) (hD : IsMap D) (hM : M.length = m) (hl : Q g ds) :
    MT m Q (D.put (kyM M) (.held (.slice (some ⟨g, 0, none⟩) ds.length c))) (updT T M (some ds)) := by
  refine ⟨fun x hx => ?_, fun M' hM' => ?_⟩
  · by_cases e : x = kyM M
    · exact ⟨M, hM, e⟩
    · rw [has_put_other e] at hx; exact h.1 x hx
  · unfold updT
    by_cases e : M' = M
    · subst e
      rw [if_pos rfl]
      exact ⟨has_put_same hD (kyML _) _, g, c, fun z => atKey_put_same hD (kyML _) _ z, hl⟩
    · have e2 : kyM M' ≠ kyM M := fun q => e (kyM_inj (hM'.trans hM.symm) q)
      rw [if_neg e]
      have := h.2 M' hM'
      cases e3 : T M' with
      | none => rw [e3] at this; dsimp only; rw [has_put_other e2]; exact this
      | some ds' =>
        rw [e3] at this
        obtain ⟨h1, g', c', h2, h3⟩ := this
        exact ⟨by rw [has_put_other e2]; exact h1, g', c', fun z => by rw [atKey_put_other e2]; exact h2 z, h3⟩
theorem mt_made (m : Nat) (Q : Nat → List Int → Prop) : MT m Q (.map []) (fun _ => none) := ⟨fun x hx => by simp [Maps.has] at hx, fun M _ => by simp [Maps.has]⟩
theorem mt_none {m n b : Nat} {Q : Nat → List Int → Prop} {w : World} {D : DataW Value} {T : List Bool → Option (List Int)} (h : MT m Q D T) (hD : MH w b n D) (h0 : Maps.size D = 0) : ∀ M, M.length = m → T M = none := by
  intro M hM
  have := h.2 M hM
  cases e : T M with
  | none => rfl
  | some ds =>
    rw [e] at this
    obtain ⟨es, rfl⟩ := hD.isMap
    have h2 : es = [] := by simpa [Maps.size] using h0
    subst h2
    simp [Maps.has] at this
theorem mt_some {m n b : Nat} {Q : Nat → List Int → Prop} {w : World} {D : DataW Value} {T : List Bool → Option (List Int)} (h : MT m Q D T) (hD : MH w b n D) (h0 : 0 < Maps.size D) : ∃ M ds, M.length = m ∧ T M = some ds := by
  obtain ⟨es, rfl, _, hk⟩ := hD.entries lawSet
  cases es with
  | nil => simp [Maps.size] at h0
  | cons p es =>
    obtain ⟨M, hM, hp⟩ := h.1 p.1 (by simp [Maps.has, WideAt.sameKey_self (hk p (List.mem_cons_self ..))])
    have h2 := h.2 M hM
    cases e : T M with
    | some ds => exact ⟨M, ds, hM, e⟩
    | none =>
      rw [e, ← hp] at h2
      simp [Maps.has, WideAt.sameKey_self (hk p (List.mem_cons_self ..))] at h2
theorem mh_look_no {m n b : Nat} {Q : Nat → List Int → Prop} {w : World} {D : DataW Value} {T : List Bool → Option (List Int)} {M : List Bool} (hm : m ≤ 24) (h : MT m Q D T) (hD : MH w b n D) (hM : M.length = m) (h0 : T M = none) :
    (Instr.lookup 49 (.map (some b)) (.int .u32 (encM M : Nat)) true).run Tryz.prog w = .ok (.tuple #[.slice none 0 0, .bool false]) w := by
  have h1 := h.2 M hM
  rw [h0] at h1
  obtain ⟨v, ps, hr, hv⟩ := hD.look_ok lawSet und_mapS (zeroL w) (zd := .held (.slice none 0 0)) (zp := []) rfl (keyM (hM ▸ hm))
  have e := atKey_of_not_has h1 (.held (Value.slice none 0 0))
  rw [e] at hv
  simp only [RH, Option.some.injEq, Prod.mk.injEq] at hv
  have : v = .slice none 0 0 := by have := hv.1; injection this
  rw [hr, this, show Maps.has D (kyM M) = false from h1]
theorem mh_look_yes {m n b : Nat} {Q : Nat → List Int → Prop} {w : World} {D : DataW Value} {T : List Bool → Option (List Int)} {M : List Bool} {ds : List Int} (hm : m ≤ 24) (h : MT m Q D T) (hD : MH w b n D) (hM : M.length = m) (h0 : T M = some ds) :
    ∃ g c, (Instr.lookup 49 (.map (some b)) (.int .u32 (encM M : Nat)) true).run Tryz.prog w = .ok (.tuple #[.slice (some ⟨g, 0, none⟩) ds.length c, .bool true]) w ∧ Q g ds := by
  have h1 := h.2 M hM
  rw [h0] at h1
  obtain ⟨h2, g, c, h3, h4⟩ := h1
  refine ⟨g, c, ?_, h4⟩
  obtain ⟨v, ps, hr, hv⟩ := hD.look_ok lawSet und_mapS (zeroL w) (zd := .held (.slice none 0 0)) (zp := []) rfl (keyM (hM ▸ hm))
  rw [h3] at hv
  simp only [RH, Option.some.injEq, Prod.mk.injEq] at hv
  have : v = .slice (some ⟨g, 0, none⟩) ds.length c := by have := hv.1; injection this
  rw [hr, this, show Maps.has D (kyM M) = true from h2]
/-- a range over the map, S seen -/
def MR (m : Nat) (w : World) (Q : Nat → List Int → Prop) (b r n : Nat) (T : List Bool → Option (List Int)) (S : List Bool → Prop) (cnt : Nat) : Prop :=
  ∃ D left, w.ranges Tryz.prog 47 RH b r n D left cnt ∧ MT m Q D T ∧ ∀ M, M.length = m → T M ≠ none → (left (kyM M) = false ↔ S M)
section
variable {ops : Array Oper} {rest : List Oper} {o : Oper} {a : Act} {Q : Exit → Act → World → Prop}
theorem wpList_rangeM {m b n : Nat} {T : List Bool → Option (List Int)} {D : DataW Value} (w : World) (hg : o.guard = none) (mo : Operand) (hop : o.op = Op.range 49 mo) (hm : a.eval mo = .map (some b)) (hown : MH w b n D) (hT : MT m (LI w) D T)
    (hK : ∀ w' cnt, MR m w' (LI w') b w.heap.size n T (fun _ => False) cnt → cnt ≤ n → w.grownBy w' none → w'.heap.size = w.heap.size + 1 → wpList Tryz.prog ops Q rest (a.put o.dst (.pointer (some ⟨w.heap.size, 0, none⟩))) w') :
    wpList Tryz.prog ops Q (o :: rest) a w := by
  refine wpList_range_own w hg mo 49 hop 47 25 lawSet und_mapS RH b n D hm hown fun w' h1 h2 h3 => ?_
  refine hK w' _ ⟨D, Maps.has D, h1, hT.keep (keep_grown h2 (fun g cur _ => by simp)), fun M hM h0 => ?_⟩ (by have := hown.size_le; exact this) h2 h3
  have := hT.2 M hM
  cases e : T M with
  | none => exact absurd e h0
  | some ds => rw [e] at this; rw [this.1]; simp
theorem wpList_nextM {m b r n cnt : Nat} {T : List Bool → Option (List Int)} {S : List Bool → Prop} (hm24 : m ≤ 24) (w : World) (hg : o.guard = none) (it : Operand) (hop : o.op = Op.next it false) (hit : a.eval it = .pointer (some ⟨r, 0, none⟩)) (h : MR m w (LI w) b r n T S cnt)
    (hDone : (∀ M, M.length = m → T M ≠ none → S M) → wpList Tryz.prog ops Q rest (a.put o.dst (.tuple #[.bool false])) w)
    (hMore : ∀ (M : List Bool) (ds : List Int) (g c : Nat) (w' : World) (cnt' : Nat), M.length = m → T M = some ds → ¬ S M → LI w' g ds → MR m w' (LI w') b r n T (fun M' => S M' ∨ M' = M) cnt' → cnt' < cnt → w.grownBy w' (some r) → w'.heap.size = w.heap.size →
      (Instr.entry (.pointer (some ⟨r, 0, none⟩))).run Tryz.prog w' = .ok (.tuple #[.int .u32 (encM M : Nat), .slice (some ⟨g, 0, none⟩) ds.length c]) w' → wpList Tryz.prog ops Q rest (a.put o.dst (.tuple #[.bool true, .int .u32 (encM M : Nat), .slice (some ⟨g, 0, none⟩) ds.length c])) w') :
    wpList Tryz.prog ops Q (o :: rest) a w := by
  obtain ⟨D, left, hr, hT, hS⟩ := h
  have hri : ∃ o', w.heap[r]? = some o' ∧ ∀ cur, o' ≠ .cells cur 3 (0, 0) := by
    obtain ⟨es, clock, since, seen, c0, _, _, _, _, hr, _⟩ := hr
    exact ⟨_, hr, fun cur => by simp⟩
  obtain ⟨o', ho', hne⟩ := hri
  refine wpList_next_ranges w hg it hop 47 lawSet RH (fun x : Value => x) (fun x : Value => x) (fun key kl _ => ⟨key, rfl⟩) (fun v y _ => ⟨v, rfl⟩) b r n D left cnt hit hr ?_ ?_
  · rintro _ hl
    exact hDone fun M hM h0 => (hS M hM h0).1 (hl _)
  · rintro x c kl y w' cnt' hkey hlk hv hat hrg hlt hgr hsz hen
    have hk : KeepLI w w' := keep_grown hgr (fun g cur hb e => by
      injection e with e; subst e
      rw [show w.heap[g]? = some (.cells cur 3 (0, 0)) from hb] at ho'
      injection ho' with ho'
      exact hne cur ho'.symm)
    have hhas : Maps.has D kl = true := by
      rcases hx : Maps.has D kl with _ | _
      · have h1 := atKey_of_not_has hx (.held (Value.slice none 0 0))
        have h2 := atKey_of_not_has hx (.held (Value.bool true))
        rw [hat] at h1 h2
        rw [h1] at h2
        injection h2 with h2; cases h2
      · rfl
    obtain ⟨M, hM, rfl⟩ := hT.1 kl hhas
    have hTM := hT.2 M hM
    cases e : T M with
    | none => rw [e] at hTM; rw [hhas] at hTM; cases hTM
    | some ds =>
      rw [e] at hTM
      obtain ⟨_, g, c', h2, h3⟩ := hTM
      simp only [RH, Option.some.injEq] at hv
      have e1 : c = .slice (some ⟨g, 0, none⟩) ds.length c' := by
        have h4 := hat (.held (Value.slice none 0 0))
        rw [h2, ← hv] at h4
        injection h4 with h4; exact h4.symm
      subst e1
      have e2 : x = .int .u32 (encM M : Nat) := lawSet.inj hkey (keyM (hM ▸ hm24))
      subst e2
      refine hMore M ds g c' w' cnt' hM e (fun hs => ?_) (hk _ _ h3) ⟨D, _, hrg, hT.keep hk, fun M' hM' h0 => ?_⟩ hlt hgr hsz hen
      · rw [(hS M hM (by rw [e]; simp)).2 hs] at hlk; cases hlk
      · show _ ↔ (S M' ∨ M' = M)
        rw [← hS M' hM' h0]
        by_cases e3 : M' = M
        · subst e3
          rw [WideAt.sameKey_self (kyML _)]; simp
        · rw [sameKey_ne (fun q => e3 (kyM_inj (hM'.trans hM.symm) q))]; simp [e3]
end
theorem MR.keep {m b r n cnt : Nat} {w w' : World} {Q Q' : Nat → List Int → Prop} {T : List Bool → Option (List Int)} {S : List Bool → Prop} {N : Nat → Prop} (h : MR m w Q b r n T S cnt) (hs : Stp N w w') (hb : ¬ N b) (hr : ¬ N r) (k : ∀ g ds, Q g ds → Q' g ds) : MR m w' Q' b r n T S cnt := by
  obtain ⟨D, left, h1, h2, h3⟩ := h
  refine ⟨D, left, ?_, h2.keep k, h3⟩
  have l1 := h1.owns.lt
  have l2 := h1.lt
  obtain ⟨es, clock, since, seen, c0, q1, F, q2, q3, q4, q5⟩ := h1
  exact ⟨es, clock, since, seen, c0, (hs.block b l1 hb).trans q1, F, q2, q3, (hs.block r l2 hr).trans q4, q5⟩
theorem MR.lt {m b r n cnt : Nat} {w : World} {Q : Nat → List Int → Prop} {T : List Bool → Option (List Int)} {S : List Bool → Prop} (h : MR m w Q b r n T S cnt) : b < w.heap.size ∧ r < w.heap.size := by
  obtain ⟨D, left, h1, _⟩ := h
  exact ⟨h1.owns.lt, h1.lt⟩
theorem MH.stp {b n : Nat} {w w' : World} {D : DataW Value} {N : Nat → Prop} (h : MH w b n D) (hs : Stp N w w') (hb : ¬ N b) : MH w' b n D := by
  have l1 := h.lt
  obtain ⟨es, clock, q1, q2⟩ := h
  exact ⟨es, clock, (hs.block b l1 hb).trans q1, q2⟩
theorem mh_not {b n : Nat} {w : World} {D : DataW Value} (h : MH w b n D) {t : TypeId} {g : Nat} {cur : Array Value} (hg : Blk w g t cur) : g ≠ b := by
  rintro rfl
  obtain ⟨es, clock, q1, _⟩ := h
  rw [show w.heap[g]? = some (.cells cur t (0, 0)) from hg] at q1
  cases q1
theorem mr_not {m b r n cnt : Nat} {w : World} {V : Nat → List Int → Prop} {T : List Bool → Option (List Int)} {S : List Bool → Prop} (h : MR m w V b r n T S cnt) {t : TypeId} {g : Nat} {cur : Array Value} (hg : Blk w g t cur) : g ≠ b ∧ g ≠ r := by
  obtain ⟨D, left, ⟨es, clock, since, seen, c0, q1, _, _, _, q4, _⟩, _⟩ := h
  have q : w.heap[g]? = some (.cells cur t (0, 0)) := hg
  constructor
  · rintro rfl; rw [q] at q1; cases q1
  · rintro rfl; rw [q] at q4; cases q4
theorem blk_type {w : World} {g : Nat} {t t' : TypeId} {c c' : Array Value} (h : Blk w g t c) (h' : Blk w g t' c') : t = t' := by
  have : some (Obj.cells c t (0, 0)) = some (.cells c' t' (0, 0)) := h.symm.trans h'
  injection this with this; injection this
end Go.Proofs.YtkeojokbpjdhpaaGreatDoor
