/- Wind's texts, plain: gusts as words. -/
import Derived.Test.YtoelekhkgknneaaDoorTa
import Derived.Test.YtoelekhkgknneaaDoorVa
import Derived.Lib.Join
set_option linter.unusedSimpArgs false
set_option linter.unusedVariables false
namespace Go.Proofs.YtoelekhkgknneaaDoor
open Go.Lib

/-- a gust's word -/
def wordL (x : Int) : List UInt8 := if x = -1 then [45] else itoa x
theorem itoa_dash (n : Int) : itoa n ≠ [45] := fun h => by
  unfold itoa at h
  split at h
  · injection h with _ h; exact decD_ne _ h
  · have := decD_dig n.toNat 45 (by rw [h]; exact List.mem_cons_self ..)
    revert this; decide
theorem word_inj {x y : Int} (h : wordL x = wordL y) : x = y := by
  unfold wordL at h
  split at h <;> split at h
  · omega
  · exact absurd h.symm (itoa_dash _)
  · exact absurd h (itoa_dash _)
  · exact itoa_inj h
theorem word_sp (x : Int) : (32 : UInt8) ∉ wordL x := by
  unfold wordL
  split
  · decide
  · exact itoa_no (by decide) (by decide)
theorem word_ne (x : Int) : wordL x ≠ [] := by
  unfold wordL
  split
  · simp
  · exact itoa_ne x
/-- what the program reads a word as -/
def gotI (w : List UInt8) : Int := match atoiAll w with
  | .ok v => v
  | _ => -1
def unW (w : List UInt8) : Option Int := if wordL (gotI w) = w then some (gotI w) else none
theorem unW_word {w : List UInt8} {g : Int} (h : unW w = some g) : wordL g = w := by
  unfold unW at h
  split at h
  · rename_i h2; injection h with h; rw [← h]; exact h2
  · cases h
theorem word_unW {g : Int} (h0 : -9223372036854775808 ≤ g) (h1 : g ≤ 9223372036854775807) : unW (wordL g) = some g := by
  by_cases h : g = -1
  · subst h; rfl
  · have e : wordL g = itoa g := by unfold wordL; rw [if_neg h]
    have e2 : gotI (wordL g) = g := by unfold gotI; rw [e, atoi_itoa h0 h1]
    unfold unW
    rw [e2, if_pos rfl]
/-- words read one by one -/
def unWs : List (List UInt8) → Option (List Int)
  | [] => some []
  | w :: r => match unW w with
    | none => none
    | some g => match unWs r with
      | none => none
      | some l => some (g :: l)
theorem unWs_map : ∀ {ws : List (List UInt8)} {l : List Int}, unWs ws = some l → l.map wordL = ws
  | [], l, h => by cases h; rfl
  | w :: r, l, h => by
    unfold unWs at h
    split at h
    · cases h
    · rename_i g hg
      split at h
      · cases h
      · rename_i l' hl
        cases h
        rw [List.map_cons, unW_word hg, unWs_map hl]
theorem map_unWs : ∀ {l : List Int}, (∀ x ∈ l, -9223372036854775808 ≤ x ∧ x ≤ 9223372036854775807) → unWs (l.map wordL) = some l
  | [], _ => rfl
  | x :: l, h => by
    have hx := h x (List.mem_cons_self ..)
    rw [List.map_cons, unWs, word_unW hx.1 hx.2, map_unWs fun y hy => h y (List.mem_cons_of_mem _ hy)]
theorem unWs_snoc : ∀ {ws : List (List UInt8)} {l : List Int} {w : List UInt8}, unWs ws = some l → unWs (ws ++ [w]) = match unW w with | none => none | some g => some (l ++ [g])
  | [], l, w, h => by cases h; simp only [List.nil_append, unWs]
  | v :: r, l, w, h => by
    unfold unWs at h
    split at h
    · cases h
    · rename_i g hg
      split at h
      · cases h
      · rename_i l' hl
        cases h
        rw [List.cons_append, unWs, hg, unWs_snoc hl]
        cases unW w <;> rfl
theorem unWs_bad {w : List UInt8} (hw : unW w = none) : ∀ (a r : List (List UInt8)), unWs (a ++ w :: r) = none
  | [], r => by rw [List.nil_append, unWs, hw]
  | v :: a, r => by
    rw [List.cons_append, unWs, unWs_bad hw a r]
    cases unW v <;> rfl
/-- what a text says -/
def parZ (s : List UInt8) : Option (List Int) := if s = [] then some [] else match unWs (cutZ 32 s) with
  | none => none
  | some l => if vGu l = true then some l else none
/-- the text of gusts -/
def fmL (l : List Int) : List UInt8 := joinZ 32 (l.map wordL)
theorem vgu_bd {l : List Int} (h : vGu l = true) : ∀ x ∈ l, -1 ≤ x ∧ x ≤ 200 := fun x hx => by
  unfold vGu at h
  rw [Bool.and_eq_true, List.all_eq_true] at h
  exact wn_iff.1 (h.1 x hx)
theorem par_fm {s : List UInt8} {l : List Int} (h : parZ s = some l) : fmL l = s ∧ vGu l = true := by
  unfold parZ at h
  split at h
  · rename_i hs; cases h; exact ⟨hs.symm, rfl⟩
  · split at h
    · cases h
    · rename_i l' hl
      split at h
      · rename_i hv
        cases h
        exact ⟨by unfold fmL; rw [unWs_map hl, join_cut], hv⟩
      · cases h
theorem joinZ_ne {b : UInt8} : ∀ {l : List (List UInt8)}, l ≠ [] → (∀ p ∈ l, p ≠ []) → joinZ b l ≠ []
  | [], h, _ => absurd rfl h
  | [p], _, h => h p (List.mem_cons_self ..)
  | p :: q :: r, _, h => by simp [joinZ]
theorem fm_par {l : List Int} (h : vGu l = true) : parZ (fmL l) = some l := by
  by_cases hl : l = []
  · subst hl; rfl
  · have h1 : l.map wordL ≠ [] := by simpa using hl
    have h2 : fmL l ≠ [] := joinZ_ne h1 fun p hp => by obtain ⟨x, _, rfl⟩ := List.mem_map.1 hp; exact word_ne x
    unfold parZ
    rw [if_neg h2]
    have h3 : cutZ 32 (fmL l) = l.map wordL := cut_join h1 fun p hp => by obtain ⟨x, _, rfl⟩ := List.mem_map.1 hp; exact word_sp x
    rw [h3, map_unWs fun x hx => by have := vgu_bd h x hx; omega]
    dsimp only
    rw [if_pos h]
theorem joinZ_snoc {b : UInt8} (w : List UInt8) : ∀ {l : List (List UInt8)}, l ≠ [] → joinZ b (l ++ [w]) = joinZ b l ++ b :: w
  | [], h => absurd rfl h
  | [p], _ => rfl
  | p :: q :: r, _ => by
    have := joinZ_snoc (b := b) w (l := q :: r) (by simp)
    simp only [List.cons_append] at this ⊢
    rw [joinZ, this, joinZ, List.append_assoc]; rfl
theorem fm_snoc (l : List Int) (x : Int) : fmL (l ++ [x]) = if l = [] then wordL x else fmL l ++ 32 :: wordL x := by
  unfold fmL
  rw [List.map_append, List.map_cons, List.map_nil]
  split
  · rename_i h; subst h; rfl
  · rename_i h; exact joinZ_snoc _ (by simpa using h)
theorem join_joinZ (b : UInt8) : ∀ l : List (List UInt8), Lib.join l [b] = joinZ b l
  | [] => rfl
  | [p] => by simp [Lib.join, joinZ]
  | p :: q :: r => by
    have ih := join_joinZ b (q :: r)
    have e : Lib.join (p :: q :: r) [b] = p ++ [b] ++ Lib.join (q :: r) [b] := by simp [Lib.join, List.intercalate, List.intersperse]
    rw [e, ih, joinZ]; simp
/-- what the reference reads a word as -/
def reW (w : List UInt8) : Option Int := match unW w with
  | none => none
  | some g => if -1 ≤ g ∧ g ≤ 1000000000000000 then some g else none
def reWs : List (List UInt8) → Option (List Int)
  | [] => some []
  | w :: r => match reW w with
    | none => none
    | some g => match reWs r with
      | none => none
      | some l => some (g :: l)
theorem reWs_un : ∀ {ws : List (List UInt8)}, match reWs ws with
    | some l => unWs ws = some l
    | none => unWs ws = none ∨ ∃ l, unWs ws = some l ∧ vGu l = false
  | [] => rfl
  | w :: r => by
    have ih := reWs_un (ws := r)
    have bad : ∀ {g : Int} {l : List Int}, ¬ (-1 ≤ g ∧ g ≤ 1000000000000000) ∨ vGu l = false ∨ False → vGu (g :: l) = false := fun {g l} h => by
      cases hv : vGu (g :: l)
      · rfl
      · have hb := vgu_bd hv
        rcases h with h | h | h
        · exact absurd ⟨(hb g (List.mem_cons_self ..)).1, by have := (hb g (List.mem_cons_self ..)).2; omega⟩ h
        · unfold vGu at hv h
          rw [Bool.and_eq_true, List.all_eq_true, decide_eq_true_eq] at hv
          rw [Bool.and_eq_false_iff] at h
          rcases h with h | h
          · have : l.all (fun x => wn x (-1) 200) = true := List.all_eq_true.2 fun x hx => hv.1 x (List.mem_cons_of_mem _ hx)
            rw [this] at h; cases h
          · have := hv.2; simp at this h; omega
        · exact h.elim
    unfold reWs reW
    cases hu : unW w with
    | none => exact .inl (by rw [unWs, hu])
    | some g =>
      dsimp only
      by_cases hg : -1 ≤ g ∧ g ≤ 1000000000000000
      · rw [if_pos hg]
        dsimp only
        cases hr : reWs r with
        | none =>
          rw [hr] at ih
          dsimp only at ih ⊢
          rcases ih with ih | ⟨l, ih, hv⟩
          · exact .inl (by rw [unWs, hu, ih])
          · exact .inr ⟨g :: l, by rw [unWs, hu, ih], bad (.inr (.inl hv))⟩
        | some l =>
          rw [hr] at ih
          dsimp only at ih ⊢
          rw [unWs, hu, ih]
      · rw [if_neg hg]
        dsimp only
        cases h2 : unWs r with
        | none => exact .inl (by rw [unWs, hu, h2])
        | some l => exact .inr ⟨g :: l, by rw [unWs, hu, h2], bad (.inl hg)⟩
/-- the reference's answer is the program's -/
theorem par_re {s : List UInt8} (h : s ≠ []) : parZ s = match reWs (cutZ 32 s) with
    | none => none
    | some l => if vGu l = true then some l else none := by
  unfold parZ
  rw [if_neg h]
  have := reWs_un (ws := cutZ 32 s)
  cases hr : reWs (cutZ 32 s) with
  | some l => rw [hr] at this; dsimp only at this; rw [this]
  | none =>
    rw [hr] at this
    dsimp only at this
    rcases this with h1 | ⟨l, h1, h2⟩
    · rw [h1]
    · rw [h1]; dsimp only; rw [if_neg (by rw [h2]; simp)]
theorem reWs_snoc : ∀ {ws : List (List UInt8)} {l : List Int} {w : List UInt8}, reWs ws = some l → reWs (ws ++ [w]) = match reW w with | none => none | some g => some (l ++ [g])
  | [], l, w, h => by cases h; simp only [List.nil_append, reWs]
  | v :: r, l, w, h => by
    unfold reWs at h
    split at h
    · cases h
    · rename_i g hg
      split at h
      · cases h
      · rename_i l' hl
        cases h
        rw [List.cons_append, reWs, hg, reWs_snoc hl]
        cases reW w <;> rfl
theorem reWs_bad {w : List UInt8} (hw : reW w = none) : ∀ (a r : List (List UInt8)), reWs (a ++ w :: r) = none
  | [], r => by rw [List.nil_append, reWs, hw]
  | v :: a, r => by
    rw [List.cons_append, reWs, reWs_bad hw a r]
    cases reW v <;> rfl
end Go.Proofs.YtoelekhkgknneaaDoor
