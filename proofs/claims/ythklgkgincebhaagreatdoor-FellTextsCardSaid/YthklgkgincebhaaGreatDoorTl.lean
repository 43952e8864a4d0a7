/- Texts of lines, plain: what is read line by line, by the program (cut at the first newline) and by the reference (cut at all newlines first). -/
import Derived.Test.YthklgkgincebhaaGreatDoorTa
set_option linter.unusedSimpArgs false
set_option linter.unusedVariables false
namespace Go.Proofs.YthklgkgincebhaaGreatDoor
open Go.Lib

section
variable {X : Type} (rd : List UInt8 → X) (wr : X → List UInt8) (vld : List X → Bool)
/-- the program's reading: what was read, the line of the error, whether all is right -/
def lnGo : Nat → Nat → List X → List UInt8 → List X × Nat × Bool
  | 0, _, g, _ => (g, 0, true)
  | n + 1, i, g, s => if s = [] then (g, 0, true) else
    if (Lib.cut s [10]).2.2 = true ∧ wr (rd (Lib.cut s [10]).1) = (Lib.cut s [10]).1 ∧ vld (g ++ [rd (Lib.cut s [10]).1]) = true then lnGo n (i + 1) (g ++ [rd (Lib.cut s [10]).1]) (Lib.cut s [10]).2.1 else ([], i, false)
/-- the reference's reading -/
def lnR (rdR : List UInt8 → Option X) : Nat → List X → List (List UInt8) → List X × Nat × Bool
  | _, g, [] => (g, 0, true)
  | i, g, [t] => if t = [] then (g, 0, true) else ([], i, false)
  | i, g, t :: u :: r => match rdR t with
    | none => ([], i, false)
    | some x => if vld (g ++ [x]) = true then lnR rdR (i + 1) (g ++ [x]) (u :: r) else ([], i, false)
def fmtZ (g : List X) : List UInt8 := (g.map fun x => wr x ++ [10]).flatten
end
section
variable {X : Type} {rd : List UInt8 → X} {wr : X → List UInt8} {vld : List X → Bool} {rdR : List UInt8 → Option X}
theorem ln_same (H : ∀ g t, match rdR t with
    | some x => wr x = t ∧ rd t = x
    | none => ¬ (wr (rd t) = t ∧ vld (g ++ [rd t]) = true)) : ∀ (n i : Nat) (g : List X) (s : List UInt8), s.length ≤ n → lnGo rd wr vld n i g s = lnR vld rdR i g (cutZ 10 s)
  | 0, i, g, s, h => by
    obtain rfl : s = [] := List.length_eq_zero_iff.1 (by omega)
    rfl
  | n + 1, i, g, s, h => by
    by_cases hs : s = []
    · subst hs; rfl
    · rcases first_or 10 s with hn | ⟨p, q, rfl, hp⟩
      · rw [lnGo, if_neg hs, cutL_no hn, cut_last hn, lnR, if_neg hs, if_neg (by simp)]
      · have hq : q.length ≤ n := by simp at h; omega
        have ih := fun x => ln_same H n (i + 1) (g ++ [x]) q hq
        obtain ⟨u, r, hur⟩ := List.exists_cons_of_ne_nil (cutZ_ne 10 q)
        have HH := H g p
        rw [lnGo, if_neg hs, cutL_at q hp, cut_piece hp, hur, lnR]
        rw [hur] at ih
        dsimp only
        cases hr : rdR p with
        | none =>
          rw [hr] at HH
          dsimp only at HH ⊢
          rw [if_neg (fun e => HH ⟨e.2.1, e.2.2⟩)]
        | some x =>
          rw [hr] at HH
          dsimp only at HH ⊢
          obtain ⟨h1, h2⟩ := HH
          rw [h2]
          by_cases hv : vld (g ++ [x]) = true
          · rw [if_pos ⟨rfl, h1, hv⟩, if_pos hv, ih x]
          · rw [if_neg (fun e => hv e.2.2), if_neg hv]
theorem fmt_app (g h : List X) : fmtZ wr (g ++ h) = fmtZ wr g ++ fmtZ wr h := by unfold fmtZ; simp
theorem fmt_one (x : X) : fmtZ wr [x] = wr x ++ [10] := by unfold fmtZ; simp
/-- what was read is written again as it was -/
theorem ln_back : ∀ (n i : Nat) (g : List X) (s : List UInt8), s.length ≤ n → (lnGo rd wr vld n i g s).2.2 = true → fmtZ wr (lnGo rd wr vld n i g s).1 = fmtZ wr g ++ s ∧ ((lnGo rd wr vld n i g s).1 = g ∨ vld (lnGo rd wr vld n i g s).1 = true) ∧ (lnGo rd wr vld n i g s).2.1 = 0
  | 0, i, g, s, h, _ => by
    obtain rfl : s = [] := List.length_eq_zero_iff.1 (by omega)
    exact ⟨by simp [lnGo], .inl rfl, rfl⟩
  | n + 1, i, g, s, h, hk => by
    by_cases hs : s = []
    · subst hs; exact ⟨by simp [lnGo], .inl rfl, rfl⟩
    · rw [lnGo, if_neg hs] at hk ⊢
      rcases first_or 10 s with hn | ⟨p, q, rfl, hp⟩
      · rw [cutL_no hn, if_neg (by simp)] at hk; cases hk
      · rw [cutL_at q hp] at hk ⊢
        dsimp only at hk ⊢
        by_cases hc : true = true ∧ wr (rd p) = p ∧ vld (g ++ [rd p]) = true
        · rw [if_pos hc] at hk ⊢
          have hq : q.length ≤ n := by simp at h; omega
          obtain ⟨h1, h2, h3⟩ := ln_back n (i + 1) (g ++ [rd p]) q hq hk
          refine ⟨?_, ?_, h3⟩
          · rw [h1, fmt_app, fmt_one, hc.2.1]; simp
          · rcases h2 with h2 | h2
            · exact .inr (by rw [h2]; exact hc.2.2)
            · exact .inr h2
        · rw [if_neg hc] at hk; cases hk
/-- what is written is read back -/
theorem ln_fmt : ∀ (n i : Nat) (g h : List X), (fmtZ wr h).length ≤ n → (∀ x ∈ h, (10 : UInt8) ∉ wr x ∧ rd (wr x) = x) → (∀ k, 0 < k → k ≤ h.length → vld (g ++ h.take k) = true) → lnGo rd wr vld n i g (fmtZ wr h) = (g ++ h, 0, true)
  | 0, i, g, h, hl, _, _ => by
    cases h with
    | nil => simp [lnGo]
    | cons x r => rw [show x :: r = [x] ++ r from rfl, fmt_app, fmt_one] at hl; simp at hl
  | n + 1, i, g, h, hl, h1, h2 => by
    cases h with
    | nil => simp [lnGo, fmtZ]
    | cons x r =>
      have e : fmtZ wr (x :: r) = wr x ++ 10 :: fmtZ wr r := by rw [show x :: r = [x] ++ r from rfl, fmt_app, fmt_one]; simp
      obtain ⟨a, b⟩ := h1 x (List.mem_cons_self ..)
      rw [e] at hl ⊢
      rw [lnGo, if_neg (by simp), cutL_at _ a]
      dsimp only
      rw [b, if_pos ⟨rfl, rfl, by have := h2 1 (by omega) (by simp); simpa using this⟩, ln_fmt n (i + 1) (g ++ [x]) r (by simp at hl; omega) (fun y hy => h1 y (List.mem_cons_of_mem _ hy)) (fun k k0 hk => by
        have := h2 (k + 1) (by omega) (by simp; omega)
        simpa using this)]
      simp
end
end Go.Proofs.YthklgkgincebhaaGreatDoor
