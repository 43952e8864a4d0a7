/- Texts of numbers, plain: lists that are written as lines of numbers; what both read. -/
import Derived.Test.YtoelekhkgknneaaDoorQa
import Derived.Test.YtoelekhkgknneaaDoorTl
set_option linter.unusedSimpArgs false
set_option linter.unusedVariables false
namespace Go.Proofs.YtoelekhkgknneaaDoor.Tx
open Go.Lib

/-- things that are lists of n numbers, and which lists of them are valid -/
structure LayX (X : Type) where
  n : Nat
  of : List Int → X
  ns : X → List Int
  bad : X
  vld : List X → Bool
  n0 : 0 < n
  of_ns : ∀ x, of (ns x) = x
  ns_of : ∀ l, l.length = n → ns (of l) = l
  ns_len : ∀ x, (ns x).length = n
  bd : ∀ g x, vld (g ++ [x]) = true → ∀ m ∈ ns x, -1000000000000000000 < m ∧ m < 1000000000000000000
  nbad : ∀ g, vld (g ++ [bad]) = false
  nnil : vld [] = false
  pre : ∀ g k, vld g = true → 0 < k → vld (g.take k) = true
  most : ∀ g, vld g = true → g.length ≤ 60

namespace LayX
variable {X : Type} (Y : LayX X)
def rd (t : List UInt8) : X := match rdP Y.n t with
  | some l => Y.of l
  | none => Y.bad
def rdR (t : List UInt8) : Option X := match rdN Y.n t with
  | some l => some (Y.of l)
  | none => none
def wr (x : X) : List UInt8 := lnN (Y.ns x)
theorem bd_mem {g : List X} (h : Y.vld g = true) : ∀ x ∈ g, ∀ m ∈ Y.ns x, -1000000000000000000 < m ∧ m < 1000000000000000000 := fun x hx => by
  obtain ⟨i, hi, rfl⟩ := List.getElem_of_mem hx
  have h2 := Y.pre g (i + 1) h (by omega)
  rw [List.take_add_one, List.getElem?_eq_getElem hi] at h2
  exact Y.bd _ _ h2
theorem rd_wr {x : X} (h : ∀ m ∈ Y.ns x, -1000000000000000000 < m ∧ m < 1000000000000000000) : Y.rd (Y.wr x) = x := by
  unfold rd wr
  rw [rdP_of Y.n0 (Y.ns_len x) h]
  exact Y.of_ns x
/-- both read a line alike -/
theorem line (g : List X) (t : List UInt8) : match Y.rdR t with
    | some x => Y.wr x = t ∧ Y.rd t = x
    | none => ¬ (Y.wr (Y.rd t) = t ∧ Y.vld (g ++ [Y.rd t]) = true) := by
  cases hr : rdN Y.n t with
  | some l =>
    obtain ⟨h1, h2, h3⟩ := rdN_some hr
    have e : Y.rdR t = some (Y.of l) := by unfold rdR; rw [hr]
    rw [e]
    dsimp only
    unfold wr rd
    rw [Y.ns_of l h3, h2]
    exact ⟨h1, rfl⟩
  | none =>
    have e : Y.rdR t = none := by unfold rdR; rw [hr]
    rw [e]
    dsimp only
    rintro ⟨h1, h2⟩
    have h4 := rdN_of Y.n0 (Y.ns_len (Y.rd t)) (Y.bd g _ h2)
    unfold wr at h1
    rw [h1, hr] at h4
    cases h4
/-- what Parse reads: things, line, right or not -/
def pa (s : List UInt8) : List X × Nat × Bool := if s = [] then ([], 0, false) else lnGo Y.rd Y.wr Y.vld s.length 0 [] s
theorem pa_ref {s : List UInt8} (h : s ≠ []) : Y.pa s = lnR Y.vld Y.rdR 0 [] (cutZ 10 s) := by
  unfold pa
  rw [if_neg h]
  exact ln_same (fun g t => by have := Y.line g t; revert this; cases Y.rdR t <;> exact id) s.length 0 [] s (Nat.le_refl _)
theorem fm_ne {g : List X} (h : g ≠ []) : fmtZ Y.wr g ≠ [] := by
  cases g with
  | nil => exact absurd rfl h
  | cons x r => rw [show x :: r = [x] ++ r from rfl, fmt_app, fmt_one]; simp
theorem pa_fm {g : List X} (h : Y.vld g = true) : Y.pa (fmtZ Y.wr g) = (g, 0, true) := by
  have hg : g ≠ [] := by rintro rfl; rw [Y.nnil] at h; cases h
  have := ln_fmt (rd := Y.rd) (wr := Y.wr) (vld := Y.vld) (fmtZ Y.wr g).length 0 [] g (Nat.le_refl _) (fun x hx => ⟨lnN_nl _, Y.rd_wr (Y.bd_mem h x hx)⟩) (fun k hk _ => by rw [List.nil_append]; exact Y.pre g k h hk)
  unfold pa
  rw [if_neg (Y.fm_ne hg)]
  simpa using this
theorem pa_back {s : List UInt8} (h : (Y.pa s).2.2 = true) : fmtZ Y.wr (Y.pa s).1 = s ∧ Y.vld (Y.pa s).1 = true ∧ (Y.pa s).2.1 = 0 := by
  unfold pa at h ⊢
  split at h
  · cases h
  · rename_i hs
    rw [if_neg hs]
    obtain ⟨h1, h2, h3⟩ := ln_back (rd := Y.rd) (wr := Y.wr) (vld := Y.vld) s.length 0 [] s (Nat.le_refl _) h
    have h1' : fmtZ Y.wr (lnGo Y.rd Y.wr Y.vld s.length 0 [] s).1 = s := by simpa [fmtZ] using h1
    refine ⟨h1', ?_, h3⟩
    rcases h2 with h2 | h2
    · rw [h2] at h1'; exact absurd h1'.symm hs
    · exact h2
/-- what Format writes -/
def fm (g : List X) : ByteArray := if Y.vld g = true then bts (fmtZ Y.wr g) else ⟨#[]⟩
/-- what Parse answers: things, line, error -/
def paE (s : List UInt8) : List X × Nat × Int := if 65536 < s.length then ([], 0, 3) else ((Y.pa s).1, (Y.pa s).2.1, if (Y.pa s).2.2 = true then 0 else 2)
theorem ln_len (l : List Int) (h : ∀ m ∈ l, -1000000000000000000 < m ∧ m < 1000000000000000000) : (lnN l).length ≤ 21 * l.length := by
  have : ∀ P : List (List UInt8), (∀ p ∈ P, p.length ≤ 20) → (joinZ 32 P).length ≤ 21 * P.length := fun P => by
    induction P with
    | nil => intro _; simp [joinZ]
    | cons p r ih =>
      intro h
      have h0 := h p (List.mem_cons_self ..)
      cases r with
      | nil => simp [joinZ]; omega
      | cons q r =>
        have := ih fun p hp => h p (List.mem_cons_of_mem _ hp)
        rw [joinZ]
        simp only [List.length_append, List.length_cons] at this ⊢
        omega
  have h2 := this (l.map itoa) fun p hp => by
    obtain ⟨m, hm, rfl⟩ := List.mem_map.1 hp
    have := h m hm
    exact itoa_len (by omega) (by omega)
  rwa [List.length_map] at h2
theorem wr_len {x : X} (h : ∀ m ∈ Y.ns x, -1000000000000000000 < m ∧ m < 1000000000000000000) : (Y.wr x).length ≤ 21 * Y.n := by
  have := ln_len _ h
  rwa [Y.ns_len] at this
theorem fm_len {g : List X} (h : ∀ x ∈ g, ∀ m ∈ Y.ns x, -1000000000000000000 < m ∧ m < 1000000000000000000) : (fmtZ Y.wr g).length ≤ (21 * Y.n + 1) * g.length := by
  induction g with
  | nil => simp [fmtZ]
  | cons x g ih =>
    have h1 := ih fun y hy => h y (List.mem_cons_of_mem _ hy)
    have h2 := Y.wr_len (h x (List.mem_cons_self ..))
    rw [show x :: g = [x] ++ g from rfl, fmt_app, fmt_one]
    simp only [List.length_append, List.length_cons, List.length_nil, Nat.mul_add, Nat.mul_one, Nat.zero_add] at *
    omega
theorem fm_step {g : List X} {k : Nat} {x : X} (hx : g[k]? = some x) : fmtZ Y.wr (g.take (k + 1)) = fmtZ Y.wr (g.take k) ++ (Y.wr x ++ [10]) := by
  rw [List.take_add_one, hx, fmt_app]
  show _ ++ fmtZ Y.wr [x] = _
  rw [fmt_one]
theorem paE_zero {s : ByteArray} (h : (Y.paE s.data.toList).2.2 = 0) : Y.fm (Y.paE s.data.toList).1 = s := by
  unfold paE at h ⊢
  split at h
  · cases h
  · rename_i h0
    rw [if_neg h0]
    dsimp only at h ⊢
    split at h
    · rename_i h1
      obtain ⟨h2, h3, _⟩ := Y.pa_back h1
      unfold fm
      rw [if_pos h3, h2, list_bts]
    · cases h
theorem paE_fm {g : List X} (h : Y.vld g = true) (hn : Y.n ≤ 6) : Y.paE (Y.fm g).data.toList = (g, 0, 0) := by
  have e : (Y.fm g).data.toList = fmtZ Y.wr g := by unfold fm; rw [if_pos h, bts_list]
  have h60 := Y.most g h
  have := Y.fm_len (Y.bd_mem h)
  have h3 : (21 * Y.n + 1) * g.length ≤ 127 * 60 := Nat.mul_le_mul (by omega) h60
  rw [e]
  unfold paE
  rw [if_neg (by omega), Y.pa_fm h]
  rfl
theorem fm_size (g : List X) (hn : Y.n ≤ 6) : (Y.fm g).size ≤ 7620 := by
  unfold fm
  split
  · rename_i h
    have h60 := Y.most g h
    have := Y.fm_len (Y.bd_mem h)
    have h3 : (21 * Y.n + 1) * g.length ≤ 127 * 60 := Nat.mul_le_mul (by omega) h60
    rw [bts_size]; omega
  · decide
end LayX
end Go.Proofs.YtoelekhkgknneaaDoor.Tx
