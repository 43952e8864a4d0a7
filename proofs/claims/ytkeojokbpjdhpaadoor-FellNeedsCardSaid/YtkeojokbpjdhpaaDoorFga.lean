/- Sets as numbers, plain. -/
import Derived.Test.YtkeojokbpjdhpaaDoorKit
import Derived.Lib.TrailingZeros
import Derived.Test.YtkeojokbpjdhpaaDoorFm1
set_option linter.unusedSimpArgs false
set_option linter.unusedVariables false
namespace Go.Proofs.YtkeojokbpjdhpaaDoor
open Go.RowKit

/-- the members of a set, ascending -/
def mL (x : Nat) : List Nat := (List.range 32).filter fun i => x.testBit i
theorem mL_zero : mL 0 = [] := by unfold mL; simp
theorem flt_first (p q : Nat → Bool) (c : Nat) (hp : p c = true) (hq : q c = false) (h : ∀ i, i ≠ c → q i = p i) : ∀ (n a : Nat), a ≤ c → c < a + n → (∀ i, a ≤ i → i < c → p i = false) → (List.range' a n).filter p = c :: (List.range' a n).filter q
  | 0, a, h1, h2, _ => absurd h2 (by omega)
  | n + 1, a, h1, h2, h3 => by
    rw [List.range'_succ]
    by_cases e : a = c
    · subst e
      rw [List.filter_cons_of_pos hp, List.filter_cons_of_neg (by simp [hq])]
      congr 1
      refine List.filter_congr fun i hi => ?_
      have := (List.mem_range'_1.1 hi).1
      exact (h i (by omega)).symm
    · have := h3 a (Nat.le_refl _) (by omega)
      rw [List.filter_cons_of_neg (by simp [this]), List.filter_cons_of_neg (by rw [h a e]; simp [this])]
      exact flt_first p q c hp hq h n (a + 1) (by omega) (by omega) fun i h4 h5 => h3 i (by omega) h5
theorem bit_low {x : Nat} (h0 : x ≠ 0) (h : x < 2 ^ 32) : x.testBit (Lib.ctz 32 x) = true ∧ Lib.ctz 32 x < 32 ∧ (∀ i, i < Lib.ctz 32 x → x.testBit i = false) ∧ ∀ i, (x &&& (x - 1)).testBit i = (x.testBit i && decide (i ≠ Lib.ctz 32 x)) := by
  have hc : Lib.ctz 32 x = Lib.ctzFrom 32 x := by unfold Lib.ctz; rw [if_neg h0]
  obtain ⟨m, hm, hl⟩ := Lib.ctzFrom_spec 32 x (by omega) h
  rw [hc]
  generalize Lib.ctzFrom 32 x = c at *
  have e1 : x - 1 = 2 ^ c * (2 * m) + (2 ^ c - 1) := by
    have := Nat.two_pow_pos c
    rw [hm, Nat.mul_add, Nat.mul_one]; omega
  have t1 : ∀ i, x.testBit i = (decide (c ≤ i) && (2 * m + 1).testBit (i - c)) := fun i => by rw [hm, Nat.testBit_two_pow_mul]
  have t2 : ∀ i, (x - 1).testBit i = if i < c then true else (2 * m).testBit (i - c) := fun i => by
    rw [e1, Nat.testBit_two_pow_mul_add _ (by have := Nat.two_pow_pos c; omega)]
    by_cases hi : i < c
    · rw [if_pos hi, if_pos hi, Nat.testBit_two_pow_sub_one]; simpa using hi
    · rw [if_neg hi, if_neg hi]
  have o1 : ∀ i, (2 * m + 1).testBit (i + 1) = (2 * m).testBit (i + 1) := fun i => by
    rw [Nat.testBit_succ, Nat.testBit_succ]; congr 1; omega
  refine ⟨by rw [t1]; simp, hl, fun i hi => by rw [t1]; simp; omega, fun i => ?_⟩
  rw [Nat.testBit_and, t2, t1]
  by_cases h1 : i < c
  · have : ¬ c ≤ i := by omega
    simp [this]
  · by_cases h2 : i = c
    · subst h2; simp
    · obtain ⟨j, rfl⟩ : ∃ j, i = c + (j + 1) := ⟨i - c - 1, by omega⟩
      rw [if_neg h1, show c + (j + 1) - c = j + 1 by omega, o1]
      have h3 : c ≤ c + (j + 1) := by omega
      have h4 : c + (j + 1) ≠ c := by omega
      simp
theorem mL_step {x : Nat} (h0 : x ≠ 0) (h : x < 2 ^ 32) : mL x = Lib.ctz 32 x :: mL (x &&& (x - 1)) := by
  obtain ⟨b1, b2, b3, b4⟩ := bit_low h0 h
  unfold mL
  rw [List.range_eq_range']
  exact flt_first _ _ _ b1 (by rw [b4]; simp) (fun i hi => by rw [b4]; simp [hi]) 32 0 (by omega) (by omega) (fun i _ hi => b3 i hi)
theorem mL_lt {x i : Nat} (h : i ∈ mL x) : i < 32 ∧ x.testBit i = true := by
  unfold mL at h; rw [List.mem_filter] at h; exact ⟨by simpa using h.1, h.2⟩
/-- a set as marks -/
def SetOf (x : Nat) (M : List Bool) : Prop := M.length ≤ 24 ∧ ∀ i, x.testBit i = M.getD i false
theorem gd_out {M : List Bool} {i : Nat} (h : M.length ≤ i) : M.getD i false = false := by simp [List.getD_eq_getElem?_getD, List.getElem?_eq_none h]
theorem SetOf.lt {x : Nat} {M : List Bool} (h : SetOf x M) : x < 2 ^ 24 := by
  refine Nat.lt_pow_two_of_testBit x fun i hi => ?_
  rw [h.2, gd_out (by have := h.1; omega)]
def mM (M : List Bool) : List Nat := (List.range M.length).filter fun i => M.getD i false
theorem set_mL {x : Nat} {M : List Bool} (h : SetOf x M) : mL x = mM M := by
  unfold mL mM
  obtain ⟨n, hn⟩ : ∃ n, 32 = M.length + n := ⟨32 - M.length, by have := h.1; omega⟩
  rw [hn, List.range_add, List.filter_append, List.filter_congr fun i _ => h.2 i]
  have : List.filter (fun i => x.testBit i) (List.map (fun x => M.length + x) (List.range n)) = [] := by
    rw [List.filter_eq_nil_iff]
    intro i hi
    obtain ⟨j, _, rfl⟩ := List.mem_map.1 hi
    rw [h.2, gd_out (by omega)]; simp
  rw [this, List.append_nil]
theorem set_full {n : Nat} (h : n ≤ 24) : SetOf (2 ^ n - 1) (List.replicate n true) := by
  refine ⟨by simpa using h, fun i => ?_⟩
  rw [Nat.testBit_two_pow_sub_one]
  by_cases hi : i < n
  · simp [List.getD, hi]
  · simp [List.getD, hi]
theorem getD_set {M : List Bool} {i j : Nat} {b : Bool} (hi : i < M.length) : (M.set i b).getD j false = if j = i then b else M.getD j false := by
  simp only [List.getD_eq_getElem?_getD, List.getElem?_set]
  by_cases e : j = i
  · subst e; simp [hi]
  · rw [if_neg (fun q => e q.symm), if_neg e]
theorem set_add {x i : Nat} {M : List Bool} (h : SetOf x M) (hi : i < M.length) : SetOf (x ||| 2 ^ i) (M.set i true) := by
  refine ⟨by rw [List.length_set]; exact h.1, fun j => ?_⟩
  rw [Nat.testBit_or, Nat.testBit_two_pow, getD_set hi, h.2]
  by_cases e : j = i
  · subst e; simp
  · rw [if_neg e]; simp [Ne.symm e]
theorem set_away {x y i : Nat} {M : List Bool} (h : SetOf x M) (hi : i < M.length) (hy : ∀ j, y.testBit j = (x.testBit j && decide (j ≠ i))) : SetOf y (M.set i false) := by
  refine ⟨by rw [List.length_set]; exact h.1, fun j => ?_⟩
  rw [hy, getD_set hi, h.2]
  by_cases e : j = i
  · subst e; simp
  · rw [if_neg e]; simp [e]
end Go.Proofs.YtkeojokbpjdhpaaDoor
namespace Go.Proofs.YtkeojokbpjdhpaaDoor
open Go.RowKit

/-- the spots of the marked props -/
def lfS (l : List Pr) (M : List Bool) : List Sp := (mM M).map fun i => (prAt l i).a
/-- the marks behind deeds -/
def dsB (M : List Bool) (d : Int) : Option (List Bool) := if M.getD (d / 2).toNat false = decide (d % 2 = 0) then some (M.set (d / 2).toNat (!decide (d % 2 = 0))) else none
def thM (M : List Bool) (ds : List Int) : Option (List Bool) := ds.foldl (fun o d => o.bind fun m => dsB m d) (some M)
theorem thM_nil (M : List Bool) : thM M [] = some M := rfl
theorem thM_step {M : List Bool} {ds : List Int} {k : Nat} {d : Int} (hd : ds[k]? = some d) : thM M (ds.take (k + 1)) = (thM M (ds.take k)).bind fun m => dsB m d := by
  unfold thM; rw [List.take_add_one, hd, List.foldl_append]; rfl
theorem thM_none (M : List Bool) (k : Nat) : ∀ (ds : List Int), thM M (ds.take k) = none → thM M ds = none := fun ds h => by
  have e : ds = ds.take k ++ ds.drop k := (List.take_append_drop k ds).symm
  rw [e]; unfold thM at *
  rw [List.foldl_append, h]
  clear e h
  generalize ds.drop k = r
  induction r with
  | nil => rfl
  | cons a r ih => exact ih
theorem dsB_len {M m : List Bool} {d : Int} (h : dsB M d = some m) : m.length = M.length := by
  unfold dsB at h; split at h
  · cases h; rw [List.length_set]
  · cases h
theorem thM_len {M m : List Bool} {ds : List Int} : ∀ (k : Nat), thM M (ds.take k) = some m → m.length = M.length := by
  intro k
  induction k generalizing m with
  | zero => intro h; simp [thM] at h; rw [h]
  | succ k ih =>
    intro h
    cases hd : ds[k]? with
    | none =>
      have hk : ds.length ≤ k := List.getElem?_eq_none_iff.1 hd
      refine ih ?_
      rw [List.take_of_length_le (by omega)] at h ⊢; exact h
    | some d =>
      rw [thM_step hd] at h
      cases h1 : thM M (ds.take k) with
      | none => rw [h1] at h; cases h
      | some m1 => rw [h1] at h; exact (dsB_len h).trans (ih h1)
def lsB (n : Nat) (ds : List Int) : Bool := decide (ds.length ≤ 100) && ds.all fun d => wn d 0 (2 * (n : Int) - 1)
/-- deeds are right -/
def riB (l : List Pr) (s : Sp) (ds : List Int) (k : Nat) : Bool := match thM (List.replicate l.length true) (ds.take (k + 1)) with
  | none => false
  | some m => decide (k + 1 = ds.length) || heldB (lfS l m) s
def riA (l : List Pr) (s : Sp) (ds : List Int) : Bool := vP l && (isS s && (lsB l.length ds && (List.range ds.length).all (riB l s ds)))
/-- what stands behind all deeds -/
def afM (l : List Pr) (ds : List Int) : List Bool := (thM (List.replicate l.length true) ds).getD []
def feB (l : List Pr) (s : Sp) (ds : List Int) : Bool := riA l s ds && (decide (0 < ds.length) && !heldB (lfS l (afM l ds)) s)
end Go.Proofs.YtkeojokbpjdhpaaDoor
