/- Lean: the narrowest strip, plain; bounds. -/
import Derived.Test.YtohbejdfaecghaaLte
set_option linter.unusedSimpArgs false
set_option linter.unusedVariables false
namespace Go.Proofs.Ytohbejdfaecghaa
open Go.RowKit

/-- a strip: slope b / d, its values at the height 0 from lo to hi -/
abbrev Sp := Int × Int × Int × Int
def vS (l : List Pt) (b d : Int) (m : Nat) : Int := (ptAt l m).x * d - b * (ptAt l m).h
def loN (l : List Pt) (b d : Int) : Nat → Int
  | 0 => 0
  | k + 1 => if k = 0 ∨ vS l b d k < loN l b d k then vS l b d k else loN l b d k
def hiN (l : List Pt) (b d : Int) : Nat → Int
  | 0 => 0
  | k + 1 => if k = 0 ∨ hiN l b d k < vS l b d k then vS l b d k else hiN l b d k
def bP (l : List Pt) (i k : Nat) : Int := (ptAt l k).x - (ptAt l i).x
def dP (l : List Pt) (i k : Nat) : Int := (ptAt l k).h - (ptAt l i).h
def spOf (l : List Pt) (i k : Nat) : Sp := (bP l i k, dP l i k, loN l (bP l i k) (dP l i k) l.length, hiN l (bP l i k) (dP l i k) l.length)
def spLess (s t : Sp) : Prop := s.2.1 = 0 ∨ (t.2.2.2 - t.2.2.1) * s.2.1 < (s.2.2.2 - s.2.2.1) * t.2.1
instance (s t : Sp) : Decidable (spLess s t) := by unfold spLess; infer_instance
def spStep (l : List Pt) (s : Sp) (i k : Nat) : Sp := if spLess s (spOf l i k) then spOf l i k else s
def spI (l : List Pt) (i : Nat) (s : Sp) : Nat → Sp
  | 0 => s
  | m + 1 => spStep l (spI l i s m) i (i + 1 + m)
def spO (l : List Pt) : Nat → Sp
  | 0 => (0, 0, 0, 0)
  | i + 1 => spI l i (spO l i) (l.length - (i + 1))
def narS (l : List Pt) : Sp := spO l l.length

theorem loN_spec (l : List Pt) (b d : Int) : ∀ k, (∀ m, m < k → loN l b d k ≤ vS l b d m) ∧ (0 < k → ∃ m, m < k ∧ loN l b d k = vS l b d m)
  | 0 => ⟨fun m h => absurd h (by omega), fun h => absurd h (by omega)⟩
  | k + 1 => by
    obtain ⟨h1, h2⟩ := loN_spec l b d k
    unfold loN
    split
    · rename_i hc
      refine ⟨fun m hm => ?_, fun _ => ⟨k, by omega, rfl⟩⟩
      rcases Nat.eq_or_lt_of_le (Nat.le_of_lt_succ hm) with rfl | h
      · exact Int.le_refl _
      · have := h1 m h
        rcases hc with hc | hc
        · omega
        · omega
    · rename_i hc
      have hk : ¬ k = 0 := fun e => hc (.inl e)
      have hv : loN l b d k ≤ vS l b d k := Int.not_lt.1 fun e => hc (.inr e)
      refine ⟨fun m hm => ?_, fun _ => ?_⟩
      · rcases Nat.eq_or_lt_of_le (Nat.le_of_lt_succ hm) with rfl | h
        · exact hv
        · exact h1 m h
      · obtain ⟨m, hm, e⟩ := h2 (by omega)
        exact ⟨m, by omega, e⟩
theorem hiN_spec (l : List Pt) (b d : Int) : ∀ k, (∀ m, m < k → vS l b d m ≤ hiN l b d k) ∧ (0 < k → ∃ m, m < k ∧ hiN l b d k = vS l b d m)
  | 0 => ⟨fun m h => absurd h (by omega), fun h => absurd h (by omega)⟩
  | k + 1 => by
    obtain ⟨h1, h2⟩ := hiN_spec l b d k
    unfold hiN
    split
    · rename_i hc
      refine ⟨fun m hm => ?_, fun _ => ⟨k, by omega, rfl⟩⟩
      rcases Nat.eq_or_lt_of_le (Nat.le_of_lt_succ hm) with rfl | h
      · exact Int.le_refl _
      · have := h1 m h
        rcases hc with hc | hc
        · omega
        · omega
    · rename_i hc
      have hk : ¬ k = 0 := fun e => hc (.inl e)
      have hv : vS l b d k ≤ hiN l b d k := Int.not_lt.1 fun e => hc (.inr e)
      refine ⟨fun m hm => ?_, fun _ => ?_⟩
      · rcases Nat.eq_or_lt_of_le (Nat.le_of_lt_succ hm) with rfl | h
        · exact hv
        · exact h1 m h
      · obtain ⟨m, hm, e⟩ := h2 (by omega)
        exact ⟨m, by omega, e⟩
/-- what the loops over pairs have found; P: the pairs that are done -/
def GoodS (l : List Pt) (P : Nat → Nat → Prop) (s : Sp) : Prop :=
  (s = (0, 0, 0, 0) ∧ ∀ i k, ¬ P i k) ∨ ∃ i k, i < k ∧ k < l.length ∧ s = spOf l i k ∧ ∀ i' k', P i' k' → (s.2.2.2 - s.2.2.1) * dP l i' k' ≤ ((spOf l i' k').2.2.2 - (spOf l i' k').2.2.1) * s.2.1
theorem good_step {l : List Pt} (hl : Asc l) {P : Nat → Nat → Prop} {s : Sp} {i k : Nat} (h : GoodS l P s) (hik : i < k) (hk : k < l.length) (hP : ∀ i' k', P i' k' → i' < k' ∧ k' < l.length) :
    GoodS l (fun i' k' => P i' k' ∨ (i' = i ∧ k' = k)) (spStep l s i k) := by
  have dpos : ∀ i k : Nat, i < k → k < l.length → 0 < dP l i k := fun i k h1 h2 => by have := hl i k h1 h2; unfold dP; omega
  have hd := dpos i k hik hk
  unfold spStep
  rcases h with ⟨rfl, hno⟩ | ⟨a, c, hac, hc, rfl, hmin⟩
  · rw [if_pos (show spLess (0, 0, 0, 0) (spOf l i k) from .inl rfl)]
    refine .inr ⟨i, k, hik, hk, rfl, fun i' k' hp => ?_⟩
    rcases hp with hp | ⟨rfl, rfl⟩
    · exact absurd hp (hno _ _)
    · exact Int.le_refl _
  · have hda := dpos a c hac hc
    have hdn : (spOf l a c).2.1 ≠ 0 := by show dP l a c ≠ 0; omega
    by_cases hlt : spLess (spOf l a c) (spOf l i k)
    · rw [if_pos hlt]
      rcases hlt with hlt | hlt
      · exact absurd hlt hdn
      refine .inr ⟨i, k, hik, hk, rfl, fun i' k' hp => ?_⟩
      rcases hp with hp | ⟨rfl, rfl⟩
      · have h1 := hmin i' k' hp
        have hd' := dpos i' k' (hP _ _ hp).1 (hP _ _ hp).2
        show ((spOf l i k).2.2.2 - (spOf l i k).2.2.1) * dP l i' k' ≤ ((spOf l i' k').2.2.2 - (spOf l i' k').2.2.1) * dP l i k
        have e1 : (spOf l a c).2.1 = dP l a c := rfl
        have e2 : (spOf l i k).2.1 = dP l i k := rfl
        rw [e1] at h1 hlt
        rw [e2] at hlt
        generalize (spOf l i k).2.2.2 - (spOf l i k).2.2.1 = U at *
        generalize (spOf l a c).2.2.2 - (spOf l a c).2.2.1 = V at *
        generalize (spOf l i' k').2.2.2 - (spOf l i' k').2.2.1 = X at *
        have k1 := Int.mul_le_mul_of_nonneg_right (Int.le_of_lt hlt) (Int.le_of_lt hd')
        have k2 := Int.mul_le_mul_of_nonneg_right h1 (Int.le_of_lt hd)
        apply Int.le_of_mul_le_mul_right _ hda
        have e3 : V * dP l i k * dP l i' k' = V * dP l i' k' * dP l i k := Int.mul_right_comm _ _ _
        rw [e3] at k1
        have k3 := Int.le_trans k1 k2
        rw [Int.mul_right_comm U, Int.mul_right_comm X]
        exact k3
      · exact Int.le_refl _
    · rw [if_neg hlt]
      have hle : ((spOf l a c).2.2.2 - (spOf l a c).2.2.1) * (spOf l i k).2.1 ≤ ((spOf l i k).2.2.2 - (spOf l i k).2.2.1) * (spOf l a c).2.1 := Int.not_lt.1 fun e => hlt (.inr e)
      refine .inr ⟨a, c, hac, hc, rfl, fun i' k' hp => ?_⟩
      rcases hp with hp | ⟨rfl, rfl⟩
      · exact hmin i' k' hp
      · exact hle
theorem good_mono {l : List Pt} {P Q : Nat → Nat → Prop} {s : Sp} (h : GoodS l P s) (hPQ : ∀ i k, P i k ↔ Q i k) : GoodS l Q s := by
  have : P = Q := by funext i k; exact propext (hPQ i k)
  exact this ▸ h
theorem good_I {l : List Pt} (hl : Asc l) {i : Nat} {s : Sp} (h : GoodS l (fun a c => a < i ∧ a < c ∧ c < l.length) s) : ∀ m, i + 1 + m ≤ l.length ∨ m = 0 → GoodS l (fun a c => (a < i ∧ a < c ∧ c < l.length) ∨ (a = i ∧ i < c ∧ c < i + 1 + m)) (spI l i s m)
  | 0, _ => good_mono h fun a c => ⟨fun h => .inl h, fun h => by rcases h with h | h; exact h; omega⟩
  | m + 1, hm => by
    have ih := good_I hl h m (by omega)
    refine good_mono (good_step hl ih (show i < i + 1 + m by omega) (by omega) (fun a c h => by omega)) fun a c => ?_
    omega
theorem good_O {l : List Pt} (hl : Asc l) : ∀ i, i ≤ l.length → GoodS l (fun a c => a < i ∧ a < c ∧ c < l.length) (spO l i)
  | 0, _ => .inl ⟨rfl, fun a c h => by omega⟩
  | i + 1, hi => by
    have ih := good_O hl i (by omega)
    have := good_I hl ih (l.length - (i + 1)) (by omega)
    exact good_mono this fun a c => by omega
theorem nar_of {l : List Pt} (hl : Asc l) (h2 : 2 ≤ l.length) : Nar l (narS l).1 (narS l).2.1 (narS l).2.2.1 (narS l).2.2.2 := by
  have hg := good_O hl l.length (Nat.le_refl _)
  unfold narS
  rcases hg with ⟨_, hno⟩ | ⟨i, k, hik, hk, hs, hmin⟩
  · exact absurd ⟨show 0 < l.length by omega, show 0 < 1 by omega, show 1 < l.length by omega⟩ (hno 0 1)
  · rw [hs] at hmin ⊢
    refine ⟨by have := hl i k hik hk; show 0 < dP l i k; unfold dP; omega, fun m hm => ⟨(loN_spec l _ _ l.length).1 m hm, (hiN_spec l _ _ l.length).1 m hm⟩, fun a c hac hc => ?_⟩
    have h1 := hmin a c ⟨by omega, hac, hc⟩
    obtain ⟨m, hm, em⟩ := (loN_spec l (bP l a c) (dP l a c) l.length).2 (by omega)
    obtain ⟨n, hn, en⟩ := (hiN_spec l (bP l a c) (dP l a c) l.length).2 (by omega)
    refine ⟨m, n, hm, hn, ?_⟩
    have e : (spOf l a c).2.2.2 - (spOf l a c).2.2.1 = vS l (bP l a c) (dP l a c) n - vS l (bP l a c) (dP l a c) m := by rw [← em, ← en]; rfl
    rw [e] at h1
    exact h1

theorem ptAt_mem {l : List Pt} {m : Nat} (h : m < l.length) : ptAt l m ∈ l := by
  rw [ptAt_of (List.getElem?_eq_getElem h)]; exact List.getElem_mem h
theorem bP_bd {l : List Pt} (hs : ∀ p ∈ l, SP p) {i k : Nat} (hi : i < l.length) (hk : k < l.length) : -20000 ≤ bP l i k ∧ bP l i k ≤ 20000 ∧ -200000 ≤ dP l i k ∧ dP l i k ≤ 200000 := by
  obtain ⟨a0, a1, a2, a3⟩ := hs _ (ptAt_mem hi)
  obtain ⟨b0, b1, b2, b3⟩ := hs _ (ptAt_mem hk)
  unfold bP dP
  omega
theorem vS_bd {l : List Pt} (hs : ∀ p ∈ l, SP p) {b d : Int} (hb : -20000 ≤ b ∧ b ≤ 20000) (hd : -200000 ≤ d ∧ d ≤ 200000) {m : Nat} (hm : m < l.length) :
    (-2000000000 ≤ (ptAt l m).x * d ∧ (ptAt l m).x * d ≤ 2000000000) ∧ (-4000000000 ≤ b * (ptAt l m).h ∧ b * (ptAt l m).h ≤ 4000000000) ∧ -6000000000 ≤ vS l b d m ∧ vS l b d m ≤ 6000000000 := by
  obtain ⟨a0, a1, a2, a3⟩ := hs _ (ptAt_mem hm)
  have u := mul_bd (a := (ptAt l m).x) (b := d) (A := 10000) (B := 200000) a2 a3 hd.1 hd.2
  have v := mul_bd (a := b) (b := (ptAt l m).h) (A := 20000) (B := 200000) hb.1 hb.2 (by omega) a1
  unfold vS
  omega
theorem loN_bd {l : List Pt} (hs : ∀ p ∈ l, SP p) {b d : Int} (hb : -20000 ≤ b ∧ b ≤ 20000) (hd : -200000 ≤ d ∧ d ≤ 200000) {k : Nat} (hk : k ≤ l.length) : -6000000000 ≤ loN l b d k ∧ loN l b d k ≤ 6000000000 := by
  rcases Nat.eq_zero_or_pos k with rfl | h
  · simp [loN]
  · obtain ⟨m, hm, e⟩ := (loN_spec l b d k).2 h
    rw [e]; exact (vS_bd hs hb hd (by omega)).2.2
theorem hiN_bd {l : List Pt} (hs : ∀ p ∈ l, SP p) {b d : Int} (hb : -20000 ≤ b ∧ b ≤ 20000) (hd : -200000 ≤ d ∧ d ≤ 200000) {k : Nat} (hk : k ≤ l.length) : -6000000000 ≤ hiN l b d k ∧ hiN l b d k ≤ 6000000000 := by
  rcases Nat.eq_zero_or_pos k with rfl | h
  · simp [hiN]
  · obtain ⟨m, hm, e⟩ := (hiN_spec l b d k).2 h
    rw [e]; exact (vS_bd hs hb hd (by omega)).2.2
structure SpB (s : Sp) : Prop where
  b0 : -20000 ≤ s.1
  b1 : s.1 ≤ 20000
  d0 : -200000 ≤ s.2.1
  d1 : s.2.1 ≤ 200000
  l0 : -6000000000 ≤ s.2.2.1
  l1 : s.2.2.1 ≤ 6000000000
  h0 : -6000000000 ≤ s.2.2.2
  h1 : s.2.2.2 ≤ 6000000000
theorem spOf_b {l : List Pt} (hs : ∀ p ∈ l, SP p) {i k : Nat} (hi : i < l.length) (hk : k < l.length) : SpB (spOf l i k) := by
  obtain ⟨b0, b1, d0, d1⟩ := bP_bd hs hi hk
  have u := loN_bd hs ⟨b0, b1⟩ ⟨d0, d1⟩ (Nat.le_refl _)
  have v := hiN_bd hs ⟨b0, b1⟩ ⟨d0, d1⟩ (Nat.le_refl _)
  exact ⟨b0, b1, d0, d1, u.1, u.2, v.1, v.2⟩
theorem spStep_b {l : List Pt} (hs : ∀ p ∈ l, SP p) {s : Sp} (h : SpB s) {i k : Nat} (hi : i < l.length) (hk : k < l.length) : SpB (spStep l s i k) := by
  unfold spStep; split
  · exact spOf_b hs hi hk
  · exact h
theorem spI_b {l : List Pt} (hs : ∀ p ∈ l, SP p) {s : Sp} (h : SpB s) {i : Nat} : ∀ m, i + 1 + m ≤ l.length ∨ m = 0 → SpB (spI l i s m)
  | 0, _ => h
  | m + 1, hm => spStep_b hs (spI_b hs h m (by omega)) (by omega) (by omega)
theorem spO_b {l : List Pt} (hs : ∀ p ∈ l, SP p) : ∀ i, i ≤ l.length → SpB (spO l i)
  | 0, _ => by constructor <;> simp [spO]
  | i + 1, hi => spI_b hs (spO_b hs i (by omega)) _ (by omega)
theorem narS_b {l : List Pt} (hs : ∀ p ∈ l, SP p) : SpB (narS l) := spO_b hs _ (Nat.le_refl _)

/-- the nearest line is valid -/
theorem near_vld {l : List Pt} (h : vldP l = true) : vldL (nearP l).1 (nearP l).2.1 (nearP l).2.2 = true := by
  obtain ⟨h1, h2⟩ := vld_len h
  have hs := vld_sp h
  rcases Nat.eq_or_lt_of_le h1 with he | he
  · unfold nearP
    rw [if_pos he.symm]
    obtain ⟨_, _, x0, x1⟩ := hs _ (ptAt_mem (l := l) (m := 0) (by omega))
    refine vld_mk3 ?_
    simp only [inB, Bool.and_eq_true, wn_iff]
    omega
  · obtain ⟨e, _⟩ := nar_near (vld_lt h) he (nar_of (vld_lt h) he)
    rw [← e]
    obtain ⟨b0, b1, d0, d1, l0, l1, k0, k1⟩ := narS_b hs
    have hp := (nar_of (vld_lt h) he).pos
    refine vld_mk3 ?_
    simp only [inB, Bool.and_eq_true, wn_iff]
    omega
def nearL (l : List Pt) : Ln × Int := if vldP l = true then (nearP l, 0) else ((0, 0, 0), 1)
def bendL (l : List Pt) : (Int × Int) × Int := if vldP l = true then ((gN (eMax l (nearP l)) (nearP l).2.2, gD (eMax l (nearP l)) (nearP l).2.2), 0) else ((0, 0), 1)
theorem bend_strip {l : List Pt} (h : vldP l = true) (h2 : 2 ≤ l.length) : bendL l = ((gN ((narS l).2.2.2 - (narS l).2.2.1) (2 * (narS l).2.1), gD ((narS l).2.2.2 - (narS l).2.2.1) (2 * (narS l).2.1)), 0) := by
  obtain ⟨_, e⟩ := nar_near (vld_lt h) h2 (nar_of (vld_lt h) h2)
  have hp := (nar_of (vld_lt h) h2).pos
  have hn := (near_of (vld_lt h) h2).pos
  unfold bendL
  rw [if_pos h]
  obtain ⟨a, b⟩ := low_eq hn (show 0 < 2 * (narS l).2.1 by omega) e
  rw [a, b]
theorem bend_one {l : List Pt} (h : vldP l = true) (h1 : l.length = 1) : bendL l = ((0, 1), 0) := by
  unfold bendL
  rw [if_pos h]
  have e : nearP l = ((ptAt l 0).x, 0, 1) := by
    unfold nearP
    rw [if_pos h1]
    unfold mk3 m3
    have : g3 (ptAt l 0).x 0 1 = 1 := by unfold g3; simp
    rw [this]; simp
  have e2 : eMax l (nearP l) = 0 := by
    have hw : wst (nearP l) l = 0 := by have := wst_lt (x := nearP l) (l := l) (by omega); omega
    unfold eMax
    rw [hw, e]
    unfold farV offV; simp
  rw [e2, e]
  simp [gN, gD]
end Go.Proofs.Ytohbejdfaecghaa
