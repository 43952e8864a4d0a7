/- Gear: lesser loads, earlier days (plain). -/
import Derived.Test.YtijlglanpgcdiaaGvd
set_option linter.unusedSimpArgs false
set_option linter.unusedVariables false
namespace Go.Proofs.Ytijlglanpgcdiaa
open Go.RowKit Go.Maps

theorem may_iff {g : List It} {r : List Lk} {back : List ByteArray} {day : Int} {L : List Int} : mayB g r back day L = true ↔ wkE g r back day L = 0 ∧ ∀ k, k < r.length → wkB g r back day L k = false := by
  unfold mayB
  rw [Bool.and_eq_true, decide_eq_true_iff, decide_eq_true_iff]
  constructor
  · rintro ⟨h1, h2⟩
    refine ⟨h1, fun k hk => ?_⟩
    unfold weL onE at h2
    rw [if_pos h1] at h2
    unfold wkZ at h2
    rw [List.length_map] at h2
    have h3 := List.eq_nil_of_length_eq_zero h2
    unfold wkN at h3
    rw [List.filter_eq_nil_iff] at h3
    have := h3 k (by simpa using hk)
    simpa using this
  · rintro ⟨h1, h2⟩
    refine ⟨h1, ?_⟩
    unfold weL onE
    rw [if_pos h1]
    unfold wkZ wkN
    rw [List.length_map, List.filter_eq_nil_iff.2 (fun k hk => by simp [h2 k (by simpa using hk)])]
    rfl
theorem wkE_z {g : List It} {r : List Lk} {back : List ByteArray} {day : Int} {L : List Int} : wkE g r back day L = 0 ↔ (vldG g && vldR g r) = true ∧ back.length ≤ 100 ∧ wn day 0 100000 = true ∧ ldE r L = 0 := by
  unfold wkE
  constructor
  · intro h
    split at h
    · rename_i h1
      split at h
      · rename_i h2
        split at h
        · split at h
          · rename_i h4; exact ⟨h1, h2, h4, h⟩
          · omega
        · omega
      · omega
    · omega
  · rintro ⟨h1, h2, h3, h4⟩
    rw [if_pos h1, if_pos h2, if_pos (ldE_z h4).1, if_pos h3, h4]
theorem wkC_no {day : Int} {back : List ByteArray} {x : It} {y : Int} : wkC day back x y = false ↔ day ≤ x.du ∧ hasB back x.bt = false ∧ y ≤ x.ld := by
  unfold wkC
  rw [Bool.or_eq_false_iff, Bool.or_eq_false_iff, decide_eq_false_iff_not, decide_eq_false_iff_not]
  exact ⟨fun ⟨a, b, c⟩ => ⟨by omega, b, by omega⟩, fun ⟨a, b, c⟩ => ⟨by omega, b, by omega⟩⟩
theorem unN_le (g : List It) (r : List Lk) : ∀ n k, k < n → unN g r n ≤ (itR g (lkAt r k)).du
  | 0, k, h => by omega
  | n + 1, k, h => by
    unfold unN
    by_cases hk : k = n
    · subst hk; split <;> omega
    · have := unN_le g r n k (by omega)
      split <;> omega
theorem unN_max (g : List It) (r : List Lk) : ∀ n, unN g r n ≤ 100000
  | 0 => by unfold unN; omega
  | n + 1 => by
    have := unN_max g r n
    unfold unN
    split <;> omega
theorem unN_ge (g : List It) (r : List Lk) (m : Int) (hm : m ≤ 100000) : ∀ n, (∀ k, k < n → m ≤ (itR g (lkAt r k)).du) → m ≤ unN g r n
  | 0, _ => by unfold unN; exact hm
  | n + 1, h => by
    have h1 := unN_ge g r m hm n (fun k hk => h k (by omega))
    have h2 := h n (by omega)
    unfold unN
    split <;> omega
theorem du_bd {g : List It} {r : List Lk} (hv : VR g r) {k : Nat} (hk : k < r.length) : 0 ≤ (itR g (lkAt r k)).du ∧ (itR g (lkAt r k)).du ≤ 100000 := by
  obtain ⟨x, hx⟩ := get_lt hk
  rw [lkAt_of hx]
  exact (snd_ld (hv.it hx).2).2
theorem unN_nn {g : List It} {r : List Lk} (hv : VR g r) : 0 ≤ unN g r r.length := unN_ge g r 0 (by omega) _ fun _ hk => (du_bd hv hk).1
theorem unI_is {g : List It} {r : List Lk} (h : (vldG g && vldR g r) = true) : unI g r = unN g r r.length := by
  unfold unI shE; rw [if_pos (if_pos h)]
/-- loads that are no greater -/
def LeL (M L : List Int) : Prop := M.length = L.length ∧ ∀ i, 0 ≤ M.getD i 0 ∧ M.getD i 0 ≤ L.getD i 0
theorem okL_getD {L : List Int} (h : L.all okZ = true) (i : Nat) : 0 ≤ L.getD i 0 ∧ L.getD i 0 ≤ 1000000 := by
  cases hx : L[i]? with
  | none => simp [List.getD_eq_getElem?_getD, hx]
  | some x => rw [getD_of hx]; exact wn_iff.1 (List.all_eq_true.1 h x (List.mem_of_getElem? hx))
theorem okL_of {L : List Int} (h : ∀ i, 0 ≤ L.getD i 0 ∧ L.getD i 0 ≤ 1000000) : L.all okZ = true := by
  rw [List.all_eq_true]
  intro x hx
  obtain ⟨k, hk⟩ := List.getElem?_of_mem hx
  have := h k
  rw [getD_of hk] at this
  exact wn_iff.2 this
theorem le_ld {r : List Lk} {M L : List Int} (h : LeL M L) (hL : ldE r L = 0) : ldE r M = 0 := by
  obtain ⟨h1, h2⟩ := ldE_z hL
  unfold ldE
  rw [if_pos (by rw [h.1]; exact h1), if_pos]
  refine okL_of fun i => ?_
  have := okL_getD h2 i
  have := h.2 i
  omega
theorem le_bv {r : List Lk} {E : List Nat} {M L : List Int} (h : ∀ i, M.getD i 0 ≤ L.getD i 0) (i : Nat) : ∀ k, bv r E M k i ≤ bv r E L k i
  | 0 => Int.le_refl _
  | k + 1 => by
    have h1 := le_bv h i k (r := r) (E := E)
    have h2 := Int.mul_le_mul_of_nonneg_right (h k) (cnt_nn r i (E.getD k 0))
    show bv r E M k i + M.getD k 0 * cnt r i (E.getD k 0) ≤ bv r E L k i + L.getD k 0 * cnt r i (E.getD k 0)
    omega
theorem le_bo {g : List It} {r : List Lk} (hv : VR g r) {M L : List Int} (h : LeL M L) (hL : ldE r L = 0) {i : Nat} (hi : i < r.length) : (boZ r M).getD i 0 ≤ (boZ r L).getD i 0 := by
  rw [boZ_at hv hL hi, boZ_at hv (le_ld h hL) hi, h.1]
  exact le_bv (fun i => (h.2 i).2) i _
/-- a rig that may lift loads may lift lesser ones, on each day on which all is in date -/
theorem may_less {g : List It} {r : List Lk} {back : List ByteArray} {day day' : Int} {M L : List Int} (h : mayB g r back day L = true) (hd : wn day' 0 100000 = true) (hdu : day' ≤ unN g r r.length) (hM : LeL M L) : wkE g r back day' M = 0 ∧ mayB g r back day' M = true := by
  obtain ⟨h1, h2⟩ := may_iff.1 h
  obtain ⟨h3, h4, h5, h6⟩ := wkE_z.1 h1
  have hv := vr_of h3
  have h7 : wkE g r back day' M = 0 := wkE_z.2 ⟨h3, h4, hd, le_ld hM h6⟩
  refine ⟨h7, may_iff.2 ⟨h7, fun k hk => ?_⟩⟩
  obtain ⟨a, b, c⟩ := wkC_no.1 (h2 k hk)
  refine wkC_no.2 ⟨?_, b, ?_⟩
  · have := unN_le g r r.length k hk; omega
  · have := le_bo hv hM h6 hk; omega
theorem may_until {g : List It} {r : List Lk} {back : List ByteArray} {day : Int} {L : List Int} (h : mayB g r back day L = true) : day ≤ unN g r r.length := by
  obtain ⟨h1, h2⟩ := may_iff.1 h
  obtain ⟨_, _, h5, _⟩ := wkE_z.1 h1
  exact unN_ge g r day (wn_iff.1 h5).2 _ fun k hk => (wkC_no.1 (h2 k hk)).1
/-- loads less other numbers, where these fit -/
def lsS (L M : List Int) : Nat → List Int
  | 0 => L
  | k + 1 => if 0 ≤ M.getD k 0 ∧ M.getD k 0 ≤ (lsS L M k).getD k 0 then (lsS L M k).set k ((lsS L M k).getD k 0 - M.getD k 0) else lsS L M k
theorem lsS_le {L : List Int} (h : ∀ i, 0 ≤ L.getD i 0) (M : List Int) : ∀ k, LeL (lsS L M k) L
  | 0 => ⟨rfl, fun i => ⟨h i, Int.le_refl _⟩⟩
  | k + 1 => by
    obtain ⟨h1, h2⟩ := lsS_le h M k
    unfold lsS
    split
    · rename_i hc
      refine ⟨by rw [List.length_set]; exact h1, fun i => ?_⟩
      have h3 := h2 i
      by_cases hi : k = i
      · subst hi
        by_cases hl : k < (lsS L M k).length
        · rw [List.getD_eq_getElem?_getD, List.getElem?_set_self hl, Option.getD_some]; omega
        · rw [List.set_eq_of_length_le (by omega)]; exact h3
      · rw [List.getD_eq_getElem?_getD, List.getElem?_set_ne hi, ← List.getD_eq_getElem?_getD]; exact h3
    · exact ⟨h1, h2⟩
end Go.Proofs.Ytijlglanpgcdiaa
