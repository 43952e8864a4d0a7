/- Fell: where a stack falls, plain: by the sides and corners of the hull. -/
import Derived.Test.YthklgkgincebhaaGreatDoorFx
set_option linter.unusedSimpArgs false
set_option linter.unusedVariables false
namespace Go.Proofs.YthklgkgincebhaaGreatDoor
open Go.RowKit

theorem vdot_dt (p q w : Sp) : vdot (vec q p) (vec w p) = dt p q w := by unfold vdot vec dt; rfl
theorem vdot_dqs (p q : Sp) : vdot (vec q p) (vec q p) = dq q p p := by unfold vdot vec dq; rfl
theorem vdot_dw (w p q : Sp) : vdot (vec w p) (vec q p) = dw w p q := by unfold vdot vec dw; rfl
theorem cand_perm {l s : List Sp} (hp : s.Perm l) {w V : Sp} (h : Cand s w V) : Cand l w V := by
  obtain ⟨p, hp', r, hr, D, t, c, k, h1, h2, h3, h4, h5, h6, h7, h8⟩ := h
  exact ⟨p, hp.mem_iff.1 hp', r, hp.mem_iff.1 hr, D, t, c, k, h1, h2, h3, h4, h5, h6, h7, fun q hq => h8 q (hp.mem_iff.2 hq)⟩
theorem hul_short {s : List Sp} (h : s.length < 2) : hul s = s := by unfold hul; rw [if_pos h]
theorem fall_edge {l s : List Sp} (hp : s.Perm l) (ha : Asc s) {w : Sp} {i : Nat} (hi : i < (hul s).length) (hb : Beside w (gl (hul s) i) (gl (hul s) ((i + 1) % (hul s).length))) :
    Cand l w ⟨(gl (hul s) ((i + 1) % (hul s).length)).y - (gl (hul s) i).y, -((gl (hul s) ((i + 1) % (hul s).length)).x - (gl (hul s) i).x)⟩ ∧ Nz ⟨(gl (hul s) ((i + 1) % (hul s).length)).y - (gl (hul s) i).y, -((gl (hul s) ((i + 1) % (hul s).length)).x - (gl (hul s) i).x)⟩ := by
  obtain ⟨h1, h2, h3⟩ := hb
  by_cases hn : 2 ≤ s.length
  · obtain ⟨hP, hg'⟩ := hul_poly ha hn
    have e1 : gl (hul s) i = hg s i := gl_of (hg' i hi)
    have e2 : gl (hul s) ((i + 1) % (hul s).length) = hg s (i + 1) := gl_of (hul_next ha hn hi)
    rw [e1, e2] at h1 h2 h3 ⊢
    have m1 := hP.mem i (by omega)
    have m2 := hP.mem (i + 1) (by omega)
    refine ⟨?_, ?_⟩
    · have := cand_side (s := -1) (w := w) m1 m2 h2 h3 (by omega) (by omega) (fun q hq => by have := hP.ed i hi q hq; omega)
      refine cand_perm hp ?_
      have e : (⟨(hg s (i + 1)).y - (hg s i).y, -((hg s (i + 1)).x - (hg s i).x)⟩ : Sp) = ⟨-1 * -((hg s (i + 1)).y - (hg s i).y), -1 * ((hg s (i + 1)).x - (hg s i).x)⟩ := by
        congr 1 <;> omega
      rw [e]; exact this
    · unfold Nz; dsimp only
      unfold dq at h3
      generalize (hg s (i + 1)).x - (hg s i).x = a at *
      generalize (hg s (i + 1)).y - (hg s i).y = b at *
      have : -a * -a = a * a := by grind
      omega
  · have hs := hul_short (s := s) (by omega)
    rw [hs] at hi
    have h0 : i = 0 := by omega
    have h1' : s.length = 1 := by omega
    subst h0
    rw [hs, h1'] at h3 h2
    exfalso
    have : dq (gl s 0) (gl s 0) (gl s 0) = 0 := by unfold dq; simp
    simp at h3 h2
    omega
theorem fall_corner {l s : List Sp} (hp : s.Perm l) (ha : Asc s) {w : Sp} (hne : l ≠ []) (hw : ¬ Held l w) (hno : ∀ i, i < (hul s).length → ¬ Beside w (gl (hul s) i) (gl (hul s) ((i + 1) % (hul s).length))) :
    ∃ p ∈ hul s, ∀ q ∈ hul s, dw w p q ≤ 0 := by
  have hl : 0 < s.length := by
    rw [hp.length_eq]
    cases l with
    | nil => exact absurd rfl hne
    | cons => simp
  by_cases hn : 2 ≤ s.length
  · obtain ⟨hP, hg'⟩ := hul_poly ha hn
    rcases poly_falls hP w (fun h => hw ((held_perm hp w).1 h)) with ⟨i, hi, hb⟩ | ⟨i, hi, hq⟩
    · exfalso
      refine hno i hi ?_
      rw [gl_of (hg' i hi), gl_of (hul_next ha hn hi)]
      exact hb
    · exact ⟨hg s i, List.mem_of_getElem? (hg' i hi), fun q hq' => hq q (hul_sub ha q hq')⟩
  · have hs := hul_short (s := s) (by omega)
    rw [hs]
    match s, hl, hn with
    | [a], _, _ => exact ⟨a, by simp, fun q hq => by simp at hq; subst hq; unfold dw; simp⟩
    | a :: b :: r, _, hn => exfalso; apply hn; simp
theorem fall_corner2 {l s : List Sp} (hp : s.Perm l) (ha : Asc s) {w p : Sp} (hw : ¬ Held l w) (hm : p ∈ hul s) (hq : ∀ q ∈ hul s, dw w p q ≤ 0) : Cand l w (vec w p) ∧ Nz (vec w p) := by
  have hms := hul_sub ha p hm
  refine ⟨cand_perm hp (cand_corner hms (dw_all ha hq)), ?_⟩
  unfold Nz vec; dsimp only
  have h1 := sq_nn (w.x - p.x)
  have h2 := sq_nn (w.y - p.y)
  rcases Classical.em (w.x - p.x = 0 ∧ w.y - p.y = 0) with ⟨a, b⟩ | hne
  · exfalso
    have : w = p := Sp.ext' (by omega) (by omega)
    exact hw (held_of_mem (hp.mem_iff.1 (this ▸ hms)))
  · rcases Classical.em (w.x - p.x = 0) with a | a
    · have := sq_pos (a := w.y - p.y) (fun b => hne ⟨a, b⟩); omega
    · have := sq_pos a; omega
theorem idx_found {α : Type} {p : α → Bool} : ∀ (l : List α) (b : Nat), (∃ x ∈ l, p x = true) → ∃ (i : Nat) (x : α), idxOf p l b = ((b + i : Nat) : Int) ∧ l[i]? = some x ∧ p x = true
  | [], _, h => by obtain ⟨x, hx, _⟩ := h; cases hx
  | y :: l, b, h => by
    unfold idxOf
    by_cases hy : p y = true
    · rw [if_pos hy]; exact ⟨0, y, rfl, rfl, hy⟩
    · rw [if_neg hy]
      obtain ⟨x, hx, hpx⟩ := h
      have hx' : x ∈ l := by
        rcases List.mem_cons.1 hx with e | e
        · subst e; exact absurd hpx hy
        · exact e
      obtain ⟨i, z, h1, h2, h3⟩ := idx_found l (b + 1) ⟨x, hx', hpx⟩
      exact ⟨i + 1, z, by rw [h1]; congr 1; omega, by simpa using h2, h3⟩
def crnB (h : List Sp) (w p : Sp) : Bool := !h.any fun q => decide (0 < dw w p q)
theorem crnB_iff {h : List Sp} {w p : Sp} : crnB h w p = true ↔ ∀ q ∈ h, dw w p q ≤ 0 := by
  unfold crnB
  simp
def bsB (w p q : Sp) : Bool := decide (cr p q w < 0) && (decide (0 < dt p q w) && decide (dt p q w < dq q p p))
theorem bsB_iff {w p q : Sp} : bsB w p q = true ↔ Beside w p q := by unfold bsB Beside; simp
end Go.Proofs.YthklgkgincebhaaGreatDoor
