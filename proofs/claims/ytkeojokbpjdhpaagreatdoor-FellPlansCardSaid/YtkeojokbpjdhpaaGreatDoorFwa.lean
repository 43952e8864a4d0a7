/- Fell: the directions of a fall, plain: there is one, it is short, all props lie behind it. -/
import Derived.Test.YtkeojokbpjdhpaaGreatDoorFz0
set_option linter.unusedSimpArgs false
set_option linter.unusedVariables false
namespace Go.Proofs.YtkeojokbpjdhpaaGreatDoor
open Go.RowKit

theorem lam_inj {a b : Sp} (ha : Bd 10000 a) (hb : Bd 10000 b) (h : lam 1 100000 a = lam 1 100000 b) : a = b := by
  unfold lam Bd at *
  exact Sp.ext' (by omega) (by omega)
theorem asc_ex {l : List Sp} (hb : ∀ x ∈ l, Bd 10000 x) (hn : l.Nodup) : ∃ s, s.Perm l ∧ Asc s := by
  have hp := List.mergeSort_perm l (fun a b => decide (lam 1 100000 a ≤ lam 1 100000 b))
  refine ⟨_, hp, ?_⟩
  have h1 := List.pairwise_mergeSort (le := fun a b : Sp => decide (lam 1 100000 a ≤ lam 1 100000 b)) (by intro a b c; simp; omega) (by intro a b; simp; omega) l
  have h2 : (l.mergeSort (fun a b => decide (lam 1 100000 a ≤ lam 1 100000 b))).Nodup := hp.nodup_iff.2 hn
  refine (h1.and h2).imp_of_mem fun {a b} ha hb' h => ?_
  have e : lam 1 100000 a ≤ lam 1 100000 b := by simpa using h.1
  rcases Int.lt_or_eq_of_le e with k | k
  · exact k
  · exact absurd (lam_inj (hb a (hp.mem_iff.1 ha)) (hb b (hp.mem_iff.1 hb')) k) h.2
/-- where a stack falls: from a corner, or across a side -/
theorem fall_ex {l : List Sp} {w : Sp} (hb : ∀ x ∈ l, Bd 10000 x) (hn : l.Nodup) (hne : l ≠ []) (hw : ¬ Held l w) :
    (∃ p ∈ l, ∀ q ∈ l, dw w p q ≤ 0) ∨ ∃ p ∈ l, ∃ r ∈ l, Beside w p r ∧ ∀ q ∈ l, 0 ≤ cr p r q := by
  obtain ⟨s, hp, ha⟩ := asc_ex hb hn
  have hM : ∀ x, x ∈ s ↔ x ∈ l := fun x => hp.mem_iff
  by_cases h2 : 2 ≤ s.length
  · obtain ⟨hP, hg'⟩ := hul_poly ha h2
    rcases poly_falls hP w (fun h => hw ((held_perm hp w).1 h)) with ⟨i, hi, hB⟩ | ⟨i, hi, hq⟩
    · exact .inr ⟨_, (hM _).1 (hP.mem i (by omega)), _, (hM _).1 (hP.mem (i + 1) (by omega)), hB, fun q hq => hP.ed i hi q ((hM q).2 hq)⟩
    · exact .inl ⟨_, (hM _).1 (hP.mem i (by omega)), fun q hq' => hq q ((hM q).2 hq')⟩
  · match s, hp, h2 with
    | [], hp, _ => exact absurd (List.nil_perm.1 hp) hne
    | [a], hp, _ => exact .inl ⟨a, (hM a).1 (by simp), fun q hq => by
        have := (hM q).2 hq
        simp at this; subst this; unfold dw; simp⟩
    | a :: b :: r, _, h2 => exfalso; apply h2; simp
theorem nz_vec {l : List Sp} {w p : Sp} (hw : ¬ Held l w) (hp : p ∈ l) : Nz (vec w p) := by
  unfold Nz vec; dsimp only
  have h1 := sq_nn (w.x - p.x)
  have h2 := sq_nn (w.y - p.y)
  rcases Classical.em (w.x - p.x = 0 ∧ w.y - p.y = 0) with ⟨a, b⟩ | hne
  · exfalso
    have : w = p := Sp.ext' (by omega) (by omega)
    exact hw (held_of_mem (this ▸ hp))
  · rcases Classical.em (w.x - p.x = 0) with a | a
    · have := sq_pos (a := w.y - p.y) (fun b => hne ⟨a, b⟩); omega
    · have := sq_pos a; omega
theorem nz_dq {p r : Sp} (h : 0 < dq r p p) : Nz ⟨(r.y - p.y), -(r.x - p.x)⟩ := by
  unfold Nz; dsimp only
  unfold dq at h
  generalize r.x - p.x = a at *
  generalize r.y - p.y = b at *
  have : -a * -a = a * a := by grind
  omega
theorem nz_dq2 {p r : Sp} (h : 0 < dq r p p) : Nz ⟨-(r.y - p.y), (r.x - p.x)⟩ := by
  unfold Nz; dsimp only
  unfold dq at h
  generalize r.x - p.x = a at *
  generalize r.y - p.y = b at *
  have : -b * -b = b * b := by grind
  omega
theorem dirP_corner {l : List Sp} {w p : Sp} (hw : ¬ Held l w) (hp : p ∈ l) (h : ∀ q ∈ l, dw w p q ≤ 0) : DirP l w (shZ (vec w p)) := ⟨_, cand_corner hp h, nz_vec hw hp, rfl⟩
theorem dirP_right {l : List Sp} {w p r : Sp} (hp : p ∈ l) (hr : r ∈ l) (hB : Beside w p r) (h : ∀ q ∈ l, 0 ≤ cr p r q) : DirP l w (shZ ⟨r.y - p.y, -(r.x - p.x)⟩) := by
  obtain ⟨h1, h2, h3⟩ := hB
  refine ⟨_, ?_, nz_dq (by omega), rfl⟩
  have := cand_side (s := -1) (w := w) hp hr h2 h3 (by omega) (by omega) (fun q hq => by have := h q hq; omega)
  have e : (⟨r.y - p.y, -(r.x - p.x)⟩ : Sp) = ⟨-1 * -(r.y - p.y), -1 * (r.x - p.x)⟩ := by congr 1 <;> omega
  rw [e]; exact this
theorem dirP_left {l : List Sp} {w p r : Sp} (hp : p ∈ l) (hr : r ∈ l) (h1 : 0 < cr p r w) (h2 : 0 < dt p r w) (h3 : dt p r w < dq r p p) (h : ∀ q ∈ l, cr p r q ≤ 0) : DirP l w (shZ ⟨-(r.y - p.y), r.x - p.x⟩) := by
  refine ⟨_, ?_, nz_dq2 (by omega), rfl⟩
  have := cand_side (s := 1) (w := w) hp hr h2 h3 (by omega) (by omega) (fun q hq => by have := h q hq; omega)
  have e : (⟨-(r.y - p.y), r.x - p.x⟩ : Sp) = ⟨1 * -(r.y - p.y), 1 * (r.x - p.x)⟩ := by congr 1 <;> omega
  rw [e]; exact this
theorem dirP_bd {l : List Sp} {w d : Sp} (hb : ∀ x ∈ l, Bd 10000 x) (hn : l.Nodup) (hne : l ≠ []) (hw : ¬ Held l w) (hs : Bd 10000 w) (h : DirP l w d) : Bd 20000 d := by
  rcases fall_ex hb hn hne hw with ⟨p, hp, hq⟩ | ⟨p, hp, r, hr, hB, hq⟩
  · rw [dirP_uniq h (dirP_corner hw hp hq)]
    have b1 : Bd 20000 (vec w p) := vec_bd (m := 10000) (n := 10000) hs (hb p hp)
    have := bd_gc b1 (by omega)
    exact this
  · rw [dirP_uniq h (dirP_right hp hr hB hq)]
    have b1 := hb p hp
    have b2 := hb r hr
    have b3 : Bd 20000 ⟨r.y - p.y, -(r.x - p.x)⟩ := by unfold Bd at *; dsimp only; omega
    exact bd_gc b3 (by omega)
theorem sh_mul {v : Sp} (h : Nz v) : v.x = gc v * (shZ v).x ∧ v.y = gc v * (shZ v).y := by
  have g := gc_pos h
  unfold shZ; dsimp only
  exact ⟨(Int.mul_tdiv_cancel' (Int.gcd_dvd_left _ _)).symm, (Int.mul_tdiv_cancel' (Int.gcd_dvd_right _ _)).symm⟩
/-- all spots lie behind -/
theorem dirP_away {l : List Sp} {w d q : Sp} (h : DirP l w d) (hq : q ∈ l) : 0 < vdot d (vec w q) := by
  obtain ⟨V, ⟨p, _, r, _, D, t, c, k, h1, h2, h3, h4, h5, e1, e2, hA⟩, hN, rfl⟩ := h
  obtain ⟨s1, s2⟩ := sh_mul hN
  have hg := gc_pos hN
  have hA := hA q hq
  generalize shZ V = d at *
  generalize gc V = g at *
  unfold Nz at hN
  unfold vdot vec; dsimp only
  generalize e3 : D * (w.x - p.x) - t * (r.x - p.x) = ux at *
  generalize e4 : D * (w.y - p.y) - t * (r.y - p.y) = uy at *
  generalize e5 : D * (q.x - p.x) - t * (r.x - p.x) = qx at *
  generalize e6 : D * (q.y - p.y) - t * (r.y - p.y) = qy at *
  have f1 : D * (w.x - q.x) = ux - qx := by grind
  have f2 : D * (w.y - q.y) = uy - qy := by grind
  -- u is not nothing
  have hu : 0 < ux * ux + uy * uy := by
    have k1 : c * c * (V.x * V.x + V.y * V.y) = k * k * (ux * ux + uy * uy) := by
      have a1 : (c * V.x) * (c * V.x) = (k * ux) * (k * ux) := by rw [e1]
      have a2 : (c * V.y) * (c * V.y) = (k * uy) * (k * uy) := by rw [e2]
      grind
    have k2 : 0 < c * c * (V.x * V.x + V.y * V.y) := Int.mul_pos (Int.mul_pos h4 h4) hN
    rw [k1] at k2
    exact Int.pos_of_mul_pos_right k2 (Int.mul_pos h5 h5)
  have k3 : D * (ux * (w.x - q.x) + uy * (w.y - q.y)) = (ux * ux + uy * uy) - (ux * qx + uy * qy) := by
    have : D * (ux * (w.x - q.x) + uy * (w.y - q.y)) = ux * (D * (w.x - q.x)) + uy * (D * (w.y - q.y)) := by grind
    rw [this, f1, f2]; grind
  have k4 : 0 < ux * (w.x - q.x) + uy * (w.y - q.y) := Int.pos_of_mul_pos_right (by rw [k3]; omega) h1
  have k5 : c * g * (d.x * (w.x - q.x) + d.y * (w.y - q.y)) = k * (ux * (w.x - q.x) + uy * (w.y - q.y)) := by
    have a1 : c * g * (d.x * (w.x - q.x) + d.y * (w.y - q.y)) = (c * (g * d.x)) * (w.x - q.x) + (c * (g * d.y)) * (w.y - q.y) := by grind
    rw [a1, ← s1, ← s2, e1, e2]; grind
  exact Int.pos_of_mul_pos_right (by rw [k5]; exact Int.mul_pos h5 k4) (Int.mul_pos h4 hg)
/-- no spot is farther in direction v than s -/
def byB (l : List Sp) (v s : Sp) : Bool := l.all fun q => decide (vdot v (vec q s) ≤ 0)
theorem byB_iff {l : List Sp} {v s : Sp} : byB l v s = true ↔ ∀ q ∈ l, vdot v (vec q s) ≤ 0 := by unfold byB; simp
/-- across the way from p to r, on w's side -/
def vS (p r w : Sp) : Sp := if vdot ⟨r.y - p.y, -(r.x - p.x)⟩ (vec w p) < 0 then ⟨-(r.y - p.y), r.x - p.x⟩ else ⟨r.y - p.y, -(r.x - p.x)⟩
theorem vS_cases (p r w : Sp) : (0 < cr p r w ∧ vS p r w = ⟨-(r.y - p.y), r.x - p.x⟩) ∨ (cr p r w ≤ 0 ∧ vS p r w = ⟨r.y - p.y, -(r.x - p.x)⟩) := by
  have e : vdot ⟨r.y - p.y, -(r.x - p.x)⟩ (vec w p) = - cr p r w := by unfold vdot vec cr; grind
  unfold vS
  rw [e]
  by_cases h : -cr p r w < 0
  · rw [if_pos h]; exact .inl ⟨by omega, rfl⟩
  · rw [if_neg h]; exact .inr ⟨by omega, rfl⟩
theorem vd_left (p r q : Sp) : vdot ⟨-(r.y - p.y), r.x - p.x⟩ (vec q p) = cr p r q := by unfold vdot vec cr; grind
theorem vd_right (p r q : Sp) : vdot ⟨r.y - p.y, -(r.x - p.x)⟩ (vec q p) = - cr p r q := by unfold vdot vec cr; grind
def sdB (l : List Sp) (w p r : Sp) : Bool := decide (0 < dt p r w) && (decide (dt p r w < dq r p p) && byB l (vS p r w) p)
theorem sdB_iff {l : List Sp} {w p r : Sp} : sdB l w p r = true ↔ 0 < dt p r w ∧ dt p r w < dq r p p ∧ byB l (vS p r w) p = true := by unfold sdB; simp
def cnB (l : List Sp) (w p : Sp) : Bool := byB l (vec w p) p
theorem hit_corner {l : List Sp} {w p : Sp} (hw : ¬ Held l w) (hp : p ∈ l) (h : cnB l w p = true) : Nz (vec w p) ∧ DirP l w (shZ (vec w p)) :=
  ⟨nz_vec hw hp, dirP_corner hw hp fun q hq => by have := byB_iff.1 h q hq; rwa [vdot_dw] at this⟩
theorem held_line {l : List Sp} {w p r : Sp} (hp : p ∈ l) (hr : r ∈ l) (h1 : cr p r w = 0) (h2 : 0 < dt p r w) (h3 : dt p r w < dq r p p) : Held l w := by
  refine ⟨p, hp, r, hr, .inl ⟨h1, ?_⟩⟩
  have e : dq r p p * dq w p r = dt p r w * (dt p r w - dq r p p) + cr p r w * cr p r w := by unfold dq dt cr; grind
  rw [h1] at e
  have := Int.mul_neg_of_pos_of_neg h2 (show dt p r w - dq r p p < 0 by omega)
  rcases Int.lt_or_le 0 (dq w p r) with k | k
  · have := Int.mul_pos (show 0 < dq r p p by omega) k; omega
  · exact k
theorem hit_side {l : List Sp} {w p r : Sp} (hw : ¬ Held l w) (hp : p ∈ l) (hr : r ∈ l) (h : sdB l w p r = true) : Nz (vS p r w) ∧ DirP l w (shZ (vS p r w)) := by
  obtain ⟨h1, h2, h3⟩ := sdB_iff.1 h
  rw [byB_iff] at h3
  rcases vS_cases p r w with ⟨c, e⟩ | ⟨c, e⟩
  · rw [e] at h3 ⊢
    exact ⟨nz_dq2 (by omega), dirP_left hp hr c h1 h2 fun q hq => by have := h3 q hq; rwa [vd_left] at this⟩
  · rw [e] at h3 ⊢
    have c' : cr p r w < 0 := by
      rcases Int.lt_or_eq_of_le c with k | k
      · exact k
      · exact absurd (held_line hp hr k h1 h2) hw
    exact ⟨nz_dq (by omega), dirP_right hp hr ⟨c', h1, h2⟩ fun q hq => by have := h3 q hq; rw [vd_right] at this; omega⟩
theorem dt_turn (p r w : Sp) : dt r p w = dq r p p - dt p r w := by unfold dt dq; grind
theorem dq_turn (p r : Sp) : dq p r r = dq r p p := by unfold dq; grind
/-- one of the places is a hit; the pair is taken as the reference takes it -/
theorem hit_ex {l : List Sp} {w : Sp} (hb : ∀ x ∈ l, Bd 10000 x) (hn : l.Nodup) (hne : l ≠ []) (hw : ¬ Held l w)
    (hc : ∀ i, i < l.length → cnB l w (gl l i) = false) (hs : ∀ i, i < l.length → ∀ k, k < i → sdB l w (gl l i) (gl l k) = false) : False := by
  have H : ∀ x ∈ l, ∃ i, i < l.length ∧ gl l i = x := fun x hx => by
    obtain ⟨i, hi, e⟩ := List.getElem_of_mem hx
    exact ⟨i, hi, gl_of (by rw [List.getElem?_eq_getElem hi, e])⟩
  rcases fall_ex hb hn hne hw with ⟨p, hp, hq⟩ | ⟨p, hp, r, hr, ⟨b1, b2, b3⟩, hq⟩
  · obtain ⟨i, hi, e⟩ := H p hp
    have := hc i hi
    rw [e] at this
    have h2 : cnB l w p = true := byB_iff.2 fun q hq' => by rw [vdot_dw]; exact hq q hq'
    rw [h2] at this; cases this
  · obtain ⟨i, hi, e⟩ := H p hp
    obtain ⟨k, hk, f⟩ := H r hr
    have hA : sdB l w p r = true := sdB_iff.2 ⟨b2, b3, byB_iff.2 fun q hq' => by
      rcases vS_cases p r w with ⟨c, _⟩ | ⟨_, e⟩
      · omega
      · rw [e, vd_right]; have := hq q hq'; omega⟩
    have hB : sdB l w r p = true := sdB_iff.2 ⟨by rw [dt_turn]; omega, by rw [dt_turn, dq_turn]; omega, byB_iff.2 fun q hq' => by
      have e1 : ∀ x, cr r p x = - cr p r x := fun x => cr_flip p r x
      rcases vS_cases r p w with ⟨_, e⟩ | ⟨c, _⟩
      · rw [e, vd_left, e1]; have := hq q hq'; omega
      · rw [e1] at c; omega⟩
    rcases Nat.lt_trichotomy i k with h | h | h
    · have := hs k hk i h
      rw [e, f, hB] at this; cases this
    · subst h
      rw [e] at f; subst f
      have : dq p p p = 0 := by unfold dq; simp
      omega
    · have := hs i hi k h
      rw [e, f, hA] at this; cases this
/-- the direction of a fall -/
def cands (l : List Sp) (w : Sp) : List Sp := l.flatMap fun p => (if cnB l w p = true then [shZ (vec w p)] else []) ++ l.flatMap fun r => if sdB l w p r = true then [shZ (vS p r w)] else []
def dirZ (l : List Sp) (w : Sp) : Sp := (cands l w).headD ⟨0, 0⟩
theorem cands_dir {l : List Sp} {w d : Sp} (hw : ¬ Held l w) (h : d ∈ cands l w) : DirP l w d := by
  unfold cands at h
  obtain ⟨p, hp, h⟩ := List.mem_flatMap.1 h
  rcases List.mem_append.1 h with h | h
  · split at h
    · simp at h; subst h; exact (hit_corner hw hp (by assumption)).2
    · cases h
  · obtain ⟨r, hr, h⟩ := List.mem_flatMap.1 h
    split at h
    · simp at h; subst h; exact (hit_side hw hp hr (by assumption)).2
    · cases h
theorem dirZ_dir {l : List Sp} {w : Sp} (hb : ∀ x ∈ l, Bd 10000 x) (hn : l.Nodup) (hne : l ≠ []) (hw : ¬ Held l w) : DirP l w (dirZ l w) := by
  unfold dirZ
  cases hc : cands l w with
  | cons a t => exact cands_dir hw (by rw [hc]; simp)
  | nil =>
    exfalso
    have hg : ∀ i, i < l.length → gl l i ∈ l := fun i hi => List.mem_of_getElem? (gl_at hi)
    have hno : ∀ d, d ∉ cands l w := fun d hd => by rw [hc] at hd; cases hd
    refine hit_ex hb hn hne hw (fun i hi => ?_) (fun i hi k hk => ?_)
    · rw [Bool.eq_false_iff]; intro h
      refine hno (shZ (vec w (gl l i))) (List.mem_flatMap.2 ⟨gl l i, hg i hi, List.mem_append_left _ ?_⟩)
      rw [if_pos h]; simp
    · rw [Bool.eq_false_iff]; intro h
      refine hno (shZ (vS (gl l i) (gl l k) w)) (List.mem_flatMap.2 ⟨gl l i, hg i hi, List.mem_append_right _ (List.mem_flatMap.2 ⟨gl l k, hg k (by omega), ?_⟩)⟩)
      rw [if_pos h]; simp
def twZ (l : List Sp) (w t : Sp) : Bool := decide (0 < vdot (dirZ l w) (vec t w))
end Go.Proofs.YtkeojokbpjdhpaaGreatDoor
