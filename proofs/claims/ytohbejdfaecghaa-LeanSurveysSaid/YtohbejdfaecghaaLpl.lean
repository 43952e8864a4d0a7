/- Lean: the nearest line, plain: three points prove it, and no line is nearer. -/
import Derived.Test.YtohbejdfaecghaaLi
namespace Go.Proofs.Ytohbejdfaecghaa
open Go.RowKit

/-- the same line, told by other numbers -/
structure SameLn (x y : Ln) : Prop where
  a : x.1 * y.2.2 = y.1 * x.2.2
  b : x.2.1 * y.2.2 = y.2.1 * x.2.2
/-- the points are in ascending order -/
def Asc (l : List Pt) : Prop := ∀ i j : Nat, i < j → j < l.length → (ptAt l i).h < (ptAt l j).h
/-- no point is farther off than E -/
def Wi (l : List Pt) (x : Ln) (E : Int) : Prop := ∀ i : Nat, i < l.length → -E ≤ off3 x (ptAt l i) ∧ off3 x (ptAt l i) ≤ E
/-- three points are off by E, to the one side and to the other -/
def Alt (l : List Pt) (x : Ln) (E : Int) (i j k : Nat) : Prop :=
  i < j ∧ j < k ∧ k < l.length ∧ ((off3 x (ptAt l i) = E ∧ off3 x (ptAt l j) = -E ∧ off3 x (ptAt l k) = E) ∨ (off3 x (ptAt l i) = -E ∧ off3 x (ptAt l j) = E ∧ off3 x (ptAt l k) = -E))

theorem off_diff (x y : Ln) (p : Pt) : off3 y p * x.2.2 - off3 x p * y.2.2 = (x.1 * y.2.2 - y.1 * x.2.2) + (x.2.1 * y.2.2 - y.2.1 * x.2.2) * p.h := by
  unfold off3 offV; grind

/-- an affine function that is ≤ 0, ≥ 0, ≤ 0 at three ascending places is 0 -/
theorem affine_zero {u v a b c : Int} (hab : a < b) (hbc : b < c) (h1 : u + v * a ≤ 0) (h2 : 0 ≤ u + v * b) (h3 : u + v * c ≤ 0) : u = 0 ∧ v = 0 := by
  have e1 : 0 ≤ v * (b - a) := by rw [Int.mul_sub]; omega
  have e2 : v * (c - b) ≤ 0 := by rw [Int.mul_sub]; omega
  have hv : v = 0 := by
    rcases Int.lt_trichotomy v 0 with h | h | h
    · have := Int.mul_neg_of_neg_of_pos h (show 0 < b - a by omega); omega
    · exact h
    · have := Int.mul_pos h (show 0 < c - b by omega); omega
  subst hv
  simp at h1 h2 h3
  exact ⟨by omega, rfl⟩

theorem mul_in {o E D : Int} (hD : 0 < D) (h : -E ≤ o ∧ o ≤ E) : -(E * D) ≤ o * D ∧ o * D ≤ E * D := by
  have h1 := Int.mul_le_mul_of_nonneg_right h.1 (Int.le_of_lt hD)
  have h2 := Int.mul_le_mul_of_nonneg_right h.2 (Int.le_of_lt hD)
  rw [Int.neg_mul] at h1
  exact ⟨h1, h2⟩

/-- A line with a proof: any other one that is no farther off is the same line. -/
theorem alt_least {l : List Pt} {x y : Ln} {E F : Int} {i j k : Nat} (hl : Asc l) (hx : 0 < x.2.2) (hA : Alt l x E i j k) (hw : Wi l y F) (hle : F * x.2.2 ≤ E * y.2.2) : SameLn x y := by
  obtain ⟨hij, hjk, hkl, hA⟩ := hA
  have ai := hl i j hij (by omega)
  have aj := hl j k hjk hkl
  have wi := mul_in hx (hw i (by omega))
  have wj := mul_in hx (hw j (by omega))
  have wk := mul_in hx (hw k (by omega))
  have di := off_diff x y (ptAt l i)
  have dj := off_diff x y (ptAt l j)
  have dk := off_diff x y (ptAt l k)
  rcases hA with ⟨e1, e2, e3⟩ | ⟨e1, e2, e3⟩
  · rw [e1] at di; rw [e2] at dj; rw [e3] at dk
    rw [Int.neg_mul] at dj
    obtain ⟨h1, h2⟩ := affine_zero (u := x.1 * y.2.2 - y.1 * x.2.2) (v := x.2.1 * y.2.2 - y.2.1 * x.2.2) ai aj (by omega) (by omega) (by omega)
    exact ⟨by omega, by omega⟩
  · rw [e1] at di; rw [e2] at dj; rw [e3] at dk
    rw [Int.neg_mul] at di dk
    obtain ⟨h1, h2⟩ := affine_zero (u := -(x.1 * y.2.2 - y.1 * x.2.2)) (v := -(x.2.1 * y.2.2 - y.2.1 * x.2.2)) ai aj (by rw [Int.neg_mul]; omega) (by rw [Int.neg_mul]; omega) (by rw [Int.neg_mul]; omega)
    exact ⟨by omega, by omega⟩

theorem same_off {x y : Ln} (h : SameLn x y) (p : Pt) : off3 y p * x.2.2 = off3 x p * y.2.2 := by
  have := off_diff x y p
  rw [h.a, h.b] at this
  simp at this
  omega
theorem same_symm {x y : Ln} (h : SameLn x y) : SameLn y x := ⟨h.a.symm, h.b.symm⟩
theorem same_trans {x y z : Ln} (hy : 0 < y.2.2) (h : SameLn x y) (k : SameLn y z) : SameLn x z := by
  have h1 := h.a; have h2 := h.b; have k1 := k.a; have k2 := k.b
  constructor
  · apply Int.eq_of_mul_eq_mul_right (show y.2.2 ≠ 0 by omega); grind
  · apply Int.eq_of_mul_eq_mul_right (show y.2.2 ≠ 0 by omega); grind

theorem g3_scale (a b d : Int) {k : Int} (hk : 0 < k) : (g3 (a * k) (b * k) (d * k) : Int) = g3 a b d * k := by
  unfold g3
  rw [Int.gcd_mul_right]
  have : ((a.gcd b * k.natAbs : Nat) : Int) = (a.gcd b : Int) * k := by
    rw [Int.natCast_mul]; congr 1; omega
  rw [this, Int.gcd_mul_right, Int.natCast_mul]; congr 1; omega
theorem m3_scale (a b d x : Int) {k : Int} (hk : 0 < k) : m3 (a * k) (b * k) (d * k) (x * k) = m3 a b d x := by
  unfold m3
  rw [g3_scale a b d hk]
  exact Int.mul_ediv_mul_of_pos_left _ _ hk
theorem mk3_scale (a b d : Int) {k : Int} (hk : 0 < k) : mk3 (a * k) (b * k) (d * k) = mk3 a b d := by
  unfold mk3
  rw [m3_scale a b d a hk, m3_scale a b d b hk, m3_scale a b d d hk]
theorem same_mk3 {x y : Ln} (hx : 0 < x.2.2) (hy : 0 < y.2.2) (h : SameLn x y) : mk3 x.1 x.2.1 x.2.2 = mk3 y.1 y.2.1 y.2.2 := by
  rw [← mk3_scale x.1 x.2.1 x.2.2 hy, ← mk3_scale y.1 y.2.1 y.2.2 hx, h.a, h.b, Int.mul_comm x.2.2]
theorem m3_mul {a b d x : Int} (h : (g3 a b d : Int) ∣ x) : m3 a b d x * (g3 a b d : Int) = x := Int.ediv_mul_cancel h
theorem mk3_pos {a b d : Int} (hd : 0 < d) : 0 < (mk3 a b d).2.2 := Int.ediv_pos_of_pos_of_dvd hd (by have := g3_pos (a := a) (b := b) hd; omega) (g3_dvd a b d).2.2
theorem mk3_same {a b d : Int} : SameLn (mk3 a b d) (a, b, d) := by
  obtain ⟨h1, h2, h3⟩ := g3_dvd a b d
  have e1 := m3_mul h1; have e2 := m3_mul h2; have e3 := m3_mul h3
  constructor
  · show m3 a b d a * d = a * m3 a b d d
    rw [← e1, ← e3]; grind
  · show m3 a b d b * d = b * m3 a b d d
    rw [← e2, ← e3]; grind
theorem mk3_red {x : Ln} (h : g3 x.1 x.2.1 x.2.2 = 1) : mk3 x.1 x.2.1 x.2.2 = x := by
  unfold mk3 m3; rw [h]; simp
theorem same_eq {x y : Ln} (hx : 0 < x.2.2) (hy : 0 < y.2.2) (gx : g3 x.1 x.2.1 x.2.2 = 1) (gy : g3 y.1 y.2.1 y.2.2 = 1) (h : SameLn x y) : x = y := by
  rw [← mk3_red gx, ← mk3_red gy, same_mk3 hx hy h]
theorem g3_mk3 {a b d : Int} (hd : 0 < d) : g3 (mk3 a b d).1 (mk3 a b d).2.1 (mk3 a b d).2.2 = 1 := by
  obtain ⟨h1, h2, h3⟩ := g3_dvd a b d
  have e1 := m3_mul h1; have e2 := m3_mul h2; have e3 := m3_mul h3
  have hg := g3_pos (a := a) (b := b) hd
  have := g3_scale (m3 a b d a) (m3 a b d b) (m3 a b d d) (k := (g3 a b d : Int)) (by omega)
  rw [e1, e2, e3] at this
  show g3 (m3 a b d a) (m3 a b d b) (m3 a b d d) = 1
  have h' : (1 : Int) * (g3 a b d : Int) = (g3 (m3 a b d a) (m3 a b d b) (m3 a b d d) : Int) * (g3 a b d : Int) := by omega
  have := Int.eq_of_mul_eq_mul_right (show (g3 a b d : Int) ≠ 0 by omega) h'
  omega

theorem wi_same {l : List Pt} {x y : Ln} {E F : Int} (hx : 0 < x.2.2) (_hy : 0 < y.2.2) (h : SameLn x y) (hE : E * y.2.2 = F * x.2.2) (hw : Wi l x E) : Wi l y F := by
  intro i hi
  have h1 := mul_in _hy (hw i hi)
  have h2 := same_off h (ptAt l i)
  rw [← h2, hE] at h1
  rw [← Int.neg_mul] at h1
  exact ⟨Int.le_of_mul_le_mul_right h1.1 hx, Int.le_of_mul_le_mul_right h1.2 hx⟩
theorem alt_same {l : List Pt} {x y : Ln} {E F : Int} {i j k : Nat} (hx : 0 < x.2.2) (h : SameLn x y) (hE : E * y.2.2 = F * x.2.2) (hw : Alt l x E i j k) : Alt l y F i j k := by
  obtain ⟨a, b, c, hh⟩ := hw
  have key : ∀ (m : Nat), (off3 x (ptAt l m) = E → off3 y (ptAt l m) = F) ∧ (off3 x (ptAt l m) = -E → off3 y (ptAt l m) = -F) := fun m => by
    have h2 := same_off h (ptAt l m)
    constructor
    · intro e; rw [e, hE] at h2; exact Int.eq_of_mul_eq_mul_right (by omega) h2
    · intro e; rw [e, Int.neg_mul, hE, ← Int.neg_mul] at h2; exact Int.eq_of_mul_eq_mul_right (by omega) h2
  refine ⟨a, b, c, ?_⟩
  rcases hh with ⟨e1, e2, e3⟩ | ⟨e1, e2, e3⟩
  · exact .inl ⟨(key i).1 e1, (key j).2 e2, (key k).1 e3⟩
  · exact .inr ⟨(key i).2 e1, (key j).1 e2, (key k).2 e3⟩

/-- the exchange: if no three places are more off their chord than (i, j, k), all lie between -/
theorem exch {n : Nat} (o h : Nat → Int) {d : Int} {i j k : Nat} (hd : 0 ≤ d) (asc : ∀ a b : Nat, a < b → b < n → h a < h b) (hij : i < j) (hjk : j < k) (hkn : k < n) (oi : o i = 0) (oj : o j = d) (ok : o k = 0)
    (hm : ∀ a b c : Nat, a < b → b < c → c < n → -(d * (h c - h a)) ≤ o b * (h c - h a) - o a * (h c - h b) - o c * (h b - h a) ∧ o b * (h c - h a) - o a * (h c - h b) - o c * (h b - h a) ≤ d * (h c - h a)) :
    ∀ m : Nat, m < n → 0 ≤ o m ∧ o m ≤ d := by
  intro m hmn
  have hpos : ∀ a b : Nat, a < b → b < n → 0 < h b - h a := fun a b h1 h2 => by have := asc a b h1 h2; omega
  constructor
  · rcases Nat.lt_trichotomy m j with h1 | h1 | h1
    · have h2 := (hm m j k h1 hjk hkn).2
      rw [oj, ok] at h2
      have h3 := hpos j k hjk hkn
      apply Int.le_of_mul_le_mul_right _ h3
      simp at h2 ⊢; omega
    · subst h1; omega
    · have h2 := (hm i j m hij h1 hmn).2
      rw [oj, oi] at h2
      have h3 := hpos i j hij (by omega)
      apply Int.le_of_mul_le_mul_right _ h3
      simp at h2 ⊢; omega
  · rcases Nat.lt_trichotomy m i with h1 | h1 | h1
    · have h2 := (hm m i j h1 hij (by omega)).1
      rw [oj, oi] at h2
      have h3 := hpos i j hij (by omega)
      apply Int.le_of_mul_le_mul_right _ h3
      have e : d * (h j - h m) = d * (h j - h i) + d * (h i - h m) := by grind
      rw [e] at h2
      simp at h2; omega
    · subst h1; omega
    · rcases Nat.lt_trichotomy m k with h4 | h4 | h4
      · have h2 := (hm i m k h1 h4 hkn).2
        rw [oi, ok] at h2
        have h3 := hpos i k (by omega) hkn
        apply Int.le_of_mul_le_mul_right _ h3
        simp at h2; omega
      · subst h4; omega
      · have h2 := (hm j k m hjk h4 hmn).1
        rw [oj, ok] at h2
        have h3 := hpos j k hjk hkn
        apply Int.le_of_mul_le_mul_right _ h3
        have e : d * (h m - h j) = d * (h k - h j) + d * (h m - h k) := by grind
        rw [e] at h2
        simp at h2; omega

theorem exch' {n : Nat} (o h : Nat → Int) {d : Int} {i j k : Nat} (asc : ∀ a b : Nat, a < b → b < n → h a < h b) (hij : i < j) (hjk : j < k) (hkn : k < n) (oi : o i = 0) (oj : o j = d) (ok : o k = 0)
    (hm : ∀ a b c : Nat, a < b → b < c → c < n → -((d.natAbs : Int) * (h c - h a)) ≤ o b * (h c - h a) - o a * (h c - h b) - o c * (h b - h a) ∧ o b * (h c - h a) - o a * (h c - h b) - o c * (h b - h a) ≤ (d.natAbs : Int) * (h c - h a)) :
    ∀ m : Nat, m < n → -(d.natAbs : Int) ≤ 2 * o m - d ∧ 2 * o m - d ≤ d.natAbs := by
  intro m hmn
  rcases (by omega : (0 ≤ d ∧ (d.natAbs : Int) = d) ∨ (0 ≤ -d ∧ (d.natAbs : Int) = -d)) with ⟨h0, e⟩ | ⟨h0, e⟩
  · rw [e] at hm ⊢
    have := exch o h h0 asc hij hjk hkn oi oj ok hm m hmn
    omega
  · rw [e] at hm ⊢
    have := exch (fun a => -o a) h h0 asc hij hjk hkn (by omega) (by omega) (by omega) (fun a b c h1 h2 h3 => by
      have := hm a b c h1 h2 h3
      rw [Int.neg_mul (o b), Int.neg_mul (o a), Int.neg_mul (o c)]
      omega) m hmn
    omega

theorem thr_pos {p q : Pt} (h : p.h < q.h) : 0 < (thr3 p q).2.2 := mk3_pos (by omega)
theorem thr_off {p q : Pt} (h : p.h < q.h) : off3 (thr3 p q) p = 0 ∧ off3 (thr3 p q) q = 0 := by
  have hp := thr_pos h
  have hs : SameLn (thr3 p q) (thrA p q, q.x - p.x, q.h - p.h) := mk3_same
  have h1 := same_off hs p
  have h2 := same_off hs q
  have e1 : off3 (thrA p q, q.x - p.x, q.h - p.h) p = 0 := by unfold off3 offV thrA; grind
  have e2 : off3 (thrA p q, q.x - p.x, q.h - p.h) q = 0 := by unfold off3 offV thrA; grind
  rw [e1, Int.zero_mul] at h1
  rw [e2, Int.zero_mul] at h2
  have hd : q.h - p.h ≠ 0 := by omega
  constructor
  · rcases Int.mul_eq_zero.1 h1.symm with h | h
    · exact h
    · exact absurd h hd
  · rcases Int.mul_eq_zero.1 h2.symm with h | h
    · exact h
    · exact absurd h hd
/-- the offset of a point from a chord, by the offsets of the three points from another line -/
theorem chord_off (x y : Ln) (p q r : Pt) (hp : off3 y p = 0) (hr : off3 y r = 0) :
    off3 y q * x.2.2 * (r.h - p.h) = y.2.2 * (off3 x q * (r.h - p.h) - off3 x p * (r.h - q.h) - off3 x r * (q.h - p.h)) := by
  have h1 := off_diff x y p
  have h2 := off_diff x y q
  have h3 := off_diff x y r
  rw [hp] at h1
  rw [hr] at h3
  grind
theorem max_alt {l : List Pt} (hl : Asc l) {i j k : Nat} (hij : i < j) (hjk : j < k) (hk : k < l.length) {x : Ln} {d : Int} (hx : x = thr3 (ptAt l i) (ptAt l k)) (hd : d = off3 x (ptAt l j))
    (hmax : ∀ a b c : Nat, a < b → b < c → c < l.length → ((off3 (thr3 (ptAt l a) (ptAt l c)) (ptAt l b)).natAbs : Int) * x.2.2 ≤ (d.natAbs : Int) * (thr3 (ptAt l a) (ptAt l c)).2.2) :
    Wi l (2 * x.1 + d, 2 * x.2.1, 2 * x.2.2) d.natAbs ∧ Alt l (2 * x.1 + d, 2 * x.2.1, 2 * x.2.2) d.natAbs i j k := by
  have hxp : 0 < x.2.2 := by rw [hx]; exact thr_pos (hl i k (by omega) hk)
  obtain ⟨oi, ok⟩ := thr_off (hl i k (by omega) hk)
  rw [← hx] at oi ok
  have he : ∀ p, off3 (2 * x.1 + d, 2 * x.2.1, 2 * x.2.2) p = 2 * off3 x p - d := fun p => by unfold off3 offV; grind
  have hb := exch' (n := l.length) (fun m => off3 x (ptAt l m)) (fun m => (ptAt l m).h) (d := d) hl hij hjk hk oi hd.symm ok (fun a b c h1 h2 h3 => by
    have hac := hl a c (by omega) h3
    have hab := hl a b h1 (by omega)
    obtain ⟨y0, y1⟩ := thr_off hac
    have yp := thr_pos hac
    have hm := hmax a b c h1 h2 h3
    generalize thr3 (ptAt l a) (ptAt l c) = y at *
    have hc := chord_off x y _ (ptAt l b) _ y0 y1
    generalize off3 x (ptAt l b) * ((ptAt l c).h - (ptAt l a).h) - off3 x (ptAt l a) * ((ptAt l c).h - (ptAt l b).h) - off3 x (ptAt l c) * ((ptAt l b).h - (ptAt l a).h) = V at *
    have hH : 0 < (ptAt l c).h - (ptAt l a).h := by omega
    generalize (ptAt l c).h - (ptAt l a).h = H at *
    generalize off3 y (ptAt l b) = o at *
    have h5 : -((d.natAbs : Int) * y.2.2) ≤ o * x.2.2 ∧ o * x.2.2 ≤ (d.natAbs : Int) * y.2.2 := by
      rcases (by omega : (o.natAbs : Int) = o ∧ 0 ≤ o ∨ (o.natAbs : Int) = -o ∧ o ≤ 0) with ⟨e, h0⟩ | ⟨e, h0⟩
      · rw [e] at hm
        have := Int.mul_nonneg h0 (Int.le_of_lt hxp)
        omega
      · rw [e, Int.neg_mul] at hm
        have := Int.mul_nonneg (show 0 ≤ -o by omega) (Int.le_of_lt hxp)
        rw [Int.neg_mul] at this
        omega
    have h6 := Int.mul_le_mul_of_nonneg_right h5.1 (Int.le_of_lt hH)
    have h7 := Int.mul_le_mul_of_nonneg_right h5.2 (Int.le_of_lt hH)
    rw [hc] at h6 h7
    have e1 : (d.natAbs : Int) * y.2.2 * H = y.2.2 * ((d.natAbs : Int) * H) := by grind
    rw [Int.neg_mul, e1, ← Int.mul_neg] at h6
    rw [e1] at h7
    exact ⟨Int.le_of_mul_le_mul_left h6 yp, Int.le_of_mul_le_mul_left h7 yp⟩)
  refine ⟨fun m hm => by rw [he]; exact hb m hm, hij, hjk, hk, ?_⟩
  rw [he, he, he, oi, ok, ← hd]
  omega

theorem mx_of {d : Int} (h : 0 < d) : mx d = d := by unfold mx; split <;> omega
theorem cmp_pos {x y : Int} : 0 < cmpI x y ↔ y < x := by unfold cmpI; split <;> (try split) <;> omega
theorem cmp_nonneg {x y : Int} : 0 ≤ cmpI x y ↔ y ≤ x := by unfold cmpI; split <;> (try split) <;> omega
/-- fractions in lowest terms are equal if the fractions are -/
theorem low_eq {n d n' d' : Int} (hd : 0 < d) (hd' : 0 < d') (h : n * d' = n' * d) : gN n d = gN n' d' ∧ gD n d = gD n' d' := by
  have e1 : Int.gcd (n * d') (d * d') = Int.gcd n d * d'.natAbs := Int.gcd_mul_right ..
  have e2 : Int.gcd (n' * d) (d' * d) = Int.gcd n' d' * d.natAbs := Int.gcd_mul_right ..
  rw [h, Int.mul_comm d d', e2] at e1
  have e3 : (Int.gcd n' d' : Int) * d = Int.gcd n d * d' := by
    have : ((Int.gcd n' d' * d.natAbs : Nat) : Int) = ((Int.gcd n d * d'.natAbs : Nat) : Int) := by rw [e1]
    rw [Int.natCast_mul, Int.natCast_mul] at this
    rw [show ((d.natAbs : Nat) : Int) = d by omega, show ((d'.natAbs : Nat) : Int) = d' by omega] at this
    exact this
  have g1 : (0 : Int) < Int.gcd n d := by have := gcd_pos_ (n := n) hd; omega
  have g2 : (0 : Int) < Int.gcd n' d' := by have := gcd_pos_ (n := n') hd'; omega
  constructor
  · unfold gN
    rw [← Int.mul_ediv_mul_of_pos_left n _ hd', ← Int.mul_ediv_mul_of_pos_left n' _ hd, h, e3]
  · unfold gD
    rw [← Int.mul_ediv_mul_of_pos_left d _ hd', ← Int.mul_ediv_mul_of_pos_left d' _ hd, e3, Int.mul_comm d d']
theorem cross {n d n' d' : Int} (hd : 0 < d) (hd' : 0 < d') : gN n d * gD n' d' ≤ gN n' d' * gD n d ↔ n * d' ≤ n' * d := by
  have a1 := gN_mul n d; have a2 := gD_mul n d; have b1 := gN_mul n' d'; have b2 := gD_mul n' d'
  have g1 : (0 : Int) < Int.gcd n d := by have := gcd_pos_ (n := n) hd; omega
  have g2 : (0 : Int) < Int.gcd n' d' := by have := gcd_pos_ (n := n') hd'; omega
  generalize gN n d = N at *
  generalize gD n d = D at *
  generalize gN n' d' = N' at *
  generalize gD n' d' = D' at *
  generalize (Int.gcd n d : Int) = g at *
  generalize (Int.gcd n' d' : Int) = g' at *
  subst a1 a2 b1 b2
  have e1 : N * g * (D' * g') = N * D' * (g * g') := by grind
  have e2 : N' * g' * (D * g) = N' * D * (g * g') := by grind
  rw [e1, e2]
  have hg : 0 < g * g' := Int.mul_pos g1 g2
  exact ⟨fun h => Int.mul_le_mul_of_nonneg_right h (Int.le_of_lt hg), fun h => Int.le_of_mul_le_mul_right h hg⟩

/-- what the loop over triples has found -/
def Best (l : List Pt) (ts : List Trip) (s : Ln × Int × Int) : Prop :=
  (ts = [] ∧ s = ((0, 0, 0), -1, 1)) ∨ ∃ t ∈ ts, s = (mk3 (2 * (lnT l t).1 + dT l t) (2 * (lnT l t).2.1) (2 * (lnT l t).2.2), hN l t, hD l t) ∧ ∀ u ∈ ts, ((dT l u).natAbs : Int) * (lnT l t).2.2 ≤ ((dT l t).natAbs : Int) * (lnT l u).2.2
theorem hN_nonneg (l : List Pt) (t : Trip) : 0 ≤ hN l t := Int.ediv_nonneg (by omega) (by omega)
theorem half_le {l : List Pt} {t u : Trip} (ht : 0 < (lnT l t).2.2) (hu : 0 < (lnT l u).2.2) : hN l u * hD l t ≤ hN l t * hD l u ↔ ((dT l u).natAbs : Int) * (lnT l t).2.2 ≤ ((dT l t).natAbs : Int) * (lnT l u).2.2 := by
  unfold hN hD
  rw [cross (by omega) (by omega)]
  have e1 : ((dT l u).natAbs : Int) * (2 * (lnT l t).2.2) = 2 * (((dT l u).natAbs : Int) * (lnT l t).2.2) := by grind
  have e2 : ((dT l t).natAbs : Int) * (2 * (lnT l u).2.2) = 2 * (((dT l t).natAbs : Int) * (lnT l u).2.2) := by grind
  rw [e1, e2]; omega
theorem best_step {l : List Pt} {ts : List Trip} {s : Ln × Int × Int} {t : Trip} (h : Best l ts s) (hp : ∀ u ∈ ts, 0 < (lnT l u).2.2) (ht : 0 < (lnT l t).2.2) : Best l (ts ++ [t]) (nStep l s t) := by
  have hDt : 0 < hD l t := gD_pos (by omega)
  have h0 := hN_nonneg l t
  have hst : nStep l s t = if s.2.1 * mx (hD l t) < hN l t * mx s.2.2 then (mk3 (2 * (lnT l t).1 + dT l t) (2 * (lnT l t).2.1) (2 * (lnT l t).2.2), hN l t, hD l t) else s := by
    unfold nStep cmpR
    simp only [cmp_pos]
  rw [hst]
  clear hst
  rcases h with ⟨rfl, rfl⟩ | ⟨v, hv, rfl, hmax⟩
  · rw [mx_of hDt, mx_of (show (0 : Int) < 1 by omega)]
    dsimp only
    rw [if_pos (by omega)]
    exact .inr ⟨t, by simp, rfl, by simp⟩
  · have hvp := hp v hv
    have hDv : 0 < hD l v := gD_pos (by omega)
    dsimp only
    rw [mx_of hDt, mx_of hDv]
    have hle := half_le (l := l) (t := v) (u := t) hvp ht
    by_cases hc : hN l v * hD l t < hN l t * hD l v
    · rw [if_pos hc]
      refine .inr ⟨t, by simp, rfl, fun u hu => ?_⟩
      rcases List.mem_append.1 hu with h1 | h1
      · have hup := hp u h1
        have h2 := hmax u h1
        have h3 : ((dT l v).natAbs : Int) * (lnT l t).2.2 < ((dT l t).natAbs : Int) * (lnT l v).2.2 := by omega
        -- u <= v < t
        have k1 := Int.mul_le_mul_of_nonneg_right h2 (Int.le_of_lt ht)
        have k2 := Int.mul_le_mul_of_nonneg_right (Int.le_of_lt h3) (Int.le_of_lt hup)
        apply Int.le_of_mul_le_mul_right _ hvp
        grind
      · rw [List.mem_singleton] at h1
        subst h1; omega
    · rw [if_neg hc]
      refine .inr ⟨v, by simp [hv], rfl, fun u hu => ?_⟩
      rcases List.mem_append.1 hu with h1 | h1
      · exact hmax u h1
      · rw [List.mem_singleton] at h1
        subst h1; omega
theorem best_fold (l : List Pt) (ts : List Trip) (hp : ∀ u ∈ ts, 0 < (lnT l u).2.2) : Best l ts (nFold l ts) := by
  have key : ∀ (r a : List Trip) (s : Ln × Int × Int), (∀ u ∈ a ++ r, 0 < (lnT l u).2.2) → Best l a s → Best l (a ++ r) (r.foldl (nStep l) s) := by
    intro r
    induction r with
    | nil => intro a s _ h; simpa using h
    | cons t r ih =>
      intro a s hp h
      have := ih (a ++ [t]) (nStep l s t) (by simpa using hp) (best_step h (fun u hu => hp u (by simp [hu])) (hp t (by simp)))
      simpa using this
  exact key ts [] _ hp (.inl ⟨rfl, rfl⟩)
/-- the nearest line of three points or more has a proof -/
theorem near_many {l : List Pt} (hl : Asc l) (h3 : 3 ≤ l.length) : ∃ (x : Ln) (E : Int) (i j k : Nat), 0 < x.2.2 ∧ nearP l = mk3 x.1 x.2.1 x.2.2 ∧ Wi l x E ∧ Alt l x E i j k := by
  have hpos : ∀ u ∈ trips l.length, 0 < (lnT l u).2.2 := fun u hu => by
    obtain ⟨a, b, c⟩ := u
    obtain ⟨h1, h2, h4⟩ := trips_mem hu
    exact thr_pos (hl a c (by omega) h4)
  unfold nearP
  rw [if_neg (by omega), if_neg (by omega)]
  rcases best_fold l (trips l.length) hpos with ⟨h, _⟩ | ⟨t, ht, hs, hmax⟩
  · obtain ⟨r, hr⟩ := trips_split (n := l.length) (a := 0) (b := 1) (c := 2) (by omega) (by omega) (by omega)
    rw [h] at hr; simp at hr
  · obtain ⟨i, j, k⟩ := t
    obtain ⟨hij, hjk, hk⟩ := trips_mem ht
    rw [hs]
    have := max_alt hl hij hjk hk (x := lnT l (i, j, k)) (d := dT l (i, j, k)) rfl rfl (fun a b c h1 h2 h4 => by
      obtain ⟨r, hr⟩ := trips_split h1 h2 h4
      exact hmax (a, b, c) (by rw [hr]; simp))
    exact ⟨_, _, i, j, k, by have := hpos _ ht; dsimp only; omega, rfl, this⟩

theorem near_many2 {l : List Pt} (hl : Asc l) (h3 : 3 ≤ l.length) : ∃ (x : Ln) (E : Int) (i j k : Nat), 0 < x.2.2 ∧ nearP l = mk3 x.1 x.2.1 x.2.2 ∧ Wi l x E ∧ Alt l x E i j k ∧ x.2.1 * ((ptAt l k).h - (ptAt l i).h) = ((ptAt l k).x - (ptAt l i).x) * x.2.2 := by
  have hpos : ∀ u ∈ trips l.length, 0 < (lnT l u).2.2 := fun u hu => by
    obtain ⟨a, b, c⟩ := u
    obtain ⟨h1, h2, h4⟩ := trips_mem hu
    exact thr_pos (hl a c (by omega) h4)
  unfold nearP
  rw [if_neg (by omega), if_neg (by omega)]
  rcases best_fold l (trips l.length) hpos with ⟨h, _⟩ | ⟨t, ht, hs, hmax⟩
  · obtain ⟨r, hr⟩ := trips_split (n := l.length) (a := 0) (b := 1) (c := 2) (by omega) (by omega) (by omega)
    rw [h] at hr; simp at hr
  · obtain ⟨i, j, k⟩ := t
    obtain ⟨hij, hjk, hk⟩ := trips_mem ht
    rw [hs]
    have := max_alt hl hij hjk hk (x := lnT l (i, j, k)) (d := dT l (i, j, k)) rfl rfl (fun a b c h1 h2 h4 => by
      obtain ⟨r, hr⟩ := trips_split h1 h2 h4
      exact hmax (a, b, c) (by rw [hr]; simp))
    refine ⟨_, _, i, j, k, by have := hpos _ ht; dsimp only; omega, rfl, this.1, this.2, ?_⟩
    have hs : SameLn (lnT l (i, j, k)) (thrA (ptAt l i) (ptAt l k), (ptAt l k).x - (ptAt l i).x, (ptAt l k).h - (ptAt l i).h) := mk3_same
    have hb := hs.b
    dsimp only at hb ⊢
    rw [Int.mul_assoc, hb]
    grind
/-- the first of the points that are farthest off, among the first k -/
def wstN (x : Ln) (l : List Pt) : Nat → Nat
  | 0 => 0
  | k + 1 => if farV x.1 x.2.1 x.2.2 (ptAt l (wstN x l k)) < farV x.1 x.2.1 x.2.2 (ptAt l k) then k else wstN x l k
def wst (x : Ln) (l : List Pt) : Nat := wstN x l l.length
def eMax (l : List Pt) (x : Ln) : Int := farV x.1 x.2.1 x.2.2 (ptAt l (wst x l))
theorem wstN_lt (x : Ln) (l : List Pt) : ∀ k, wstN x l (k + 1) < k + 1
  | 0 => by unfold wstN; split <;> simp [wstN]
  | k + 1 => by have := wstN_lt x l k; unfold wstN; split <;> omega
theorem wst_lt {x : Ln} {l : List Pt} (h : 1 ≤ l.length) : wst x l < l.length := by
  obtain ⟨k, hk⟩ : ∃ k, l.length = k + 1 := ⟨l.length - 1, by omega⟩
  unfold wst; rw [hk]; exact wstN_lt x l k
theorem wstN_max (x : Ln) (l : List Pt) : ∀ (k m : Nat), m < k → farV x.1 x.2.1 x.2.2 (ptAt l m) ≤ farV x.1 x.2.1 x.2.2 (ptAt l (wstN x l k))
  | k + 1, m, h => by
    have ih := fun h' => wstN_max x l k m h'
    unfold wstN
    split
    · rcases Nat.eq_or_lt_of_le (Nat.le_of_lt_succ h) with rfl | h1
      · exact Int.le_refl _
      · have := ih h1; omega
    · rcases Nat.eq_or_lt_of_le (Nat.le_of_lt_succ h) with rfl | h1
      · omega
      · exact ih h1
theorem far_le {x : Ln} {p : Pt} {E : Int} : farV x.1 x.2.1 x.2.2 p ≤ E ↔ -E ≤ off3 x p ∧ off3 x p ≤ E := by
  unfold farV off3; omega
theorem eMax_wi (l : List Pt) (x : Ln) : Wi l x (eMax l x) := fun i hi => far_le.1 (wstN_max x l _ i hi)
theorem eMax_le {l : List Pt} {x : Ln} {E : Int} (h : 1 ≤ l.length) (hw : Wi l x E) : eMax l x ≤ E := far_le.2 (hw _ (wst_lt h))
theorem eMax_nonneg (l : List Pt) (x : Ln) : 0 ≤ eMax l x := by unfold eMax farV; omega

structure Near (l : List Pt) (x : Ln) (E : Int) : Prop where
  pos : 0 < x.2.2
  wi : Wi l x E
  hit : eMax l x = E
  uniq : ∀ (y : Ln) (F : Int), 0 < y.2.2 → Wi l y F → F * x.2.2 ≤ E * y.2.2 → SameLn x y
  slope : ∃ i k : Nat, i < k ∧ k < l.length ∧ x.2.1 * ((ptAt l k).h - (ptAt l i).h) = ((ptAt l k).x - (ptAt l i).x) * x.2.2
theorem same_far {x y : Ln} (hx : 0 < x.2.2) (hy : 0 < y.2.2) (h : SameLn x y) (p : Pt) : farV y.1 y.2.1 y.2.2 p * x.2.2 = farV x.1 x.2.1 x.2.2 p * y.2.2 := by
  have h2 := same_off h p
  unfold off3 at h2
  unfold farV
  generalize offV y.1 y.2.1 y.2.2 p = o at *
  generalize offV x.1 x.2.1 x.2.2 p = q at *
  have h3 : (o * x.2.2).natAbs = (q * y.2.2).natAbs := by rw [h2]
  rw [Int.natAbs_mul, Int.natAbs_mul] at h3
  have h4 : ((o.natAbs * x.2.2.natAbs : Nat) : Int) = ((q.natAbs * y.2.2.natAbs : Nat) : Int) := by rw [h3]
  rw [Int.natCast_mul, Int.natCast_mul, show ((x.2.2.natAbs : Nat) : Int) = x.2.2 by omega, show ((y.2.2.natAbs : Nat) : Int) = y.2.2 by omega] at h4
  exact h4
theorem same_eMax {l : List Pt} {x y : Ln} (h1 : 1 ≤ l.length) (hx : 0 < x.2.2) (hy : 0 < y.2.2) (h : SameLn x y) : eMax l y * x.2.2 = eMax l x * y.2.2 := by
  have a := same_far hx hy h (ptAt l (wst x l))
  have b := same_far hx hy h (ptAt l (wst y l))
  have c := far_le.2 (eMax_wi l x _ (wst_lt (x := y) h1))
  have d := far_le.2 (eMax_wi l y _ (wst_lt (x := x) h1))
  have e := Int.mul_le_mul_of_nonneg_right c (Int.le_of_lt hy)
  have f := Int.mul_le_mul_of_nonneg_right d (Int.le_of_lt hx)
  rw [← b] at e
  rw [a] at f
  exact Int.le_antisymm e f
theorem wi_nonneg {l : List Pt} {x : Ln} {E : Int} (h1 : 1 ≤ l.length) (hw : Wi l x E) : 0 ≤ E := by have := hw 0 h1; omega
theorem Near.le {l : List Pt} {x y : Ln} {E F : Int} (h1 : 1 ≤ l.length) (h : Near l x E) (hy : 0 < y.2.2) (hw : Wi l y F) : E * y.2.2 ≤ F * x.2.2 := by
  rcases Int.lt_or_le (F * x.2.2) (E * y.2.2) with hc | hc
  · have hs := h.uniq y F hy hw (Int.le_of_lt hc)
    have e := same_eMax h1 h.pos hy hs
    rw [h.hit] at e
    have f := Int.mul_le_mul_of_nonneg_right (eMax_le h1 hw) (Int.le_of_lt h.pos)
    omega
  · exact hc
/-- a line that is told by other numbers is as near -/
theorem Near.same {l : List Pt} {x y : Ln} {E : Int} (h1 : 1 ≤ l.length) (h : Near l x E) (hy : 0 < y.2.2) (hs : SameLn x y) : Near l y (eMax l y) where
  pos := hy
  wi := eMax_wi l y
  hit := rfl
  uniq z F hz hw hle := by
    refine same_trans h.pos (same_symm hs) (h.uniq z F hz hw ?_)
    have e := same_eMax h1 h.pos hy hs
    rw [h.hit] at e
    have f := Int.mul_le_mul_of_nonneg_right hle (Int.le_of_lt h.pos)
    apply Int.le_of_mul_le_mul_right _ hy
    have e1 : E * z.2.2 * y.2.2 = eMax l y * z.2.2 * x.2.2 := by
      rw [Int.mul_right_comm, ← e]; exact Int.mul_right_comm _ _ _
    rw [e1, Int.mul_right_comm]; exact f
  slope := by
    obtain ⟨i, k, a, b, c⟩ := h.slope
    refine ⟨i, k, a, b, ?_⟩
    have := hs.b
    apply Int.eq_of_mul_eq_mul_right (show x.2.2 ≠ 0 by have := h.pos; omega)
    grind
theorem Near.of_alt {l : List Pt} {x : Ln} {E : Int} {i j k : Nat} (hl : Asc l) (h3 : 1 ≤ l.length) (hx : 0 < x.2.2) (hw : Wi l x E) (hA : Alt l x E i j k) (hs : ∃ i k : Nat, i < k ∧ k < l.length ∧ x.2.1 * ((ptAt l k).h - (ptAt l i).h) = ((ptAt l k).x - (ptAt l i).x) * x.2.2) : Near l x E where
  pos := hx
  wi := hw
  hit := by
    apply Int.le_antisymm (eMax_le h3 hw)
    obtain ⟨a, b, c, hh⟩ := hA
    have := eMax_wi l x j (by omega)
    omega
  uniq y F hy hwy hle := alt_least hl hx hA hwy hle
  slope := hs
theorem near_two {l : List Pt} (hl : Asc l) (h2 : l.length = 2) : Near l (nearP l) 0 := by
  have h01 := hl 0 1 (by omega) (by omega)
  have hn : nearP l = thr3 (ptAt l 0) (ptAt l 1) := by unfold nearP; rw [if_neg (by omega), if_pos h2]
  obtain ⟨o0, o1⟩ := thr_off h01
  have hp := thr_pos h01
  rw [hn]
  have hs : SameLn (thr3 (ptAt l 0) (ptAt l 1)) (thrA (ptAt l 0) (ptAt l 1), (ptAt l 1).x - (ptAt l 0).x, (ptAt l 1).h - (ptAt l 0).h) := mk3_same
  generalize thr3 (ptAt l 0) (ptAt l 1) = x at *
  have hw : Wi l x 0 := fun i hi => by
    rcases (by omega : i = 0 ∨ i = 1) with rfl | rfl <;> omega
  refine ⟨hp, hw, ?_, fun y F hy hwy hle => ?_, 0, 1, by omega, by omega, hs.b⟩
  · have := eMax_le (by omega) hw; have := eMax_nonneg l x; omega
  · rw [Int.zero_mul] at hle
    have hF : F ≤ 0 := by
      rcases Int.lt_or_le 0 F with h | h
      · have := Int.mul_pos h hp; omega
      · exact h
    have y0 := hwy 0 (by omega)
    have y1 := hwy 1 (by omega)
    have d0 := off_diff x y (ptAt l 0)
    have d1 := off_diff x y (ptAt l 1)
    rw [o0, show off3 y (ptAt l 0) = 0 by omega] at d0
    rw [o1, show off3 y (ptAt l 1) = 0 by omega] at d1
    have hv : x.2.1 * y.2.2 - y.2.1 * x.2.2 = 0 := by
      have hne : (ptAt l 1).h - (ptAt l 0).h ≠ 0 := by omega
      have : (x.2.1 * y.2.2 - y.2.1 * x.2.2) * ((ptAt l 1).h - (ptAt l 0).h) = 0 := by rw [Int.mul_sub]; omega
      rcases Int.mul_eq_zero.1 this with h | h
      · exact h
      · exact absurd h hne
    rw [hv] at d0
    exact ⟨by simp at d0; omega, by omega⟩
/-- the nearest line of two points or more -/
theorem near_of {l : List Pt} (hl : Asc l) (h2 : 2 ≤ l.length) : Near l (nearP l) (eMax l (nearP l)) := by
  rcases Nat.eq_or_lt_of_le h2 with h | h
  · have := near_two hl h.symm
    rw [this.hit]; exact this
  · obtain ⟨x, E, i, j, k, hx, hn, hw, hA, hs⟩ := near_many2 hl h
    have hN := Near.of_alt hl (by omega) hx hw hA ⟨i, k, by have := hA.1; have := hA.2.1; omega, hA.2.2.1, hs⟩
    rw [hn]
    exact hN.same (by omega) (mk3_pos hx) (same_symm mk3_same)
/-- The narrowest strip. -/
structure Nar (l : List Pt) (b d lo hi : Int) : Prop where
  pos : 0 < d
  wi : ∀ m : Nat, m < l.length → lo ≤ (ptAt l m).x * d - b * (ptAt l m).h ∧ (ptAt l m).x * d - b * (ptAt l m).h ≤ hi
  least : ∀ i k : Nat, i < k → k < l.length → ∃ m n : Nat, m < l.length ∧ n < l.length ∧ (hi - lo) * ((ptAt l k).h - (ptAt l i).h) ≤ (((ptAt l n).x * ((ptAt l k).h - (ptAt l i).h) - ((ptAt l k).x - (ptAt l i).x) * (ptAt l n).h) - ((ptAt l m).x * ((ptAt l k).h - (ptAt l i).h) - ((ptAt l k).x - (ptAt l i).x) * (ptAt l m).h)) * d
theorem nar_near {l : List Pt} {b d lo hi : Int} (hl : Asc l) (h2 : 2 ≤ l.length) (h : Nar l b d lo hi) :
    mk3 (lo + hi) (2 * b) (2 * d) = nearP l ∧ eMax l (nearP l) * (2 * d) = (hi - lo) * (nearP l).2.2 := by
  have hN := near_of hl h2
  have hp := h.pos
  have hred : mk3 (nearP l).1 (nearP l).2.1 (nearP l).2.2 = nearP l := by
    apply mk3_red
    unfold nearP
    rw [if_neg (by omega)]
    split
    · have := hl 0 1 (by omega) (by omega); exact g3_mk3 (by omega)
    · obtain ⟨x, E, i, j, k, hx, hn, _⟩ := near_many2 hl (by omega)
      unfold nearP at hn
      rw [if_neg (by omega), if_neg (by omega)] at hn
      rw [hn]; exact g3_mk3 hx
  generalize nearP l = x at *
  have hw : Wi l (lo + hi, 2 * b, 2 * d) (hi - lo) := fun m hm => by
    have := h.wi m hm
    have e : off3 (lo + hi, 2 * b, 2 * d) (ptAt l m) = 2 * ((ptAt l m).x * d - b * (ptAt l m).h) - (lo + hi) := by unfold off3 offV; grind
    rw [e]; omega
  obtain ⟨i, k, hik, hk, hsl⟩ := hN.slope
  obtain ⟨m, n, hm, hn, hle⟩ := h.least i k hik hk
  have hH : 0 < (ptAt l k).h - (ptAt l i).h := by have := hl i k hik hk; omega
  have wm := hN.wi m hm
  have wn := hN.wi n hn
  have key : (hi - lo) * x.2.2 ≤ eMax l x * (2 * d) := by
    apply Int.le_of_mul_le_mul_right _ hH
    have h1 := Int.mul_le_mul_of_nonneg_right hle (Int.le_of_lt hN.pos)
    have e1 : (((ptAt l n).x * ((ptAt l k).h - (ptAt l i).h) - ((ptAt l k).x - (ptAt l i).x) * (ptAt l n).h) - ((ptAt l m).x * ((ptAt l k).h - (ptAt l i).h) - ((ptAt l k).x - (ptAt l i).x) * (ptAt l m).h)) * d * x.2.2
        = (off3 x (ptAt l n) - off3 x (ptAt l m)) * (d * ((ptAt l k).h - (ptAt l i).h)) := by unfold off3 offV; grind
    rw [e1] at h1
    have h3 : (off3 x (ptAt l n) - off3 x (ptAt l m)) * (d * ((ptAt l k).h - (ptAt l i).h)) ≤ (2 * eMax l x) * (d * ((ptAt l k).h - (ptAt l i).h)) := Int.mul_le_mul_of_nonneg_right (by omega) (Int.le_of_lt (Int.mul_pos hp hH))
    grind
  have hs := hN.uniq _ _ (by show 0 < 2 * d; omega) hw key
  refine ⟨?_, Int.le_antisymm (hN.le (by omega) (show 0 < 2 * d by omega) hw) key⟩
  rw [← hred]
  exact (same_mk3 (x := x) (y := (lo + hi, 2 * b, 2 * d)) hN.pos (by show 0 < 2 * d; omega) hs).symm
end Go.Proofs.Ytohbejdfaecghaa
