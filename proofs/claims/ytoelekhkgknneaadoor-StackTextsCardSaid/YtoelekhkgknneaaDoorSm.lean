/- Stack: the sums over what stands above a bed; plain, no program in sight. -/
import Derived.Test.YtoelekhkgknneaaDoorSa
namespace Go.Proofs.YtoelekhkgknneaaDoor
open Go.RowKit

def hs : List Course → Int
  | [] => 0
  | c :: l => hs l + c.h
def wts : List Course → Int
  | [] => 0
  | c :: l => wts l + c.wt
def es : List Course → Int
  | [] => 0
  | c :: l => es l + c.wt * c.e
def ns : List Course → Int
  | [] => 0
  | c :: l => ns l + c.wt * c.n
def face : List Course → Int
  | [] => 0
  | c :: l => face l + c.o * c.h
def push : List Course → Int
  | [] => 0
  | c :: l => push l + (2 * face l * c.h + c.o * c.h * c.h)

structure CB (x : Course) : Prop where
  h1 : 1 ≤ x.h
  h2 : x.h ≤ 2000
  i1 : 0 ≤ x.i
  o1 : x.i < x.o
  o2 : x.o ≤ 5000
  w1 : 1 ≤ x.wt
  w2 : x.wt ≤ 1000000
  e1 : -5000 ≤ x.e
  e2 : x.e ≤ 5000
  n1 : -5000 ≤ x.n
  n2 : x.n ≤ 5000
theorem cb_of {x : Course} (h : soundB x = true) : CB x := by
  simp only [soundB, wn, Bool.and_eq_true, decide_eq_true_eq] at h
  obtain ⟨⟨a, b⟩, c, d, e, ⟨f, g⟩, ⟨i, j⟩, k, m⟩ := h
  exact ⟨a, b, c, d, e, f, g, i, j, k, m⟩
theorem mul_bd {a b A B : Int} (h1 : -A ≤ a) (h2 : a ≤ A) (h3 : -B ≤ b) (h4 : b ≤ B) : -(A * B) ≤ a * b ∧ a * b ≤ A * B := by
  have hA : 0 ≤ A := by omega
  have hB : 0 ≤ B := by omega
  have ha : a.natAbs ≤ A.natAbs := by omega
  have hb : b.natAbs ≤ B.natAbs := by omega
  have hm := Nat.mul_le_mul ha hb
  rw [← Int.natAbs_mul, ← Int.natAbs_mul] at hm
  have h0 : 0 ≤ A * B := Int.mul_nonneg hA hB
  omega
theorem mul_bd0 {a b A B : Int} (h1 : 0 ≤ a) (h2 : a ≤ A) (h3 : 0 ≤ b) (h4 : b ≤ B) : 0 ≤ a * b ∧ a * b ≤ A * B :=
  ⟨Int.mul_nonneg h1 h3, Int.mul_le_mul h2 h4 h3 (by omega)⟩

structure SB (l : List Course) : Prop where
  hs0 : 0 ≤ hs l
  hs1 : hs l ≤ 2000 * l.length
  w0 : (l.length : Int) ≤ wts l
  w1 : wts l ≤ 1000000 * l.length
  e0 : -(5000000000 * l.length) ≤ es l
  e1 : es l ≤ 5000000000 * l.length
  n0 : -(5000000000 * l.length) ≤ ns l
  n1 : ns l ≤ 5000000000 * l.length
  f0 : 0 ≤ face l
  f1 : face l ≤ 10000000 * l.length
  p0 : 0 ≤ push l
  p1 : push l ≤ 20000000000 * (l.length * l.length)
theorem sb_of : ∀ {l : List Course}, l.all soundB = true → SB l
  | [], _ => ⟨by simp [hs], by simp [hs], by simp [wts], by simp [wts], by simp [es], by simp [es], by simp [ns], by simp [ns], by simp [face], by simp [face], by simp [push], by simp [push]⟩
  | x :: l, h => by
    simp only [List.all_cons, Bool.and_eq_true] at h
    have c := cb_of h.1
    have s := sb_of h.2
    obtain ⟨c1, c2, c3, c4, c5, c6, c7, c8, c9, c10, c11⟩ := c
    obtain ⟨s1, s2, s3, s4, s5, s6, s7, s8, s9, s10, s11, s12⟩ := s
    have m1 := mul_bd (a := x.wt) (b := x.e) (A := 1000000) (B := 5000) (by omega) c7 c8 c9
    have m2 := mul_bd (a := x.wt) (b := x.n) (A := 1000000) (B := 5000) (by omega) c7 c10 c11
    have m3 := mul_bd0 (a := x.o) (b := x.h) (A := 5000) (B := 2000) (by omega) c5 (by omega) c2
    have m4 := mul_bd0 (a := x.o * x.h) (b := x.h) (A := 5000 * 2000) (B := 2000) m3.1 m3.2 (by omega) c2
    have m5 := mul_bd0 (a := 2 * face l) (b := x.h) (A := 2 * (10000000 * l.length)) (B := 2000) (by omega) (by omega) (by omega) c2
    have e1 : ((l.length : Int) + 1) * ((l.length : Int) + 1) = (l.length : Int) * l.length + 2 * l.length + 1 := by
      rw [Int.add_mul, Int.mul_add]; omega
    have e2 : 2 * (10000000 * (l.length : Int)) * 2000 = 40000000000 * l.length := by omega
    refine ⟨?_, ?_, ?_, ?_, ?_, ?_, ?_, ?_, ?_, ?_, ?_, ?_⟩ <;> simp only [hs, wts, es, ns, face, push, List.length_cons, Int.natCast_add, Int.natCast_one]
    all_goals first | omega | (rw [e1]; omega)
theorem hs_drop {l : List Course} {k : Nat} {x : Course} (h : l[k]? = some x) : l.drop k = x :: l.drop (k + 1) := by
  have hk : k < l.length := by
    rcases Nat.lt_or_ge k l.length with h1 | h1
    · exact h1
    · rw [List.getElem?_eq_none h1] at h; cases h
  rw [List.drop_eq_getElem_cons hk]
  rw [List.getElem?_eq_getElem hk] at h
  cases h
  rfl
theorem all_drop {l : List Course} (h : l.all soundB = true) (k : Nat) : (l.drop k).all soundB = true := by
  rw [List.all_eq_true] at *
  exact fun x hx => h x (List.mem_of_mem_drop hx)
theorem valid_all {l : List Course} (h : validC l = true) : l.all soundB = true ∧ 1 ≤ l.length ∧ l.length ≤ 60 := by
  simp only [validC, wn, Bool.and_eq_true, decide_eq_true_eq] at h
  exact ⟨h.2, by omega, by omega⟩
end Go.Proofs.YtoelekhkgknneaaDoor
