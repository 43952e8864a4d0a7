/- Fell: the hull of spots, plain; no program in sight. -/
import Derived.Test.YthklgkgincebhaaGreatDoorKit
set_option linter.unusedSimpArgs false
set_option linter.unusedVariables false
namespace Go.Proofs.YthklgkgincebhaaGreatDoor

structure Sp where
  x : Int
  y : Int
theorem Sp.ext' {a b : Sp} (h1 : a.x = b.x) (h2 : a.y = b.y) : a = b := by cases a; cases b; simp_all
instance : DecidableEq Sp := fun a b => if h : a.x = b.x ∧ a.y = b.y then isTrue (Sp.ext' h.1 h.2) else isFalse (fun e => h (e ▸ ⟨rfl, rfl⟩))
/-- where c lies beside the way from a to b, and ahead of a -/
def cr (a b c : Sp) : Int := (b.x - a.x) * (c.y - a.y) - (b.y - a.y) * (c.x - a.x)
def dt (a b c : Sp) : Int := (b.x - a.x) * (c.x - a.x) + (b.y - a.y) * (c.y - a.y)
def lam (u v : Int) (a : Sp) : Int := u * a.x + v * a.y
theorem cr_rot (a b c : Sp) : cr b c a = cr a b c := by unfold cr; grind
theorem cr_flip (a b c : Sp) : cr b a c = - cr a b c := by unfold cr; grind
theorem cr_swap (a b c : Sp) : cr a c b = - cr a b c := by unfold cr; grind
theorem cr_self (a b : Sp) : cr a b a = 0 ∧ cr a b b = 0 ∧ cr a a b = 0 := by unfold cr; refine ⟨?_, ?_, ?_⟩ <;> grind
theorem pos_of_mul {a b : Int} (ha : 0 < a) (h : 0 < a * b) : 0 < b := by
  rcases Int.lt_or_le 0 b with h1 | h1
  · exact h1
  · have := Int.mul_nonpos_of_nonneg_of_nonpos (Int.le_of_lt ha) h1; omega
theorem nn_of_mul {a b : Int} (ha : 0 < a) (h : 0 ≤ a * b) : 0 ≤ b := by
  rcases Int.lt_or_le b 0 with h1 | h1
  · have := Int.mul_neg_of_pos_of_neg ha h1; omega
  · exact h1
/-- what is left of a way, and nearer than its end, is left of each way on from there to the left -/
theorem turn_back {u v : Int} {a b s p : Sp} (h1 : lam u v a < lam u v b) (h2 : lam u v b < lam u v s) (h3 : lam u v p ≤ lam u v b) (k1 : 0 ≤ cr a b s) (k2 : 0 ≤ cr a b p) : 0 ≤ cr b s p := by
  have e : (lam u v b - lam u v a) * cr b s p = (lam u v s - lam u v b) * cr a b p + (lam u v b - lam u v p) * cr a b s := by unfold lam cr; grind
  refine nn_of_mul (a := lam u v b - lam u v a) (by omega) ?_
  rw [e]
  exact Int.add_nonneg (Int.mul_nonneg (by omega) k2) (Int.mul_nonneg (by omega) k1)
theorem turn_back' {u v : Int} {a b s p : Sp} (h1 : lam u v a < lam u v b) (h2 : lam u v b < lam u v s) (h3 : lam u v p < lam u v b) (k1 : 0 < cr a b s) (k2 : 0 ≤ cr a b p) : 0 < cr b s p := by
  have e : (lam u v b - lam u v a) * cr b s p = (lam u v s - lam u v b) * cr a b p + (lam u v b - lam u v p) * cr a b s := by unfold lam cr; grind
  refine pos_of_mul (a := lam u v b - lam u v a) (by omega) ?_
  rw [e]
  exact Int.add_pos_of_nonneg_of_pos (Int.mul_nonneg (by omega) k2) (Int.mul_pos (by omega) k1)
/-- what is left of a way that is left out is left of the way that takes its place -/
theorem turn_out {u v : Int} {a b s p : Sp} (h1 : lam u v a < lam u v b) (h2 : lam u v b < lam u v s) (h3 : lam u v a < lam u v p) (k1 : cr a b s ≤ 0) (k2 : 0 ≤ cr a b p) : 0 ≤ cr a s p := by
  have e : (lam u v b - lam u v a) * cr a s p = (lam u v s - lam u v a) * cr a b p - (lam u v p - lam u v a) * cr a b s := by unfold lam cr; grind
  refine nn_of_mul (a := lam u v b - lam u v a) (by omega) ?_
  rw [e]
  have := Int.mul_nonpos_of_nonneg_of_nonpos (a := lam u v p - lam u v a) (by omega) k1
  have := Int.mul_nonneg (a := lam u v s - lam u v a) (by omega) k2
  omega
/-- what is left of a way is left of the one before it -/
theorem turn_on {u v : Int} {a b c s : Sp} (h1 : lam u v a < lam u v b) (h2 : lam u v b < lam u v c) (h3 : lam u v c < lam u v s) (k1 : 0 < cr a b c) (k2 : 0 < cr b c s) : 0 < cr a b s := by
  have e : (lam u v c - lam u v b) * cr a b s = (lam u v b - lam u v a) * cr b c s + (lam u v s - lam u v b) * cr a b c := by unfold lam cr; grind
  refine pos_of_mul (a := lam u v c - lam u v b) (by omega) ?_
  rw [e]
  exact Int.add_pos_of_nonneg_of_pos (Int.mul_nonneg (by omega) (by omega)) (Int.mul_pos (by omega) k1)
/-- the corners that stay when one more comes: what no longer turns left is left out -/
def pop (s : Sp) : List Sp → List Sp
  | b :: a :: r => if cr a b s ≤ 0 then pop s (a :: r) else b :: a :: r
  | [a] => [a]
  | [] => []
def psh (st : List Sp) (s : Sp) : List Sp := s :: pop s st
def chn (l : List Sp) : List Sp := l.foldl psh []
def adj : List Sp → List (Sp × Sp)
  | b :: a :: r => (a, b) :: adj (a :: r)
  | _ => []
def Conv : List Sp → Prop
  | c :: b :: a :: r => 0 < cr a b c ∧ Conv (b :: a :: r)
  | _ => True
structure HInv (u v : Int) (dn st : List Sp) : Prop where
  ed : ∀ e ∈ adj st, ∀ p ∈ dn, 0 ≤ cr e.1 e.2 p
  de : st.Pairwise (fun x y => lam u v y < lam u v x)
  sub : ∀ x ∈ st, x ∈ dn
  cv : Conv st
  la : st.getLast? = dn.head?
theorem Conv.tl {b : Sp} {r : List Sp} (h : Conv (b :: r)) : Conv r := by
  match r, h with
  | [], _ => trivial
  | [_], _ => trivial
  | a :: x :: r, h => exact h.2
theorem HInv.tl {u v : Int} {dn : List Sp} {b a : Sp} {r : List Sp} (h : HInv u v dn (b :: a :: r)) : HInv u v dn (a :: r) where
  ed := fun e he => h.ed e (List.mem_cons_of_mem _ he)
  de := (List.pairwise_cons.1 h.de).2
  sub := fun x hx => h.sub x (List.mem_cons_of_mem _ hx)
  cv := h.cv.tl
  la := by rw [← h.la, List.getLast?_cons_cons]
theorem pop_inv {u v : Int} {dn : List Sp} {s : Sp} (hs : ∀ p ∈ dn, lam u v p < lam u v s) : ∀ st : List Sp, HInv u v dn st → st ≠ [] → (∀ t, st.head? = some t → ∀ p ∈ dn, lam u v t < lam u v p → 0 ≤ cr t s p) →
    HInv u v dn (pop s st) ∧ pop s st ≠ [] ∧ (∀ t, (pop s st).head? = some t → ∀ p ∈ dn, lam u v t < lam u v p → 0 ≤ cr t s p) ∧ ∀ t a r, pop s st = t :: a :: r → 0 < cr a t s
  | [], _, h, _ => absurd rfl h
  | [a], h, h0, hP => by unfold pop; exact ⟨h, h0, hP, fun t a r e => by simp at e⟩
  | b :: a :: r, h, h0, hP => by
    unfold pop
    split
    · rename_i hc
      have hab : lam u v a < lam u v b := (List.pairwise_cons.1 h.de).1 a (List.mem_cons_self ..)
      have hbs := hs b (h.sub b (List.mem_cons_self ..))
      refine pop_inv hs (a :: r) h.tl (by simp) fun t ht p hp hlt => ?_
      simp only [List.head?_cons, Option.some.injEq] at ht
      subst ht
      exact turn_out hab hbs hlt hc (h.ed (a, b) (List.mem_cons_self ..) p hp)
    · rename_i hc
      refine ⟨h, by simp, hP, fun t a' r' e => ?_⟩
      simp only [List.cons.injEq] at e
      obtain ⟨rfl, rfl, _⟩ := e
      omega
/-- a point left of the topmost way is left of all -/
theorem conv_left {u v : Int} {s : Sp} : ∀ st : List Sp, Conv st → st.Pairwise (fun x y => lam u v y < lam u v x) → (∀ x ∈ st, lam u v x < lam u v s) → (∀ t a r, st = t :: a :: r → 0 < cr a t s) → ∀ e ∈ adj st, 0 < cr e.1 e.2 s
  | [], _, _, _, _, e, he => by cases he
  | [_], _, _, _, _, e, he => by cases he
  | t :: b :: r, hc, hd, hs, ht, e, he => by
    have h1 := ht t b r rfl
    rcases List.mem_cons.1 he with rfl | he
    · exact h1
    · refine conv_left (b :: r) hc.tl (List.pairwise_cons.1 hd).2 (fun x hx => hs x (List.mem_cons_of_mem _ hx)) (fun t' a r' e => ?_) e he
      simp only [List.cons.injEq] at e
      obtain ⟨rfl, rfl⟩ := e
      have d := List.pairwise_cons.1 hd
      exact turn_on ((List.pairwise_cons.1 d.2).1 a (List.mem_cons_self ..)) (d.1 b (List.mem_cons_self ..)) (hs t (List.mem_cons_self ..)) hc.1 h1
theorem adj_mem : ∀ {st : List Sp} {e : Sp × Sp}, e ∈ adj st → e.1 ∈ st ∧ e.2 ∈ st
  | [], e, he => by cases he
  | [_], e, he => by cases he
  | t :: b :: r, e, he => by
    rcases List.mem_cons.1 he with rfl | he
    · exact ⟨List.mem_cons_of_mem _ (List.mem_cons_self ..), List.mem_cons_self ..⟩
    · have := adj_mem he; exact ⟨List.mem_cons_of_mem _ this.1, List.mem_cons_of_mem _ this.2⟩
theorem push_inv {u v : Int} {dn st : List Sp} {s : Sp} (h : HInv u v dn st) (ht : st.head? = dn.getLast?) (hd : dn.Pairwise (fun x y => lam u v x < lam u v y)) (hs : ∀ p ∈ dn, lam u v p < lam u v s) :
    HInv u v (dn ++ [s]) (psh st s) := by
  unfold psh
  by_cases h0 : st = []
  · subst h0
    have hdn : dn = [] := by
      have h1 := h.la
      cases dn with
      | nil => rfl
      | cons a r => simp at h1
    subst hdn
    exact ⟨fun e he => (by cases he), by simp [pop], by simp [pop], trivial, by simp [pop]⟩
  · have htop : ∀ t, st.head? = some t → ∀ p ∈ dn, lam u v t < lam u v p → 0 ≤ cr t s p := fun t ht2 p hp hlt => by
      rw [ht] at ht2
      obtain ⟨ys, rfl⟩ := List.getLast?_eq_some_iff.1 ht2
      rcases List.mem_append.1 hp with hp | hp
      · have := (List.pairwise_append.1 hd).2.2 p hp t (by simp); omega
      · simp at hp; subst hp; omega
    obtain ⟨i, hne, hP, hst⟩ := pop_inv hs st h h0 htop
    generalize pop s st = q at i hne hP hst
    obtain ⟨t, r, rfl⟩ : ∃ t r, q = t :: r := by cases q with | nil => exact absurd rfl hne | cons t r => exact ⟨t, r, rfl⟩
    have hsm : ∀ x ∈ t :: r, lam u v x < lam u v s := fun x hx => hs x (i.sub x hx)
    refine ⟨fun e he p hp => ?_, ?_, ?_, ?_, ?_⟩
    · rcases List.mem_cons.1 he with rfl | he2
      · show 0 ≤ cr t s p
        rcases List.mem_append.1 hp with hp | hp
        · rcases Int.lt_trichotomy (lam u v p) (lam u v t) with hl | hl | hl
          · cases r with
            | nil =>
              have e1 := i.la
              simp at e1
              obtain ⟨ys, rfl⟩ : ∃ ys, dn = t :: ys := by cases dn with | nil => simp at e1 | cons x ys => simp at e1; exact ⟨ys, by rw [e1]⟩
              rcases List.mem_cons.1 hp with rfl | hp
              · omega
              · have := (List.pairwise_cons.1 hd).1 p hp; omega
            | cons a r =>
              have hab : lam u v a < lam u v t := (List.pairwise_cons.1 i.de).1 a (List.mem_cons_self ..)
              exact turn_back hab (hsm t (List.mem_cons_self ..)) (by omega) (by have := hst t a r rfl; omega) (i.ed (a, t) (List.mem_cons_self ..) p hp)
          · obtain rfl : p = t := by
              have htd := i.sub t (List.mem_cons_self ..)
              rcases Classical.em (p = t) with e | e
              · exact e
              · exact absurd hl (by
                  obtain ⟨m, hm, rfl⟩ := List.getElem_of_mem hp
                  obtain ⟨n, hn, rfl⟩ := List.getElem_of_mem htd
                  rcases Nat.lt_trichotomy m n with k | k | k
                  · have := List.pairwise_iff_getElem.1 hd m n hm hn k; omega
                  · subst k; exact absurd rfl e
                  · have := List.pairwise_iff_getElem.1 hd n m hn hm k; omega)
            have := (cr_self p s).1; omega
          · exact hP t rfl p hp hl
        · simp at hp; subst hp
          have := (cr_self t p).2.1; omega
      · rcases List.mem_append.1 hp with hp | hp
        · exact i.ed e he2 p hp
        · simp at hp; subst hp
          exact Int.le_of_lt (conv_left (t :: r) i.cv i.de hsm (fun t' a r' e => hst t' a r' e) e he2)
    · exact List.pairwise_cons.2 ⟨hsm, i.de⟩
    · intro x hx
      rcases List.mem_cons.1 hx with rfl | hx
      · simp
      · exact List.mem_append_left _ (i.sub x hx)
    · cases r with
      | nil => trivial
      | cons a r => exact ⟨hst t a r rfl, i.cv⟩
    · rw [List.getLast?_cons_cons, i.la]
      cases dn with
      | nil => exact absurd (i.sub t (List.mem_cons_self ..)) (by simp)
      | cons x ys => rfl
theorem psh_head (st : List Sp) (s : Sp) : (psh st s).head? = some s := rfl
theorem chn_inv {u v : Int} : ∀ l dn st : List Sp, HInv u v dn st → st.head? = dn.getLast? → (dn ++ l).Pairwise (fun x y => lam u v x < lam u v y) → HInv u v (dn ++ l) (l.foldl psh st) ∧ (l.foldl psh st).head? = (dn ++ l).getLast?
  | [], dn, st, h, ht, _ => by simpa using ⟨h, ht⟩
  | s :: l, dn, st, h, ht, hd => by
    have e : dn ++ s :: l = (dn ++ [s]) ++ l := by simp
    rw [e] at hd ⊢
    have hp := List.pairwise_append.1 hd
    have hq := List.pairwise_append.1 hp.1
    exact chn_inv l (dn ++ [s]) (psh st s) (push_inv h ht hq.1 fun p hp => hq.2.2 p hp s (by simp)) (by rw [psh_head]; simp) hd
theorem chn_is {u v : Int} (l : List Sp) (hd : l.Pairwise (fun x y => lam u v x < lam u v y)) : HInv u v l (chn l) ∧ (chn l).head? = l.getLast? := by
  have := chn_inv (u := u) (v := v) l [] [] ⟨fun e he => (by cases he), by simp, by simp, trivial, by simp⟩ (by simp) (by simpa using hd)
  simpa [chn] using this
def aff (i j k : Int) (a : Sp) : Int := i * a.x + j * a.y + k
def dq (w a b : Sp) : Int := (w.x - a.x) * (w.x - b.x) + (w.y - a.y) * (w.y - b.y)
def Btw (a b w : Sp) : Prop := cr a b w = 0 ∧ dq w a b ≤ 0
def Ins (a b c w : Sp) : Prop := (0 < cr a b c ∧ 0 ≤ cr a b w ∧ 0 ≤ cr b c w ∧ 0 ≤ cr c a w) ∨ (cr a b c < 0 ∧ cr a b w ≤ 0 ∧ cr b c w ≤ 0 ∧ cr c a w ≤ 0)
def Held (l : List Sp) (w : Sp) : Prop := ∃ a ∈ l, ∃ b ∈ l, Btw a b w ∨ ∃ c ∈ l, Ins a b c w
theorem sq_nn (a : Int) : 0 ≤ a * a := by
  rcases Int.le_total 0 a with h | h
  · exact Int.mul_nonneg h h
  · exact Int.mul_nonneg_of_nonpos_of_nonpos h h
theorem sq_pos {a : Int} (h : a ≠ 0) : 0 < a * a := by
  rcases Int.lt_or_gt_of_ne h with h | h
  · exact Int.mul_pos_of_neg_of_neg h h
  · exact Int.mul_pos h h
theorem dq_self (w a : Sp) : 0 ≤ dq w a a := by unfold dq; have := sq_nn (w.x - a.x); have := sq_nn (w.y - a.y); omega
theorem dq_zero {w a : Sp} (h : dq w a a ≤ 0) : w = a := by
  unfold dq at h
  have h1 := sq_nn (w.x - a.x)
  have h2 := sq_nn (w.y - a.y)
  refine Sp.ext' ?_ ?_
  · rcases Classical.em (w.x - a.x = 0) with e | e
    · omega
    · have := sq_pos e; omega
  · rcases Classical.em (w.y - a.y = 0) with e | e
    · omega
    · have := sq_pos e; omega
theorem dq_pos {w a : Sp} (h : w ≠ a) : 0 < dq w a a := by
  rcases Int.lt_or_le 0 (dq w a a) with k | k
  · exact k
  · exact absurd (dq_zero k) h
/-- where a spot on a way lies: 0 to the way's length -/
theorem btw_part {a b w : Sp} (h : Btw a b w) (hab : b ≠ a) : 0 < dq b a a ∧ 0 ≤ dt a b w ∧ dt a b w ≤ dq b a a ∧ ∀ i j k, dq b a a * aff i j k w = (dq b a a - dt a b w) * aff i j k a + dt a b w * aff i j k b := by
  obtain ⟨h1, h2⟩ := h
  have hD := dq_pos hab
  have e1 : dt a b w * (dt a b w - dq b a a) = dq b a a * dq w a b - cr a b w * cr a b w := by unfold dt dq cr; grind
  rw [h1] at e1
  have e2 : dt a b w * (dt a b w - dq b a a) ≤ 0 := by
    rw [e1]
    have := Int.mul_nonpos_of_nonneg_of_nonpos (Int.le_of_lt hD) h2
    omega
  refine ⟨hD, ?_, ?_, fun i j k => ?_⟩
  · rcases Int.lt_or_le (dt a b w) 0 with k | k
    · have := Int.mul_pos_of_neg_of_neg k (show dt a b w - dq b a a < 0 by omega); omega
    · exact k
  · rcases Int.lt_or_le (dq b a a) (dt a b w) with k | k
    · have := Int.mul_pos (show 0 < dt a b w by omega) (show 0 < dt a b w - dq b a a by omega); omega
    · exact k
  · unfold cr at h1; unfold dq dt aff; grind
theorem held_nn {l : List Sp} {w : Sp} (h : Held l w) {i j k : Int} (hl : ∀ x ∈ l, 0 ≤ aff i j k x) : 0 ≤ aff i j k w := by
  obtain ⟨a, ha, b, hb, h | ⟨c, hc, h⟩⟩ := h
  · rcases Classical.em (b = a) with e | e
    · subst e
      rw [dq_zero h.2]; exact hl _ ha
    · obtain ⟨p1, p2, p3, p4⟩ := btw_part h e
      refine nn_of_mul p1 ?_
      rw [p4]
      exact Int.add_nonneg (Int.mul_nonneg (by omega) (hl a ha)) (Int.mul_nonneg p2 (hl b hb))
  · have e : cr a b c * aff i j k w = cr b c w * aff i j k a + cr c a w * aff i j k b + cr a b w * aff i j k c := by unfold cr aff; grind
    have fa := hl a ha
    have fb := hl b hb
    have fc := hl c hc
    rcases h with ⟨h0, h1, h2, h3⟩ | ⟨h0, h1, h2, h3⟩
    · refine nn_of_mul h0 ?_
      rw [e]
      exact Int.add_nonneg (Int.add_nonneg (Int.mul_nonneg h2 fa) (Int.mul_nonneg h3 fb)) (Int.mul_nonneg h1 fc)
    · refine nn_of_mul (a := - cr a b c) (by omega) ?_
      rw [Int.neg_mul, e]
      have := Int.mul_nonneg (a := - cr b c w) (by omega) fa
      have := Int.mul_nonneg (a := - cr c a w) (by omega) fb
      have := Int.mul_nonneg (a := - cr a b w) (by omega) fc
      grind
theorem add3_pos {x y z a b c : Int} (ha : 0 < a) (hb : 0 < b) (hc : 0 < c) (hx : 0 ≤ x) (hy : 0 ≤ y) (hz : 0 ≤ z) (h : 0 < x + y + z) : 0 < x * a + y * b + z * c := by
  have h1 : x ≤ x * a := by have := Int.mul_le_mul_of_nonneg_left (show 1 ≤ a by omega) hx; omega
  have h2 : y ≤ y * b := by have := Int.mul_le_mul_of_nonneg_left (show 1 ≤ b by omega) hy; omega
  have h3 : z ≤ z * c := by have := Int.mul_le_mul_of_nonneg_left (show 1 ≤ c by omega) hz; omega
  omega
theorem held_pos {l : List Sp} {w : Sp} (h : Held l w) {i j k : Int} (hl : ∀ x ∈ l, 0 < aff i j k x) : 0 < aff i j k w := by
  have hl2 : ∀ x ∈ l, 0 ≤ aff i j (k - 1) x := fun x hx => by have := hl x hx; unfold aff at this ⊢; omega
  have := held_nn h hl2
  unfold aff at this ⊢; omega
theorem cr_aff (p q x : Sp) : cr p q x = aff (-(q.y - p.y)) (q.x - p.x) ((q.y - p.y) * p.x - (q.x - p.x) * p.y) x := by unfold cr aff; grind
theorem held_left {l : List Sp} {w p q : Sp} (h : Held l w) (hl : ∀ x ∈ l, 0 ≤ cr p q x) : 0 ≤ cr p q w := by
  rw [cr_aff]; exact held_nn h fun x hx => by rw [← cr_aff]; exact hl x hx
theorem Held.mono {l m : List Sp} {w : Sp} (h : Held l w) (hs : ∀ x ∈ l, x ∈ m) : Held m w := by
  obtain ⟨a, ha, b, hb, h | ⟨c, hc, h⟩⟩ := h
  · exact ⟨a, hs a ha, b, hs b hb, .inl h⟩
  · exact ⟨a, hs a ha, b, hs b hb, .inr ⟨c, hs c hc, h⟩⟩
theorem held_of_mem {l : List Sp} {w : Sp} (h : w ∈ l) : Held l w := ⟨w, h, w, h, .inl ⟨(cr_self w w).1, by unfold dq; simp⟩⟩
/-- a spot of which the other ones lie on one side is not held by them -/
theorem not_held {l : List Sp} {w : Sp} {i j k : Int} (h0 : aff i j k w = 0) (hl : ∀ x ∈ l, 0 < aff i j k x) : ¬ Held l w := fun h => by have := held_pos h hl; omega

/-- a round way with all spots to its left -/
structure Poly (l : List Sp) (m : Nat) (g : Nat → Sp) : Prop where
  m2 : 2 ≤ m
  mem : ∀ i, i ≤ m → g i ∈ l
  cl : g m = g 0
  ed : ∀ i, i < m → ∀ p ∈ l, 0 ≤ cr (g i) (g (i + 1)) p
  fan : ∀ i, 1 ≤ i → i + 1 < m → 0 < cr (g i) (g (i + 1)) (g 0)
  cv : 3 ≤ m → ∀ i, i + 1 < m → 0 < cr (g i) (g (i + 1)) (g (i + 2))
  cv0 : 3 ≤ m → 0 < cr (g (m - 1)) (g 0) (g 1)
  ne : ∀ i, i < m → g i ≠ g (i + 1)
  ln : m = 2 → ∀ p ∈ l, Btw (g 0) (g 1) p
theorem ivt {F : Nat → Int} : ∀ n a : Nat, 0 ≤ F a → F (a + n + 1) ≤ 0 → ∃ i, a ≤ i ∧ i ≤ a + n ∧ 0 ≤ F i ∧ F (i + 1) ≤ 0
  | 0, a, h1, h2 => ⟨a, by omega, by omega, h1, h2⟩
  | n + 1, a, h1, h2 => by
    rcases Int.lt_or_le (F (a + 1)) 0 with h | h
    · exact ⟨a, by omega, by omega, h1, by omega⟩
    · obtain ⟨i, a1, a2, a3, a4⟩ := ivt n (a + 1) h (by rw [show a + 1 + n + 1 = a + (n + 1) + 1 by omega]; exact h2)
      exact ⟨i, by omega, by omega, a3, a4⟩
/-- what lies left of all sides is in the triangle of three corners -/
theorem poly_fan {l : List Sp} {m : Nat} {g : Nat → Sp} (h : Poly l m g) (h3 : 3 ≤ m) {w : Sp} (hw : ∀ i, i < m → 0 ≤ cr (g i) (g (i + 1)) w) : ∃ i, 1 ≤ i ∧ i + 1 < m ∧ Ins (g 0) (g i) (g (i + 1)) w := by
  have h1 := hw 0 (by omega)
  have h2 := hw (m - 1) (by omega)
  rw [show m - 1 + 1 = m by omega, h.cl] at h2
  obtain ⟨i, a1, a2, a3, a4⟩ := ivt (F := fun i => cr (g 0) (g i) w) (m - 3) 1 h1 (by
    rw [show 1 + (m - 3) + 1 = m - 1 by omega]
    show cr (g 0) (g (m - 1)) w ≤ 0
    rw [cr_flip]; omega)
  refine ⟨i, a1, by omega, .inl ⟨?_, a3, hw i (by omega), ?_⟩⟩
  · rw [← cr_rot]; exact h.fan i a1 (by omega)
  · have : cr (g 0) (g (i + 1)) w ≤ 0 := a4
    rw [cr_flip]; omega
theorem poly_held {l : List Sp} {m : Nat} {g : Nat → Sp} (h : Poly l m g) (h3 : 3 ≤ m) (w : Sp) : (∀ i, i < m → 0 ≤ cr (g i) (g (i + 1)) w) ↔ Held l w := by
  constructor
  · intro hw
    obtain ⟨i, a1, a2, a3⟩ := poly_fan h h3 hw
    exact ⟨g 0, h.mem 0 (by omega), g i, h.mem i (by omega), .inr ⟨g (i + 1), h.mem _ (by omega), a3⟩⟩
  · intro hH i hi
    exact held_left hH (h.ed i hi)
theorem dt_aff (a b x : Sp) : dt a b x = aff (b.x - a.x) (b.y - a.y) (-((b.x - a.x) * a.x + (b.y - a.y) * a.y)) x := by unfold dt aff; grind
theorem dq_dt {a b w : Sp} (h : cr a b w = 0) : dt a b w * (dt a b w - dq b a a) = dq b a a * dq w a b := by
  have : dt a b w * (dt a b w - dq b a a) = dq b a a * dq w a b - cr a b w * cr a b w := by unfold dt dq cr; grind
  rw [this, h]; omega
/-- all spots on one line -/
theorem line_held {l : List Sp} {g : Nat → Sp} (h : Poly l 2 g) (w : Sp) : Btw (g 0) (g 1) w ↔ Held l w := by
  refine ⟨fun hw => ⟨g 0, h.mem 0 (by omega), g 1, h.mem 1 (by omega), .inl hw⟩, fun hw => ?_⟩
  have e0 := h.ed 0 (by omega)
  have e1 := h.ed 1 (by omega)
  rw [h.cl] at e1
  have w0 := held_left hw e0
  have w1 := held_left hw e1
  rw [cr_flip] at w1
  have hz : cr (g 0) (g 1) w = 0 := by simp only [Nat.zero_add] at w0; omega
  have hne : g 1 ≠ g 0 := fun e => h.ne 0 (by omega) e.symm
  have hD := dq_pos hne
  have t0 : 0 ≤ dt (g 0) (g 1) w := by
    rw [dt_aff]
    exact held_nn hw fun x hx => by rw [← dt_aff]; exact (btw_part (h.ln rfl x hx) hne).2.1
  have t1 : 0 ≤ dq (g 1) (g 0) (g 0) - dt (g 0) (g 1) w := by
    have e : ∀ x, dq (g 1) (g 0) (g 0) - dt (g 0) (g 1) x = aff (-((g 1).x - (g 0).x)) (-((g 1).y - (g 0).y)) (dq (g 1) (g 0) (g 0) + (((g 1).x - (g 0).x) * (g 0).x + ((g 1).y - (g 0).y) * (g 0).y)) x := fun x => by unfold dt aff; grind
    rw [e]
    exact held_nn hw fun x hx => by rw [← e]; have := (btw_part (h.ln rfl x hx) hne).2.2.1; omega
  refine ⟨hz, ?_⟩
  have e := dq_dt hz
  have : dt (g 0) (g 1) w * (dt (g 0) (g 1) w - dq (g 1) (g 0) (g 0)) ≤ 0 := Int.mul_nonpos_of_nonneg_of_nonpos t0 (by omega)
  rcases Int.lt_or_le 0 (dq w (g 0) (g 1)) with k | k
  · have := Int.mul_pos hD k; omega
  · exact k
/-- a chain of corners, from its first spot on -/
structure Ch (u v : Int) (l T : List Sp) : Prop where
  ed : ∀ i a b, T[i]? = some a → T[i + 1]? = some b → ∀ p ∈ l, 0 ≤ cr a b p
  mo : ∀ (i j : Nat) (a b : Sp), i < j → T[i]? = some a → T[j]? = some b → lam u v a < lam u v b
  sub : ∀ x ∈ T, x ∈ l
  cv : ∀ i a b c, T[i]? = some a → T[i + 1]? = some b → T[i + 2]? = some c → 0 < cr a b c
  hd : T.head? = l.head?
  lt : T.getLast? = l.getLast?
  ll : ∀ i a b z, T[i]? = some a → T[i + 1]? = some b → T.getLast? = some z → i + 2 < T.length → 0 < cr a b z
theorem adj_at : ∀ {st : List Sp} {i : Nat} {a b : Sp}, st[i]? = some b → st[i + 1]? = some a → (a, b) ∈ adj st
  | [], _, _, _, h, _ => by simp at h
  | [_], i, _, _, _, h => by simp at h
  | t :: s :: r, 0, a, b, h1, h2 => by simp at h1 h2; subst h1 h2; exact List.mem_cons_self ..
  | t :: s :: r, i + 1, a, b, h1, h2 => by
    rw [List.getElem?_cons_succ] at h1 h2
    exact List.mem_cons_of_mem _ (adj_at h1 h2)
theorem conv_at : ∀ {st : List Sp} {i : Nat} {a b c : Sp}, Conv st → st[i]? = some c → st[i + 1]? = some b → st[i + 2]? = some a → 0 < cr a b c
  | [], _, _, _, _, _, h, _, _ => by simp at h
  | [_], i, _, _, _, _, _, h, _ => by simp at h
  | [_, _], i, _, _, _, _, _, _, h => by simp at h
  | x :: y :: z :: r, 0, a, b, c, h, h1, h2, h3 => by simp at h1 h2 h3; subst h1 h2 h3; exact h.1
  | x :: y :: z :: r, i + 1, a, b, c, h, h1, h2, h3 => by
    rw [List.getElem?_cons_succ] at h1 h2 h3
    exact conv_at h.2 h1 h2 h3
theorem rev_at {st : List Sp} {i : Nat} {a : Sp} (h : st.reverse[i]? = some a) : i < st.length ∧ st[st.length - 1 - i]? = some a := by
  have hi := (List.getElem?_eq_some_iff.1 h).1
  rw [List.length_reverse] at hi
  rw [List.getElem?_reverse hi] at h
  exact ⟨hi, h⟩
theorem ch_of {u v : Int} {l : List Sp} (hd : l.Pairwise (fun x y => lam u v x < lam u v y)) : Ch u v l (chn l).reverse := by
  obtain ⟨h, ht⟩ := chn_is l hd
  generalize chn l = st at h ht
  refine ⟨fun i a b h1 h2 => ?_, fun i j a b hij h1 h2 => ?_, fun x hx => h.sub x (by simpa using hx), fun i a b c h1 h2 h3 => ?_, by rw [List.head?_reverse]; exact h.la, by rw [List.getLast?_reverse]; exact ht, fun i a b z h1 h2 h3 h4 => ?_⟩
  · obtain ⟨a1, a2⟩ := rev_at h1
    obtain ⟨b1, b2⟩ := rev_at h2
    exact h.ed (a, b) (adj_at b2 (by rw [show st.length - 1 - (i + 1) + 1 = st.length - 1 - i by omega]; exact a2))
  · obtain ⟨a1, a2⟩ := rev_at h1
    obtain ⟨b1, b2⟩ := rev_at h2
    obtain ⟨k1, e1⟩ := List.getElem?_eq_some_iff.1 a2
    obtain ⟨k2, e2⟩ := List.getElem?_eq_some_iff.1 b2
    have := List.pairwise_iff_getElem.1 h.de _ _ k2 k1 (by omega)
    rw [e1, e2] at this; exact this
  · obtain ⟨a1, a2⟩ := rev_at h1
    obtain ⟨b1, b2⟩ := rev_at h2
    obtain ⟨c1, c2⟩ := rev_at h3
    exact conv_at h.cv c2 (by rw [show st.length - 1 - (i + 2) + 1 = st.length - 1 - (i + 1) by omega]; exact b2) (by rw [show st.length - 1 - (i + 2) + 2 = st.length - 1 - i by omega]; exact a2)
  · obtain ⟨a1, a2⟩ := rev_at h1
    obtain ⟨b1, b2⟩ := rev_at h2
    rw [List.length_reverse] at h4
    rw [List.getLast?_reverse] at h3
    match st, h, h3, a2, b2, h4 with
    | [], _, h3, _, _, _ => simp at h3
    | t :: r, h, h3, a2, b2, h4 =>
      simp only [List.head?_cons, Option.some.injEq] at h3
      subst h3
      rw [List.length_cons] at a2 b2 h4
      obtain ⟨n, hn⟩ : ∃ n, r.length + 1 - 1 - (i + 1) = n + 1 := ⟨r.length - i - 2, by omega⟩
      rw [hn, List.getElem?_cons_succ] at b2
      rw [show r.length + 1 - 1 - i = n + 1 + 1 by omega, List.getElem?_cons_succ] at a2
      have hp := List.pairwise_cons.1 h.de
      refine conv_left r h.cv.tl hp.2 (fun x hx => hp.1 x hx) (fun t' a' r' e => ?_) (a, b) (adj_at b2 a2)
      subst e
      exact h.cv.1
def gl (l : List Sp) (i : Nat) : Sp := l[i]?.getD ⟨0, 0⟩
theorem gl_of {l : List Sp} {i : Nat} {p : Sp} (h : l[i]? = some p) : gl l i = p := by simp [gl, h]
theorem gl_at {l : List Sp} {i : Nat} (h : i < l.length) : l[i]? = some (gl l i) := by
  obtain ⟨p, hp⟩ : ∃ p, l[i]? = some p := ⟨l[i], List.getElem?_eq_getElem h⟩
  rw [gl_of hp]; exact hp
/-- there and back -/
def rnd (L U : List Sp) (i : Nat) : Sp := if i < L.length then gl L i else gl U (i + 1 - L.length)
theorem joint {u v : Int} {a z b p : Sp} (h1 : lam u v a < lam u v z) (h2 : lam u v b < lam u v z) (h0 : cr a z b = 0) (k1 : 0 ≤ cr a z p) (k2 : 0 ≤ cr z b p) : cr a z p = 0 ∧ cr z b p = 0 := by
  have e : (lam u v z - lam u v a) * cr z b p = - ((lam u v z - lam u v b) * cr a z p) := by
    have : (lam u v z - lam u v a) * cr z b p = - ((lam u v z - lam u v b) * cr a z p) - cr a z b * (lam u v p - lam u v z) := by unfold lam cr; grind
    rw [this, h0]; omega
  have q1 := Int.mul_nonneg (show 0 ≤ lam u v z - lam u v a by omega) k2
  have q2 := Int.mul_nonneg (show 0 ≤ lam u v z - lam u v b by omega) k1
  have z1 : (lam u v z - lam u v b) * cr a z p = 0 := by omega
  have z2 : (lam u v z - lam u v a) * cr z b p = 0 := by omega
  rcases Int.mul_eq_zero.1 z1 with k | k
  · omega
  · rcases Int.mul_eq_zero.1 z2 with k' | k'
    · omega
    · exact ⟨k, k'⟩
theorem lam_neg (u v : Int) (a : Sp) : lam (-u) (-v) a = - lam u v a := by unfold lam; grind
theorem gl_eq {T : List Sp} {i : Nat} {p : Sp} (h : T[i]? = some p) : gl T i = p := gl_of h
theorem ch_len {u v : Int} {l T : List Sp} (hc : Ch u v l T) (hd : l.Pairwise (fun x y => lam u v x < lam u v y)) (hn : 2 ≤ l.length) : 2 ≤ T.length := by
  have h1 := hc.hd
  have h2 := hc.lt
  match l, hd, hn with
  | a :: b :: r, hd, _ =>
    obtain ⟨z, hz⟩ : ∃ z, (b :: r).getLast? = some z := by
      cases h : (b :: r).getLast? with
      | none => simp at h
      | some z => exact ⟨z, rfl⟩
    rw [List.getLast?_cons_cons, hz] at h2
    have hm := (List.pairwise_cons.1 hd).1 z (List.mem_of_getLast? hz)
    match T, h1, h2 with
    | [], h1, _ => simp at h1
    | [x], h1, h2 => simp at h1 h2; subst h1 h2; omega
    | x :: y :: T, _, _ => simp
theorem poly_of {u v : Int} {l L U : List Sp} (hL : Ch u v l L) (hU : Ch (-u) (-v) l.reverse U) (hd : l.Pairwise (fun x y => lam u v x < lam u v y)) (hn : 2 ≤ l.length) :
    Poly l (L.length + U.length - 2) (rnd L U) := by
  have hd2 : l.reverse.Pairwise (fun x y => lam (-u) (-v) x < lam (-u) (-v) y) := by
    rw [List.pairwise_reverse]
    exact hd.imp fun h => by rw [lam_neg, lam_neg]; omega
  have nL := ch_len hL hd hn
  have nU := ch_len hU hd2 (by simpa using hn)
  obtain ⟨r, hr⟩ : ∃ r, L.length = r + 1 := ⟨L.length - 1, by omega⟩
  obtain ⟨t, ht⟩ : ∃ t, U.length = t + 1 := ⟨U.length - 1, by omega⟩
  have hm : L.length + U.length - 2 = r + t := by omega
  rw [hm]
  have aL : ∀ i, i ≤ r → L[i]? = some (gl L i) := fun i hi => gl_at (by omega)
  have aU : ∀ i, i ≤ t → U[i]? = some (gl U i) := fun i hi => gl_at (by omega)
  have gL : ∀ i, i ≤ r → rnd L U i = gl L i := fun i hi => by unfold rnd; rw [if_pos (by omega)]
  have top : gl L r = gl U 0 := by
    have a := hL.lt
    have b := hU.hd
    rw [List.head?_reverse, ← a] at b
    rw [List.getLast?_eq_getElem?, hr, show r + 1 - 1 = r by omega, aL r (by omega), List.head?_eq_getElem?, aU 0 (by omega)] at b
    exact (Option.some.inj b).symm
  have bot : gl U t = gl L 0 := by
    have a := hU.lt
    have b := hL.hd
    rw [List.getLast?_reverse, ← b] at a
    rw [List.getLast?_eq_getElem?, ht, show t + 1 - 1 = t by omega, aU t (by omega), List.head?_eq_getElem?, aL 0 (by omega)] at a
    exact Option.some.inj a
  have gU : ∀ j, j ≤ t → rnd L U (r + j) = gl U j := fun j hj => by
    by_cases h0 : j = 0
    · subst h0; rw [Nat.add_zero, gL r (by omega), top]
    · unfold rnd; rw [if_neg (by omega), hr, show r + j + 1 - (r + 1) = j by omega]
  have mL : ∀ i j, i < j → j ≤ r → lam u v (gl L i) < lam u v (gl L j) := fun i j h1 h2 => hL.mo i j _ _ h1 (aL i (by omega)) (aL j h2)
  have mU : ∀ i j, i < j → j ≤ t → lam u v (gl U j) < lam u v (gl U i) := fun i j h1 h2 => by
    have := hU.mo i j _ _ h1 (aU i (by omega)) (aU j h2)
    rw [lam_neg, lam_neg] at this; omega
  have eL : ∀ i, i < r → ∀ p ∈ l, 0 ≤ cr (gl L i) (gl L (i + 1)) p := fun i hi p hp => hL.ed i _ _ (aL i (by omega)) (aL (i + 1) (by omega)) p hp
  have eU : ∀ i, i < t → ∀ p ∈ l, 0 ≤ cr (gl U i) (gl U (i + 1)) p := fun i hi p hp => hU.ed i _ _ (aU i (by omega)) (aU (i + 1) (by omega)) p (by simpa using hp)
  have sL : ∀ i, i ≤ r → gl L i ∈ l := fun i hi => hL.sub _ (List.mem_of_getElem? (aL i hi))
  have sU : ∀ i, i ≤ t → gl U i ∈ l := fun i hi => by simpa using hU.sub _ (List.mem_of_getElem? (aU i hi))
  have cL : ∀ i, i + 2 ≤ r → 0 < cr (gl L i) (gl L (i + 1)) (gl L (i + 2)) := fun i hi => hL.cv i _ _ _ (aL i (by omega)) (aL (i + 1) (by omega)) (aL (i + 2) (by omega))
  have cU : ∀ i, i + 2 ≤ t → 0 < cr (gl U i) (gl U (i + 1)) (gl U (i + 2)) := fun i hi => hU.cv i _ _ _ (aU i (by omega)) (aU (i + 1) (by omega)) (aU (i + 2) (by omega))
  have lU : ∀ i, i + 1 < t → 0 < cr (gl U i) (gl U (i + 1)) (gl U t) := fun i hi => hU.ll i _ _ _ (aU i (by omega)) (aU (i + 1) (by omega)) (by rw [List.getLast?_eq_getElem?, ht, show t + 1 - 1 = t by omega, aU t (by omega)]) (by omega)
  have r1 : 1 ≤ r := by omega
  have t1 : 1 ≤ t := by omega
  -- the joints
  have jz : 3 ≤ r + t → 0 < cr (gl L (r - 1)) (gl U 0) (gl U 1) := fun h3 => by
    have q : 0 ≤ cr (gl L (r - 1)) (gl U 0) (gl U 1) := by
      have := eL (r - 1) (by omega) (gl U 1) (sU 1 (by omega))
      rwa [show r - 1 + 1 = r by omega, top] at this
    rcases Int.lt_or_le 0 (cr (gl L (r - 1)) (gl U 0) (gl U 1)) with k | k
    · exact k
    · exfalso
      have la : lam u v (gl L (r - 1)) < lam u v (gl U 0) := by rw [← top]; exact mL (r - 1) r (by omega) (by omega)
      have lb : lam u v (gl U 1) < lam u v (gl U 0) := mU 0 1 (by omega) (by omega)
      have hz : ∀ p ∈ l, cr (gl L (r - 1)) (gl U 0) p = 0 ∧ cr (gl U 0) (gl U 1) p = 0 := fun p hp => by
        have a := eL (r - 1) (by omega) p hp
        rw [show r - 1 + 1 = r by omega, top] at a
        exact joint la lb (by omega) a (eU 0 (by omega) p hp)
      by_cases h2 : 2 ≤ r
      · have a := cL (r - 2) (by omega)
        rw [show r - 2 + 1 = r - 1 by omega, show r - 2 + 2 = r by omega, top, ← cr_rot] at a
        have := (hz (gl L (r - 2)) (sL _ (by omega))).1; omega
      · have a := cU 0 (by omega)
        have := (hz (gl U (0 + 2)) (sU _ (by omega))).2
        simp only [Nat.zero_add] at a this; omega
  have j0 : 3 ≤ r + t → 0 < cr (gl U (t - 1)) (gl L 0) (gl L 1) := fun h3 => by
    have q : 0 ≤ cr (gl U (t - 1)) (gl L 0) (gl L 1) := by
      have := eU (t - 1) (by omega) (gl L 1) (sL 1 (by omega))
      rwa [show t - 1 + 1 = t by omega, bot] at this
    rcases Int.lt_or_le 0 (cr (gl U (t - 1)) (gl L 0) (gl L 1)) with k | k
    · exact k
    · exfalso
      have la : lam (-u) (-v) (gl U (t - 1)) < lam (-u) (-v) (gl L 0) := by have := mU (t - 1) t (by omega) (by omega); rw [← bot, lam_neg, lam_neg]; omega
      have lb : lam (-u) (-v) (gl L 1) < lam (-u) (-v) (gl L 0) := by have := mL 0 1 (by omega) (by omega); rw [lam_neg, lam_neg]; omega
      have hz : ∀ p ∈ l, cr (gl U (t - 1)) (gl L 0) p = 0 ∧ cr (gl L 0) (gl L 1) p = 0 := fun p hp => by
        have a := eU (t - 1) (by omega) p hp
        rw [show t - 1 + 1 = t by omega, bot] at a
        exact joint la lb (by omega) a (eL 0 (by omega) p hp)
      by_cases h2 : 2 ≤ t
      · have a := cU (t - 2) (by omega)
        rw [show t - 2 + 1 = t - 1 by omega, show t - 2 + 2 = t by omega, bot, ← cr_rot] at a
        have := (hz (gl U (t - 2)) (sU _ (by omega))).1; omega
      · have a := cL 0 (by omega)
        have := (hz (gl L (0 + 2)) (sL _ (by omega))).2
        simp only [Nat.zero_add] at a this; omega
  refine ⟨by omega, fun i hi => ?_, ?_, fun i hi p hp => ?_, fun i h1 h2 => ?_, fun h3 i hi => ?_, fun h3 => ?_, fun i hi e => ?_, fun h2 p hp => ?_⟩
  · by_cases h : i ≤ r
    · rw [gL i h]; exact sL i h
    · obtain ⟨j, rfl⟩ : ∃ j, i = r + j := ⟨i - r, by omega⟩
      rw [gU j (by omega)]; exact sU j (by omega)
  · rw [gU t (by omega), gL 0 (by omega), bot]
  · by_cases h : i < r
    · rw [gL i (by omega), gL (i + 1) (by omega)]; exact eL i h p hp
    · obtain ⟨j, rfl⟩ : ∃ j, i = r + j := ⟨i - r, by omega⟩
      rw [gU j (by omega), Nat.add_assoc, gU (j + 1) (by omega)]; exact eU j (by omega) p hp
  · rw [gL 0 (by omega)]
    by_cases h : i < r
    · rw [gL i (by omega), gL (i + 1) (by omega)]
      have a := cL (i - 1) (by omega)
      rw [show i - 1 + 1 = i by omega, show i - 1 + 2 = i + 1 by omega] at a
      have b := eL (i - 1) (by omega) (gl L 0) (sL 0 (by omega))
      rw [show i - 1 + 1 = i by omega] at b
      exact turn_back' (mL (i - 1) i (by omega) (by omega)) (mL i (i + 1) (by omega) (by omega)) (mL 0 i (by omega) (by omega)) a b
    · obtain ⟨j, rfl⟩ : ∃ j, i = r + j := ⟨i - r, by omega⟩
      rw [gU j (by omega), Nat.add_assoc, gU (j + 1) (by omega), ← bot]
      exact lU j (by omega)
  · by_cases h : i + 2 ≤ r
    · rw [gL i (by omega), gL (i + 1) (by omega), gL (i + 2) (by omega)]; exact cL i h
    · by_cases h' : i + 1 = r
      · rw [gL i (by omega), show i + 1 = r + 0 by omega, gU 0 (by omega), show i + 2 = r + 1 by omega, gU 1 (by omega), show i = r - 1 by omega]
        exact jz h3
      · obtain ⟨j, rfl⟩ : ∃ j, i = r + j := ⟨i - r, by omega⟩
        rw [gU j (by omega), Nat.add_assoc, Nat.add_assoc, gU (j + 1) (by omega), gU (j + 2) (by omega)]
        exact cU j (by omega)
  · rw [show r + t - 1 = r + (t - 1) by omega, gU (t - 1) (by omega), gL 0 (by omega), gL 1 (by omega)]
    exact j0 h3
  · by_cases h : i < r
    · rw [gL i (by omega), gL (i + 1) (by omega)] at e
      have := mL i (i + 1) (by omega) (by omega); rw [e] at this; omega
    · obtain ⟨j, rfl⟩ : ∃ j, i = r + j := ⟨i - r, by omega⟩
      rw [gU j (by omega), Nat.add_assoc, gU (j + 1) (by omega)] at e
      have := mU j (j + 1) (by omega) (by omega); rw [e] at this; omega
  · obtain rfl : r = 1 := by omega
    obtain rfl : t = 1 := by omega
    rw [gL 0 (by omega), gL 1 (by omega)]
    have a := eL 0 (by omega) p hp
    have b := eU 0 (by omega) p hp
    rw [← top, show 0 + 1 = 1 from rfl, bot, cr_flip] at b
    have hz : cr (gl L 0) (gl L 1) p = 0 := by rw [Nat.zero_add] at a; omega
    refine ⟨hz, ?_⟩
    have lo : lam u v (gl L 0) ≤ lam u v p := by
      have := hL.hd
      rw [List.head?_eq_getElem?, aL 0 (by omega)] at this
      obtain ⟨ys, hys⟩ := List.head?_eq_some_iff.1 this.symm
      rw [hys] at hp hd
      rcases List.mem_cons.1 hp with e | hp
      · rw [e]; omega
      · exact Int.le_of_lt ((List.pairwise_cons.1 hd).1 p hp)
    have hi : lam u v p ≤ lam u v (gl L 1) := by
      have := hL.lt
      rw [List.getLast?_eq_getElem?, hr, show 1 + 1 - 1 = 1 by omega, aL 1 (by omega)] at this
      obtain ⟨ys, hys⟩ := List.getLast?_eq_some_iff.1 this.symm
      rw [hys] at hp hd
      rcases List.mem_append.1 hp with hp | hp
      · exact Int.le_of_lt ((List.pairwise_append.1 hd).2.2 p hp _ (by simp))
      · simp at hp; rw [hp]; omega
    have hlt := mL 0 1 (by omega) (by omega)
    generalize gl L 0 = A at *
    generalize gl L 1 = B at *
    have e : (lam u v B - lam u v A) * (lam u v B - lam u v A) * dq p A B = (lam u v p - lam u v A) * (lam u v p - lam u v B) * dq B A A := by
      have e1 : (lam u v B - lam u v A) * (p.x - A.x) = (lam u v p - lam u v A) * (B.x - A.x) := by
        have : (lam u v B - lam u v A) * (p.x - A.x) = (lam u v p - lam u v A) * (B.x - A.x) - v * cr A B p := by unfold lam cr; grind
        rw [this, hz]; omega
      have e2 : (lam u v B - lam u v A) * (p.y - A.y) = (lam u v p - lam u v A) * (B.y - A.y) := by
        have : (lam u v B - lam u v A) * (p.y - A.y) = (lam u v p - lam u v A) * (B.y - A.y) + u * cr A B p := by unfold lam cr; grind
        rw [this, hz]; omega
      unfold dq
      generalize lam u v A = la at *
      generalize lam u v B = lb at *
      generalize lam u v p = lp at *
      grind
    have s1 : (lam u v p - lam u v A) * (lam u v p - lam u v B) * dq B A A ≤ 0 := by
      refine Int.mul_nonpos_of_nonpos_of_nonneg (Int.mul_nonpos_of_nonneg_of_nonpos (by omega) (by omega)) (dq_self B A)
    rw [← e] at s1
    rcases Int.lt_or_le 0 (dq p A B) with k | k
    · have := Int.mul_pos (Int.mul_pos (show 0 < lam u v B - lam u v A by omega) (show 0 < lam u v B - lam u v A by omega)) k; omega
    · exact k
/-- how far q lies from p in the way from p to w -/
def dw (w p q : Sp) : Int := (w.x - p.x) * (q.x - p.x) + (w.y - p.y) * (q.y - p.y)
theorem dw_dt (w p q : Sp) : dw w p q = dt p q w := by unfold dw dt; grind
theorem dw_dt2 (w p q : Sp) : dw w p q = dq p q q - dt q p w := by unfold dw dt dq; grind
theorem near {w p q : Sp} (h : dq w p p ≤ dq w q q) (h0 : 0 < dw w p q) : dw w p q < dq q p p := by
  have e : dq w q q = dq w p p - 2 * dw w p q + dq q p p := by unfold dw dq; grind
  omega
/-- a corner from which both neighbours are not ahead -/
theorem corner {a p b w q : Sp} (hc : 0 < cr a p b) (h1 : 0 ≤ cr a p q) (h2 : 0 ≤ cr p b q) (d1 : dw w p a ≤ 0) (d2 : dw w p b ≤ 0) : dw w p q ≤ 0 := by
  have e : cr a p b * dw w p q = cr p b q * dw w p a + cr a p q * dw w p b := by unfold cr dw; grind
  have k1 := Int.mul_nonpos_of_nonneg_of_nonpos h2 d1
  have k2 := Int.mul_nonpos_of_nonneg_of_nonpos h1 d2
  rcases Int.lt_or_le 0 (dw w p q) with k | k
  · have := Int.mul_pos hc k; omega
  · exact k
theorem side1 {a p b w : Sp} (hc : 0 < cr a p b) (hb : cr p b w < 0) (d : dw w p b ≤ 0) (ha : 0 ≤ cr a p w) : dw w p a ≤ 0 := by
  have e : cr p b w * dw w p a = - (dw w p b * cr a p w) + dq w p p * cr a p b := by unfold cr dw dq; grind
  have k1 := Int.mul_nonpos_of_nonpos_of_nonneg d ha
  have k2 := Int.mul_nonneg (dq_self w p) (Int.le_of_lt hc)
  rcases Int.lt_or_le 0 (dw w p a) with k | k
  · have := Int.mul_neg_of_neg_of_pos hb k; omega
  · exact k
theorem side2 {a p b w : Sp} (hc : 0 < cr a p b) (ha : cr a p w < 0) (d : dw w p a ≤ 0) (hb : 0 ≤ cr p b w) : dw w p b ≤ 0 := by
  have e : cr a p w * dw w p b = - (dw w p a * cr p b w) + dq w p p * cr a p b := by unfold cr dw dq; grind
  have k1 := Int.mul_nonpos_of_nonpos_of_nonneg d hb
  have k2 := Int.mul_nonneg (dq_self w p) (Int.le_of_lt hc)
  rcases Int.lt_or_le 0 (dw w p b) with k | k
  · have := Int.mul_neg_of_neg_of_pos ha k; omega
  · exact k
theorem least {F : Nat → Int} {P : Nat → Prop} : ∀ m : Nat, (∃ j, j < m ∧ P j) → ∃ j, j < m ∧ P j ∧ ∀ i, i < m → P i → F j ≤ F i
  | 0, ⟨j, h, _⟩ => absurd h (by omega)
  | m + 1, ⟨j, h, hp⟩ => by
    by_cases h' : ∃ j, j < m ∧ P j
    · obtain ⟨k, k1, k2, k3⟩ := least (F := F) m h'
      by_cases hm : P m ∧ F m < F k
      · exact ⟨m, by omega, hm.1, fun i hi hpi => by
          by_cases e : i = m
          · subst e; omega
          · have := k3 i (by omega) hpi; omega⟩
      · exact ⟨k, by omega, k2, fun i hi hpi => by
          by_cases e : i = m
          · subst e
            rcases Int.lt_or_le (F i) (F k) with q | q
            · exact absurd ⟨hpi, q⟩ hm
            · exact q
          · exact k3 i (by omega) hpi⟩
    · have e : j = m := by
        by_cases e : j = m
        · exact e
        · exact absurd ⟨j, by omega, hp⟩ h'
      subst e
      exact ⟨j, by omega, hp, fun i hi hpi => by
        by_cases e : i = j
        · subst e; omega
        · exact absurd ⟨i, by omega, hpi⟩ h'⟩
def prv (m j : Nat) : Nat := if j = 0 then m - 1 else j - 1
def nxt (m j : Nat) : Nat := if j + 1 = m then 0 else j + 1
theorem prv_lt {m j : Nat} (h : j < m) : prv m j < m := by unfold prv; split <;> omega
theorem nxt_lt {m j : Nat} (h : j < m) : nxt m j < m := by unfold nxt; split <;> omega
theorem prv_nxt {m j : Nat} (h : j < m) : prv m (nxt m j) = j := by unfold prv nxt; split <;> split <;> omega
theorem g_nxt {l : List Sp} {m : Nat} {g : Nat → Sp} (h : Poly l m g) {j : Nat} (hj : j < m) : g (nxt m j) = g (j + 1) := by
  unfold nxt; split
  · rename_i e; rw [e, h.cl]
  · rfl
theorem g_prv {l : List Sp} {m : Nat} {g : Nat → Sp} (h : Poly l m g) {j : Nat} (hj : j < m) : g (prv m j + 1) = g j := by
  have := h.m2
  unfold prv; split
  · rename_i e; subst e; rw [show m - 1 + 1 = m by omega, h.cl]
  · rw [show j - 1 + 1 = j by omega]
theorem cv_at {l : List Sp} {m : Nat} {g : Nat → Sp} (h : Poly l m g) (h3 : 3 ≤ m) {j : Nat} (hj : j < m) : 0 < cr (g (prv m j)) (g j) (g (j + 1)) := by
  unfold prv; split
  · rename_i e; subst e; exact h.cv0 h3
  · have := h.cv h3 (j - 1) (by omega)
    rwa [show j - 1 + 1 = j by omega, show j - 1 + 2 = j + 1 by omega] at this
/-- a side beyond which the weight is, beside it -/
def Beside (w p q : Sp) : Prop := cr p q w < 0 ∧ 0 < dt p q w ∧ dt p q w < dq q p p
theorem dq_comm (a b : Sp) : dq a b b = dq b a a := by unfold dq; grind
theorem poly_falls {l : List Sp} {m : Nat} {g : Nat → Sp} (h : Poly l m g) (w : Sp) (hw : ¬ Held l w) : (∃ i, i < m ∧ Beside w (g i) (g (i + 1))) ∨ ∃ i, i < m ∧ ∀ q ∈ l, dw w (g i) q ≤ 0 := by
  by_cases hB : ∃ i, i < m ∧ Beside w (g i) (g (i + 1))
  · exact .inl hB
  right
  have hno : ∀ i, i < m → ¬ Beside w (g i) (g (i + 1)) := fun i hi hb => hB ⟨i, hi, hb⟩
  by_cases h3 : 3 ≤ m
  · have hv : ∃ i, i < m ∧ cr (g i) (g (i + 1)) w < 0 := by
      by_cases k : ∃ i, i < m ∧ cr (g i) (g (i + 1)) w < 0
      · exact k
      · exact absurd ((poly_held h h3 w).1 fun i hi => by
          rcases Int.lt_or_le (cr (g i) (g (i + 1)) w) 0 with q | q
          · exact absurd ⟨i, hi, q⟩ k
          · exact q) hw
    obtain ⟨v, hv1, hv2⟩ := hv
    obtain ⟨j, hj, hp, hmin⟩ := least (F := fun j => dq w (g j) (g j)) (P := fun j => cr (g j) (g (j + 1)) w < 0 ∨ cr (g (prv m j)) (g (prv m j + 1)) w < 0) m ⟨v, hv1, .inl hv2⟩
    -- a side that is seen from the weight
    have A : cr (g j) (g (j + 1)) w < 0 → dw w (g j) (g (j + 1)) ≤ 0 := fun hs => by
      have hn := hmin (nxt m j) (nxt_lt hj) (.inr (by rw [prv_nxt hj]; exact hs))
      rw [g_nxt h hj] at hn
      rcases Int.lt_or_le 0 (dw w (g j) (g (j + 1))) with k | k
      · have := near hn k
        rw [dw_dt] at this k
        exact absurd ⟨hs, k, this⟩ (hno j hj)
      · exact k
    have B : cr (g (prv m j)) (g j) w < 0 → dw w (g j) (g (prv m j)) ≤ 0 := fun hs => by
      have hn := hmin (prv m j) (prv_lt hj) (.inl (by rw [g_prv h hj]; exact hs))
      rcases Int.lt_or_le 0 (dw w (g j) (g (prv m j))) with k | k
      · have t := near hn k
        rw [dw_dt2] at t k
        rw [dq_comm] at k t
        have := hno (prv m j) (prv_lt hj)
        rw [g_prv h hj] at this
        exact absurd ⟨hs, by rw [dq_comm] at t; omega, by rw [dq_comm]; omega⟩ this
      · exact k
    have hc := cv_at h h3 hj
    rw [g_prv h hj] at hp
    have D : dw w (g j) (g (prv m j)) ≤ 0 ∧ dw w (g j) (g (j + 1)) ≤ 0 := by
      rcases Int.lt_or_le (cr (g j) (g (j + 1)) w) 0 with k1 | k1
      · refine ⟨?_, A k1⟩
        rcases Int.lt_or_le (cr (g (prv m j)) (g j) w) 0 with k2 | k2
        · exact B k2
        · exact side1 hc k1 (A k1) k2
      · have k2 : cr (g (prv m j)) (g j) w < 0 := by omega
        exact ⟨B k2, side2 hc k2 (B k2) k1⟩
    refine ⟨j, hj, fun q hq => corner hc ?_ (h.ed j hj q hq) D.1 D.2⟩
    have := h.ed (prv m j) (prv_lt hj) q hq
    rwa [g_prv h hj] at this
  · obtain rfl : m = 2 := by have := h.m2; omega
    have hne : g 1 ≠ g 0 := fun e => h.ne 0 (by omega) e.symm
    have hcl : g 2 = g 0 := h.cl
    have n0 := hno 0 (by omega)
    have n1 := hno 1 (by omega)
    rw [show 1 + 1 = 2 from rfl, hcl] at n1
    rw [Nat.zero_add] at n0
    have L : ∀ q ∈ l, Held [g 0, g 1] q := fun q hq => ⟨g 0, by simp, g 1, by simp, .inl (h.ln rfl q hq)⟩
    have key : ∀ p o : Sp, (∀ q ∈ l, Held [p, o] q) → dw w p o ≤ 0 → ∀ q ∈ l, dw w p q ≤ 0 := fun p o hH hd q hq => by
      have e : ∀ x, - dw w p x = aff (-(w.x - p.x)) (-(w.y - p.y)) ((w.x - p.x) * p.x + (w.y - p.y) * p.y) x := fun x => by unfold dw aff; grind
      have : 0 ≤ - dw w p q := by
        rw [e]
        refine held_nn (hH q hq) fun x hx => ?_
        rw [← e]
        simp only [List.mem_cons, List.not_mem_nil, or_false] at hx
        rcases hx with rfl | rfl
        · unfold dw; simp
        · omega
      omega
    have nb : ¬ Btw (g 0) (g 1) w := fun hb => hw ((line_held h w).1 hb)
    rcases Int.le_total (dq w (g 0) (g 0)) (dq w (g 1) (g 1)) with k | k
    · refine ⟨0, by omega, key (g 0) (g 1) L ?_⟩
      rcases Int.lt_or_le 0 (dw w (g 0) (g 1)) with q | q
      · exfalso
        have t := near k q
        have q2 := q
        rw [dw_dt] at q t
        rcases Int.lt_trichotomy (cr (g 0) (g 1) w) 0 with z | z | z
        · exact n0 ⟨z, q, t⟩
        · refine nb ⟨z, ?_⟩
          have e := dq_dt z
          have := Int.mul_neg_of_pos_of_neg q (show dt (g 0) (g 1) w - dq (g 1) (g 0) (g 0) < 0 by omega)
          rcases Int.lt_or_le 0 (dq w (g 0) (g 1)) with y | y
          · have := Int.mul_pos (dq_pos hne) y; omega
          · exact y
        · refine n1 ⟨by rw [cr_flip]; omega, ?_, ?_⟩
          · have := dw_dt2 w (g 0) (g 1); rw [dq_comm] at this; rw [dw_dt] at this; omega
          · have := dw_dt2 w (g 0) (g 1); rw [dw_dt] at this; omega
      · exact q
    · refine ⟨1, by omega, key (g 1) (g 0) (fun q hq => (L q hq).mono fun x hx => by simp at hx ⊢; exact hx.symm) ?_⟩
      rcases Int.lt_or_le 0 (dw w (g 1) (g 0)) with q | q
      · exfalso
        have t := near k q
        rw [dw_dt] at q t
        have a1 := dw_dt2 w (g 1) (g 0)
        rw [dw_dt] at a1
        rcases Int.lt_trichotomy (cr (g 0) (g 1) w) 0 with z | z | z
        · exact n0 ⟨z, by rw [dq_comm] at t; omega, by omega⟩
        · refine nb ⟨z, ?_⟩
          have e := dq_dt z
          have := Int.mul_neg_of_pos_of_neg (show 0 < dt (g 0) (g 1) w by rw [dq_comm] at t; omega) (show dt (g 0) (g 1) w - dq (g 1) (g 0) (g 0) < 0 by omega)
          rcases Int.lt_or_le 0 (dq w (g 0) (g 1)) with y | y
          · have := Int.mul_pos (dq_pos hne) y; omega
          · exact y
        · exact n1 ⟨by rw [cr_flip]; omega, q, t⟩
      · exact q
/-- directions: (x, y) of one and of the other point the same way -/
def Same (a b : Sp) : Prop := a.x * b.y = a.y * b.x ∧ 0 < a.x * b.x + a.y * b.y
/-- a direction in which a weight falls: from the spot D * f of the hull -/
def Cand (l : List Sp) (w V : Sp) : Prop := ∃ p ∈ l, ∃ r ∈ l, ∃ D t c k : Int, 0 < D ∧ 0 ≤ t ∧ t ≤ D ∧ 0 < c ∧ 0 < k ∧
  c * V.x = k * (D * (w.x - p.x) - t * (r.x - p.x)) ∧ c * V.y = k * (D * (w.y - p.y) - t * (r.y - p.y)) ∧
  ∀ q ∈ l, (D * (w.x - p.x) - t * (r.x - p.x)) * (D * (q.x - p.x) - t * (r.x - p.x)) + (D * (w.y - p.y) - t * (r.y - p.y)) * (D * (q.y - p.y) - t * (r.y - p.y)) ≤ 0
theorem cand_corner {l : List Sp} {w p : Sp} (hp : p ∈ l) (h : ∀ q ∈ l, dw w p q ≤ 0) : Cand l w ⟨w.x - p.x, w.y - p.y⟩ :=
  ⟨p, hp, p, hp, 1, 0, 1, 1, by omega, by omega, by omega, by omega, by omega, by simp, by simp, fun q hq => by have := h q hq; unfold dw at this; simpa using this⟩
/-- across a way, with sign s -/
theorem cand_side {l : List Sp} {w p r : Sp} {s : Int} (hp : p ∈ l) (hr : r ∈ l) (t0 : 0 < dt p r w) (t1 : dt p r w < dq r p p) (hv : 0 < s * cr p r w) (hs : s * s = 1) (h : ∀ q ∈ l, s * cr p r q ≤ 0) : Cand l w ⟨s * -(r.y - p.y), s * (r.x - p.x)⟩ := by
  have e1 : dq r p p * (w.x - p.x) - dt p r w * (r.x - p.x) = cr p r w * (-(r.y - p.y)) := by unfold dq dt cr; grind
  have e2 : dq r p p * (w.y - p.y) - dt p r w * (r.y - p.y) = cr p r w * (r.x - p.x) := by unfold dq dt cr; grind
  refine ⟨p, hp, r, hr, dq r p p, dt p r w, s * cr p r w, 1, by omega, by omega, by omega, hv, by omega, ?_, ?_, fun q hq => ?_⟩
  · rw [e1]; dsimp only
    generalize cr p r w = c at *
    have : s * c * (s * -(r.y - p.y)) = (s * s) * (c * -(r.y - p.y)) := by grind
    rw [this, hs]
  · rw [e2]; dsimp only
    generalize cr p r w = c at *
    have : s * c * (s * (r.x - p.x)) = (s * s) * (c * (r.x - p.x)) := by grind
    rw [this, hs]
  · rw [e1, e2]
    have e3 : cr p r w * (-(r.y - p.y)) * (dq r p p * (q.x - p.x) - dt p r w * (r.x - p.x)) + cr p r w * (r.x - p.x) * (dq r p p * (q.y - p.y) - dt p r w * (r.y - p.y)) = dq r p p * (cr p r w * cr p r q) := by unfold dq dt cr; grind
    rw [e3]
    have hc : cr p r w * cr p r q = (s * cr p r w) * (s * cr p r q) := by
      generalize cr p r w = c at *
      generalize cr p r q = d at *
      have : (s * c) * (s * d) = (s * s) * (c * d) := by grind
      rw [this, hs]; omega
    have := Int.mul_nonpos_of_nonneg_of_nonpos (Int.le_of_lt hv) (h q hq)
    rw [← hc] at this
    exact Int.mul_nonpos_of_nonneg_of_nonpos (by omega) this
theorem sum_sq {a b : Int} (h : a * a + b * b ≤ 0) : a = 0 ∧ b = 0 := by
  have h1 := sq_nn a
  have h2 := sq_nn b
  constructor
  · rcases Classical.em (a = 0) with e | e
    · exact e
    · have := sq_pos e; omega
  · rcases Classical.em (b = 0) with e | e
    · exact e
    · have := sq_pos e; omega
theorem cand_uniq {l : List Sp} {w V V' : Sp} (h : Cand l w V) (h' : Cand l w V') (hV : 0 < V.x * V.x + V.y * V.y) (hV' : 0 < V'.x * V'.x + V'.y * V'.y) : Same V V' := by
  obtain ⟨p, hp, r, hr, D, t, c, k, D0, t0, t1, c0, k0, ex, ey, hq⟩ := h
  obtain ⟨p', hp', r', hr', D', t', c', k', D0', t0', t1', c0', k0', ex', ey', hq'⟩ := h'
  -- the scaled spots
  obtain ⟨Fx, hFx⟩ : ∃ F, F = D * p.x + t * (r.x - p.x) := ⟨_, rfl⟩
  obtain ⟨Fy, hFy⟩ : ∃ F, F = D * p.y + t * (r.y - p.y) := ⟨_, rfl⟩
  obtain ⟨Gx, hGx⟩ : ∃ F, F = D' * p'.x + t' * (r'.x - p'.x) := ⟨_, rfl⟩
  obtain ⟨Gy, hGy⟩ : ∃ F, F = D' * p'.y + t' * (r'.y - p'.y) := ⟨_, rfl⟩
  have nx : D * (w.x - p.x) - t * (r.x - p.x) = D * w.x - Fx := by rw [hFx]; grind
  have ny : D * (w.y - p.y) - t * (r.y - p.y) = D * w.y - Fy := by rw [hFy]; grind
  have nx' : D' * (w.x - p'.x) - t' * (r'.x - p'.x) = D' * w.x - Gx := by rw [hGx]; grind
  have ny' : D' * (w.y - p'.y) - t' * (r'.y - p'.y) = D' * w.y - Gy := by rw [hGy]; grind
  have qx : ∀ q : Sp, D * (q.x - p.x) - t * (r.x - p.x) = D * q.x - Fx := fun q => by rw [hFx]; grind
  have qy : ∀ q : Sp, D * (q.y - p.y) - t * (r.y - p.y) = D * q.y - Fy := fun q => by rw [hFy]; grind
  have qx' : ∀ q : Sp, D' * (q.x - p'.x) - t' * (r'.x - p'.x) = D' * q.x - Gx := fun q => by rw [hGx]; grind
  have qy' : ∀ q : Sp, D' * (q.y - p'.y) - t' * (r'.y - p'.y) = D' * q.y - Gy := fun q => by rw [hGy]; grind
  rw [nx] at ex
  rw [ny] at ey
  rw [nx'] at ex'
  rw [ny'] at ey'
  have hq2 : ∀ q ∈ l, (D * w.x - Fx) * (D * q.x - Fx) + (D * w.y - Fy) * (D * q.y - Fy) ≤ 0 := fun q k => by have := hq q k; rwa [nx, ny, qx, qy] at this
  have hq2' : ∀ q ∈ l, (D' * w.x - Gx) * (D' * q.x - Gx) + (D' * w.y - Gy) * (D' * q.y - Gy) ≤ 0 := fun q k => by have := hq' q k; rwa [nx', ny', qx', qy'] at this
  -- each is not ahead of the other
  have s1 : (D * w.x - Fx) * (D * Gx - D' * Fx) + (D * w.y - Fy) * (D * Gy - D' * Fy) ≤ 0 := by
    have a := Int.mul_nonpos_of_nonneg_of_nonpos (show 0 ≤ D' - t' by omega) (hq2 p' hp')
    have b := Int.mul_nonpos_of_nonneg_of_nonpos t0' (hq2 r' hr')
    have e : (D * w.x - Fx) * (D * Gx - D' * Fx) + (D * w.y - Fy) * (D * Gy - D' * Fy) = (D' - t') * ((D * w.x - Fx) * (D * p'.x - Fx) + (D * w.y - Fy) * (D * p'.y - Fy)) + t' * ((D * w.x - Fx) * (D * r'.x - Fx) + (D * w.y - Fy) * (D * r'.y - Fy)) := by rw [hGx, hGy]; clear a b; grind
    omega
  have s2 : (D' * w.x - Gx) * (D' * Fx - D * Gx) + (D' * w.y - Gy) * (D' * Fy - D * Gy) ≤ 0 := by
    have a := Int.mul_nonpos_of_nonneg_of_nonpos (show 0 ≤ D - t by omega) (hq2' p hp)
    have b := Int.mul_nonpos_of_nonneg_of_nonpos t0 (hq2' r hr)
    have e : (D' * w.x - Gx) * (D' * Fx - D * Gx) + (D' * w.y - Gy) * (D' * Fy - D * Gy) = (D - t) * ((D' * w.x - Gx) * (D' * p.x - Gx) + (D' * w.y - Gy) * (D' * p.y - Gy)) + t * ((D' * w.x - Gx) * (D' * r.x - Gx) + (D' * w.y - Gy) * (D' * r.y - Gy)) := by rw [hFx, hFy]; clear a b; grind
    omega
  clear hq hq' hq2 hq2' qx qy qx' qy' nx ny nx' ny' hFx hFy hGx hGy
  have z : (D * Gx - D' * Fx) * (D * Gx - D' * Fx) + (D * Gy - D' * Fy) * (D * Gy - D' * Fy) ≤ 0 := by
    have a := Int.mul_nonpos_of_nonneg_of_nonpos (Int.le_of_lt D0') s1
    have b := Int.mul_nonpos_of_nonneg_of_nonpos (Int.le_of_lt D0) s2
    have e : (D * Gx - D' * Fx) * (D * Gx - D' * Fx) + (D * Gy - D' * Fy) * (D * Gy - D' * Fy) = D' * ((D * w.x - Fx) * (D * Gx - D' * Fx) + (D * w.y - Fy) * (D * Gy - D' * Fy)) + D * ((D' * w.x - Gx) * (D' * Fx - D * Gx) + (D' * w.y - Gy) * (D' * Fy - D * Gy)) := by clear a b s1 s2; grind
    omega
  obtain ⟨z1, z2⟩ := sum_sq z
  -- so both ways from the weight are the same
  have m1 : D' * (D * w.x - Fx) = D * (D' * w.x - Gx) := by grind
  have m2 : D' * (D * w.y - Fy) = D * (D' * w.y - Gy) := by grind
  generalize D * w.x - Fx = Nx at *
  generalize D * w.y - Fy = Ny at *
  generalize D' * w.x - Gx = Mx at *
  generalize D' * w.y - Gy = My at *
  clear s1 s2 z z1 z2
  -- V = a N, V' = b M, all up to positive factors: K V = K' V'
  have K1 : (c * k' * D') * V.x = (k * c' * D) * V'.x := by
    have : (c * k' * D') * V.x = k' * D' * (c * V.x) := by grind
    rw [this, ex]
    have : (k * c' * D) * V'.x = k * D * (c' * V'.x) := by grind
    rw [this, ex']
    have : k' * D' * (k * Nx) = k' * k * (D' * Nx) := by grind
    rw [this, m1]; grind
  have K2 : (c * k' * D') * V.y = (k * c' * D) * V'.y := by
    have : (c * k' * D') * V.y = k' * D' * (c * V.y) := by grind
    rw [this, ey]
    have : (k * c' * D) * V'.y = k * D * (c' * V'.y) := by grind
    rw [this, ey']
    have : k' * D' * (k * Ny) = k' * k * (D' * Ny) := by grind
    rw [this, m2]; grind
  have P1 : 0 < c * k' * D' := Int.mul_pos (Int.mul_pos c0 k0') D0'
  have P2 : 0 < k * c' * D := Int.mul_pos (Int.mul_pos k0 c0') D0
  generalize c * k' * D' = A at *
  generalize k * c' * D = B at *
  clear ex ey ex' ey' m1 m2
  constructor
  · have : A * (V.x * V'.y - V.y * V'.x) = 0 := by
      have : A * (V.x * V'.y - V.y * V'.x) = (A * V.x) * V'.y - (A * V.y) * V'.x := by grind
      rw [this, K1, K2]; grind
    rcases Int.mul_eq_zero.1 this with e | e
    · omega
    · omega
  · refine pos_of_mul P1 ?_
    have : A * (V.x * V'.x + V.y * V'.y) = (A * V.x) * V'.x + (A * V.y) * V'.y := by grind
    rw [this, K1, K2]
    have : B * V'.x * V'.x + B * V'.y * V'.y = B * (V'.x * V'.x + V'.y * V'.y) := by grind
    rw [this]
    exact Int.mul_pos P2 hV'
/-- the corners of the hull of sorted spots -/
def hul (s : List Sp) : List Sp := if s.length < 2 then s else (chn s).reverse.dropLast ++ (chn s.reverse).reverse.dropLast
abbrev Asc (s : List Sp) : Prop := s.Pairwise (fun a b => lam 1 100000 a < lam 1 100000 b)
theorem asc_rev {s : List Sp} (h : Asc s) : s.reverse.Pairwise (fun x y => lam (-1) (-100000) x < lam (-1) (-100000) y) := by
  rw [List.pairwise_reverse]
  exact h.imp fun h => by have a := lam_neg 1 100000; rw [a, a]; omega
def hg (s : List Sp) (i : Nat) : Sp := rnd (chn s).reverse (chn s.reverse).reverse i
theorem hul_poly {s : List Sp} (h : Asc s) (hn : 2 ≤ s.length) : Poly s (hul s).length (hg s) ∧ ∀ i, i < (hul s).length → (hul s)[i]? = some (hg s i) := by
  have hL := ch_of h
  have hU := ch_of (asc_rev h)
  have nL := ch_len hL h hn
  have nU := ch_len hU (asc_rev h) (by simpa using hn)
  have hp := poly_of hL hU h hn
  have e : hul s = (chn s).reverse.dropLast ++ (chn s.reverse).reverse.dropLast := by unfold hul; rw [if_neg (by omega)]
  have el : (hul s).length = (chn s).reverse.length + (chn s.reverse).reverse.length - 2 := by rw [e]; simp at nL nU ⊢; omega
  have top : gl (chn s).reverse ((chn s).reverse.length - 1) = gl (chn s.reverse).reverse 0 := by
    have a := hL.lt
    have b := hU.hd
    rw [List.head?_reverse (l := s), ← a] at b
    rw [List.getLast?_eq_getElem?, gl_at (by omega), List.head?_eq_getElem?, gl_at (by omega)] at b
    exact (Option.some.inj b).symm
  refine ⟨el ▸ hp, fun i hi => ?_⟩
  rw [e]
  unfold hg rnd
  generalize (chn s).reverse = L at *
  generalize (chn s.reverse).reverse = U at *
  rw [el] at hi
  by_cases h1 : i < L.length - 1
  · rw [if_pos (by omega), List.getElem?_append_left (by simp; omega), List.getElem?_dropLast, if_pos (by omega)]
    exact gl_at (by omega)
  · rw [List.getElem?_append_right (by simp; omega), List.getElem?_dropLast, List.length_dropLast, if_pos (by omega)]
    by_cases h2 : i < L.length
    · obtain rfl : i = L.length - 1 := by omega
      rw [if_pos h2, Nat.sub_self, top]
      exact gl_at (by omega)
    · rw [if_neg h2, show i - (L.length - 1) = i + 1 - L.length by omega]
      exact gl_at (by omega)
/-- the side that follows -/
theorem hul_next {s : List Sp} (h : Asc s) (hn : 2 ≤ s.length) {i : Nat} (hi : i < (hul s).length) : (hul s)[(i + 1) % (hul s).length]? = some (hg s (i + 1)) := by
  obtain ⟨hp, ha⟩ := hul_poly h hn
  have := hp.m2
  by_cases e : i + 1 = (hul s).length
  · rw [e, Nat.mod_self, ha 0 (by omega), hp.cl]
  · rw [Nat.mod_eq_of_lt (by omega)]; exact ha _ (by omega)
/-- whether a weight stands on corners -/
def stB : List Sp → Sp → Bool
  | [], _ => false
  | [a], w => decide (a = w)
  | [a, b], w => decide (cr a b w = 0) && decide (dq w a b ≤ 0)
  | a :: b :: c :: r, w => (List.range (a :: b :: c :: r).length).all fun i => decide (0 ≤ cr (gl (a :: b :: c :: r) i) (gl (a :: b :: c :: r) ((i + 1) % (a :: b :: c :: r).length)) w)
theorem stB_many {h : List Sp} (h3 : 3 ≤ h.length) (w : Sp) : stB h w = (List.range h.length).all fun i => decide (0 ≤ cr (gl h i) (gl h ((i + 1) % h.length)) w) := by
  match h, h3 with
  | a :: b :: c :: r, _ => rfl
theorem st_held {s : List Sp} (h : Asc s) (w : Sp) : stB (hul s) w = true ↔ Held s w := by
  by_cases hn : 2 ≤ s.length
  · obtain ⟨hp, ha⟩ := hul_poly h hn
    have m2 := hp.m2
    have hx := fun i hi => @hul_next s h hn i hi
    by_cases h3 : 3 ≤ (hul s).length
    · rw [stB_many h3, ← poly_held hp h3, List.all_eq_true]
      constructor
      · intro H i hi
        have := H i (by simpa using hi)
        rw [gl_of (ha i hi), gl_of (hx i hi)] at this
        simpa using this
      · intro H i hi
        have hi : i < (hul s).length := by simpa using hi
        rw [gl_of (ha i hi), gl_of (hx i hi)]
        simpa using H i hi
    · have h2 : (hul s).length = 2 := by omega
      rw [h2] at hp
      rw [← line_held hp]
      have e : hul s = [hg s 0, hg s 1] := by
        apply List.ext_getElem?
        intro i
        match i with
        | 0 => rw [ha 0 (by omega)]; rfl
        | 1 => rw [ha 1 (by omega)]; rfl
        | i + 2 => rw [List.getElem?_eq_none (by omega)]; rfl
      rw [e]
      unfold stB Btw
      simp
  · match s, h, hn with
    | [], _, _ => simp [hul, stB, Held]
    | _ :: _ :: _, _, hn => simp at hn
    | [a], _, _ =>
      simp only [hul, stB]
      constructor
      · intro h; simp at h; subst h; exact held_of_mem (by simp)
      · rintro ⟨b, hb, c, hc, h | ⟨d, hd, h⟩⟩
        · simp at hb hc; subst hb hc; simp; exact (dq_zero h.2).symm
        · simp at hb hc hd; subst hb hc hd
          rcases h with h | h
          · exact absurd h.1 (by rw [(cr_self _ _).1]; omega)
          · exact absurd h.1 (by rw [(cr_self _ _).1]; omega)
theorem held_perm {l s : List Sp} (h : s.Perm l) (w : Sp) : Held s w ↔ Held l w :=
  ⟨fun k => k.mono fun x hx => h.mem_iff.1 hx, fun k => k.mono fun x hx => h.mem_iff.2 hx⟩
theorem hul_sub {s : List Sp} (h : Asc s) : ∀ x ∈ hul s, x ∈ s := by
  by_cases hn : 2 ≤ s.length
  · obtain ⟨hp, ha⟩ := hul_poly h hn
    intro x hx
    obtain ⟨i, hi, rfl⟩ := List.getElem_of_mem hx
    have := ha i hi
    rw [List.getElem?_eq_getElem hi] at this
    rw [Option.some.inj this]
    exact hp.mem i (by omega)
  · intro x hx
    unfold hul at hx; rw [if_pos (by omega)] at hx; exact hx
/-- all spots are held by the corners -/
theorem hul_holds {s : List Sp} (h : Asc s) {w : Sp} (hw : Held s w) : Held (hul s) w := by
  by_cases hn : 2 ≤ s.length
  · obtain ⟨hp, ha⟩ := hul_poly h hn
    have m2 := hp.m2
    have mem : ∀ i, i < (hul s).length → hg s i ∈ hul s := fun i hi => List.mem_of_getElem? (ha i hi)
    by_cases h3 : 3 ≤ (hul s).length
    · obtain ⟨i, a1, a2, a3⟩ := poly_fan hp h3 ((poly_held hp h3 w).2 hw)
      exact ⟨_, mem 0 (by omega), _, mem i (by omega), .inr ⟨_, mem (i + 1) (by omega), a3⟩⟩
    · have h2 : (hul s).length = 2 := by omega
      rw [h2] at hp mem
      exact ⟨_, mem 0 (by omega), _, mem 1 (by omega), .inl ((line_held hp w).2 hw)⟩
  · unfold hul; rw [if_pos (by omega)]; exact hw
/-- the corner that the program takes falls from all spots -/
theorem dw_all {s : List Sp} (h : Asc s) {w p : Sp} (hp : ∀ q ∈ hul s, dw w p q ≤ 0) : ∀ q ∈ s, dw w p q ≤ 0 := fun q hq => by
  have e : ∀ x, - dw w p x = aff (-(w.x - p.x)) (-(w.y - p.y)) ((w.x - p.x) * p.x + (w.y - p.y) * p.y) x := fun x => by unfold dw aff; grind
  have : 0 ≤ - dw w p q := by
    rw [e]
    refine held_nn (hul_holds h (held_of_mem hq)) fun x hx => ?_
    rw [← e]; have := hp x hx; omega
  omega
theorem hul_mono {s : List Sp} (h : Asc s) (hn : 2 ≤ s.length) : ∃ r, 1 ≤ r ∧ r < (hul s).length ∧ (∀ i j, i < j → j ≤ r → lam 1 100000 (hg s i) < lam 1 100000 (hg s j)) ∧ (∀ i j, r ≤ i → i < j → j ≤ (hul s).length → lam 1 100000 (hg s j) < lam 1 100000 (hg s i)) := by
  have hL := ch_of h
  have hU := ch_of (asc_rev h)
  have nL := ch_len hL h hn
  have nU := ch_len hU (asc_rev h) (by simpa using hn)
  have el : (hul s).length = (chn s).reverse.length + (chn s.reverse).reverse.length - 2 := by unfold hul; rw [if_neg (by omega)]; simp at nL nU ⊢; omega
  have top : gl (chn s).reverse ((chn s).reverse.length - 1) = gl (chn s.reverse).reverse 0 := by
    have a := hL.lt
    have b := hU.hd
    rw [List.head?_reverse (l := s), ← a] at b
    rw [List.getLast?_eq_getElem?, gl_at (by omega), List.head?_eq_getElem?, gl_at (by omega)] at b
    exact (Option.some.inj b).symm
  unfold hg
  generalize (chn s).reverse = L at *
  generalize (chn s.reverse).reverse = U at *
  have gU : ∀ j, L.length - 1 ≤ j → j ≤ (hul s).length → rnd L U j = gl U (j - (L.length - 1)) := fun j h1 h2 => by
    unfold rnd
    by_cases h0 : j < L.length
    · obtain rfl : j = L.length - 1 := by omega
      rw [if_pos h0, Nat.sub_self, top]
    · rw [if_neg h0, show j + 1 - L.length = j - (L.length - 1) by omega]
  refine ⟨L.length - 1, by omega, by omega, fun i j h1 h2 => ?_, fun i j h1 h2 h3 => ?_⟩
  · unfold rnd
    rw [if_pos (by omega), if_pos (by omega)]
    exact hL.mo i j _ _ h1 (gl_at (by omega)) (gl_at (by omega))
  · rw [gU i (by omega) (by omega), gU j (by omega) (by omega)]
    have := hU.mo (i - (L.length - 1)) (j - (L.length - 1)) _ _ (by omega) (gl_at (by omega)) (gl_at (by omega))
    have a := lam_neg 1 100000
    rw [a, a] at this; omega
theorem cr_same {a p b c d : Sp} {u v : Int} (h1 : 0 < cr a p b) (h2 : 0 ≤ cr p b c) (h3 : 0 ≤ cr a p c) (h4 : 0 ≤ cr c p a) (la : lam u v a < lam u v p) (lc : lam u v p < lam u v c) : False := by
  have z : cr a p c = 0 := by have := cr_flip c p a; have := cr_rot c p a; have e := cr_rot a c p; have : cr c p a = - cr a p c := by unfold cr; grind
                              omega
  -- c lies on the way from a over p
  have e : (lam u v p - lam u v a) * cr p b c = (lam u v c - lam u v p) * (- cr a p b) + (lam u v b - lam u v p) * cr a p c := by unfold lam cr; grind
  rw [z] at e
  have k1 := Int.mul_nonneg (show 0 ≤ lam u v p - lam u v a by omega) h2
  have k2 := Int.mul_neg_of_pos_of_neg (show 0 < lam u v c - lam u v p by omega) (show - cr a p b < 0 by omega)
  omega
theorem hul_inj {s : List Sp} (h : Asc s) (hn : 2 ≤ s.length) : ∀ i j, i < j → j < (hul s).length → hg s i ≠ hg s j := by
  obtain ⟨hp, ha⟩ := hul_poly h hn
  obtain ⟨r, r1, r2, mL, mU⟩ := hul_mono h hn
  intro i j hij hj e
  by_cases c1 : j ≤ r
  · have := mL i j hij c1; rw [e] at this; omega
  by_cases c2 : r ≤ i
  · have := mU i j c2 hij (by omega); rw [e] at this; omega
  by_cases c3 : i = 0
  · subst c3
    have := mU j (hul s).length (by omega) hj (Nat.le_refl _)
    rw [hp.cl, e] at this; omega
  have h3 : 3 ≤ (hul s).length := by omega
  have q1 := cv_at hp h3 (j := i) (by omega)
  have q2 := hp.ed i (by omega) (hg s (j - 1)) (hp.mem _ (by omega))
  have q3 := hp.ed (i - 1) (by omega) (hg s (j - 1)) (hp.mem _ (by omega))
  have q4 := hp.ed (j - 1) (by omega) (hg s (i - 1)) (hp.mem _ (by omega))
  have l1 := mL (i - 1) i (by omega) (by omega)
  have l2 := mU (j - 1) j (by omega) (by omega) (by omega)
  rw [show prv (hul s).length i = i - 1 by unfold prv; rw [if_neg c3]] at q1
  rw [show i - 1 + 1 = i by omega] at q3
  rw [show j - 1 + 1 = j by omega, ← e] at q4
  rw [← e] at l2
  exact cr_same (d := hg s i) q1 q2 q3 q4 l1 l2
theorem hul_nodup {s : List Sp} (h : Asc s) : (hul s).Nodup := by
  by_cases hn : 2 ≤ s.length
  · obtain ⟨hp, ha⟩ := hul_poly h hn
    have hi := hul_inj h hn
    rw [List.nodup_iff_pairwise_ne, List.pairwise_iff_getElem]
    intro i j h1 h2 hij
    have a := ha i h1
    have b := ha j h2
    rw [List.getElem?_eq_getElem h1] at a
    rw [List.getElem?_eq_getElem h2] at b
    rw [Option.some.inj a, Option.some.inj b]
    exact hi i j hij h2
  · match s, hn with
    | [], _ => simp [hul]
    | [a], _ => simp [hul]
    | _ :: _ :: _, hn => simp at hn
def oth (s : List Sp) (p : Sp) : List Sp := s.filter (fun x => decide (x ≠ p))
theorem mem_oth {s : List Sp} {p x : Sp} : x ∈ oth s p ↔ x ∈ s ∧ x ≠ p := by unfold oth; simp
/-- a corner is not held by the other spots -/
theorem corner_free {s : List Sp} (h : Asc s) {p : Sp} (hp : p ∈ hul s) : ¬ Held (oth s p) p := by
  by_cases hn : 2 ≤ s.length
  · obtain ⟨hP, ha⟩ := hul_poly h hn
    have m2 := hP.m2
    obtain ⟨j, hj, e⟩ := List.getElem_of_mem hp
    have := ha j hj
    rw [List.getElem?_eq_getElem hj, e] at this
    have e := Option.some.inj this
    by_cases h3 : 3 ≤ (hul s).length
    · have hc := cv_at hP h3 hj
      have e1 := hP.ed _ (prv_lt hj)
      rw [g_prv hP hj] at e1
      have e2 := hP.ed j hj
      rw [← e] at hc e1 e2
      generalize hg s (prv (hul s).length j) = a at *
      generalize hg s (j + 1) = b at *
      have F : ∀ x, cr a p x + cr p b x = aff (-(p.y - a.y) + -(b.y - p.y)) ((p.x - a.x) + (b.x - p.x)) ((p.y - a.y) * a.x - (p.x - a.x) * a.y + ((b.y - p.y) * p.x - (b.x - p.x) * p.y)) x := fun x => by rw [cr_aff, cr_aff]; unfold aff; grind
      refine not_held (by rw [← F, (cr_self a p).2.1, (cr_self p b).1]; rfl) fun x hx => ?_
      rw [← F]
      obtain ⟨hx1, hx2⟩ := mem_oth.1 hx
      have k1 := e1 x hx1
      have k2 := e2 x hx1
      rcases Int.lt_or_le 0 (cr a p x + cr p b x) with k | k
      · exact k
      · exfalso
        have z1 : cr a p x = 0 := by omega
        have z2 : cr p b x = 0 := by omega
        refine hx2 (Sp.ext' ?_ ?_)
        · have : cr a p b * (x.x - p.x) = 0 := by
            have : cr a p b * (x.x - p.x) = (p.x - a.x) * - cr p b x + (b.x - p.x) * cr a p x := by unfold cr; grind
            rw [this, z1, z2]; omega
          rcases Int.mul_eq_zero.1 this with q | q <;> omega
        · have : cr a p b * (x.y - p.y) = 0 := by
            have : cr a p b * (x.y - p.y) = (p.y - a.y) * - cr p b x + (b.y - p.y) * cr a p x := by unfold cr; grind
            rw [this, z1, z2]; omega
          rcases Int.mul_eq_zero.1 this with q | q <;> omega
    · have h2 : (hul s).length = 2 := by omega
      rw [h2] at hP hj
      have hne : hg s 1 ≠ hg s 0 := fun e => hP.ne 0 (by omega) e.symm
      have key : ∀ q o : Sp, o ≠ q → (∀ x ∈ s, Btw q o x) → ¬ Held (oth s q) q := fun q o hqo hB => by
        refine not_held (i := o.x - q.x) (j := o.y - q.y) (k := -((o.x - q.x) * q.x + (o.y - q.y) * q.y)) (by rw [← dt_aff]; unfold dt; simp) fun x hx => ?_
        rw [← dt_aff]
        obtain ⟨hx1, hx2⟩ := mem_oth.1 hx
        obtain ⟨p1, p2, p3, p4⟩ := btw_part (hB x hx1) hqo
        rcases Int.lt_or_le 0 (dt q o x) with k | k
        · exact k
        · exfalso
          have z : dt q o x = 0 := by omega
          have zc := (hB x hx1).1
          have : dq o q q * dq x q q = 0 := by
            have : dq o q q * dq x q q = dt q o x * dt q o x + cr q o x * cr q o x := by unfold dq dt cr; grind
            rw [this, z, zc]; omega
          rcases Int.mul_eq_zero.1 this with k' | k'
          · omega
          · exact hx2 (dq_zero (by omega))
      have hB := hP.ln rfl
      by_cases j0 : j = 0
      · subst j0; rw [e]; exact key _ _ hne hB
      · obtain rfl : j = 1 := by omega
        rw [e]
        exact key _ _ (Ne.symm hne) fun x hx => by
          obtain ⟨a, b⟩ := hB x hx
          exact ⟨by rw [cr_flip]; omega, by have : dq x (hg s 1) (hg s 0) = dq x (hg s 0) (hg s 1) := by unfold dq; grind
                                            omega⟩
  · rintro ⟨a, ha, b, hb, k⟩
    have a1 := mem_oth.1 ha
    have hp2 := hul_sub h p hp
    match s, hn with
    | [], _ => simp at hp2
    | [q], _ => simp at hp2 a1; exact a1.2 (a1.1.trans hp2.symm)
    | _ :: _ :: _, hn => simp at hn
/-- what is no corner is held by the other spots -/
theorem held_other {s : List Sp} (h : Asc s) {p : Sp} (hp : p ∈ s) (hc : p ∉ hul s) : Held (oth s p) p := by
  refine (hul_holds h (held_of_mem hp)).mono fun x hx => mem_oth.2 ⟨hul_sub h x hx, fun e => hc (e ▸ hx)⟩
theorem corner_iff {s : List Sp} (h : Asc s) {p : Sp} (hp : p ∈ s) : p ∈ hul s ↔ ¬ Held (oth s p) p :=
  ⟨corner_free h, fun k => by
    by_cases hc : p ∈ hul s
    · exact hc
    · exact absurd (held_other h hp hc) k⟩
/-- the corner that follows, as the reference looks for it -/
def follows (left : List Sp) (last x : Sp) : Bool := decide (x ≠ last) && left.all fun y => decide (0 ≤ cr last x y)
theorem follows_iff {left : List Sp} {last x : Sp} : follows left last x = true ↔ x ≠ last ∧ ∀ y ∈ left, 0 ≤ cr last x y := by
  unfold follows; simp
theorem follow_one {s left : List Sp} (h : Asc s) (hn : 2 ≤ s.length) (hl : ∀ x, x ∈ left ↔ x ∈ hul s) {i : Nat} (hi : i < (hul s).length) {x : Sp} (hx : x ∈ left) : follows left (hg s i) x = true ↔ x = hg s (i + 1) := by
  obtain ⟨hP, ha⟩ := hul_poly h hn
  have m2 := hP.m2
  have hL : ∀ y ∈ left, y ∈ s := fun y hy => hul_sub h y ((hl y).1 hy)
  have hb : hg s (i + 1) ∈ left := (hl _).2 (by rw [← g_nxt hP hi]; exact List.mem_of_getElem? (ha _ (nxt_lt hi)))
  rw [follows_iff]
  constructor
  · rintro ⟨h1, h2⟩
    by_cases h3 : 3 ≤ (hul s).length
    · have hc := cv_at hP h3 hi
      have e1 := hP.ed _ (prv_lt hi) x (hL x hx)
      rw [g_prv hP hi] at e1
      have e2 := hP.ed i hi x (hL x hx)
      have e3 := h2 _ hb
      have fx : ¬ Held (oth s x) x := corner_free h ((hl x).1 hx)
      have fb : ¬ Held (oth s (hg s (i + 1))) (hg s (i + 1)) := corner_free h ((hl _).1 hb)
      have hpS : hg s i ∈ s := hP.mem i (by omega)
      have hpb : hg s i ≠ hg s (i + 1) := hP.ne i hi
      have hxs := hL x hx
      have hbs := hL _ hb
      generalize hg s (prv (hul s).length i) = a at *
      generalize hg s (i + 1) = b at *
      generalize hg s i = p at *
      by_cases e : x = b
      · exact e
      exfalso
      have z : cr p b x = 0 := by have : cr p x b = - cr p b x := by unfold cr; grind
                                  omega
      -- x lies ahead
      have hd : 0 < dt p b x := by
        have e4 : dq b p p * cr a p x = dt p b x * cr a p b + cr p b x * ((b.x - p.x) * (p.x - a.x) + (b.y - p.y) * (p.y - a.y)) := by unfold dq dt cr; grind
        rw [z, Int.zero_mul, Int.add_zero] at e4
        have hD := dq_pos (Ne.symm hpb)
        rcases Int.lt_or_le 0 (dt p b x) with k | k
        · exact k
        · exfalso
          have n1 := Int.mul_nonneg (Int.le_of_lt hD) e1
          have n2 := Int.mul_nonpos_of_nonpos_of_nonneg k (Int.le_of_lt hc)
          have z2 : dt p b x * cr a p b = 0 := by omega
          have z3 : dt p b x = 0 := by rcases Int.mul_eq_zero.1 z2 with q | q <;> omega
          have : dq b p p * dq x p p = 0 := by
            have : dq b p p * dq x p p = dt p b x * dt p b x + cr p b x * cr p b x := by unfold dq dt cr; grind
            rw [this, z3, z]; omega
          rcases Int.mul_eq_zero.1 this with q | q
          · omega
          · exact h1 (dq_zero (by omega))
      have ex := dq_dt z
      rcases Int.lt_or_le (dt p b x) (dq b p p) with k | k
      · refine fx ⟨p, mem_oth.2 ⟨hpS, Ne.symm h1⟩, b, mem_oth.2 ⟨hbs, fun q => e q.symm⟩, .inl ⟨z, ?_⟩⟩
        have := Int.mul_neg_of_pos_of_neg hd (show dt p b x - dq b p p < 0 by omega)
        rcases Int.lt_or_le 0 (dq x p b) with y | y
        · have := Int.mul_pos (dq_pos (Ne.symm hpb)) y; omega
        · exact y
      · refine fb ⟨p, mem_oth.2 ⟨hpS, hpb⟩, x, mem_oth.2 ⟨hxs, e⟩, .inl ⟨by have : cr p x b = - cr p b x := by unfold cr; grind
                                                                            omega, ?_⟩⟩
        -- b between p and x
        have e5 : dq b p x = dq b p p - dt p b x := by unfold dq dt; grind
        omega
    · have h2' : (hul s).length = 2 := by omega
      have hx2 := (hl x).1 hx
      obtain ⟨j, hj, ej⟩ := List.getElem_of_mem hx2
      have aj := ha j hj
      rw [List.getElem?_eq_getElem hj, ej] at aj
      have aj := Option.some.inj aj
      rw [h2'] at hP hj hi
      have hcl := hP.cl
      have c1 : i = 0 ∨ i = 1 := by omega
      have c2 : j = 0 ∨ j = 1 := by omega
      rcases c1 with rfl | rfl <;> rcases c2 with rfl | rfl
      · exact absurd aj h1
      · exact aj
      · rw [aj]; exact hcl.symm
      · exact absurd aj h1
  · rintro rfl
    exact ⟨fun e => hP.ne i hi e.symm, fun y hy => hP.ed i hi y (hL y hy)⟩
theorem nodup_len {α : Type} [DecidableEq α] : ∀ {a b : List α}, a.Nodup → (∀ x ∈ a, x ∈ b) → a.length ≤ b.length
  | [], _, _, _ => by simp
  | x :: a, b, hn, hs => by
    obtain ⟨h1, h2⟩ := List.nodup_cons.1 hn
    have hx := hs x (List.mem_cons_self ..)
    have := nodup_len (a := a) (b := b.erase x) h2 fun y hy => by
      have hne : y ≠ x := fun e => h1 (e ▸ hy)
      exact (List.mem_erase_of_ne hne).2 (hs y (List.mem_cons_of_mem _ hy))
    rw [List.length_erase_of_mem hx] at this
    have : 0 < b.length := List.length_pos_of_mem hx
    simp; omega
theorem left_len {s left : List Sp} (h : Asc s) (hn : left.Nodup) (hl : ∀ x, x ∈ left ↔ x ∈ hul s) : left.length = (hul s).length :=
  Nat.le_antisymm (nodup_len hn fun x hx => (hl x).1 hx) (nodup_len (hul_nodup h) fun x hx => (hl x).2 hx)
/-- the first corner is the lowest one -/
theorem hul_low {s : List Sp} (h : Asc s) (hn : 2 ≤ s.length) : ∀ x ∈ hul s, x ≠ hg s 0 → lam 1 100000 (hg s 0) < lam 1 100000 x := fun x hx hne => by
  obtain ⟨hP, ha⟩ := hul_poly h hn
  obtain ⟨r, r1, r2, mL, mU⟩ := hul_mono h hn
  obtain ⟨j, hj, e⟩ := List.getElem_of_mem hx
  have a := ha j hj
  rw [List.getElem?_eq_getElem hj, e] at a
  have a := Option.some.inj a
  rw [a] at hne ⊢
  have j0 : j ≠ 0 := fun e => hne (by rw [e])
  by_cases c : j ≤ r
  · exact mL 0 j (by omega) c
  · have := mU j (hul s).length (by omega) hj (Nat.le_refl _)
    rwa [hP.cl] at this
end Go.Proofs.YthklgkgincebhaaGreatDoor
