/- Stack: a divided course changes no sums; the plain law of StackSplits. -/
import Derived.Test.YthoemokkfijfeaaPa
import Derived.Test.YthoemokkfijfeaaMg
namespace Go.Proofs.Ythoemokkfijfeaa
open Go.RowKit

structure Same4 (s t : List Course) : Prop where
  w : wts s = wts t
  e : es s = es t
  n : ns s = ns t
  f : face s = face t
  p : push s = push t
theorem same4_cons {x : Course} {s t : List Course} (h : Same4 s t) : Same4 (x :: s) (x :: t) := by
  obtain ⟨h1, h2, h3, h4, h5⟩ := h
  exact ⟨by simp [wts, h1], by simp [es, h2], by simp [ns, h3], by simp [face, h4], by simp [push, h4, h5]⟩
theorem same4_append (r : List Course) {s t : List Course} (h : Same4 s t) : Same4 (r ++ s) (r ++ t) := by
  induction r with
  | nil => exact h
  | cons x r ih => exact same4_cons ih
theorem same4_split (x : Course) (a : Int) (r : List Course) : Same4 (lowC x a :: highC x a :: r) (x :: r) := by
  refine ⟨?_, ?_, ?_, ?_, ?_⟩ <;> simp only [wts, es, ns, face, push, lowC, highC]
  · omega
  · grind
  · grind
  · grind
  · grind
theorem split_drop {l : List Course} {x : Course} {k : Nat} {a : Int} (hx : l[k]? = some x) (bed : Nat) : Same4 ((splitL l k a).drop (if k < bed then bed + 1 else bed)) (l.drop bed) := by
  have hk : k < l.length := (List.getElem?_eq_some_iff.1 hx).1
  have hb : bedC l k = x := by simp [bedC, hx]
  have hL : splitL l k a = l.take k ++ (lowC x a :: highC x a :: l.drop (k + 1)) := by simp [splitL, hb]
  rw [hL]
  have hlen : (l.take k).length = k := by simp; omega
  by_cases h : k < bed
  · rw [if_pos h, List.drop_append, hlen, List.drop_of_length_le (l := l.take k) (by omega)]
    obtain ⟨d, rfl⟩ : ∃ d, bed = k + 1 + d := ⟨bed - (k + 1), by omega⟩
    rw [show k + 1 + d + 1 - k = d + 2 by omega]
    simp only [List.drop_succ_cons, List.nil_append, List.drop_drop]
    exact ⟨rfl, rfl, rfl, rfl, rfl⟩
  · rw [if_neg h, List.drop_append, hlen, show bed - k = 0 by omega, List.drop_zero]
    have h2 : l.drop bed = (l.take k).drop bed ++ (x :: l.drop (k + 1)) := by
      rw [← hs_drop hx]
      have h3 : l = l.take k ++ l.drop k := (List.take_append_drop k l).symm
      have h4 : l.drop bed = (l.take k ++ l.drop k).drop bed := by rw [← h3]
      rw [h4, List.drop_append, hlen, show bed - k = 0 by omega, List.drop_zero]
    rw [h2]
    exact same4_append _ (same4_split x a _)
theorem split_valid {l : List Course} {x : Course} {k : Nat} {a : Int} (hv : validC l = true) (hx : l[k]? = some x) (hE : splitX l x a = 0) : validC (splitL l k a) = true ∧ (splitL l k a).length = l.length + 1 := by
  obtain ⟨hall, hl1, hl2⟩ := valid_all hv
  have hk : k < l.length := (List.getElem?_eq_some_iff.1 hx).1
  have hb : bedC l k = x := by simp [bedC, hx]
  have hsx : soundB x = true := List.all_eq_true.1 hall x (List.mem_of_getElem? hx)
  unfold splitX at hE
  cases hn : wn a 1 (x.h - 1)
  · rw [hn] at hE; simp at hE
  rw [hn, if_pos rfl] at hE
  by_cases hz : x.wt * a / x.h = 0 ∨ x.wt - x.wt * a / x.h = 0
  · rw [if_pos hz] at hE; omega
  rw [if_neg hz] at hE
  by_cases h60 : l.length = 60
  · rw [if_pos h60] at hE; omega
  rw [wn_iff] at hn
  obtain ⟨q1, q2, q3, q4⟩ := split_wt (cb_of hsx) hn.1 hn.2
  obtain ⟨d1, d2, d3, d4, d5, d6, d7, d8, d9, d10, d11⟩ := cb_of hsx
  have hlen : (splitL l k a).length = l.length + 1 := by simp [splitL]; omega
  refine ⟨?_, hlen⟩
  have s1 : soundB (lowC x a) = true := by
    simp only [soundB, lowC, Bool.and_eq_true, wn_iff]
    generalize x.wt * a / x.h = q at *
    refine ⟨by omega, ?_, ?_, ?_, by omega, by omega, by omega⟩ <;> exact decide_eq_true (by omega)
  have s2 : soundB (highC x a) = true := by
    simp only [soundB, highC, Bool.and_eq_true, wn_iff]
    generalize x.wt * a / x.h = q at *
    refine ⟨by omega, ?_, ?_, ?_, by omega, by omega, by omega⟩ <;> exact decide_eq_true (by omega)
  unfold validC
  rw [hlen, Bool.and_eq_true]
  refine ⟨by rw [wn_iff]; omega, ?_⟩
  simp only [splitL, Int.toNat_natCast, hb, List.all_append, List.all_cons, List.all_nil, s1, s2, Bool.and_true, Bool.true_and]
  rw [all_drop hall, Bool.and_true]
  rw [List.all_eq_true] at hall ⊢
  exact fun y hy => hall y (List.mem_of_mem_take hy)
theorem got_rd0 {W : World} {base : Nat} {v : Value} {l : List Course} (h : GotS 0 W base v l) : ∃ A c, v = .slice A l.length c ∧ Rd Course.cs 6 W A l := by
  have := got_rd h
  simpa [gotL] using this
end Go.Proofs.Ythoemokkfijfeaa
