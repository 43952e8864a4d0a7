/- Gear: rigs that come in, in a list. -/
import Derived.Test.YtijlglanpgcdiaaGdec
import Derived.Test.YtijlglanpgcdiaaGca
set_option linter.unusedSimpArgs false
set_option linter.unusedVariables false
namespace Go.Proofs.Ytijlglanpgcdiaa
open Go.ChangeShapes Go.WideShapes Go.ChangeAt Go.RowKit Go.Deep Go.Joins
section
variable {H : Type} {enc : TypeId × Value → H} {P : Program} {w : World} {base : Nat} {spare : Nat → Bool} {held : Bool}
/-- a slice that lies in a cell -/
theorem open_rdin {α : Type} (encα : α → List Value) (ok : α → Prop) (sz : Nat) {t e : TypeId} {n0 : Nat} {cs : List Value} {x : DataW H × List MemPlace} (ht : P.underlying t = some (.slice e)) (hC : P.cellsOf e = sz) (hz : 0 < sz)
    (hdec : ∀ n cs x, DataW.trod enc P w base spare held n e cs = some x → ∃ a : α, cs = encα a ∧ ok a)
    (hf : DataW.trod enc P w base spare held n0 t cs = some x) :
    ∃ (A : Option Addr) (l : List α) (c : Nat), cs = [.slice A l.length c] ∧ Rd encα sz w A l ∧ l.length ≤ maxLen ∧ ∀ a ∈ l, ok a := by
  rcases open_slice ht hf with ⟨hcs, _⟩ | ⟨a, n, c, m, n', D, Pl, hcs, _, hl, hm, hmm, _, hi⟩
  · exact ⟨none, [], 0, hcs, Rd.nil_, by simp, by simp⟩
  · rw [hC] at hi
    have hlm : n ≤ m := by rw [hmm]; split <;> omega
    have hex : ∀ i, i < n → ∃ y : α, ok y ∧ ∀ j u, (encα y)[j]? = some u → w.cell? (a.add (i * sz + j)) = some u := fun i hin => by
      obtain ⟨cs', hc, htr⟩ := hi i (by omega)
      obtain ⟨y, rfl, hy⟩ := hdec _ _ _ htr
      obtain ⟨_, hlen, hat⟩ := World.cells?_some hc
      refine ⟨y, hy, fun j u hu => ?_⟩
      have hj : j < sz := by
        rcases Nat.lt_or_ge j sz with h1 | h1
        · exact h1
        · rw [List.getElem?_eq_none (by omega)] at hu; cases hu
      have := hat j hj
      rw [hu] at this
      rwa [Go.Deep.add_add] at this
    obtain ⟨l, hll, hlp⟩ := list_of n hex
    subst hll
    refine ⟨some a, l, c, hcs, fun hne => ?_, by omega, fun y hy => ?_⟩
    · have hl0 : 0 < l.length := List.length_pos_iff.2 hne
      obtain ⟨cs', hc, htr⟩ := hi 0 (by omega)
      obtain ⟨_, hlen, hat⟩ := World.cells?_some hc
      have hc0 := hat 0 hz
      rw [List.getElem?_eq_getElem (by omega)] at hc0
      simp only [Nat.zero_mul] at hc0
      have hspot : a.spot = none := by
        have hs := World.cell?_spot hc0
        simpa [Addr.add] using hs
      obtain ⟨b, off, spot⟩ := a
      simp only at hspot
      subst hspot
      have hb := World.block_lt_of_cell? w _ hc0
      refine ⟨b, off, rfl, by simpa [Addr.add] using hb, fun k x hx j v hv => ?_⟩
      have := (hlp k x hx).2 j v hv
      rw [addr_add0] at this
      rw [Nat.add_assoc]; exact this
    · obtain ⟨i, hi', hiy⟩ := List.getElem_of_mem hy
      exact (hlp i y (by rw [List.getElem?_eq_getElem hi', hiy])).1
end
section
variable {H : Type} {enc : TypeId × Value → H} {w : World} {base : Nat} {spare : Nat → Bool} {held : Bool}
theorem dec_rig (n : Nat) (cs : List Value) (x) (h : DataW.trod enc Try.prog w base spare held n 23 cs = some x) : ∃ a : Rg, cs = a.cs ∧ RgOk w a := by
  obtain ⟨A, l, c, e, h1, h2, h3⟩ := open_rdin Lk.cs LW 2 Try.underlying23 (by kernel_rfl) (by decide) (fun n cs x h => dec_link n cs x h) h
  exact ⟨⟨A, l, c⟩, e, h1, h2, h3⟩
end
end Go.Proofs.Ytijlglanpgcdiaa
