/- Arguments that come in: a slice whose elements lie as known cells reads as a list. -/
import Derived.Test.YthklgkgincebhaaGreatDoorRows
import Derived.Test.YthklgkgincebhaaGreatDoorKit
import Derived.ProofKit
import Derived.OpenShut
import Derived.ShutString
import Derived.ChangeOld
import Derived.Deep.Slices
import Derived.Deep.Fields
import Derived.ChangeSame
import Derived.Lib.SmallJoins
namespace Go.Proofs.YthklgkgincebhaaGreatDoor
open Go.ChangeShapes Go.WideShapes Go.ChangeAt Go.RowKit Go.Deep Go.Joins
open Go.ChangeMaps (open_string shut_string)

theorem own : ownKnob Tryz.prog.godebug = none := by kernel_rfl
theorem laidOut : laidOutB Tryz.prog = true := by kernel_rfl

theorem addr_add0 (b off i : Nat) : (Addr.mk b off none).add i = ⟨b, off + i, none⟩ := by
  unfold Addr.add; split <;> simp_all

theorem list_of {α : Type} {Q : Nat → α → Prop} (n : Nat) (h : ∀ i, i < n → ∃ y, Q i y) : ∃ l : List α, l.length = n ∧ ∀ i y, l[i]? = some y → Q i y := by
  induction n with
  | zero => exact ⟨[], rfl, fun i y hy => by simp at hy⟩
  | succ n ih =>
    obtain ⟨l, hll, hlp⟩ := ih (fun i hin => h i (by omega))
    obtain ⟨y, hy⟩ := h n (by omega)
    refine ⟨l ++ [y], by simp [hll], fun i z hz => ?_⟩
    rcases Nat.lt_or_ge i n with h1 | h1
    · rw [List.getElem?_append_left (by omega)] at hz; exact hlp i z hz
    · rw [List.getElem?_append_right (by omega)] at hz
      rcases Nat.eq_or_lt_of_le h1 with h2 | h2
      · subst h2
        rw [hll, Nat.sub_self] at hz
        cases hz
        exact hy
      · rw [List.getElem?_eq_none (by simp; omega)] at hz; cases hz

section
variable {H : Type} {enc : TypeId × Value → H} {P : Program} {w : World} {base : Nat} {spare : Nat → Bool} {held : Bool}
theorem open_rd {α : Type} (encα : α → List Value) (ok : α → Prop) (sz : Nat) {t e : TypeId} {r : Reach} {b0 : Nat} {v : Value} {d : DataW H} {p : List MemPlace} (ht : P.underlying t = some (.slice e)) (hC : P.cellsOf e = sz) (hz : 0 < sz)
    (hdec : ∀ n cs x, DataW.trod enc P w base spare held n e cs = some x → ∃ a : α, cs = encα a ∧ ok a)
    (hval : Value.okWide P w r b0 t v) (h : DataW.Trod enc P w base spare held t v d p) :
    ∃ (A : Option Addr) (l : List α) (c : Nat), v = .slice A l.length c ∧ Rd encα sz w A l ∧ l.length ≤ maxLen ∧ ∀ a ∈ l, ok a := by
  obtain ⟨A, n, c, rfl⟩ := okWide_slice ht hval
  obtain ⟨fuel, hf⟩ := h
  rcases open_slice ht hf with ⟨hcs, _⟩ | ⟨a, len, cap, m, n', D, Pl, hcs, _, hl, hm, hmm, _, hi⟩
  · simp [Value.cells] at hcs
    obtain ⟨rfl, rfl, rfl⟩ := hcs
    exact ⟨none, [], 0, rfl, Rd.nil_, by simp, by simp⟩
  · simp [Value.cells] at hcs
    obtain ⟨rfl, rfl, rfl⟩ := hcs
    rw [hC] at hi
    have hlm : n ≤ m := by rw [hmm]; split <;> omega
    have hex : ∀ i, i < n → ∃ y : α, ok y ∧ ∀ j u, (encα y)[j]? = some u → w.cell? (a.add (i * sz + j)) = some u := fun i hin => by
      obtain ⟨cs', hc, htr⟩ := hi i (by omega)
      obtain ⟨y, rfl, hy⟩ := hdec _ _ _ htr
      obtain ⟨_, hlen, hat⟩ := World.cells?_some hc
      refine ⟨y, hy, fun j u hu => ?_⟩
      have hj : j < sz := by
        rcases Nat.lt_or_ge j sz with h1 | h1
        · exact h1
        · rw [List.getElem?_eq_none (by omega)] at hu; cases hu
      have := hat j hj
      rw [hu] at this
      rwa [Go.Deep.add_add] at this
    obtain ⟨l, hll, hlp⟩ := list_of n hex
    subst hll
    refine ⟨some a, l, c, rfl, fun hne => ?_, by omega, fun y hy => ?_⟩
    · have hl0 : 0 < l.length := List.length_pos_iff.2 hne
      have h0 := hlp 0 l[0] (List.getElem?_eq_getElem hl0)
      obtain ⟨cs', hc, htr⟩ := hi 0 (by omega)
      obtain ⟨_, hlen, hat⟩ := World.cells?_some hc
      have hc0 := hat 0 hz
      rw [List.getElem?_eq_getElem (by omega)] at hc0
      simp only [Nat.zero_mul] at hc0
      have hspot : a.spot = none := by
        have hs := World.cell?_spot hc0
        simpa [Addr.add] using hs
      obtain ⟨b, off, spot⟩ := a
      simp only at hspot
      subst hspot
      have hb := World.block_lt_of_cell? w _ hc0
      refine ⟨b, off, rfl, by simpa [Addr.add] using hb, fun k x hx j v hv => ?_⟩
      have := (hlp k x hx).2 j v hv
      rw [addr_add0] at this
      rw [Nat.add_assoc]; exact this
    · obtain ⟨i, hi', hiy⟩ := List.getElem_of_mem hy
      exact (hlp i y (by rw [List.getElem?_eq_getElem hi', hiy])).1

theorem dec_int {t : TypeId} {k : IntKind} (ht : P.underlying t = some (.int k)) (n : Nat) (cs : List Value) (x) (h : DataW.trod enc P w base spare held n t cs = some x) : ∃ a : Int, cs = [.int k a] ∧ (Lit.int k a).wf = true := by
  obtain ⟨a, h1, _, h2⟩ := DataW.trod_int ht h
  exact ⟨a, h1, h2⟩
/-- a struct of one-cell fields: its cells, one by one -/
theorem dec_fields {t : TypeId} {fs : Array Field} (hs : P.underlying t = some (.struct fs)) (hone : oneCellFields P fs = true) (hC : P.cellsOf t = fs.size) (n : Nat) (cs : List Value) (x) (h : DataW.trod enc P w base spare held n t cs = some x) :
    cs.length = fs.size ∧ ∀ (j : Nat) (f : Field) (u : Value), fs[j]? = some f → cs[j]? = some u → ∃ m y, DataW.trod enc P w base spare held m f.type [u] = some y := by
  obtain ⟨ys, n', _, _, hlen, hyl, hf⟩ := DataW.trod_struct hs h
  rw [hC] at hlen
  refine ⟨hlen, fun j f u hj hu => ?_⟩
  obtain ⟨ho, hk⟩ := hone_of hone j f hj
  have hjl : j < fs.size := (Array.getElem?_eq_some_iff.1 hj).1
  have h1 := hf j f hj
  rw [ho, hk] at h1
  have h2 : (cs.drop j).take 1 = [u] := by
    rw [List.drop_eq_getElem_cons (by omega)]
    rw [List.getElem?_eq_getElem (by omega)] at hu
    cases hu
    rfl
  rw [h2] at h1
  exact ⟨n', ys[j], by rw [h1, List.getElem?_eq_getElem]⟩
end
end Go.Proofs.YthklgkgincebhaaGreatDoor
