/- The parts of the proof, part 0. -/
import Derived.OrdersHeld
namespace Go.Proofs.YtmjgljdmjpabdaaGreatDoor
/-- what an act's slots are behind a value put -/
theorem AP : (∀ (a : Act) (d : Nat) (v : Value), a.put (some d) v = { a with tmps := a.tmps.setIfInBounds d v }) ∧ (∀ (a : Act) (v : Value), a.put none v = a) ∧ (∀ (l : List Value) (i : Nat) (a : Value), l.toArray.setIfInBounds i a = (l.set i a).toArray) ∧
    (∀ (x a : Value) (l : List Value), (x :: l).set 0 a = a :: l) ∧ (∀ (x a : Value) (l : List Value) (n : Nat), (x :: l).set (n + 1) a = x :: l.set n a) := ⟨fun _ _ _ => rfl, fun _ _ => rfl, fun _ _ _ => List.setIfInBounds_toArray .., fun _ _ _ => rfl, fun _ _ _ _ => rfl⟩
section
variable {P : Program} {ops : Array Oper} {Q : Exit → Act → World → Prop} {md : Region.Mode} {S : World → Prop} {fuel : Nat} {listed : Array Bool} {a : Act} {w : World}
theorem tk (i d : Nat) (v : Value) {op : Op} {ty pos af} (hi : ops[i]? = some { dst := some d, op := op, type := ty, pos := pos, after := af, guard := none })
    (hb : (Region.noSelect ops && (Region.free md ops listed i && (Region.ready md ops listed).contains i)) = true) (hQ : ∀ c a' w, Q (.panic c) (a'.put (some d) v) w → Q (.panic c) a' w)
    (hy : ∀ w, S w → (execOp a.eval { dst := some d, op := op, type := ty, pos := pos, after := af, guard := none }).run P w = .ok (.value v) w) (hS : S w) (h : wpAnyH P md ops Q S fuel (listed.setIfInBounds i true) (a.put (some d) v) w) : wpAnyH P md ops Q S (fuel + 1) listed a w := by
  rw [Bool.and_eq_true, Bool.and_eq_true] at hb
  exact wpAnyH_take hi hb.1 hb.2.1 hb.2.2 hQ (.inl ⟨rfl, hy⟩) hS h
theorem tg (i d k : Nat) (b : Bool) (v : Value) {op : Op} {ty pos af} (hi : ops[i]? = some { dst := some d, op := op, type := ty, pos := pos, after := af, guard := some (k, b) })
    (hb : (Region.noSelect ops && (Region.free md ops listed i && (Region.ready md ops listed).contains i)) = true) (hQ : ∀ c a' w, Q (.panic c) (a'.put (some d) v) w → Q (.panic c) a' w)
    (hw : Region.wanted { dst := some d, op := op, type := ty, pos := pos, after := af, guard := some (k, b) } (yielded ops a.tmps) = true)
    (hy : ∀ w, S w → (execOp a.eval { dst := some d, op := op, type := ty, pos := pos, after := af, guard := some (k, b) }).run P w = .ok (.value v) w) (hS : S w) (h : wpAnyH P md ops Q S fuel (listed.setIfInBounds i true) (a.put (some d) v) w) : wpAnyH P md ops Q S (fuel + 1) listed a w := by
  rw [Bool.and_eq_true, Bool.and_eq_true] at hb
  exact wpAnyH_take hi hb.1 hb.2.1 hb.2.2 hQ (.inl ⟨hw, hy⟩) hS h
theorem tu (i d k : Nat) (b : Bool) {op : Op} {ty pos af} (hi : ops[i]? = some { dst := some d, op := op, type := ty, pos := pos, after := af, guard := some (k, b) })
    (hb : (Region.noSelect ops && (Region.free md ops listed i && (Region.ready md ops listed).contains i)) = true) (hQ : ∀ c a' w, Q (.panic c) (a'.put (some d) undef) w → Q (.panic c) a' w)
    (hw : Region.wanted { dst := some d, op := op, type := ty, pos := pos, after := af, guard := some (k, b) } (yielded ops a.tmps) = false) (hS : S w)
    (h : wpAnyH P md ops Q S fuel (listed.setIfInBounds i true) (a.put (some d) undef) w) : wpAnyH P md ops Q S (fuel + 1) listed a w := by
  rw [Bool.and_eq_true, Bool.and_eq_true] at hb
  exact wpAnyH_take hi hb.1 hb.2.1 hb.2.2 hQ (.inr ⟨hw, rfl⟩) hS h
end
end Go.Proofs.YtmjgljdmjpabdaaGreatDoor
