/- Fell: what a drawn region with calls keeps. -/
import Derived.Test.YthklgkgincebhaaGreatDoorFe
set_option linter.unusedSimpArgs false
set_option linter.unusedVariables false
namespace Go.Proofs.YthklgkgincebhaaGreatDoor
open Go.RowKit

abbrev Kq (W w' : World) : Prop :=
  (∀ b o, b < W.heap.size → w'.cell? ⟨b, o, none⟩ = W.cell? ⟨b, o, none⟩) ∧ (∀ b o, b < W.heap.size → w'.frozen? ⟨b, o, none⟩ = W.frozen? ⟨b, o, none⟩) ∧ Below W.heap.size W w'
section
variable {W w' w'' : World}
theorem kq_of (h : Below W.heap.size W w') : Kq W w' := ⟨(bcell h).1, (bcell h).2, h⟩
theorem kq_refl : Kq W W := kq_of (below_refl _)
theorem kq_draw (h : Kq W w') : Kq W w'.drew := kq_of (below_draw h.2.2)
theorem kq_drewN {n : Nat} (h : Kq W w') : Kq W (w'.drewN n) := kq_of (below_drewN h.2.2 _)
theorem kq_alloc {o : Obj} (h : Kq W w') : Kq W (w'.alloc o) := kq_of (bl_alloc h.2.2 _)
theorem kq_set {p : Addr} {v : Value} (h : Kq W w') (hp : W.heap.size ≤ p.block) : Kq W (w'.setCell p v) := kq_of (h.2.2.setCell hp _)
theorem kq_step (h : Kq W w') (hb : Below w'.heap.size w' w'') : Kq W w'' := kq_of (below_tr h.2.2 hb)
theorem kq_blk {g : Nat} {t : TypeId} {cs : Array Value} (h : Kq W w') (hB : Blk W g t cs) : Blk w' g t cs := hB.below h.2.2 hB.lt
theorem kq_rd {α : Type} {enc : α → List Value} {sz : Nat} {A : Option Addr} {l : List α} (h : Kq W w') (hR : Rd enc sz W A l) : Rd enc sz w' A l := hR.on h.2.2
end
end Go.Proofs.YthklgkgincebhaaGreatDoor
