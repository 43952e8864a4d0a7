/- Lean: Distance, Through, by both. -/
import Derived.Test.YtoelekhkgknneaaDoorLta
import Derived.Deep.RegionHeld3
set_option linter.unusedSimpArgs false
set_option linter.unusedVariables false
namespace Go.Proofs.YtoelekhkgknneaaDoor
open Go.RowKit

theorem wp_world {P : Program} {id : Nat} {ops : Array Oper} {b : Bool} {Q : Exit → Act → World → Prop} {a : Act} {w : World} (h : ∀ W, W = w → (Code.region id ops b).wp P Q a W) : (Code.region id ops b).wp P Q a w := h w rfl
theorem kp_of {W w' : World} (h : Below W.heap.size W w') : (∀ b o, b < W.heap.size → w'.cell? ⟨b, o, none⟩ = W.cell? ⟨b, o, none⟩) ∧ (∀ b o, b < W.heap.size → w'.frozen? ⟨b, o, none⟩ = W.frozen? ⟨b, o, none⟩) ∧ Below W.heap.size W w' :=
  ⟨(bcell h).1, (bcell h).2, h⟩
/-- all that lies below W's end is as in W, but for block T -/
def Kx (w W : World) (T : Nat) (w' : World) : Prop :=
  (∀ b o, b < W.heap.size → b ≠ T → w'.cell? ⟨b, o, none⟩ = W.cell? ⟨b, o, none⟩) ∧ (∀ b o, b < W.heap.size → w'.frozen? ⟨b, o, none⟩ = W.frozen? ⟨b, o, none⟩) ∧ W.heap.size ≤ w'.heap.size ∧ Below w.heap.size w w'
section
variable {w W w' w'' : World} {T : Nat}
theorem kx_refl (h : Below w.heap.size w W) : Kx w W T W := ⟨fun _ _ _ _ => rfl, fun _ _ _ => rfl, Nat.le_refl _, h⟩
theorem kx_draw (h : Kx w W T w') : Kx w W T w'.drew := ⟨h.1, h.2.1, h.2.2.1, below_draw h.2.2.2⟩
theorem kx_step (h : Kx w W T w') (hb : Below w'.heap.size w' w'') : Kx w W T w'' :=
  ⟨fun b o h1 h2 => ((bcell hb).1 b o (Nat.lt_of_lt_of_le h1 h.2.2.1)).trans (h.1 b o h1 h2), fun b o h1 => ((bcell hb).2 b o (Nat.lt_of_lt_of_le h1 h.2.2.1)).trans (h.2.1 b o h1), Nat.le_trans h.2.2.1 hb.size, below_tr h.2.2.2 hb⟩
theorem kx_set {i : Nat} {v : Value} (h : Kx w W T w') (hT : w.heap.size ≤ T) : Kx w W T (w'.setCell ⟨T, i, none⟩ v) :=
  ⟨fun b o h1 h2 => by rw [World.cell?_setCell_far _ _ _ _ (show T ≠ b from fun e => h2 e.symm)]; exact h.1 b o h1 h2, fun b o h1 => by rw [World.frozen?_setCell]; exact h.2.1 b o h1, by rw [World.size_setCell]; exact h.2.2.1, h.2.2.2.setCell hT _⟩
end
/-- a block of two cells is there behind two calls -/
theorem carry4 {W w3 w4 : World} {T : Nat} {v0 v1 : Value} (hc3 : ∀ b o, b < W.heap.size → w3.cell? ⟨b, o, none⟩ = W.cell? ⟨b, o, none⟩) (hc4 : ∀ b o, b < w3.heap.size → w4.cell? ⟨b, o, none⟩ = w3.cell? ⟨b, o, none⟩)
    (hf3 : ∀ b o, b < W.heap.size → w3.frozen? ⟨b, o, none⟩ = W.frozen? ⟨b, o, none⟩) (hf4 : ∀ b o, b < w3.heap.size → w4.frozen? ⟨b, o, none⟩ = w3.frozen? ⟨b, o, none⟩) (h : T < W.heap.size) (h' : T < w3.heap.size)
    (q0 : W.cell? ⟨T, 0, none⟩ = some v0) (q1 : W.cell? ⟨T, 1, none⟩ = some v1) (q2 : W.frozen? ⟨T, 0, none⟩ = false) (q3 : W.frozen? ⟨T, 1, none⟩ = false) :
    w4.cell? ⟨T, 0, none⟩ = some v0 ∧ w4.cell? ⟨T, 1, none⟩ = some v1 ∧ w4.frozen? ⟨T, 0, none⟩ = false ∧ w4.frozen? ⟨T, 1, none⟩ = false :=
  ⟨(hc4 _ _ h').trans ((hc3 _ _ h).trans q0), (hc4 _ _ h').trans ((hc3 _ _ h).trans q1), (hf4 _ _ h').trans ((hf3 _ _ h).trans q2), (hf4 _ _ h').trans ((hf3 _ _ h).trans q3)⟩
abbrev ptV (p : Pt) : Value := .agg #[.int .i64 p.h, .int .i64 p.x]
def dstL (x : Ln) (p : Pt) : (Int × Int) × Int := if vldL x.1 x.2.1 x.2.2 = true ∧ sndP p = true then ((gN (farV x.1 x.2.1 x.2.2 p) x.2.2, gD (farV x.1 x.2.1 x.2.2 p) x.2.2), 0) else ((0, 0), 1)

end Go.Proofs.YtoelekhkgknneaaDoor
