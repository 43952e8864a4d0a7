/- Lean: Make, At, by both. -/
import Derived.Test.YtoelekhkgknneaaDoorLg
set_option linter.unusedSimpArgs false
set_option linter.unusedVariables false
namespace Go.Proofs.YtoelekhkgknneaaDoor
open Go.RowKit

theorem bl_alloc {w W : World} (h : Below w.heap.size w W) (o : Obj) : Below w.heap.size w (W.alloc o) := h.alloc h.size o
theorem sz_drew (w : World) : w.drew.heap.size = w.heap.size := rfl
theorem sz_drewN (w : World) (n : Nat) : (w.drewN n).heap.size = w.heap.size := rfl
theorem calls_bool {P : Program} {f : FuncId} {args : Array Value} {w : World} {R : World → Prop} {X v : Bool} (h : X = v) (c : Calls P f args w fun e w' => e = .returned (.bool X) ∧ R w') : Calls P f args w fun e w' => e = .returned (.bool v) ∧ R w' := h ▸ c
abbrev lnV (x : Ln) : Value := lineV x.1 x.2.1 x.2.2
abbrev frV (x : Int × Int) : Value := .agg #[.int .i64 x.1, .int .i64 x.2]
def makeL (a b d : Int) : Ln × Int := if inB a b d = true then (mk3 a b d, 0) else ((0, 0, 0), 7)
theorem make_yes {a b d : Int} (h : inB a b d = true) : makeL a b d = (mk3 a b d, 0) := if_pos h
theorem make_no {a b d : Int} (h : inB a b d = false) : makeL a b d = ((0, 0, 0), 7) := if_neg (by simp [h])
theorem in_fits {a b d : Int} (h : inB a b d = true) : Fits a ∧ Fits b ∧ Fits d ∧ 0 < d := by
  obtain ⟨a0, a1, b0, b1, d0, d1⟩ := lb_of h
  exact ⟨⟨by omega, by omega⟩, ⟨by omega, by omega⟩, ⟨by omega, by omega⟩, by omega⟩

def atL (x : Ln) (h : Int) : (Int × Int) × Int := if vldL x.1 x.2.1 x.2.2 = true then (if wn h 0 200000 = true then ((gN (x.1 + x.2.1 * h) x.2.2, gD (x.1 + x.2.1 * h) x.2.2), 0) else ((0, 0), 7)) else ((0, 0), 1)
theorem vld_in {a b d : Int} (h : vldL a b d = true) : inB a b d = true := by unfold vldL at h; rw [Bool.and_eq_true] at h; exact h.1
end Go.Proofs.YtoelekhkgknneaaDoor
