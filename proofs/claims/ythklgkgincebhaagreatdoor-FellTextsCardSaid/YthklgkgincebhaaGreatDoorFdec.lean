/- Fell: spots, props and zones that come in. -/
import Derived.Test.YthklgkgincebhaaGreatDoorFrameC
import Derived.Test.YthklgkgincebhaaGreatDoorFd
set_option linter.unusedSimpArgs false
set_option linter.unusedVariables false
namespace Go.Proofs.YthklgkgincebhaaGreatDoor
open Go.ChangeShapes Go.WideShapes Go.ChangeAt Go.RowKit Go.Deep Go.Joins
theorem i64_of {n : Int} (h : (Lit.int .i64 n).wf = true) : -9223372036854775808 ≤ n ∧ n ≤ 9223372036854775807 := by
  have h1 : (decide (IntKind.i64.min ≤ n) && decide (n ≤ IntKind.i64.max)) = true := h
  rw [show IntKind.i64.min = -9223372036854775808 from rfl, show IntKind.i64.max = 9223372036854775807 from rfl, Bool.and_eq_true, decide_eq_true_eq, decide_eq_true_eq] at h1
  exact ⟨h1.1, h1.2⟩
section
variable {H : Type} {enc : TypeId × Value → H} {w : World} {base : Nat} {spare : Nat → Bool} {held : Bool}
theorem dec_spot (n : Nat) (cs : List Value) (x) (h : DataW.trod enc Tryz.prog w base spare held n 32 cs = some x) : ∃ a : Sp, cs = a.cs ∧ True := by
  obtain ⟨hl, hf⟩ := dec_fields Tryz.underlying32 (by kernel_rfl) (by kernel_rfl) n cs x h
  match cs, hl with
  | [c0, c1], _ =>
    obtain ⟨m0, y0, e0⟩ := hf 0 _ c0 rfl rfl
    obtain ⟨m1, y1, e1⟩ := hf 1 _ c1 rfl rfl
    obtain ⟨a0, g0, _⟩ := dec_int Tryz.underlying3 _ _ _ e0
    obtain ⟨a1, g1, _⟩ := dec_int Tryz.underlying3 _ _ _ e1
    cases g0; cases g1
    exact ⟨⟨a0, a1⟩, rfl, trivial⟩
set_option maxRecDepth 50000 in
theorem dec_prop (n : Nat) (cs : List Value) (x) (h : DataW.trod enc Tryz.prog w base spare held n 34 cs = some x) : ∃ a : Pr, cs = a.cs ∧ True := by
  obtain ⟨ys, n', _, _, hlen, hyl, hf⟩ := DataW.trod_struct Tryz.underlying34 h
  have hl : cs.length = 3 := hlen.trans (by kernel_rfl)
  match cs, hl with
  | [c0, c1, c2], _ =>
    have h0 := hf 0 _ rfl
    have h1 := hf 1 _ rfl
    rw [List.getElem?_eq_getElem (show 0 < ys.length by rw [hyl]; decide)] at h0
    rw [List.getElem?_eq_getElem (show 1 < ys.length by rw [hyl]; decide)] at h1
    have hc0 : Tryz.prog.cellsOf 32 = 2 := by kernel_rfl
    have hc1 : Tryz.prog.cellsOf 4 = 1 := by kernel_rfl
    change DataW.trod enc Tryz.prog w base spare held n' 32 (([c0, c1, c2].drop 0).take (Tryz.prog.cellsOf 32)) = _ at h0
    change DataW.trod enc Tryz.prog w base spare held n' 4 (([c0, c1, c2].drop 2).take (Tryz.prog.cellsOf 4)) = _ at h1
    rw [hc0] at h0
    rw [hc1] at h1
    have k0 : DataW.trod enc Tryz.prog w base spare held n' 32 [c0, c1] = some _ := h0
    have k1 : DataW.trod enc Tryz.prog w base spare held n' 4 [c2] = some _ := h1
    obtain ⟨a, e, _⟩ := dec_spot _ _ _ k0
    obtain ⟨b, e2, _⟩ := DataW.trod_bool Tryz.underlying4 k1
    cases e2
    obtain ⟨ax, ay⟩ := a
    cases e
    exact ⟨⟨⟨ax, ay⟩, b⟩, rfl, trivial⟩
end
end Go.Proofs.YthklgkgincebhaaGreatDoor
