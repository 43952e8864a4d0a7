/- Fell: FellZones over what comes in. -/
import Derived.Test.YtkeojokbpjdhpaaFdec
import Derived.Test.YtkeojokbpjdhpaaFzl
set_option linter.unusedSimpArgs false
set_option linter.unusedVariables false
namespace Go.Proofs.Ytkeojokbpjdhpaa
open Go.ChangeShapes Go.WideShapes Go.ChangeAt Go.RowKit Go.Deep Go.Joins
def Zn.cs (z : Zn) : List Value := [.int .i64 z.f.x, .int .i64 z.f.y, .int .i64 z.t.x, .int .i64 z.t.y, .int .i64 z.r, .int .i64 z.w]
section
variable {H : Type} {enc : TypeId × Value → H} {w : World} {base : Nat} {spare : Nat → Bool} {held : Bool}
set_option maxRecDepth 50000 in
theorem dec_zone (n : Nat) (cs : List Value) (x) (h : DataW.trod enc Try.prog w base spare held n 44 cs = some x) : ∃ a : Zn, cs = a.cs ∧ True := by
  obtain ⟨ys, n', _, _, hlen, hyl, hf⟩ := DataW.trod_struct Try.underlying44 h
  have hl : cs.length = 6 := hlen.trans (by kernel_rfl)
  match cs, hl with
  | [c0, c1, c2, c3, c4, c5], _ =>
    have h0 := hf 0 _ rfl
    have h1 := hf 1 _ rfl
    have h2 := hf 2 _ rfl
    have h3 := hf 3 _ rfl
    rw [List.getElem?_eq_getElem (show 0 < ys.length by rw [hyl]; decide)] at h0
    rw [List.getElem?_eq_getElem (show 1 < ys.length by rw [hyl]; decide)] at h1
    rw [List.getElem?_eq_getElem (show 2 < ys.length by rw [hyl]; decide)] at h2
    rw [List.getElem?_eq_getElem (show 3 < ys.length by rw [hyl]; decide)] at h3
    have hc0 : Try.prog.cellsOf 24 = 2 := by kernel_rfl
    have hc1 : Try.prog.cellsOf 3 = 1 := by kernel_rfl
    change DataW.trod enc Try.prog w base spare held n' 24 (([c0, c1, c2, c3, c4, c5].drop 0).take (Try.prog.cellsOf 24)) = _ at h0
    change DataW.trod enc Try.prog w base spare held n' 24 (([c0, c1, c2, c3, c4, c5].drop 2).take (Try.prog.cellsOf 24)) = _ at h1
    change DataW.trod enc Try.prog w base spare held n' 3 (([c0, c1, c2, c3, c4, c5].drop 4).take (Try.prog.cellsOf 3)) = _ at h2
    change DataW.trod enc Try.prog w base spare held n' 3 (([c0, c1, c2, c3, c4, c5].drop 5).take (Try.prog.cellsOf 3)) = _ at h3
    rw [hc0] at h0 h1
    rw [hc1] at h2 h3
    have k0 : DataW.trod enc Try.prog w base spare held n' 24 [c0, c1] = some _ := h0
    have k1 : DataW.trod enc Try.prog w base spare held n' 24 [c2, c3] = some _ := h1
    have k2 : DataW.trod enc Try.prog w base spare held n' 3 [c4] = some _ := h2
    have k3 : DataW.trod enc Try.prog w base spare held n' 3 [c5] = some _ := h3
    obtain ⟨⟨ax, ay⟩, e, _⟩ := dec_spot _ _ _ k0
    obtain ⟨⟨bx, bY⟩, e1, _⟩ := dec_spot _ _ _ k1
    obtain ⟨r, e2, _⟩ := dec_int Try.underlying3 _ _ _ k2
    obtain ⟨q, e3, _⟩ := dec_int Try.underlying3 _ _ _ k3
    cases e; cases e1; cases e2; cases e3
    exact ⟨⟨⟨ax, ay⟩, ⟨bx, bY⟩, r, q⟩, rfl, trivial⟩
end
theorem f_FellZones (z : Zn) (A : Option Addr) (l : List Sp) (c : Nat) (B : Option Addr) (m : List Sp) (d : Nat) (ra wi : Int) (w : World) (_ : True) (hl : l.length ≤ maxLen) (hR : Rd Sp.cs 2 w A l) (_ : ∀ x ∈ l, True) (hm : m.length ≤ maxLen) (hS : Rd Sp.cs 2 w B m) (_ : ∀ x ∈ m, True) (_ : (Lit.int .i64 ra).wf = true) (_ : (Lit.int .i64 wi).wf = true) :
    Calls Try.prog 6 #[.agg z.cs.toArray, .slice A l.length c, .slice B m.length d, .int .i64 ra, .int .i64 wi] w fun e w' => e = .returned (.bool true) ∧ Below w.heap.size w w' :=
  l_FellZones z A l c B m d ra wi w hl hR hm hS
end Go.Proofs.Ytkeojokbpjdhpaa
