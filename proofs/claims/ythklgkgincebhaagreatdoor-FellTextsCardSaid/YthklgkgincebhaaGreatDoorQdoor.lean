/- The door's own heap meets what the rows list; from what they list, and from the world's shape, to what the library's variables hold. -/
import Derived.Test.YthklgkgincebhaaGreatDoorRows
import Derived.Test.YthklgkgincebhaaGreatDoorTie
import Derived.Test.YthklgkgincebhaaGreatDoorQd
import Derived.ProofKit
import Derived.LaidMore
import Derived.OpenShut
import Derived.Stop.Joined
import Derived.SevenTiedAt
import Derived.MakeChecks
import Derived.Lib.LaidTab
import Derived.Lay
import Derived.HandedShaped
import Derived.Shelf.Vars
set_option linter.unusedSimpArgs false
set_option linter.unusedVariables false
namespace Go.Proofs.YthklgkgincebhaaGreatDoor
open Go.ChangeShapes Go.WideShapes Go.ChangeAt Go.RowKit Tx

def laidL : List (String × DataW Unit) := [("math/bits.deBruijn32tab", Rows.laid_math_bits_deBruijn32tab), ("math/bits.deBruijn64tab", Rows.laid_math_bits_deBruijn64tab), ("internal/strconv.uint64pow10", Rows.laid_internal_strconv_uint64pow10), ("unicode/utf8.acceptRanges", Rows.laid_unicode_utf8_acceptRanges), ("strconv.ErrRange", Rows.laid_strconv_ErrRange), ("strconv.ErrSyntax", Rows.laid_strconv_ErrSyntax), ("unicode/utf8.first", Rows.laid_unicode_utf8_first)]
set_option maxRecDepth 100000 in
theorem door_met (os : Os) (args : Array Value) : laidMetH Tryz.prog laidL ((World.laidAll Tryz.prog os laidL).forCall (fun _ _ => 0) ⟨#[], args, []⟩).memory := by
  rw [MakeChecks.laidMetH_plain _ _ _ (by kernel_rfl)]
  exact laidMet_laidAll _ (by kernel_rfl) (by kernel_rfl)
theorem pow_data : Rows.laid_internal_strconv_uint64pow10 = (Lib.tabData .u64 Lib.pow10Tab : DataW Unit) := rfl
/-- what the rows list says that the table of powers lies there -/
theorem of_laid {W : World} (h : laidMetH Tryz.prog laidL W) : TabP W := by
  rw [MakeChecks.laidMetH_plain _ _ _ (by kernel_rfl)] at h
  obtain ⟨_, ⟨_, _, _, _, _, _, _, _, _, _, h2, _⟩, _⟩ := h
  obtain ⟨_, _, _, _, _, _, _, _, _, _, h3, _⟩ := h2
  obtain ⟨g', t', cs, fuel, p, q, hg', ht', hvar, hd, _, _⟩ := h3
  obtain rfl := Option.some.inj ((show Tryz.prog.globalNamed "internal/strconv.uint64pow10" = some 3 by kernel_rfl).symm.trans hg')
  obtain rfl := Option.some.inj ((show (Tryz.prog.globals[3]?).map (·.type) = some 135 by kernel_rfl).symm.trans ht')
  unfold TabP Lib.TabIs
  rw [pow_data] at hd
  rw [hvar, ← Lib.cells_of_tab (n := 20) (e := 107) (by kernel_rfl) (by kernel_rfl) (by kernel_rfl) (by kernel_rfl) hd]
theorem lv_tail {P : Program} {W : World} {n : String} {d : DataW Unit} {r : List (String × DataW Unit)} {ps : List MemPlace} (h : DataW.LaidVars P W ((n, d) :: r) ps) : ∃ q, DataW.LaidVars P W r q := by
  obtain ⟨_, _, _, _, _, q, _, _, _, _, hr, _⟩ := h
  exact ⟨q, hr⟩
/-- a listed error is a value of an interface's type -/
theorem iface_var {W : World} {n nm : String} {g : Nat} {d : DataW Unit} {r : List (String × DataW Unit)} (hg : Tryz.prog.globalNamed n = some g) (hty : (Tryz.prog.globals[g]?).map (·.type) = some 47)
    {ps : List MemPlace} (h : DataW.LaidVars Tryz.prog W ((n, .iface nm d) :: r) ps) : ∃ ev, W.cell? ⟨g, 0, none⟩ = some ev ∧ (ev = .nilIface ∨ ∃ te pe, ev = .iface te pe) := by
  obtain ⟨g', t', cs, fuel, p, q, hg', ht', hvar, hd, _, _⟩ := h
  obtain rfl := Option.some.inj (hg.symm.trans hg')
  obtain rfl := Option.some.inj (hty.symm.trans ht')
  obtain ⟨_, u, v, hcs, _, _⟩ := iface_of_trod Tryz.underlying47 hd
  have h0 := World.var?_cell hg hvar 0
  refine ⟨.iface u v, ?_, .inr ⟨u, v, rfl⟩⟩
  rw [h0]
  have : cs[0]? = cs.toList[0]? := by simp
  rw [this, hcs]; rfl
/-- what the library's variables hold, from what is listed and from the world's shape -/
theorem ld_of {W : World} (h : laidMetH Tryz.prog laidL W) (hs : W.ShapedOpen Tryz.prog) : LdW W := by
  have h1 := h
  rw [MakeChecks.laidMetH_plain _ _ _ (by kernel_rfl)] at h1
  unfold laidL at h1
  obtain ⟨_, h1, _⟩ := h1
  obtain ⟨_, h1⟩ := lv_tail h1
  obtain ⟨_, h1⟩ := lv_tail h1
  obtain ⟨_, h1⟩ := lv_tail h1
  obtain ⟨_, h1⟩ := lv_tail h1
  obtain ⟨_, h2⟩ := lv_tail h1
  exact ⟨of_laid h,
    Go.Proofs.cell_of_shapedOpen_int (t := 3) (zero := #[.int .i64 0]) hs (of_decide_eq_true (by kernel_rfl)) (by kernel_rfl) rfl (by kernel_rfl) (by kernel_rfl) (by kernel_rfl),
    iface_var (by kernel_rfl) (by kernel_rfl) h2,
    iface_var (by kernel_rfl) (by kernel_rfl) h1⟩
variable {H : Type} {enc : TypeId × Value → H}
set_option maxRecDepth 100000 in
/-- a law's row, from its contract at a world that has the program's shape and holds what the row lists -/
theorem ret_ls {os : Os} {f : FuncId} {fn : Func} {s : ChangeSpec}
    (own : ownKnob Tryz.checked.prog.godebug = none) (started : os.Started) (noInit : Tryz.checked.prog.inits.idxOf? f = none) (hfn : Tryz.checked.prog.funcs[f]? = some fn)
    (witness : ∃ (w : World) (tape : Tape) (i : Input), w.os = os ∧ (w.forCall tape i).Shaped Tryz.checked.prog ∧ i.vars = [] ∧ Input.okWide Tryz.checked.prog (w.forCall tape i) .any w.heap.size f i ∧
      ((s.pre enc Tryz.checked.prog fn [] false (w.forCall tape i).memory i.args ∧ laidMetH Tryz.checked.prog laidL (w.forCall tape i).memory) ∧ sizedMet enc Tryz.checked.prog fn (OpenSpec.ofChange s) false (w.forCall tape i).memory i.args) ∧
      Assume.holds {} Tryz.checked.prog (lone (Frame.enter Tryz.checked.prog f i.args .normal) [] (w.forCall tape i)))
    (contract : ∀ (W : World) (base : Nat) (args : Array Value) (ds gs : List (DataW H)) (before : List MemPlace),
      (∀ (j : Nat) t v, fn.params[j]? = some t → args[j]? = some v → Value.okWide Tryz.checked.prog W .any base t v) →
      DataW.Whole enc Tryz.checked.prog fn.params.toList s.vars false W args.toList ds gs before → laidMetH Tryz.checked.prog laidL W → W.ShapedOpen Tryz.checked.prog →
      Calls Tryz.checked.prog f args W fun e W' => ∃ v, e = .returned v ∧ s.post enc Tryz.checked.prog fn false true false false W args v W') :
    ReturnsInHanded {} Tryz.checked os f .any (fun w args => (s.pre enc Tryz.checked.prog fn [] false w args ∧ laidMetH Tryz.checked.prog laidL w) ∧ sizedMet enc Tryz.checked.prog fn (OpenSpec.ofChange s) false w args) (s.post enc Tryz.checked.prog fn false true false false) := by
  refine returnsInHanded_of_calls own started noInit witness ?_
  intro w tape i _ hsh _ hok hpre _
  obtain ⟨_, _, _, fn', hfn', _, _, _, _, hval⟩ := hok
  obtain rfl : fn' = fn := Option.some.inj (hfn'.symm.trans hfn)
  obtain ⟨⟨⟨ds, gs, before, hw, _⟩, hx⟩, _⟩ := hpre
  refine (contract (w.forCall tape i) w.heap.size i.args ds gs before hval (DataW.Whole.of_heap (w' := w.forCall tape i) (by rfl) hw) (laidMetH.of_heap (w' := w.forCall tape i) (by rfl) hx) hsh).mono fun e W' hq => ?_
  obtain ⟨v, rfl, hp⟩ := hq
  exact ChangeSpec.post_blind hp
end Go.Proofs.YthklgkgincebhaaGreatDoor
