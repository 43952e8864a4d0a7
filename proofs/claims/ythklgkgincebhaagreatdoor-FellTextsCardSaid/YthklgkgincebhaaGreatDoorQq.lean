/- Texts: common: small laws of worlds; what a drawn region with calls keeps. -/
import Derived.Test.YthklgkgincebhaaGreatDoorOwn
import Derived.Test.YthklgkgincebhaaGreatDoorProg
import Derived.WalkLawsBesides
import Derived.Deep.QuietTactic
import Derived.BigQuiet
import Derived.Deep.RegionHeld3
import Derived.Laws.OwnMore
import Derived.ArgAppend
import Derived.Deep.AppendLies
import Derived.StillTail
import Derived.Laws.EntriesVeiled
import Derived.StillTailTactics
set_option linter.unusedSimpArgs false
set_option linter.unusedVariables false
namespace Go.Proofs.YthklgkgincebhaaGreatDoor.Tx
open Go.RowKit

theorem bl_alloc {w W : World} (h : Below w.heap.size w W) (o : Obj) : Below w.heap.size w (W.alloc o) := h.alloc h.size o
theorem sz_drew (w : World) : w.drew.heap.size = w.heap.size := rfl
theorem sz_drewN (w : World) (n : Nat) : (w.drewN n).heap.size = w.heap.size := rfl
theorem kp_of {W w' : World} (h : Below W.heap.size W w') : (∀ b o, b < W.heap.size → w'.cell? ⟨b, o, none⟩ = W.cell? ⟨b, o, none⟩) ∧ (∀ b o, b < W.heap.size → w'.frozen? ⟨b, o, none⟩ = W.frozen? ⟨b, o, none⟩) ∧ Below W.heap.size W w' :=
  ⟨(bcell h).1, (bcell h).2, h⟩
abbrev Kq (W w' : World) : Prop :=
  (∀ b o, b < W.heap.size → w'.cell? ⟨b, o, none⟩ = W.cell? ⟨b, o, none⟩) ∧ (∀ b o, b < W.heap.size → w'.frozen? ⟨b, o, none⟩ = W.frozen? ⟨b, o, none⟩) ∧ Below W.heap.size W w'
section
variable {W w' w'' : World}
theorem kq_of (h : Below W.heap.size W w') : Kq W w' := ⟨(bcell h).1, (bcell h).2, h⟩
theorem kq_refl : Kq W W := kq_of (below_refl _)
theorem kq_draw (h : Kq W w') : Kq W w'.drew := kq_of (below_draw h.2.2)
theorem kq_drewN {n : Nat} (h : Kq W w') : Kq W (w'.drewN n) := kq_of (below_drewN h.2.2 _)
theorem kq_alloc {o : Obj} (h : Kq W w') : Kq W (w'.alloc o) := kq_of (bl_alloc h.2.2 _)
theorem kq_set {p : Addr} {v : Value} (h : Kq W w') (hp : W.heap.size ≤ p.block) : Kq W (w'.setCell p v) := kq_of (h.2.2.setCell hp _)
theorem kq_step (h : Kq W w') (hb : Below w'.heap.size w' w'') : Kq W w'' := kq_of (below_tr h.2.2 hb)
end
theorem fits_wrap {n : Int} (h : -9223372036854775808 ≤ n ∧ n ≤ 9223372036854775807) : IntKind.i64.wrap n = n := by
  simp only [IntKind.wrap, IntKind.bits, IntKind.signed]
  simp
  omega
theorem ret_b {a b : Bool} {W W' : World} {n : Nat} (h : a = b) (hb : Below n W W') : Ending.returned (.bool a) = .returned (.bool b) ∧ Below n W W' := ⟨by rw [h], hb⟩
theorem seq_eq (a b : ByteArray) : (a.toList == b.toList) = decide (a.data.toList = b.data.toList) := by
  rw [ByteArray.toList_eq, ByteArray.toList_eq]
  by_cases h : a.data.toList = b.data.toList
  · rw [decide_eq_true h, h]; simp
  · rw [decide_eq_false h]; simpa using h
theorem at_of {s : ByteArray} {k : Nat} (h : k < s.size) : s.data.toList[k]? = some s[k] := by
  have h' : k < s.data.toList.length := by simpa using h
  rw [List.getElem?_eq_getElem h']; rfl
theorem u8_eq (a b : UInt8) : (((a.toNat : Int)) == (b.toNat : Int)) = decide (a = b) := by
  by_cases h : a = b
  · subst h; simp
  · have : ¬ ((a.toNat : Int) = (b.toNat : Int)) := fun e => h (UInt8.toNat_inj.1 (by omega))
    simp [h, this]
def stG (p : List UInt8) : List Value := [.string ⟨p.toArray⟩]
theorem stG_len (p : List UInt8) : (stG p).length = 1 := rfl
theorem fl_snocG (D : List (List UInt8)) (p : List UInt8) : fl stG (D ++ [p]) = fl stG D ++ stG p := by simp [fl]
theorem info_str1 : ∃ i : TypeInfo, Tryz.prog.info? 9 = some i ∧ i.zero = some (.string ByteArray.empty) ∧ i.size = 1 ∧ i.bytes = 16 := info_parts (by kernel_rfl)
theorem info_int1 : ∃ i : TypeInfo, Tryz.prog.info? 3 = some i ∧ i.zero = some (.int .i64 0) ∧ i.size = 1 ∧ i.bytes = 8 := info_parts (by kernel_rfl)
end Go.Proofs.YthklgkgincebhaaGreatDoor.Tx
