/- Fell: the hull of the program. -/
import Derived.Test.YthklgkgincebhaaGreatDoorFn
set_option linter.unusedSimpArgs false
set_option linter.unusedVariables false
namespace Go.Proofs.YthklgkgincebhaaGreatDoor
open Go.RowKit Go.Shelf

theorem c_Values (A : Option Addr) (n c : Nat) (w : World) : Calls Tryz.prog 65 #[.slice A n c] w fun e w' => e = .returned (.func (.func 84) #[] #[.pointer (some ⟨w.heap.size, 0, none⟩)]) ∧ w.alloc (.cells #[.slice A n c] 63) = w' := by
  go_enter Tryz.func65, Tryz.ntmps65
  go_wp2
  go_ret
  exact ⟨rfl, rfl⟩
theorem enters_val : ∀ args w, (callFunc 84 args).run Tryz.prog w = .ok (.enter 84 args) w := enters_of Tryz.func84 (by kernel_rfl) rfl
/-- an own list of spots -/
def OwnP (base : Nat) (w' : World) (v : Value) (l : List Sp) : Prop := w'.ownsRow base 32 2 v l.length (fl Sp.cs l)
theorem c_Collect (b1 : Nat) (A : Option Addr) (l : List Sp) (c : Nat) (w : World) (hl : l.length ≤ 100000) (hb1 : Blk w b1 63 #[.slice A l.length c]) (hR : Rd Sp.cs 2 w A l) :
    Calls Tryz.prog 82 #[.func (.func 84) #[] #[.pointer (some ⟨b1, 0, none⟩)]] w fun e w' => ∃ v, e = .returned v ∧ OwnP w.heap.size w' v l ∧ Below w.heap.size w w' := by
  have HA := Lib.hid (c_AppendSeq 84 #[.pointer (some ⟨b1, 0, none⟩)] l (fun b => b = b1 ∨ ∃ ad, A = some ad ∧ l ≠ [] ∧ ad.block = b) w enters_val
    (by
      rintro b (rfl | ⟨ad, e, hne, rfl⟩)
      · exact hb1.lt
      · obtain ⟨b', off', e', hlt, _⟩ := hR hne
        rw [e] at e'; cases e'; exact hlt) hl
    (fun n h1 => val_seq n h1 b1 A l c _ w hl hb1 hR (.inl rfl) (fun ad e hne => .inr ⟨ad, e, hne, rfl⟩)))
  clear hb1 hR
  go_enter Tryz.func82, Tryz.ntmps82
  go_wp2_with fail
  refine HA.out.mono ?_
  rintro e w1 ⟨v, rfl, ho, hb⟩
  have HO := Lib.hid ho
  clear ho
  go_wp2
  go_ret
  exact ⟨v, rfl, HO.out, hb⟩
theorem c_SortedFunc (b1 : Nat) (A : Option Addr) (l : List Sp) (c : Nat) (w : World) (h12 : l.length ≤ 24) (hbd : ∀ x ∈ l, Bd 10000 x) (hnd : l.Nodup) (hb1 : Blk w b1 63 #[.slice A l.length c]) (hR : Rd Sp.cs 2 w A l) :
    Calls Tryz.prog 64 #[.func (.func 84) #[] #[.pointer (some ⟨b1, 0, none⟩)], .func (.func 66) #[] #[]] w fun e w' => ∃ v s, e = .returned v ∧ s.Perm l ∧ Asc s ∧ OwnP w.heap.size w' v s ∧ Below w.heap.size w w' := by
  have HC := Lib.hid (c_Collect b1 A l c w (by omega) hb1 hR)
  have HS := Lib.hid (fun v W ho => c_Sort w.heap.size v l W h12 hbd hnd ho)
  clear hb1 hR hbd hnd
  go_enter Tryz.func64, Tryz.ntmps64
  go_wp2_with fail
  refine HC.out.mono ?_
  rintro e w1 ⟨v, rfl, ho, hb⟩
  have HS1 := Lib.hid (HS.out v w1 ho)
  have HG := Lib.hid (own_ge ho)
  clear ho HS HC
  go_wp2_with fail
  refine HS1.out.mono ?_
  rintro e w2 ⟨rfl, s, hp, ha, ho2, hst⟩
  have HO := Lib.hid ho2
  have HB := Lib.hid (hb.trans (hst.toBelow (B := w.heap.size) hb.size (fun b hb' e => by have := (HG.out b e).1; omega)))
  have HP := Lib.hid hp
  have HA := Lib.hid ha
  clear ho2 hst hp ha HS1 hb
  go_wp2
  go_ret
  exact ⟨v, s, rfl, HP.out, HA.out, HO.out, HB.out⟩
theorem c_Reverse (base : Nat) (v : Value) (s : List Sp) (w : World) (hpos : 0 < s.length) (hsl : s.length ≤ 100000) (hown : w.ownsRow base 32 2 v s.length (fl Sp.cs s)) :
    Calls Tryz.prog 70 #[v] w fun e w' => e = .returned noResult ∧ OwnP base w' v s.reverse ∧ Stp (fun b => v.ownBlock = some b) w w' := by
  obtain ⟨g, cap, cur, rfl, hg, hb, hr⟩ := own_row Sp.cs_len hown hpos
  have hH := holds_row hb hr
  have hcon := AnyQ.slices_Reverse Tryz.revSp 2 Tryz.isAgg32 Tryz.sizeOf32 Sp.cs (fun _ => rfl) spC_one g 0 cap s.toArray w hH (by rw [List.size_toArray]; omega)
  have hcon' : Calls Tryz.prog 70 #[.slice (some ⟨g, 0, none⟩) s.length cap] w _ := hcon
  refine hcon'.mono ?_
  rintro e w' ⟨rfl, n, rfl⟩
  have hw : Go.Sort.putRowK Sp.cs 2 (Go.Sort.ahead w n) g 0 s.toArray.reverse = Go.Proofs.sortWorldK Sp.cs 2 w g 0 n s.toArray.reverse #[] := by unfold Go.Proofs.sortWorldK; rw [Go.Sort.grow_empty]
  rw [hw]
  obtain ⟨cur', c1, c2, c3, c4⟩ := sorted_world (m := n) hb s.toArray s.toArray.reverse #[] (by simp) hH
  obtain ⟨cur2, b2, s2, _, _, _⟩ := blk_own hown
  have ecur : cur2 = cur := by
    have q1 : w.heap[g]? = some (.cells cur2 32 (0, 0)) := b2
    have q2 : w.heap[g]? = some (.cells cur 32 (0, 0)) := hb
    rw [q1] at q2
    injection q2 with q2
    injection q2
  refine ⟨rfl, ?_, c4.mono fun b _ hb => by subst hb; rfl⟩
  have c3' : InRow Sp.cs 2 cur' s.reverse := by simpa using c3
  have := own_turned Sp.cs_len hown (s := s.reverse) (by simp) c2 (by rw [c1, ← ecur]; exact s2) c3'
  unfold OwnP
  rw [List.length_reverse]; exact this
end Go.Proofs.YthklgkgincebhaaGreatDoor
