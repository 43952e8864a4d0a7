/- Slices of the call's own, for whatever element that lies as a fixed number of cells; no program in sight. -/
import Derived.Test.YthklgkgincebhaaGreatDoorKit
import Derived.Maps.AppendAt
import Derived.Laws.AppendOwn
namespace Go.Proofs.YthklgkgincebhaaGreatDoor
open Go.RowKit

section
variable {α : Type} {enc : α → List Value} {sz : Nat} {w W W' : World} {base : Nat} {e : TypeId} {v : Value} {l : List α}
def fl (enc : α → List Value) (l : List α) : List Value := l.flatMap enc
theorem fl_nil : fl enc [] = [] := rfl
theorem fl_snoc (l : List α) (x : α) : fl enc (l ++ [x]) = fl enc l ++ enc x := by simp [fl]
theorem fl_length (h : ∀ a, (enc a).length = sz) (l : List α) : (fl enc l).length = l.length * sz := by
  induction l with
  | nil => simp [fl]
  | cons x l ih =>
    have : fl enc (x :: l) = enc x ++ fl enc l := rfl
    rw [this, List.length_append, h, ih, List.length_cons, Nat.add_mul, Nat.one_mul, Nat.add_comm]
theorem fl_get (h : ∀ a, (enc a).length = sz) {l : List α} {k : Nat} {x : α} {r : Nat} {u : Value} (hx : l[k]? = some x) (hu : (enc x)[r]? = some u) : (fl enc l)[k * sz + r]? = some u := by
  have hr : r < sz := by
    rcases Nat.lt_or_ge r sz with h1 | h1
    · exact h1
    · rw [List.getElem?_eq_none (by rw [h]; exact h1)] at hu; cases hu
  induction l generalizing k with
  | nil => simp at hx
  | cons y l ih =>
    have hc : fl enc (y :: l) = enc y ++ fl enc l := rfl
    rw [hc]
    cases k with
    | zero =>
      cases hx
      rw [Nat.zero_mul, Nat.zero_add, List.getElem?_append_left (by rw [h]; exact hr)]; exact hu
    | succ k =>
      have e : (k + 1) * sz + r = sz + (k * sz + r) := by rw [Nat.add_mul, Nat.one_mul]; omega
      rw [e, List.getElem?_append_right (by rw [h]; omega), h, Nat.add_sub_cancel_left]
      exact ih hx
/-- such a slice reads as its list -/
theorem own_rd (h : ∀ a, (enc a).length = sz) (hw : W.ownsRow base e sz v l.length (fl enc l)) : ∃ A c, v = .slice A l.length c ∧ Rd enc sz W A l := by
  rcases hw.2 with ⟨rfl, h0⟩ | ⟨g, cap, cur, rfl, hB, hh, h1, h2, h3, h4⟩
  · exact ⟨none, 0, by rw [h0], fun hne => absurd (List.eq_nil_of_length_eq_zero h0) hne⟩
  · refine ⟨_, _, rfl, fun _ => ⟨g, 0, rfl, lt_of_block hh, fun k x hx r u hu => ?_⟩⟩
    have h5 := fl_get h hx hu
    have hlt : k * sz + r < l.length * sz := by
      have := (List.getElem?_eq_some_iff.1 h5).1
      rwa [fl_length h] at this
    rw [← h4, List.getElem?_take, if_pos hlt, Array.getElem?_toList] at h5
    simp only [World.cell?, hh]
    rw [Nat.zero_add]
    exact h5
theorem own_rd' (h : ∀ a, (enc a).length = sz) {A : Option Addr} {c : Nat} (hw : W.ownsRow base e sz (.slice A l.length c) l.length (fl enc l)) : Rd enc sz W A l := by
  obtain ⟨A', c', hv, hr⟩ := own_rd h hw
  cases hv
  exact hr
theorem own_slice {k : Nat} {xs : List Value} (h : W.ownsRow base e sz v k xs) : ∃ a c, v = .slice a k c := by
  rcases h.2 with ⟨rfl, rfl⟩ | ⟨g, cap, _, rfl, _⟩ <;> exact ⟨_, _, rfl⟩
theorem own_ge {k : Nat} {xs : List Value} (h : W.ownsRow base e sz v k xs) : ∀ b, v.ownBlock = some b → base ≤ b ∧ b < W.heap.size := fun b hb => by
  rcases h.2 with ⟨rfl, h0⟩ | ⟨g', cap, cur, rfl, hB, hh, h1, h2, h3, h4⟩
  · cases hb
  · cases hb; exact ⟨hB, lt_of_block hh⟩
theorem own_base {base' k : Nat} {xs : List Value} (h : W.ownsRow base e sz v k xs) (hb : base' ≤ base) : W.ownsRow base' e sz v k xs := by
  refine ⟨h.1, ?_⟩
  rcases h.2 with ⟨rfl, h0⟩ | ⟨g', cap, cur, rfl, hB, hh, h1, h2, h3, h4⟩
  · exact .inl ⟨rfl, h0⟩
  · exact .inr ⟨g', cap, cur, rfl, by omega, hh, h1, h2, h3, h4⟩
theorem own_on {k : Nat} {xs : List Value} (h : W.ownsRow base e sz v k xs) (hb : Below W.heap.size W W') : W'.ownsRow base e sz v k xs := by
  refine ⟨h.1, ?_⟩
  rcases h.2 with ⟨rfl, h0⟩ | ⟨g', cap, cur, rfl, hB, hh, h1, h2, h3, h4⟩
  · exact .inl ⟨rfl, h0⟩
  · exact .inr ⟨g', cap, cur, rfl, hB, (hb.block g' (lt_of_block hh)).trans hh, h1, h2, h3, h4⟩
theorem own_far {k : Nat} {xs : List Value} {p : Addr} {u : Value} (h : W.ownsRow base e sz v k xs) (hp : ∀ b, v.ownBlock = some b → b ≠ p.block) : (W.setCell p u).ownsRow base e sz v k xs := by
  refine ⟨h.1, ?_⟩
  rcases h.2 with ⟨rfl, h0⟩ | ⟨g', cap, cur, rfl, hB, hh, h1, h2, h3, h4⟩
  · exact .inl ⟨rfl, h0⟩
  · exact .inr ⟨g', cap, cur, rfl, hB, (Below.heap_setCell _ _ _ _ (hp g' rfl)).trans hh, h1, h2, h3, h4⟩
theorem own_drew {k : Nat} {xs : List Value} (h : W.ownsRow base e sz v k xs) : W.drew.ownsRow base e sz v k xs := h
theorem own_drewN {k n : Nat} {xs : List Value} (h : W.ownsRow base e sz v k xs) : (W.drewN n).ownsRow base e sz v k xs := h
theorem bl_grown {B : Nat} {a w w' : World} {row : Option Nat} (h : Below B a w) (k : w.grownBy w' row) (hr : ∀ r, row = some r → B ≤ r) (hB : B ≤ w.heap.size) : Below B a w' :=
  h.trans ⟨k.os, k.tape, k.output, k.size, fun b hb => k.block b (by omega) (fun e => by have := hr b e.symm; omega)⟩
/-- Below the call's own blocks all stays as it was, behind an append of the call's own. -/
theorem bl_app {B : Nat} {w w1 w2 : World} {o : Obj} {k : Nat} {xs : List Value} (h : Below B w w1) (hown : w1.ownsRow base e sz v k xs) (hg : (w1.alloc o).grownBy w2 v.ownBlock) (hB : B ≤ base) (hs : B ≤ w1.heap.size) : Below B w w2 :=
  bl_grown (h.alloc hs o) hg (fun r hr => Nat.le_trans hB (own_ge hown r hr).1) (by rw [World.size_alloc]; omega)
theorem bl_app0 {B : Nat} {w w1 w2 : World} {k : Nat} {xs : List Value} (h : Below B w w1) (hown : w1.ownsRow base e sz v k xs) (hg : w1.grownBy w2 v.ownBlock) (hB : B ≤ base) (hs : B ≤ w1.heap.size) : Below B w w2 :=
  bl_grown h hg (fun r hr => Nat.le_trans hB (own_ge hown r hr).1) hs
theorem Blk.grown {g : Nat} {t : TypeId} {cs : Array Value} {row : Option Nat} (h : Blk W g t cs) (k : W.grownBy W' row) (hn : some g ≠ row) : Blk W' g t cs := (k.block g h.lt hn).trans h
theorem own_ne {g k : Nat} {xs : List Value} (h : W.ownsRow base e sz v k xs) (hg : g < base) : some g ≠ v.ownBlock := fun hb => by
  have := (own_ge h g hb.symm).1; omega
/-- the cells of a block that was just laid -/
theorem cells_new (w : World) (cs : List Value) (t : TypeId) : ∀ (j : Nat) u, cs[j]? = some u → (w.alloc (.cells cs.toArray t)).cell? ((⟨w.heap.size, 0, none⟩ : Addr).add j) = some u := fun j u hj => by
  have hb : Blk (w.alloc (.cells cs.toArray t)) w.heap.size t cs.toArray := Blk.new w t _
  have := hb.cell j
  rw [show (⟨w.heap.size, 0, none⟩ : Addr).add j = ⟨w.heap.size, j, none⟩ by unfold Addr.add; split <;> simp_all, this]
  simpa using hj
end
theorem calls_bel {P : Program} {f : FuncId} {args : Array Value} {w : World} {v : Value} (c : Calls P f args w fun e w' => e = .returned v ∧ w = w') : Calls P f args w fun e w' => e = .returned v ∧ Below w.heap.size w w' :=
  c.mono fun _ _ ⟨he, hw⟩ => ⟨he, by rw [← hw]; exact below_refl _⟩
section
variable {α : Type} {enc : α → List Value} {sz : Nat}
theorem fl_at (h : ∀ a, (enc a).length = sz) {l : List α} {j : Nat} {u : Value} (hj : (fl enc l)[j]? = some u) : ∃ (k : Nat) (x : α) (r : Nat), j = k * sz + r ∧ l[k]? = some x ∧ (enc x)[r]? = some u := by
  induction l generalizing j with
  | nil => simp [fl] at hj
  | cons y l ih =>
    have hc : fl enc (y :: l) = enc y ++ fl enc l := rfl
    rw [hc] at hj
    rcases Nat.lt_or_ge j sz with h1 | h1
    · rw [List.getElem?_append_left (by rw [h]; exact h1)] at hj
      exact ⟨0, y, j, by omega, rfl, hj⟩
    · rw [List.getElem?_append_right (by rw [h]; exact h1), h] at hj
      obtain ⟨k, x, r, e, hx, hu⟩ := ih hj
      exact ⟨k + 1, x, r, by rw [Nat.add_mul, Nat.one_mul]; omega, hx, hu⟩
theorem rd_fl (h : ∀ a, (enc a).length = sz) {w : World} {b off : Nat} {l : List α} (hr : Rd enc sz w (some ⟨b, off, none⟩) l) : ∀ j u, (fl enc l)[j]? = some u → w.cell? ((⟨b, off, none⟩ : Addr).add j) = some u := fun j u hj => by
  obtain ⟨k, x, r, rfl, hx, hu⟩ := fl_at h hj
  obtain ⟨b', off', e, _, hc⟩ := hr.get hx
  cases e
  have := hc r u hu
  rw [show (⟨b, off, none⟩ : Addr).add (k * sz + r) = ⟨b, off + (k * sz + r), none⟩ by unfold Addr.add; split <;> simp_all, ← Nat.add_assoc]
  exact this
theorem own_none (w : World) (t : TypeId) (sz : Nat) : (w.alloc (.cells #[] t)).ownsRow w.heap.size t sz (.slice (some ⟨w.heap.size, 0, none⟩) 0 0) 0 [] :=
  ⟨by simp, .inr ⟨w.heap.size, 0, #[], rfl, Nat.le_refl _, (Blk.new w t #[] : _), Nat.le_refl _, by simp [maxLen], by simp, by simp⟩⟩
/-- the cells of a row hold the list -/
def InRow (enc : α → List Value) (sz : Nat) (cur : Array Value) (l : List α) : Prop := ∀ (k : Nat) (x : α), l[k]? = some x → ∀ (r : Nat) (u : Value), (enc x)[r]? = some u → cur[k * sz + r]? = some u
theorem own_row (h : ∀ a, (enc a).length = sz) {W : World} {base : Nat} {e : TypeId} {v : Value} {l : List α} (hw : W.ownsRow base e sz v l.length (fl enc l)) (h0 : 0 < l.length) :
    ∃ g cap cur, v = .slice (some ⟨g, 0, none⟩) l.length cap ∧ base ≤ g ∧ Blk W g e cur ∧ InRow enc sz cur l := by
  rcases hw.2 with ⟨rfl, h1⟩ | ⟨g, cap, cur, rfl, hB, hh, h1, h2, h3, h4⟩
  · omega
  · refine ⟨g, cap, cur, rfl, hB, hh, fun k x hx r u hu => ?_⟩
    have h5 := fl_get h hx hu
    have hlt : k * sz + r < l.length * sz := by
      have := (List.getElem?_eq_some_iff.1 h5).1
      rwa [fl_length h] at this
    rw [← h4, List.getElem?_take, if_pos hlt, Array.getElem?_toList] at h5
    exact h5
theorem row_rd {W : World} {g : Nat} {e : TypeId} {cur : Array Value} {l : List α} (hb : Blk W g e cur) (hr : InRow enc sz cur l) : Rd enc sz W (some ⟨g, 0, none⟩) l :=
  fun _ => ⟨g, 0, rfl, hb.lt, fun k x hx r u hu => by rw [Nat.zero_add, hb.cell]; exact hr k x hx r u hu⟩
/-- the first k elements turned by f -/
def mixF (f : α → α) (k : Nat) (L : List α) : List α := (L.take k).map f ++ L.drop k
theorem mixF_get {f : α → α} {k : Nat} {L : List α} {x : α} (h : L[k]? = some x) : (mixF f k L)[k]? = some x := by
  have hk := (List.getElem?_eq_some_iff.1 h).1
  unfold mixF
  rw [List.getElem?_append_right (by simp; omega), List.getElem?_drop]
  simp only [List.length_map, List.length_take]
  rw [show k + (k - min k L.length) = k by omega]; exact h
theorem mixF_set {f : α → α} {k : Nat} {L : List α} {x : α} (h : L[k]? = some x) : (mixF f k L).set k (f x) = mixF f (k + 1) L := by
  have hk := (List.getElem?_eq_some_iff.1 h).1
  have hd : L.drop k = x :: L.drop (k + 1) := by
    rw [List.drop_eq_getElem_cons hk]; congr 1
    rw [List.getElem?_eq_getElem hk] at h; exact Option.some.inj h
  unfold mixF
  rw [List.set_append_right _ _ (by simp; omega), hd, List.take_add_one, h]
  simp only [List.length_map, List.length_take, Option.toList_some, List.map_append, List.map_cons, List.map_nil, List.append_assoc]
  rw [show k - min k L.length = 0 by omega]; rfl
theorem mixF_zero (f : α → α) (L : List α) : mixF f 0 L = L := by simp [mixF]
theorem mixF_all (f : α → α) (L : List α) : mixF f L.length L = L.map f := by simp [mixF]
end
def zC (n : Int) : List Value := [.int .i64 n]
theorem zC_len (n : Int) : (zC n).length = 1 := rfl
def nC (n : Nat) : List Value := [.int .i64 (n : Int)]
theorem nC_len (n : Nat) : (nC n).length = 1 := rfl
theorem rd_int {w : World} {A : Option Addr} {l : List Int} (h : Rd zC 1 w A l) {k : Nat} (hk : k < l.length) :
    ∃ x b off, l[k]? = some x ∧ A = some ⟨b, off, none⟩ ∧ b < w.heap.size ∧ w.cell? ⟨b, off + k, none⟩ = some (.int .i64 x) := by
  obtain ⟨x, hx⟩ := get_lt hk
  obtain ⟨b, off, e, hb, hc⟩ := h.get hx
  have := hc 0 _ rfl
  rw [Nat.mul_one, Nat.add_zero] at this
  exact ⟨x, b, off, hx, e, hb, this⟩
end Go.Proofs.YthklgkgincebhaaGreatDoor
