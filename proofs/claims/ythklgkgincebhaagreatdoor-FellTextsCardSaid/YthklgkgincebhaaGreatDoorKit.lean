/- Small lemmas on readings of slices, on endings and on worlds; no program in sight. -/
import Derived.WalkKit
import Derived.Lib.Hide
import Derived.BigQuiet
import Derived.Deep.QuietTactic
import Derived.IntWalk
namespace Go.Proofs.YthklgkgincebhaaGreatDoor
open Go.RowKit

theorem ret_bool {a b : Bool} (h : a = b) : Ending.returned (.bool a) = .returned (.bool b) := by rw [h]
theorem ret_int {k : IntKind} {a b : Int} (h : a = b) : Ending.returned (.int k a) = .returned (.int k b) := by rw [h]
theorem ret_tup2 {a b c d : Value} (h : a = b) (h' : c = d) : Ending.returned (.tuple #[a, c]) = .returned (.tuple #[b, d]) := by rw [h, h']
theorem ret_tup3 {a b c d x y : Value} (h : a = b) (h' : c = d) (h'' : x = y) : Ending.returned (.tuple #[a, c, x]) = .returned (.tuple #[b, d, y]) := by rw [h, h', h'']
theorem int_eq {k : IntKind} {a b : Int} (h : a = b) : Value.int k a = .int k b := by rw [h]

/-- The slice at A reads as the list l: each element lies as its cells. -/
def Rd {α : Type} (enc : α → List Value) (sz : Nat) (w : World) (A : Option Addr) (l : List α) : Prop :=
  l ≠ [] → ∃ b off, A = some ⟨b, off, none⟩ ∧ b < w.heap.size ∧ ∀ k x, l[k]? = some x → ∀ j v, (enc x)[j]? = some v → w.cell? ⟨b, off + k * sz + j, none⟩ = some v

section
variable {α : Type} {enc : α → List Value} {sz : Nat} {w w' : World} {A : Option Addr} {l : List α}
theorem Rd.nil_ : Rd enc sz w A [] := fun h => absurd rfl h
theorem Rd.get (h : Rd enc sz w A l) {k : Nat} {x : α} (hx : l[k]? = some x) :
    ∃ b off, A = some ⟨b, off, none⟩ ∧ b < w.heap.size ∧ ∀ j v, (enc x)[j]? = some v → w.cell? ⟨b, off + k * sz + j, none⟩ = some v := by
  have hne : l ≠ [] := by rintro rfl; simp at hx
  obtain ⟨b, off, e, hb, hc⟩ := h hne
  exact ⟨b, off, e, hb, hc k x hx⟩
theorem Rd.below {B : Nat} (h : Rd enc sz w A l) (hb : Below B w w') (hB : w.heap.size ≤ B) : Rd enc sz w' A l := fun hne => by
  obtain ⟨b, off, e, hlt, hc⟩ := h hne
  exact ⟨b, off, e, Nat.lt_of_lt_of_le hlt hb.size, fun k x hx j v hv => (hb.cell (p := ⟨b, _, none⟩) (show b < B by omega)).trans (hc k x hx j v hv)⟩
theorem Rd.on (h : Rd enc sz w A l) (hb : Below w.heap.size w w') : Rd enc sz w' A l := h.below hb (Nat.le_refl _)
end

theorem below_refl (w : World) : Below w.heap.size w w := Below.refl _ w
theorem below_alloc (w : World) (o : Obj) : Below w.heap.size w (w.alloc o) := (Below.refl _ w).alloc (Nat.le_refl _) o
theorem below_tr {w w1 w2 : World} (h : Below w.heap.size w w1) (k : Below w1.heap.size w1 w2) : Below w.heap.size w w2 := h.trans (k.mono h.size)
/-- All old cells and marks read as before. -/
theorem bcell {W w1 : World} (hb : Below W.heap.size W w1) : (∀ b o, b < W.heap.size → w1.cell? ⟨b, o, none⟩ = W.cell? ⟨b, o, none⟩) ∧ (∀ b o, b < W.heap.size → w1.frozen? ⟨b, o, none⟩ = W.frozen? ⟨b, o, none⟩) :=
  ⟨fun b o h => hb.cell (p := ⟨b, o, none⟩) h, fun b o h => hb.frozen (p := ⟨b, o, none⟩) h⟩
theorem get_lt {α : Type} {l : List α} {k : Nat} (h : k < l.length) : ∃ x, l[k]? = some x := ⟨l[k], List.getElem?_eq_getElem h⟩

/-- first index of an element that answers; -1 if there is none -/
def idxOf {α : Type} (p : α → Bool) : List α → Nat → Int
  | [], _ => -1
  | x :: l, k => if p x then (k : Int) else idxOf p l (k + 1)
theorem idxOf_drop {α : Type} (p : α → Bool) (l : List α) (k : Nat) (x : α) (h : l[k]? = some x) : idxOf p (l.drop k) k = if p x then (k : Int) else idxOf p (l.drop (k + 1)) (k + 1) := by
  have hk : k < l.length := by
    rcases Nat.lt_or_ge k l.length with h1 | h1
    · exact h1
    · rw [List.getElem?_eq_none h1] at h; cases h
  rw [List.drop_eq_getElem_cons hk]
  rw [List.getElem?_eq_getElem hk] at h
  cases h
  rfl
theorem idxOf_nonneg {α : Type} (p : α → Bool) (l : List α) (k : Nat) : (0 ≤ idxOf p l k) ↔ l.any p = true := by
  induction l generalizing k with
  | nil => simp [idxOf]
  | cons x l ih => 
    simp only [idxOf, List.any_cons]
    cases h : p x
    · simp [ih (k + 1)]
    · simp
/-- A block that is known whole. -/
def Blk (w : World) (g : Nat) (t : TypeId) (cs : Array Value) : Prop := w.heap[g]? = some (.cells cs t (0, 0))
section
variable {w w' : World} {g : Nat} {t : TypeId} {cs : Array Value}
theorem Blk.lt (h : Blk w g t cs) : g < w.heap.size := lt_of_block h
theorem Blk.cell (h : Blk w g t cs) (i : Nat) : w.cell? ⟨g, i, none⟩ = cs[i]? := by
  unfold Blk at h; simp [World.cell?, h]
theorem Blk.frozen (h : Blk w g t cs) (i : Nat) : w.frozen? ⟨g, i, none⟩ = false := by
  unfold Blk at h; simp [World.frozen?, h]
theorem Blk.new (w : World) (t : TypeId) (cs : Array Value) : Blk (w.alloc (.cells cs t)) w.heap.size t cs := by
  unfold Blk; show (w.heap.push _)[w.heap.size]? = _; simp
theorem Blk.alloc (h : Blk w g t cs) (o : Obj) : Blk (w.alloc o) g t cs := (Below.heap_alloc w o g h.lt).trans h
theorem Blk.set_ (h : Blk w g t cs) (i : Nat) (u : Value) : Blk (w.setCell ⟨g, i, none⟩ u) g t (cs.setIfInBounds i u) := by
  unfold Blk at h ⊢; simp [World.setCell, Array.getElem?_modify, h]
theorem Blk.far (h : Blk w g t cs) {p : Addr} (hp : g ≠ p.block) (u : Value) : Blk (w.setCell p u) g t cs := (Below.heap_setCell w p u g hp).trans h
theorem Blk.drew (h : Blk w g t cs) : Blk w.drew g t cs := h
theorem Blk.drewN (h : Blk w g t cs) (n : Nat) : Blk (w.drewN n) g t cs := h
theorem Blk.below {B : Nat} (h : Blk w g t cs) (hb : Below B w w') (hg : g < B) : Blk w' g t cs := (hb.block g hg).trans h
end

theorem below_draw {B : Nat} {a w : World} (h : Below B a w) : Below B a w.drew := h.drew
theorem below_drewN {B : Nat} {a w : World} (h : Below B a w) (n : Nat) : Below B a (w.drewN n) := ⟨h.os, h.tape, h.output, h.size, h.block⟩

theorem quiet_left {P : Program} {f : FuncId} {args : Array Value} {w : World} {n : Nat} {v : Value}
    (h : Calls P f args (w.drewN n) fun e w' => e = .returned v ∧ w.drewN n = w') : Calls P f args (w.drewN n) fun e w'' => e = .returned v ∧ ∃ m, w'' = w.drewN m :=
  h.mono fun _ _ ⟨he, hm⟩ => ⟨he, n, hm.symm⟩
section
variable {fn : Func} {p q u v : Tmp} {ty ty' : TypeId} {tmps : Array Value} {P : Program} {w : World} {a a' : Addr} {x x' : Value}
theorem res_c (h : fn.results = #[.cell p ty]) (hp : tmps.getD p undef = .pointer (some a)) (hl : (loadVar ty a).run P w = .ok x w) : (results fn tmps).run P w = .ok x w := by
  simp only [results, h]
  simp at hp
  simp [hp, asAddr, hl]
theorem res_ct (h : fn.results = #[.cell p ty, .tmp u]) (hp : tmps.getD p undef = .pointer (some a)) (hl : (loadVar ty a).run P w = .ok x w) : (results fn tmps).run P w = .ok (.tuple #[x, tmps.getD u undef]) w := by
  simp only [results, h]
  simp at hp
  simp [Result.andThen, hp, asAddr, hl]
theorem res_tct (h : fn.results = #[.tmp v, .cell p ty, .tmp u]) (hp : tmps.getD p undef = .pointer (some a)) (hl : (loadVar ty a).run P w = .ok x w) : (results fn tmps).run P w = .ok (.tuple #[tmps.getD v undef, x, tmps.getD u undef]) w := by
  simp only [results, h]
  simp at hp
  simp [Result.andThen, hp, asAddr, hl]
theorem res_cct (h : fn.results = #[.cell p ty, .cell q ty', .tmp u]) (hp : tmps.getD p undef = .pointer (some a)) (hl : (loadVar ty a).run P w = .ok x w) (hp' : tmps.getD q undef = .pointer (some a')) (hl' : (loadVar ty' a').run P w = .ok x' w) :
    (results fn tmps).run P w = .ok (.tuple #[x, x', tmps.getD u undef]) w := by
  simp only [results, h]
  simp at hp hp'
  simp [Sem.run_bind, Result.andThen, hp, hp', asAddr, hl, hl']
end
end Go.Proofs.YthklgkgincebhaaGreatDoor
