/- Fell: common: small laws of worlds, lists of numbers in blocks, SameInts, ContainsFunc at numbers. -/
import Derived.Test.YthklgkgincebhaaGreatDoorOwn
import Derived.Test.YthklgkgincebhaaGreatDoorRange
import Derived.Test.YthklgkgincebhaaGreatDoorProg
import Derived.WalkLawsBesides
import Derived.Deep.QuietTactic
import Derived.BigQuiet
import Derived.Deep.RegionHeld3
import Derived.Laws.OwnMore
import Derived.ArgAppend
import Derived.Deep.AppendLies
import Derived.StillTail
import Derived.Laws.EntriesVeiled
import Derived.StillTailTactics
set_option linter.unusedSimpArgs false
set_option linter.unusedVariables false
namespace Go.Proofs.YthklgkgincebhaaGreatDoor
open Go.RowKit Go.Shelf

theorem bl_alloc {w W : World} (h : Below w.heap.size w W) (o : Obj) : Below w.heap.size w (W.alloc o) := h.alloc h.size o
theorem sz_drew (w : World) : w.drew.heap.size = w.heap.size := rfl
theorem sz_drewN (w : World) (n : Nat) : (w.drewN n).heap.size = w.heap.size := rfl
theorem wp_world {P : Program} {id : Nat} {ops : Array Oper} {b : Bool} {Q : Exit → Act → World → Prop} {a : Act} {w : World} (h : ∀ W, W = w → (Code.region id ops b).wp P Q a W) : (Code.region id ops b).wp P Q a w := h w rfl
theorem kp_of {W w' : World} (h : Below W.heap.size W w') : (∀ b o, b < W.heap.size → w'.cell? ⟨b, o, none⟩ = W.cell? ⟨b, o, none⟩) ∧ (∀ b o, b < W.heap.size → w'.frozen? ⟨b, o, none⟩ = W.frozen? ⟨b, o, none⟩) ∧ Below W.heap.size W w' :=
  ⟨(bcell h).1, (bcell h).2, h⟩
theorem calls_bool {P : Program} {f : FuncId} {args : Array Value} {w : World} {R : World → Prop} {X v : Bool} (h : X = v) (c : Calls P f args w fun e w' => e = .returned (.bool X) ∧ R w') : Calls P f args w fun e w' => e = .returned (.bool v) ∧ R w' := h ▸ c
theorem ret_b {a b : Bool} {W W' : World} {n : Nat} (h : a = b) (hb : Below n W W') : Ending.returned (.bool a) = .returned (.bool b) ∧ Below n W W' := ⟨by rw [h], hb⟩
def wn (n lo hi : Int) : Bool := decide (lo ≤ n) && decide (n ≤ hi)
theorem wn_iff {n a b : Int} : wn n a b = true ↔ a ≤ n ∧ n ≤ b := by simp [wn]
theorem fits_wrap {n : Int} (h : -9223372036854775808 ≤ n ∧ n ≤ 9223372036854775807) : IntKind.i64.wrap n = n := by
  simp only [IntKind.wrap, IntKind.bits, IntKind.signed]
  simp
  omega
theorem info_int2 : ∃ i : TypeInfo, Tryz.prog.info? 3 = some i ∧ i.zero = some (.int .i64 0) ∧ i.size = 1 ∧ i.bytes = 8 := info_parts (by kernel_rfl)
theorem fl_nz (l : List Nat) : fl nC l = fl zC (l.map fun n : Nat => (n : Int)) := by
  induction l with
  | nil => rfl
  | cons x l ih => simp only [fl, List.map_cons, List.flatMap_cons] at ih ⊢; rw [ih]; rfl
theorem nz_own {w : World} {b : Nat} {v : Value} {l : List Nat} (h : w.ownsRow b 3 1 v l.length (fl nC l)) : w.ownsRow b 3 1 v (l.map fun n : Nat => (n : Int)).length (fl zC (l.map fun n : Nat => (n : Int))) := by
  rw [fl_nz] at h; rwa [List.length_map]
/-- a result of numbers, its length first -/
theorem own_ints {w : World} {b : Nat} {v : Value} {l : List Int} (h : w.ownsRow b 3 1 v l.length (fl zC l)) : ∃ A c, v = .slice A l.length c ∧ Rd zC 1 w A l := own_rd zC_len h
/-- a list of numbers in a block that is known whole -/
def LI (w : World) (g : Nat) (l : List Int) : Prop := ∃ cur, Blk w g 3 cur ∧ InRow zC 1 cur l
theorem LI.lt {w : World} {g : Nat} {l : List Int} (h : LI w g l) : g < w.heap.size := by obtain ⟨_, h, _⟩ := h; exact h.lt
theorem LI.cell {w : World} {g : Nat} {l : List Int} (h : LI w g l) {k : Nat} {x : Int} (hx : l[k]? = some x) : w.cell? ⟨g, k, none⟩ = some (.int .i64 x) := by
  obtain ⟨cur, hb, hr⟩ := h
  have := hr k x hx 0 _ rfl
  rw [Nat.mul_one, Nat.add_zero] at this
  rw [hb.cell]; exact this
theorem LI.frozen {w : World} {g : Nat} {l : List Int} (h : LI w g l) (k : Nat) : w.frozen? ⟨g, k, none⟩ = false := by obtain ⟨_, h, _⟩ := h; exact h.frozen k
theorem LI.rd {w : World} {g : Nat} {l : List Int} (h : LI w g l) : Rd zC 1 w (some ⟨g, 0, none⟩) l := by obtain ⟨_, h, hr⟩ := h; exact row_rd h hr
theorem inrow_set {cur : Array Value} {l : List Int} {k : Nat} {x : Int} (y : Int) (hc : InRow zC 1 cur l) (hx : l[k]? = some x) : InRow zC 1 (cur.setIfInBounds k (.int .i64 y)) (l.set k y) := fun k' z hz r u hu => by
  have hr : r = 0 := by
    rcases Nat.lt_or_ge r 1 with h | h
    · omega
    · rw [List.getElem?_eq_none (by rw [zC_len]; exact h)] at hu; cases hu
  subst hr
  rw [Nat.mul_one, Nat.add_zero]
  have h1 := hc k x hx 0 _ rfl
  rw [Nat.mul_one, Nat.add_zero] at h1
  have l1 := (Array.getElem?_eq_some_iff.1 h1).1
  have hkl : k < l.length := (List.getElem?_eq_some_iff.1 hx).1
  by_cases hk : k = k'
  · subst hk
    rw [List.getElem?_set_self hkl] at hz
    cases hz
    rw [Array.getElem?_setIfInBounds_self_of_lt l1]; exact hu
  · rw [List.getElem?_set_ne hk] at hz
    rw [Array.getElem?_setIfInBounds_ne hk]
    have := hc k' z hz 0 u hu
    rwa [Nat.mul_one, Nat.add_zero] at this
theorem LI.set {w : World} {g : Nat} {l : List Int} (h : LI w g l) {k : Nat} {x : Int} (hx : l[k]? = some x) (y : Int) : LI (w.setCell ⟨g, k, none⟩ (.int .i64 y)) g (l.set k y) := by
  obtain ⟨cur, hb, hr⟩ := h
  exact ⟨_, hb.set_ _ _, inrow_set y hr hx⟩
theorem LI.alloc {w : World} {g : Nat} {l : List Int} (h : LI w g l) (o : Obj) : LI (w.alloc o) g l := by obtain ⟨c, h, hr⟩ := h; exact ⟨c, h.alloc o, hr⟩
theorem LI.far {w : World} {g : Nat} {l : List Int} (h : LI w g l) {p : Addr} (hp : g ≠ p.block) (u : Value) : LI (w.setCell p u) g l := by obtain ⟨c, h, hr⟩ := h; exact ⟨c, h.far hp u, hr⟩
theorem LI.drew {w : World} {g : Nat} {l : List Int} (h : LI w g l) : LI w.drew g l := h
theorem LI.drewN {w : World} {g : Nat} {l : List Int} (h : LI w g l) (n : Nat) : LI (w.drewN n) g l := h
theorem LI.below {w w' : World} {g B : Nat} {l : List Int} (h : LI w g l) (hb : Below B w w') (hg : g < B) : LI w' g l := by obtain ⟨c, h, hr⟩ := h; exact ⟨c, h.below hb hg, hr⟩
theorem LI.on {w w' : World} {g : Nat} {l : List Int} (h : LI w g l) (hb : Below w.heap.size w w') : LI w' g l := h.below hb h.lt
theorem LI.grown {w w' : World} {g : Nat} {l : List Int} {row : Option Nat} (h : LI w g l) (k : w.grownBy w' row) (hn : some g ≠ row) : LI w' g l := by obtain ⟨c, h, hr⟩ := h; exact ⟨c, h.grown k hn, hr⟩
theorem own_LI {w : World} {b : Nat} {v : Value} {l : List Int} (h : w.ownsRow b 3 1 v l.length (fl zC l)) (h0 : 0 < l.length) : ∃ g cap, v = .slice (some ⟨g, 0, none⟩) l.length cap ∧ b ≤ g ∧ LI w g l := by
  obtain ⟨g, cap, cur, e, hg, hb, hr⟩ := own_row zC_len h h0
  exact ⟨g, cap, e, hg, cur, hb, hr⟩
theorem getD_of {l : List Int} {k : Nat} {x : Int} (h : l[k]? = some x) : l.getD k 0 = x := by simp [List.getD_eq_getElem?_getD, h]
theorem made_ints (n : Nat) : (madeCells (Value.int .i64 0).cells (n * 1)).toList = fl zC (List.replicate n 0) := by
  have : (Value.int .i64 0).cells = #[.int .i64 0] := rfl
  rw [this, Nat.mul_one, toList_madeCells_one]
  induction n with
  | zero => rfl
  | succ n ih => rw [List.replicate_succ, ih, List.replicate_succ]; rfl
theorem bl_grownBy {w w' : World} (h : Below w.heap.size w w') (row : Option Nat) : w.grownBy w' row := ⟨h.os, h.tape, h.output, h.size, fun b hb _ => h.block b hb⟩
def GotW (w' : World) (v : Value) (l : List Int) : Prop := ∃ A c, v = .slice A l.length c ∧ Rd zC 1 w' A l
theorem gotW_nil (w' : World) : GotW w' (.slice none 0 0) [] := ⟨none, 0, rfl, fun h => absurd rfl h⟩
theorem yield_any {m m' : Nat} {P : Program} {l : Nat} {args : Array Value} {W : World} {R : Ending → World → Prop} (h : YieldAt Fence.wide m P l args W R) : YieldAt Fence.wide m' P l args W R := by
  obtain ⟨fn, tmps, assign, body, hy, hr⟩ := h
  exact ⟨fn, tmps, assign, body, hy, hr.1, fun c cs _ => hr.2 c cs (room_wide _)⟩
abbrev noB : Nat → Prop := fun _ => False
abbrev mrk (D : Nat) : Deferred := { target := .collected D, args := #[] }
/-- blocks of the ranges that have run, each once, none of them shut -/
def Marks (w : World) (Ds : List Nat) : Prop := Ds.Nodup ∧ ∀ D ∈ Ds, w.heap[D]? = some (.deferred (some []))
theorem Marks.nil (w : World) : Marks w [] := ⟨List.nodup_nil, fun _ h => by cases h⟩
theorem Marks.stp {w w' : World} {Ds : List Nat} {N : Nat → Prop} (h : Marks w Ds) (k : Stp N w w') (hn : ∀ D ∈ Ds, ¬ N D) : Marks w' Ds :=
  ⟨h.1, fun D hD => (k.block D (lt_of_block (h.2 D hD)) (hn D hD)).trans (h.2 D hD)⟩
theorem Marks.cons {w : World} {Ds : List Nat} {D : Nat} (h : Marks w Ds) (hD : w.heap[D]? = some (.deferred (some []))) (hn : D ∉ Ds) : Marks w (D :: Ds) :=
  ⟨List.nodup_cons.2 ⟨hn, h.1⟩, fun E hE => by rcases List.mem_cons.1 hE with rfl | hE; exact hD; exact h.2 E hE⟩
theorem leaves_marks {F : Fence} {n : Nat} {P : Program} {fn : Func} {tmps : Array Value} {R : Ending → World → Prop} {u : FrameMode} (hu : u ≠ .run) : ∀ (Ds : List Nat) (w : World), Marks w Ds →
    (∀ w', Stp (fun b => b ∈ Ds) w w' → LeavesIn F n P fn tmps R [] u w') → LeavesInM F n P fn tmps R (Ds.map mrk) u w
  | [], w, _, h => h w (Stp.refl _ _)
  | D :: Ds, w, hm, h => by
    have hD := hm.2 D (List.mem_cons_self ..)
    obtain ⟨h1, h2⟩ := List.nodup_cons.1 hm.1
    refine ⟨hu, .inl ⟨D, _, rfl, run_takeDeferred hD, ?_⟩⟩
    have hs : Stp (fun b => b = D) w (w.putObj D (.deferred none)) := Stp.putObj (Stp.refl (fun b => b = D) w) (.inl rfl) _
    refine leaves_marks hu Ds _ ⟨h2, fun E hE => ?_⟩ fun w' hw' => ?_
    · exact (hs.block E (lt_of_block (hm.2 E (List.mem_cons_of_mem _ hE))) (fun e => h1 (e ▸ hE))).trans (hm.2 E (List.mem_cons_of_mem _ hE))
    · exact h w' ((hs.mono fun b _ hb => by subst hb; exact List.mem_cons_self ..).trans (hw'.mono fun b _ hb => List.mem_cons_of_mem _ hb))
theorem zC_one (L : List Int) : ∀ u ∈ fl zC L, u.oneCell' = true := by
  intro u hu
  simp only [fl, List.mem_flatMap] at hu
  obtain ⟨y, _, hy⟩ := hu
  simp only [zC, List.mem_cons, List.not_mem_nil, or_false] at hy
  subst hy; rfl
theorem own_rdc {α : Type} {enc : α → List Value} {sz base : Nat} {W : World} {e : TypeId} {v : Value} {l : List α} (h : ∀ a, (enc a).length = sz) (hw : W.ownsRow base e sz v l.length (fl enc l)) : ∃ A c, v = .slice A l.length c ∧ Rd enc sz W A l ∧ l.length ≤ c ∧ c ≤ maxLen := by
  obtain ⟨A, c, e1, hr⟩ := own_rd h hw
  refine ⟨A, c, e1, hr, ?_⟩
  rcases hw.2 with ⟨e2, h0⟩ | ⟨g, cap, cur, e2, _, _, h1, h2, _⟩
  · rw [e1] at e2; injection e2 with a1 a2 a3; subst a3; exact ⟨by omega, Nat.zero_le _⟩
  · rw [e1] at e2; injection e2 with a1 a2 a3; subst a3; exact ⟨h1, h2⟩
/-- the numbers under k that a test takes -/
def fN (p : Nat → Bool) (k : Nat) : List Nat := (List.range k).filter p
def fZ (p : Nat → Bool) (k : Nat) : List Int := (fN p k).map fun n : Nat => (n : Int)
theorem fN_no {p : Nat → Bool} {k : Nat} (h : p k = false) : fN p (k + 1) = fN p k := by unfold fN; rw [List.range_succ, List.filter_append]; simp [h]
theorem fN_yes {p : Nat → Bool} {k : Nat} (h : p k = true) : fN p (k + 1) = fN p k ++ [k] := by unfold fN; rw [List.range_succ, List.filter_append]; simp [h]
theorem fN_len (p : Nat → Bool) (k : Nat) : (fN p k).length ≤ k := by have := List.length_filter_le p (List.range k); simpa [fN] using this
/-- what a function hands back that gathers numbers -/
theorem got_fN {w : World} {b : Nat} {A : Option Addr} {c n : Nat} {p : Nat → Bool} (h : w.ownsRow b 3 1 (.slice A (fN p n).length c) (fN p n).length (fl nC (fN p n))) : GotW w (.slice A (fN p n).length c) (fZ p n) := by
  have h1 := nz_own h
  obtain ⟨A', c', e, hr⟩ := own_ints h1
  exact ⟨A', c', e, hr⟩
theorem fZ_any {p : Nat → Bool} {n i : Nat} (hi : i < n) : (fZ p n).any (fun z => z == (i : Int)) = p i := by
  rw [Bool.eq_iff_iff, List.any_eq_true]
  unfold fZ fN
  constructor
  · rintro ⟨z, hz, e⟩
    rw [List.mem_map] at hz
    obtain ⟨k, hk, rfl⟩ := hz
    rw [List.mem_filter] at hk
    have : k = i := by have : (k : Int) = i := by simpa using e
                       omega
    subst this; exact hk.2
  · intro h
    exact ⟨i, List.mem_map.2 ⟨i, List.mem_filter.2 ⟨by simpa using hi, h⟩, rfl⟩, by simp⟩
theorem fZ_len (p : Nat → Bool) (n : Nat) : (fZ p n).length ≤ n := by unfold fZ; rw [List.length_map]; exact fN_len p n
end Go.Proofs.YthklgkgincebhaaGreatDoor
