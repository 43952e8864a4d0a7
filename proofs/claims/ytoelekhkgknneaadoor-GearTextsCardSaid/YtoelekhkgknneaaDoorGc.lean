/- Gear: byMark: the map as read, and the walk. -/
import Derived.Test.YtoelekhkgknneaaDoorGb
import Derived.Maps.OwnOps
import Derived.Maps.OwnSet
import Derived.Laws.Strings
set_option linter.unusedSimpArgs false
set_option linter.unusedVariables false
namespace Go.Proofs.YtoelekhkgknneaaDoor
open Go.RowKit Go.Maps Go.WideShapes Go.WideMaps

theorem fnd_aux (s : ByteArray) : ∀ (l : List It) (b : Nat), (∀ (i : Nat) (x : It), l[i]? = some x → x.nm.toList = s.toList → 0 ≤ idxOf (fun x : It => x.nm.toList == s.toList) l b ∧ idxOf (fun x : It => x.nm.toList == s.toList) l b ≤ b + i) ∧ (∀ n : Nat, idxOf (fun x : It => x.nm.toList == s.toList) l b = (n : Int) → b ≤ n ∧ ∃ x, l[n - b]? = some x ∧ x.nm.toList = s.toList)
  | [], b => ⟨by intro i x h; simp at h, by intro n h; unfold idxOf at h; omega⟩
  | y :: l, b => by
    obtain ⟨i1, i2⟩ := fnd_aux s l (b + 1)
    unfold idxOf
    by_cases hy : (y.nm.toList == s.toList) = true
    · rw [if_pos hy]
      refine ⟨by intro i x _ _; omega, ?_⟩
      intro n h
      obtain rfl : b = n := by omega
      exact ⟨Nat.le_refl _, y, by simp, by simpa using hy⟩
    · rw [if_neg hy]
      constructor
      · intro i x hx he
        cases i with
        | zero => simp at hx; subst hx; simp [he] at hy
        | succ i =>
          have := i1 i x (by simpa using hx) he
          omega
      · intro n h
        obtain ⟨h1, x, hx, he⟩ := i2 n h
        refine ⟨by omega, x, ?_, he⟩
        rw [show n - b = (n - (b + 1)) + 1 by omega]
        simpa using hx
theorem fnd_of {g : List It} {s : ByteArray} {i : Nat} {x : It} (hx : g[i]? = some x) (he : x.nm.toList = s.toList) : 0 ≤ fndI g s ∧ fndI g s ≤ i := by
  have := (fnd_aux s g 0).1 i x hx he
  unfold fndI; omega
theorem fnd_at {g : List It} {s : ByteArray} {n : Nat} (h : fndI g s = (n : Int)) : ∃ x, g[n]? = some x ∧ x.nm.toList = s.toList := by
  obtain ⟨_, x, hx, he⟩ := (fnd_aux s g 0).2 n h
  exact ⟨x, by simpa using hx, he⟩
theorem fnd_self {g : List It} {i : Nat} {x : It} (hx : g[i]? = some x) : 0 ≤ fndI g x.nm ∧ fndI g x.nm ≤ i := fnd_of hx rfl
abbrev kyS (s : ByteArray) : Lit := .string s.data.toList
theorem kyS_inj {a b : ByteArray} : kyS a = kyS b ↔ a.toList = b.toList := by
  unfold kyS; rw [ByteArray.toList_eq, ByteArray.toList_eq]; simp
theorem fnd_ky {g : List It} {a b : ByteArray} (h : a.toList = b.toList) : fndI g a = fndI g b := by unfold fndI; rw [h]
abbrev i64d (n : Int) : DataW Unit := .lit (.int .i64 n)
theorem kyL (s : ByteArray) : WideAt.IsKeyLit (kyS s) := by unfold kyS WideAt.IsKeyLit; trivial
/-- the map of the first k items' marks -/
def mkD (g : List It) : Nat → DataW Unit
  | 0 => .map []
  | k + 1 => (mkD g k).put (kyS (itAt g k).nm) (i64d k)
theorem mkD_tidy (g : List It) : ∀ k, Tidy (mkD g k)
  | 0 => tidy_empty
  | k + 1 => (mkD_tidy g k).put (kyL _) _
theorem mkD_has (g : List It) (s : ByteArray) : ∀ k, k ≤ g.length → Maps.has (mkD g k) (kyS s) = decide (0 ≤ fndI g s ∧ fndI g s < k) := by
  intro k
  induction k with
  | zero => intro _; rw [decide_eq_false (by omega)]; rfl
  | succ k ih =>
    intro hk
    obtain ⟨x, hx⟩ := get_lt (show k < g.length by omega)
    unfold mkD
    rw [itAt_of hx]
    by_cases he : x.nm.toList = s.toList
    · rw [kyS_inj.2 he, has_put_same (mkD_tidy g k).isMap (kyL _)]
      have := fnd_of hx he
      rw [decide_eq_true (by omega)]
    · rw [has_put_other (fun h => he (kyS_inj.1 h.symm)), ih (by omega)]
      have hne : fndI g s ≠ (k : Int) := fun h => by
        obtain ⟨y, hy, e⟩ := fnd_at h
        rw [hx] at hy; cases hy; exact he e
      congr 1; simp; omega
def dstB (g : List It) : Bool := (List.range g.length).all fun i => !decide (fndI g (itAt g i).nm < i)
theorem dst_at {g : List It} (h : dstB g = true) {i : Nat} {x : It} (hx : g[i]? = some x) : fndI g x.nm = (i : Int) := by
  unfold dstB at h
  rw [List.all_eq_true] at h
  have h1 := h i (by simpa using (List.getElem?_eq_some_iff.1 hx).1)
  rw [itAt_of hx] at h1
  have := fnd_self hx
  simp at h1; omega
theorem mkD_at {g : List It} (hd : dstB g = true) (s : ByteArray) : ∀ k, k ≤ g.length → (mkD g k).atKey (kyS s) (i64d 0) = i64d (if 0 ≤ fndI g s ∧ fndI g s < k then fndI g s else 0) := by
  intro k
  induction k with
  | zero => intro _; rw [if_neg (by omega)]; rfl
  | succ k ih =>
    intro hk
    obtain ⟨x, hx⟩ := get_lt (show k < g.length by omega)
    unfold mkD
    rw [itAt_of hx]
    by_cases he : x.nm.toList = s.toList
    · rw [kyS_inj.2 he, atKey_put_same (mkD_tidy g k).isMap (kyL _)]
      have h1 := dst_at hd hx
      rw [fnd_ky he] at h1
      rw [h1, if_pos (by omega)]
    · rw [atKey_put_other (fun h => he (kyS_inj.1 h.symm)), ih (by omega)]
      have hne : fndI g s ≠ (k : Int) := fun h => by
        obtain ⟨y, hy, e⟩ := fnd_at h
        rw [hx] at hy; cases hy; exact he e
      by_cases hh : 0 ≤ fndI g s ∧ fndI g s < k
      · rw [if_pos hh, if_pos (by omega)]
      · rw [if_neg hh, if_neg (by omega)]
theorem mkD_size (g : List It) : ∀ k, k ≤ g.length → Maps.size (mkD g k) ≤ k ∧ ((Maps.size (mkD g k) = k) ↔ (List.range k).all (fun i => !decide (fndI g (itAt g i).nm < i)) = true) := by
  intro k
  induction k with
  | zero => intro _; exact ⟨Nat.le_refl _, by simp [mkD, Maps.size]⟩
  | succ k ih =>
    intro hk
    obtain ⟨i1, i2⟩ := ih (by omega)
    obtain ⟨x, hx⟩ := get_lt (show k < g.length by omega)
    have h0 := fnd_self hx
    rw [List.range_succ, List.all_append]
    unfold mkD
    rw [size_put (mkD_tidy g k), itAt_of hx, mkD_has g _ k (by omega)]
    by_cases hh : fndI g x.nm < k
    · rw [if_pos (by simp; omega)]
      refine ⟨by omega, ?_⟩
      constructor
      · intro h; omega
      · intro h; rw [Bool.and_eq_true] at h; simp [itAt_of hx] at h; omega
    · rw [if_neg (by simp; omega)]
      refine ⟨by omega, ?_⟩
      constructor
      · intro h; rw [Bool.and_eq_true]; exact ⟨i2.1 (by omega), by simp [itAt_of hx]; omega⟩
      · intro h; rw [Bool.and_eq_true] at h; have := i2.2 h.1; omega
theorem size_dst (g : List It) : ((Maps.size (mkD g g.length) : Int) == (g.length : Int)) = dstB g := by
  obtain ⟨_, h⟩ := mkD_size g g.length (Nat.le_refl _)
  unfold dstB
  rw [Bool.eq_iff_iff, ← h]; simp; omega
theorem vldG_dst {g : List It} (h : vldG g = true) : dstB g = true := by
  unfold vldG at h
  rw [Bool.and_eq_true, List.all_eq_true] at h
  unfold dstB
  rw [List.all_eq_true]
  intro i hi
  have := h.1 i hi
  unfold okI at this
  rw [Bool.and_eq_true] at this
  exact this.2
/-- vldG by parts -/
theorem vldG_is (g : List It) : vldG g = (decide (g.length ≤ 64) && (g.all sndI && dstB g)) := by
  unfold vldG dstB
  have : (List.range g.length).all (okI g) = (g.all sndI && (List.range g.length).all fun i => !decide (fndI g (itAt g i).nm < i)) := by
    rw [Bool.eq_iff_iff, Bool.and_eq_true, List.all_eq_true, List.all_eq_true, List.all_eq_true]
    constructor
    · intro h
      refine ⟨?_, ?_⟩
      · intro x hx
        obtain ⟨i, hi⟩ := List.getElem?_of_mem hx
        have := h i (by simpa using (List.getElem?_eq_some_iff.1 hi).1)
        unfold okI at this
        rw [Bool.and_eq_true, itAt_of hi] at this
        exact this.1
      · intro i hi
        have := h i hi
        unfold okI at this
        rw [Bool.and_eq_true] at this
        exact this.2
    · rintro ⟨h1, h2⟩ i hi
      obtain ⟨x, hx⟩ := get_lt (show i < g.length by simpa using hi)
      unfold okI
      rw [Bool.and_eq_true]
      exact ⟨by rw [itAt_of hx]; exact h1 x (List.mem_of_getElem? hx), h2 i hi⟩
  rw [this]
  cases decide (g.length ≤ 64) <;> simp
abbrev OM (w : World) (b n : Nat) (D : DataW Unit) : Prop := w.ownsMap Tryd.prog 9 (plainElem Tryd.prog 3) b n D
theorem und_str : Tryd.prog.underlying 9 = some .string := by kernel_rfl
theorem und_int : Tryd.prog.underlying 3 = some (.int .i64) := by kernel_rfl
theorem und_map : Tryd.prog.underlying 120 = some (.map 9 3) := by kernel_rfl
theorem lawS : Keyed Tryd.prog 9 := string_keyed und_str
theorem zeroN (w : World) : (zeroValue 3).run Tryd.prog w = .ok (.int .i64 0) w := by kernel_rfl
theorem keyS {s : ByteArray} (h : s.size ≤ maxLen) : keyOf Tryd.prog 9 (.string s) = some (kyS s) := keyOf_string_mk und_str h
set_option maxHeartbeats 2000000 in
set_option maxRecDepth 20000 in
theorem p_byMark (A : Option Addr) (g : List It) (c : Nat) (w : World) (hl : g.length ≤ 100000) (hR : Rd It.cs 4 w A g) (hW : ∀ x ∈ g, IW x) :
    Calls Tryd.prog 78 #[.slice A g.length c] w fun e w' => e = .returned (.map (some w.heap.size)) ∧ OM w' w.heap.size g.length (mkD g g.length) ∧ Below w.heap.size w w' := by
  have hmm := @run_makeMap Tryd.prog
  go_enter Tryd.func78, Tryd.ntmps78
  go_wp2
  go_loopw [9] (fun i wr => ∃ k : Nat, k ≤ g.length ∧ i = .int .i64 k ∧ OM wr w.heap.size k (mkD g k) ∧ Below w.heap.size w wr) (fun i _ => g.length - (intOf i).toNat)
  case atStart => exact ⟨0, Nat.zero_le _, rfl, World.ownsMap_made _ _ _ _, (Below.refl _ _).alloc (Nat.le_refl _) _⟩
  case round =>
    obtain ⟨k, hk, rfl, hown, hB⟩ := hrel
    have k0 : (0 : Int) ≤ (k : Int) := Int.natCast_nonneg _
    by_cases hlt : k < g.length
    · have k1 : (k : Int) < (g.length : Int) := by omega
      obtain ⟨x, b, off, hx, rfl, hb, c0, c1, c2, c3⟩ := rdI (hR.on hB) hlt
      have iw := hW x (List.mem_of_getElem? hx)
      have iw1 := iw.l0
      have iw2 := iw.l1
      have iw3 := iw.d0
      have iw4 := iw.d1
      have hkey := keyS iw.m
      have HX := Lib.hid (show mkD g (k + 1) = (mkD g k).put (kyS x.nm) (i64d k) by rw [mkD, itAt_of hx])
      have hbm := hown.lt
      clear hx iw
      go_wp2_with (first
        | (at_mapUpdate; refine wpList_mapUpdate_own _ rfl _ _ _ 120 rfl 9 3 lawS und_map _ w.heap.size k _ rfl (hown.alloc _) (by unfold maxLen; omega) _ _ _ rfl rfl hkey _ [] (plainElem_int und_int (WalkArith.wf_i64 (by omega))) ?_)
        | go_in)
      intro w1 hown1 hgrow1
      have R1 := HX.out.symm ▸ hown1
      have hB1 : Below w.heap.size w (wr.alloc (Obj.cells #[Value.string x.nm, Value.int IntKind.i64 x.ld, Value.int IntKind.i64 x.du, Value.string x.bt] 52)) := bl_alloc hB _
      have R2 := hB1.grown hgrow1 hB1.size (fun j hj => by cases hj; exact Nat.le_refl _)
      clear hown1 hgrow1 hown
      go_wp2
      go_roundw
      case rel => exact ⟨k + 1, by omega, by go_num, R1, R2⟩
      case measure => simp [intOf]; omega
    · obtain rfl : k = g.length := by omega
      go_wp2
      go_ret
      exact ⟨rfl, hown, hB⟩
end Go.Proofs.YtoelekhkgknneaaDoor
