/- Gear: links; validRig and ValidRig by both. -/
import Derived.Test.YtoelekhkgknneaaDoorGd
set_option linter.unusedSimpArgs false
set_option linter.unusedVariables false
namespace Go.Proofs.YtoelekhkgknneaaDoor
open Go.RowKit Go.Maps

structure Lk where
  nm : ByteArray
  fr : Int
def Lk.cs (a : Lk) : List Value := [.string a.nm, .int .i64 a.fr]
theorem Lk.cs_len (a : Lk) : a.cs.length = 2 := rfl
abbrev lkV (a : Lk) : Value := .agg #[.string a.nm, .int .i64 a.fr]
structure LW (a : Lk) : Prop where
  m : a.nm.size ≤ maxLen
  f0 : -9223372036854775808 ≤ a.fr
  f1 : a.fr ≤ 9223372036854775807
def lkAt (l : List Lk) (i : Nat) : Lk := l[i]?.getD ⟨ByteArray.empty, 0⟩
theorem lkAt_of {l : List Lk} {i : Nat} {p : Lk} (h : l[i]? = some p) : lkAt l i = p := by simp [lkAt, h]
theorem rdL {w : World} {A : Option Addr} {l : List Lk} (h : Rd Lk.cs 2 w A l) {k : Nat} (hk : k < l.length) :
    ∃ x b off, l[k]? = some x ∧ A = some ⟨b, off, none⟩ ∧ b < w.heap.size ∧ w.cell? ⟨b, off + k * 2, none⟩ = some (.string x.nm) ∧ w.cell? ⟨b, off + k * 2 + 1, none⟩ = some (.int .i64 x.fr) := by
  obtain ⟨x, hx⟩ := get_lt hk
  obtain ⟨b, off, e, hb, hc⟩ := h.get hx
  exact ⟨x, b, off, hx, e, hb, hc 0 _ rfl, hc 1 _ rfl⟩
def fndL (r : List Lk) (s : ByteArray) : Int := idxOf (fun x : Lk => x.nm.toList == s.toList) r 0
theorem fndl_aux (s : ByteArray) : ∀ (l : List Lk) (b : Nat), (∀ (i : Nat) (x : Lk), l[i]? = some x → x.nm.toList = s.toList → 0 ≤ idxOf (fun x : Lk => x.nm.toList == s.toList) l b ∧ idxOf (fun x : Lk => x.nm.toList == s.toList) l b ≤ b + i) ∧ (∀ n : Nat, idxOf (fun x : Lk => x.nm.toList == s.toList) l b = (n : Int) → b ≤ n ∧ ∃ x, l[n - b]? = some x ∧ x.nm.toList = s.toList)
  | [], b => ⟨by intro i x h; simp at h, by intro n h; unfold idxOf at h; omega⟩
  | y :: l, b => by
    obtain ⟨i1, i2⟩ := fndl_aux s l (b + 1)
    unfold idxOf
    by_cases hy : (y.nm.toList == s.toList) = true
    · rw [if_pos hy]
      refine ⟨by intro i x _ _; omega, ?_⟩
      intro n h
      obtain rfl : b = n := by omega
      exact ⟨Nat.le_refl _, y, by simp, by simpa using hy⟩
    · rw [if_neg hy]
      constructor
      · intro i x hx he
        cases i with
        | zero => simp at hx; subst hx; simp [he] at hy
        | succ i =>
          have := i1 i x (by simpa using hx) he
          omega
      · intro n h
        obtain ⟨h1, x, hx, he⟩ := i2 n h
        refine ⟨by omega, x, ?_, he⟩
        rw [show n - b = (n - (b + 1)) + 1 by omega]
        simpa using hx
theorem fndl_of {g : List Lk} {s : ByteArray} {i : Nat} {x : Lk} (hx : g[i]? = some x) (he : x.nm.toList = s.toList) : 0 ≤ fndL g s ∧ fndL g s ≤ i := by
  have := (fndl_aux s g 0).1 i x hx he
  unfold fndL; omega
theorem fndl_at {g : List Lk} {s : ByteArray} {n : Nat} (h : fndL g s = (n : Int)) : ∃ x, g[n]? = some x ∧ x.nm.toList = s.toList := by
  obtain ⟨_, x, hx, he⟩ := (fndl_aux s g 0).2 n h
  exact ⟨x, by simpa using hx, he⟩
/-- where a link may hang from -/
def frB (i : Nat) (f : Int) : Bool := if i = 0 then f == -1 else wn f 0 (i - 1)
def okL (g : List It) (r : List Lk) (i : Nat) : Bool := decide (0 ≤ fndI g (lkAt r i).nm) && frB i (lkAt r i).fr && !decide (fndL r (lkAt r i).nm < i)
def vldR (g : List It) (r : List Lk) : Bool := (List.range r.length).all (okL g r) && wn r.length 1 32
theorem vldR_no {g : List It} {r : List Lk} {k : Nat} {x : Lk} (hx : r[k]? = some x) (h : (decide (0 ≤ fndI g x.nm) && frB k x.fr && !decide (fndL r x.nm < k)) = false) : vldR g r = false := by
  have hk : k < r.length := (List.getElem?_eq_some_iff.1 hx).1
  unfold vldR
  rw [Bool.and_eq_false_iff]; left
  rw [List.all_eq_false]
  exact ⟨k, by simpa using hk, by unfold okL; rw [lkAt_of hx, h]; simp⟩
theorem okL_step {g : List It} {r : List Lk} {k : Nat} {x : Lk} (hx : r[k]? = some x) (h : (List.range k).all (okL g r) = true) (hk : (decide (0 ≤ fndI g x.nm) && frB k x.fr && !decide (fndL r x.nm < k)) = true) : (List.range (k + 1)).all (okL g r) = true := by
  rw [List.range_succ, List.all_append, h]; unfold okL; simp [lkAt_of hx]; simpa using hk
theorem vldR_yes {g : List It} {r : List Lk} (h : (List.range r.length).all (okL g r) = true) : vldR g r = wn r.length 1 32 := by
  unfold vldR; rw [h, Bool.true_and]
/-- the map without the first k links' marks -/
def dlD (g : List It) (r : List Lk) : Nat → DataW Unit
  | 0 => mkD g g.length
  | k + 1 => (dlD g r k).del (kyS (lkAt r k).nm)
theorem dlD_has (g : List It) (r : List Lk) (s : ByteArray) : ∀ k, k ≤ r.length → Maps.has (dlD g r k) (kyS s) = (decide (0 ≤ fndI g s) && !decide (0 ≤ fndL r s ∧ fndL r s < k)) := by
  intro k
  induction k with
  | zero =>
    intro _
    have := fnd_bd g s
    unfold dlD
    rw [mkD_has g s _ (Nat.le_refl _), Bool.eq_iff_iff]; simp; omega
  | succ k ih =>
    intro hk
    obtain ⟨x, hx⟩ := get_lt (show k < r.length by omega)
    unfold dlD
    rw [lkAt_of hx]
    by_cases he : x.nm.toList = s.toList
    · rw [kyS_inj.2 he, has_del_same]
      have := fndl_of hx he
      rw [decide_eq_true (p := 0 ≤ fndL r s ∧ fndL r s < (k + 1 : Nat)) (by omega)]; simp
    · rw [has_del_other (fun h => he (kyS_inj.1 h.symm)), ih (by omega)]
      have hne : fndL r s ≠ (k : Int) := fun h => by
        obtain ⟨y, hy, e⟩ := fndl_at h
        rw [hx] at hy; cases hy; exact he e
      rw [Bool.eq_iff_iff]; simp; omega
set_option maxHeartbeats 4000000 in
set_option maxRecDepth 20000 in
theorem p_validRig (A B : Option Addr) (g : List It) (r : List Lk) (c d : Nat) (w : World) (hl : g.length ≤ 100000) (hn : r.length ≤ 100000) (hR : Rd It.cs 4 w A g) (hW : ∀ x ∈ g, IW x) (hS : Rd Lk.cs 2 w B r) (hV : ∀ x ∈ r, LW x) :
    Calls Tryd.prog 112 #[.slice A g.length c, .slice B r.length d] w fun e w' => e = .returned (.bool (vldR g r)) ∧ Below w.heap.size w w' := by
  have HM := Lib.hid (fun W (h : Below w.heap.size w W) => p_byMark A g c W hl (hR.on h) hW)
  clear hR hW
  go_enter Tryd.func112, Tryd.ntmps112
  go_wp2_with (go_at_call 78; refine (HM.out _ (below_refl _)).mono ?_; rintro e w2 ⟨rfl, hown, hb2⟩)
  go_loopw [14] (fun i wr => ∃ k : Nat, k ≤ r.length ∧ i = .int .i64 k ∧ OM wr w.heap.size g.length (dlD g r k) ∧ Below w.heap.size w wr ∧ Hid ((List.range k).all (okL g r) = true)) (fun i _ => r.length - (intOf i).toNat)
  case atStart => exact ⟨0, Nat.zero_le _, rfl, hown, hb2, Lib.hid rfl⟩
  case round =>
    clear hown hb2
    obtain ⟨k, hk, rfl, hown, hB, HI⟩ := hrel
    have k0 : (0 : Int) ≤ (k : Int) := Int.natCast_nonneg _
    by_cases hlt : k < r.length
    · have k1 : (k : Int) < (r.length : Int) := by omega
      obtain ⟨x, b, off, hx, rfl, hb, c0, c1⟩ := rdL (hS.on hB) hlt
      have iw := hV x (List.mem_of_getElem? hx)
      have iw1 := iw.f0
      have iw2 := iw.f1
      have hkey := keyS iw.m
      have HX := Lib.hid (show dlD g r (k + 1) = (dlD g r k).del (kyS x.nm) by rw [dlD, lkAt_of hx])
      have HY := Lib.hid hx
      have h0 := fndl_of hx rfl
      have HH := dlD_has g r x.nm k hk
      have hbm := hown.lt
      have hB1 : Below w.heap.size w (wr.alloc (Obj.cells #[Value.string x.nm, Value.int IntKind.i64 x.fr] 54)) := bl_alloc hB _
      have hown0 := hown.alloc (Obj.cells #[Value.string x.nm, Value.int IntKind.i64 x.fr] 54)
      clear hx iw hown
      cases hh : (decide (0 ≤ fndI g x.nm) && !decide (0 ≤ fndL r x.nm ∧ fndL r x.nm < k)) <;> rw [hh] at HH
      · have HE := Lib.hid (vldR_no (g := g) HY.out (by
          rw [Bool.and_eq_false_iff] at hh ⊢
          rcases hh with hh | hh
          · left; rw [hh]; rfl
          · right; simp at hh; simp; omega))
        have HHH := Lib.hid HH
        clear hh HH h0
        go_wp2_with (first
          | (at_lookup; refine wpList_lookup_own_ok_int _ rfl _ _ 120 rfl 9 3 .i64 lawS und_map und_int (zeroN _) w.heap.size g.length _ rfl hown0 _ _ rfl hkey ?_; intro cc hat hwc; rw [HHH.out])
          | go_in)
        go_ret
        exact ⟨ret_bool (by rw [HE.out]), by (repeat' (first | assumption | exact below_refl _ | refine bl_alloc ?_ _ | refine Below.setCell ?_ ?_ _ | refine below_draw ?_ | refine below_drewN ?_ _ | refine below_tr ?_ (by assumption))) <;> (first | omega | (simp; done) | (simp; omega))⟩
      · have HHH := Lib.hid HH
        rw [Bool.and_eq_true] at hh
        have hh2 : ¬ fndL r x.nm < k := by have := hh.2; simp at this; omega
        cases hf : frB k x.fr
        · have HE := Lib.hid (vldR_no (g := g) HY.out (by rw [hf]; simp))
          clear HH hh h0 hh2
          rcases Nat.eq_zero_or_pos k with hp | hp
          · unfold frB at hf
            rw [if_pos hp] at hf
            have hf' : (x.fr != -1) = true := by simpa using hf
            subst hp
            simp only [Nat.zero_mul, Nat.add_zero] at c0 c1
            clear hf
            go_wp2_with (first
              | (at_lookup; refine wpList_lookup_own_ok_int _ rfl _ _ 120 rfl 9 3 .i64 lawS und_map und_int (zeroN _) w.heap.size g.length _ rfl hown0 _ _ rfl hkey ?_; intro cc hat hwc; rw [HHH.out])
              | go_in)
            go_ret
            exact ⟨ret_bool (by rw [HE.out]), by (repeat' (first | assumption | exact below_refl _ | refine bl_alloc ?_ _ | refine Below.setCell ?_ ?_ _ | refine below_draw ?_ | refine below_drewN ?_ _ | refine below_tr ?_ (by assumption))) <;> (first | omega | (simp; done) | (simp; omega))⟩
          · unfold frB at hf
            rw [if_neg (by omega)] at hf
            have Q1 := Lib.hid (p_withinV hf)
            have q2 : ¬ (k : Int) = 0 := by omega
            have q3 : (0 : Int) < (k : Int) := by omega
            clear hf
            go_wp2_with (first
              | (at_lookup; refine wpList_lookup_own_ok_int _ rfl _ _ 120 rfl 9 3 .i64 lawS und_map und_int (zeroN _) w.heap.size g.length _ rfl hown0 _ _ rfl hkey ?_; intro cc hat hwc; rw [HHH.out])
              | (go_at_call 72; ((with_reducible refine (Q1.out _).mono ?_); rintro e w' ⟨rfl, rfl⟩))
              | go_in)
            go_ret
            exact ⟨ret_bool (by rw [HE.out]), by (repeat' (first | assumption | exact below_refl _ | refine bl_alloc ?_ _ | refine Below.setCell ?_ ?_ _ | refine below_draw ?_ | refine below_drewN ?_ _ | refine below_tr ?_ (by assumption))) <;> (first | omega | (simp; done) | (simp; omega))⟩
        · have HE := Lib.hid (okL_step (g := g) HY.out HI.out (by rw [hf, hh.1]; simp; omega))
          clear HH hh h0 hh2
          rcases Nat.eq_zero_or_pos k with hp | hp
          · unfold frB at hf
            rw [if_pos hp] at hf
            have hf' : (x.fr != -1) = false := by simpa using hf
            subst hp
            simp only [Nat.zero_mul, Nat.add_zero] at c0 c1
            clear hf
            go_wp2_with (first
              | (at_lookup; refine wpList_lookup_own_ok_int _ rfl _ _ 120 rfl 9 3 .i64 lawS und_map und_int (zeroN _) w.heap.size g.length _ rfl hown0 _ _ rfl hkey ?_; intro cc hat hwc; rw [HHH.out])
              | (at_delete; refine wpList_delete_own _ rfl _ _ 120 9 rfl 3 lawS und_map _ w.heap.size g.length _ rfl hown0 _ _ rfl hkey ?_; intro w1 hown1 hturn1)
              | go_in)
            have R1 := HX.out.symm ▸ hown1
            have R2 := hB1.grown hturn1.grown hB1.size (fun j hj => by cases hj; exact Nat.le_refl _)
            clear hown1 hturn1 hown0
            go_wp2
            go_roundw
            case rel => exact ⟨0 + 1, by omega, by go_num, R1, R2, HE⟩
            case measure => simp [intOf]; omega
          · unfold frB at hf
            rw [if_neg (by omega)] at hf
            have Q1 := Lib.hid (p_withinV hf)
            have q2 : ¬ (k : Int) = 0 := by omega
            have q3 : (0 : Int) < (k : Int) := by omega
            clear hf
            go_wp2_with (first
              | (at_lookup; refine wpList_lookup_own_ok_int _ rfl _ _ 120 rfl 9 3 .i64 lawS und_map und_int (zeroN _) w.heap.size g.length _ rfl hown0 _ _ rfl hkey ?_; intro cc hat hwc; rw [HHH.out])
              | (at_delete; refine wpList_delete_own _ rfl _ _ 120 9 rfl 3 lawS und_map _ w.heap.size g.length _ rfl hown0 _ _ rfl hkey ?_; intro w1 hown1 hturn1)
              | (go_at_call 72; ((with_reducible refine (Q1.out _).mono ?_); rintro e w' ⟨rfl, rfl⟩))
              | go_in)
            have R1 := HX.out.symm ▸ hown1
            have R2 := hB1.grown hturn1.grown hB1.size (fun j hj => by cases hj; exact Nat.le_refl _)
            clear hown1 hturn1 hown0
            go_wp2
            go_roundw
            case rel => exact ⟨k + 1, by omega, by go_num, R1, R2, HE⟩
            case measure => simp [intOf]; omega
    · obtain rfl : k = r.length := by omega
      go_wp2_with (go_at_call 72; ((with_reducible refine (p_within _ _ _ _).mono ?_); rintro e w' ⟨rfl, rfl⟩))
      go_ret
      exact ⟨ret_bool (by rw [vldR_yes HI.out]), hB⟩
end Go.Proofs.YtoelekhkgknneaaDoor
