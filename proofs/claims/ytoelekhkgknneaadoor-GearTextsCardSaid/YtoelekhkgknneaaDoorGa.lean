/- Gear: names, by both. -/
import Derived.Test.YtoelekhkgknneaaDoorOwn
import Derived.Test.YtoelekhkgknneaaDoorProg
import Derived.WalkLawsBesides
import Derived.Deep.QuietTactic
import Derived.BigQuiet
import Derived.Deep.RegionHeld3
set_option linter.unusedSimpArgs false
set_option linter.unusedVariables false
namespace Go.Proofs.YtoelekhkgknneaaDoor
open Go.RowKit

theorem bl_alloc {w W : World} (h : Below w.heap.size w W) (o : Obj) : Below w.heap.size w (W.alloc o) := h.alloc h.size o
theorem sz_drew (w : World) : w.drew.heap.size = w.heap.size := rfl
theorem sz_drewN (w : World) (n : Nat) : (w.drewN n).heap.size = w.heap.size := rfl
theorem wp_world {P : Program} {id : Nat} {ops : Array Oper} {b : Bool} {Q : Exit → Act → World → Prop} {a : Act} {w : World} (h : ∀ W, W = w → (Code.region id ops b).wp P Q a W) : (Code.region id ops b).wp P Q a w := h w rfl
theorem kp_of {W w' : World} (h : Below W.heap.size W w') : (∀ b o, b < W.heap.size → w'.cell? ⟨b, o, none⟩ = W.cell? ⟨b, o, none⟩) ∧ (∀ b o, b < W.heap.size → w'.frozen? ⟨b, o, none⟩ = W.frozen? ⟨b, o, none⟩) ∧ Below W.heap.size W w' :=
  ⟨(bcell h).1, (bcell h).2, h⟩
theorem calls_bool {P : Program} {f : FuncId} {args : Array Value} {w : World} {R : World → Prop} {X v : Bool} (h : X = v) (c : Calls P f args w fun e w' => e = .returned (.bool X) ∧ R w') : Calls P f args w fun e w' => e = .returned (.bool v) ∧ R w' := h ▸ c
theorem ret_b {a b : Bool} {W W' : World} {n : Nat} (h : a = b) (hb : Below n W W') : Ending.returned (.bool a) = .returned (.bool b) ∧ Below n W W' := ⟨by rw [h], hb⟩
def wn (n lo hi : Int) : Bool := decide (lo ≤ n) && decide (n ≤ hi)
theorem wn_iff {n a b : Int} : wn n a b = true ↔ a ≤ n ∧ n ≤ b := by simp [wn]
theorem p_within (n lo hi : Int) (w : World) :
    Calls Tryd.prog 72 #[.int .i64 n, .int .i64 lo, .int .i64 hi] w fun e w' => e = .returned (.bool (wn n lo hi)) ∧ w = w' := by
  by_cases h1 : lo ≤ n
  · have t1 : decide (lo ≤ n) = true := by simpa using h1
    go_enter Tryd.func72, Tryd.ntmps72
    go_wp2
    go_ret
    exact ⟨ret_bool (by simp [wn, h1]), rfl⟩
  · have t1 : decide (lo ≤ n) = false := by simpa using h1
    go_enter Tryd.func72, Tryd.ntmps72
    go_wp2
    go_ret
    exact ⟨ret_bool (by unfold wn; rw [t1]; rfl), rfl⟩
theorem r_within (n lo hi : Int) (w : World) :
    Calls Tryd.prog 49 #[.int .i64 n, .int .i64 lo, .int .i64 hi] w fun e w' => e = .returned (.bool (wn n lo hi)) ∧ w = w' := by
  by_cases h1 : lo ≤ n
  · have t1 : decide (lo ≤ n) = true := by simpa using h1
    go_enter Tryd.func49, Tryd.ntmps49
    go_wp2
    go_ret
    exact ⟨ret_bool (by simp [wn, h1]), rfl⟩
  · have t1 : decide (lo ≤ n) = false := by simpa using h1
    go_enter Tryd.func49, Tryd.ntmps49
    go_wp2
    go_ret
    exact ⟨ret_bool (by unfold wn; rw [t1]; rfl), rfl⟩
theorem p_withinV {n lo hi : Int} {b : Bool} (h : wn n lo hi = b) (w : World) : Calls Tryd.prog 72 #[.int .i64 n, .int .i64 lo, .int .i64 hi] w fun e w' => e = .returned (.bool b) ∧ w = w' := h ▸ p_within n lo hi w
theorem r_withinV {n lo hi : Int} {b : Bool} (h : wn n lo hi = b) (w : World) : Calls Tryd.prog 49 #[.int .i64 n, .int .i64 lo, .int .i64 hi] w fun e w' => e = .returned (.bool b) ∧ w = w' := h ▸ r_within n lo hi w
/-- a letter of a name, at a place -/
def chB (k : Nat) (c : Int) : Bool := (decide (97 ≤ c) && decide (c ≤ 122)) || (decide (k ≠ 0) && (decide (c = 95) || (decide (48 ≤ c) && decide (c ≤ 57))))
def chAt (s : ByteArray) (k : Nat) : Int := ((s.data.toList.getD k 0).toNat : Int)
def nmB (s : ByteArray) : Bool := wn s.size 1 16 && (List.range s.size).all fun k => chB k (chAt s k)
theorem chAt_of {s : ByteArray} {k : Nat} (h : k < s.size) : (s[k].toNat : Int) = chAt s k := by
  have h' : k < s.data.toList.length := by simpa using h
  unfold chAt
  rw [List.getD_eq_getElem?_getD, List.getElem?_eq_getElem h']
  rfl
theorem chB_yes {k : Nat} {c : Int} : chB k c = true ↔ (97 ≤ c ∧ c ≤ 122) ∨ (k ≠ 0 ∧ (c = 95 ∨ (48 ≤ c ∧ c ≤ 57))) := by simp [chB]
theorem chB_no {k : Nat} {c : Int} : chB k c = false ↔ ¬ ((97 ≤ c ∧ c ≤ 122) ∨ (k ≠ 0 ∧ (c = 95 ∨ (48 ≤ c ∧ c ≤ 57)))) := by rw [← chB_yes]; simp
theorem nm_no {s : ByteArray} {k : Nat} (hk : k < s.size) (h : chB k (chAt s k) = false) : nmB s = false := by
  unfold nmB
  rw [Bool.and_eq_false_iff]; right
  rw [List.all_eq_false]
  exact ⟨k, by simpa using hk, by simp [h]⟩
theorem nm_step {s : ByteArray} {k : Nat} (h : (List.range k).all (fun k => chB k (chAt s k)) = true) (hk : chB k (chAt s k) = true) : (List.range (k + 1)).all (fun k => chB k (chAt s k)) = true := by
  rw [List.range_succ, List.all_append, h]; simp [hk]
theorem nm_yes {s : ByteArray} (h : (List.range s.size).all (fun k => chB k (chAt s k)) = true) : nmB s = wn s.size 1 16 := by
  unfold nmB; rw [h, Bool.and_true]
set_option maxHeartbeats 2000000 in
set_option maxRecDepth 20000 in
theorem p_isName (s : ByteArray) (w : World) (hs : s.size ≤ maxLen) :
    Calls Tryd.prog 76 #[.string s] w fun e w' => e = .returned (.bool (nmB s)) ∧ w = w' := by
  unfold maxLen at hs
  go_enter Tryd.func76, Tryd.ntmps76
  go_wp2
  go_loop [7] (fun i => ∃ k : Nat, k ≤ s.size ∧ i = .int .i64 k ∧ Hid ((List.range k).all (fun k => chB k (chAt s k)) = true)) (fun i => s.size - (intOf i).toNat)
  case atStart => exact ⟨0, by omega, rfl, Lib.hid rfl⟩
  case round =>
    obtain ⟨k, hk, rfl, HI⟩ := hrel
    have k0 : (0 : Int) ≤ (k : Int) := Int.natCast_nonneg _
    by_cases hlt : k < s.size
    · have k1 : (k : Int) < (s.size : Int) := by omega
      have HC := Lib.hid (chAt_of hlt)
      obtain ⟨z, hz⟩ : ∃ z, ((k : Int) == 0) = z := ⟨_, rfl⟩
      have HZ := Lib.hid (show k = 0 ↔ z = true by rw [← hz]; simp)
      cases z
      all_goals
        rcases (by omega : ((s[k].toNat : Int) < 48) ∨ (48 ≤ (s[k].toNat : Int) ∧ (s[k].toNat : Int) ≤ 57) ∨ (57 < (s[k].toNat : Int) ∧ (s[k].toNat : Int) < 95) ∨ ((s[k].toNat : Int) = 95) ∨ (95 < (s[k].toNat : Int) ∧ (s[k].toNat : Int) < 97) ∨ (97 ≤ (s[k].toNat : Int) ∧ (s[k].toNat : Int) ≤ 122) ∨ (122 < (s[k].toNat : Int))) with hc | hc | hc | hc | hc | hc | hc
        · have t0 : decide ((s[k].toNat : Int) < 97) = true := by simp; omega
          have t1 : decide (122 < (s[k].toNat : Int)) = false := by simp; omega
          have t2 : ((s[k].toNat : Int) != 95) = true := by simp; omega
          have t3 : decide ((s[k].toNat : Int) < 48) = true := by simp; omega
          have t4 : decide (57 < (s[k].toNat : Int)) = false := by simp; omega
          have HCC := Lib.hid hc
          clear hc
          go_wp2
          all_goals first
            | (go_ret; exact ⟨ret_bool (by rw [nm_no hlt (chB_no.2 (by have hz := HZ.out; have hc := HCC.out; rw [HC.out] at hc; simp at hz; omega))]), rfl⟩)
            | (go_round; (case rel => exact ⟨k + 1, by omega, by go_num, Lib.hid (nm_step HI.out (chB_yes.2 (by have hz := HZ.out; have hc := HCC.out; rw [HC.out] at hc; simp at hz; omega)))⟩); (case measure => simp [intOf]; omega))
        · have t0 : decide ((s[k].toNat : Int) < 97) = true := by simp; omega
          have t1 : decide (122 < (s[k].toNat : Int)) = false := by simp; omega
          have t2 : ((s[k].toNat : Int) != 95) = true := by simp; omega
          have t3 : decide ((s[k].toNat : Int) < 48) = false := by simp; omega
          have t4 : decide (57 < (s[k].toNat : Int)) = false := by simp; omega
          have HCC := Lib.hid hc
          clear hc
          go_wp2
          all_goals first
            | (go_ret; exact ⟨ret_bool (by rw [nm_no hlt (chB_no.2 (by have hz := HZ.out; have hc := HCC.out; rw [HC.out] at hc; simp at hz; omega))]), rfl⟩)
            | (go_round; (case rel => exact ⟨k + 1, by omega, by go_num, Lib.hid (nm_step HI.out (chB_yes.2 (by have hz := HZ.out; have hc := HCC.out; rw [HC.out] at hc; simp at hz; omega)))⟩); (case measure => simp [intOf]; omega))
        · have t0 : decide ((s[k].toNat : Int) < 97) = true := by simp; omega
          have t1 : decide (122 < (s[k].toNat : Int)) = false := by simp; omega
          have t2 : ((s[k].toNat : Int) != 95) = true := by simp; omega
          have t3 : decide ((s[k].toNat : Int) < 48) = false := by simp; omega
          have t4 : decide (57 < (s[k].toNat : Int)) = true := by simp; omega
          have HCC := Lib.hid hc
          clear hc
          go_wp2
          all_goals first
            | (go_ret; exact ⟨ret_bool (by rw [nm_no hlt (chB_no.2 (by have hz := HZ.out; have hc := HCC.out; rw [HC.out] at hc; simp at hz; omega))]), rfl⟩)
            | (go_round; (case rel => exact ⟨k + 1, by omega, by go_num, Lib.hid (nm_step HI.out (chB_yes.2 (by have hz := HZ.out; have hc := HCC.out; rw [HC.out] at hc; simp at hz; omega)))⟩); (case measure => simp [intOf]; omega))
        · have t0 : decide ((s[k].toNat : Int) < 97) = true := by simp; omega
          have t1 : decide (122 < (s[k].toNat : Int)) = false := by simp; omega
          have t2 : ((s[k].toNat : Int) != 95) = false := by simp; omega
          have t3 : decide ((s[k].toNat : Int) < 48) = false := by simp; omega
          have t4 : decide (57 < (s[k].toNat : Int)) = true := by simp; omega
          have HCC := Lib.hid hc
          clear hc
          go_wp2
          all_goals first
            | (go_ret; exact ⟨ret_bool (by rw [nm_no hlt (chB_no.2 (by have hz := HZ.out; have hc := HCC.out; rw [HC.out] at hc; simp at hz; omega))]), rfl⟩)
            | (go_round; (case rel => exact ⟨k + 1, by omega, by go_num, Lib.hid (nm_step HI.out (chB_yes.2 (by have hz := HZ.out; have hc := HCC.out; rw [HC.out] at hc; simp at hz; omega)))⟩); (case measure => simp [intOf]; omega))
        · have t0 : decide ((s[k].toNat : Int) < 97) = true := by simp; omega
          have t1 : decide (122 < (s[k].toNat : Int)) = false := by simp; omega
          have t2 : ((s[k].toNat : Int) != 95) = true := by simp; omega
          have t3 : decide ((s[k].toNat : Int) < 48) = false := by simp; omega
          have t4 : decide (57 < (s[k].toNat : Int)) = true := by simp; omega
          have HCC := Lib.hid hc
          clear hc
          go_wp2
          all_goals first
            | (go_ret; exact ⟨ret_bool (by rw [nm_no hlt (chB_no.2 (by have hz := HZ.out; have hc := HCC.out; rw [HC.out] at hc; simp at hz; omega))]), rfl⟩)
            | (go_round; (case rel => exact ⟨k + 1, by omega, by go_num, Lib.hid (nm_step HI.out (chB_yes.2 (by have hz := HZ.out; have hc := HCC.out; rw [HC.out] at hc; simp at hz; omega)))⟩); (case measure => simp [intOf]; omega))
        · have t0 : decide ((s[k].toNat : Int) < 97) = false := by simp; omega
          have t1 : decide (122 < (s[k].toNat : Int)) = false := by simp; omega
          have t2 : ((s[k].toNat : Int) != 95) = true := by simp; omega
          have t3 : decide ((s[k].toNat : Int) < 48) = false := by simp; omega
          have t4 : decide (57 < (s[k].toNat : Int)) = true := by simp; omega
          have HCC := Lib.hid hc
          clear hc
          go_wp2
          all_goals first
            | (go_ret; exact ⟨ret_bool (by rw [nm_no hlt (chB_no.2 (by have hz := HZ.out; have hc := HCC.out; rw [HC.out] at hc; simp at hz; omega))]), rfl⟩)
            | (go_round; (case rel => exact ⟨k + 1, by omega, by go_num, Lib.hid (nm_step HI.out (chB_yes.2 (by have hz := HZ.out; have hc := HCC.out; rw [HC.out] at hc; simp at hz; omega)))⟩); (case measure => simp [intOf]; omega))
        · have t0 : decide ((s[k].toNat : Int) < 97) = false := by simp; omega
          have t1 : decide (122 < (s[k].toNat : Int)) = true := by simp; omega
          have t2 : ((s[k].toNat : Int) != 95) = true := by simp; omega
          have t3 : decide ((s[k].toNat : Int) < 48) = false := by simp; omega
          have t4 : decide (57 < (s[k].toNat : Int)) = true := by simp; omega
          have HCC := Lib.hid hc
          clear hc
          go_wp2
          all_goals first
            | (go_ret; exact ⟨ret_bool (by rw [nm_no hlt (chB_no.2 (by have hz := HZ.out; have hc := HCC.out; rw [HC.out] at hc; simp at hz; omega))]), rfl⟩)
            | (go_round; (case rel => exact ⟨k + 1, by omega, by go_num, Lib.hid (nm_step HI.out (chB_yes.2 (by have hz := HZ.out; have hc := HCC.out; rw [HC.out] at hc; simp at hz; omega)))⟩); (case measure => simp [intOf]; omega))
    · obtain rfl : k = s.size := by omega
      have HN := Lib.hid (nm_yes HI.out)
      go_wp2_with (go_at_call 72; ((with_reducible refine (p_within _ _ _ _).mono ?_); rintro e w' ⟨rfl, rfl⟩))
      go_ret
      exact ⟨ret_bool HN.out.symm, rfl⟩
set_option maxHeartbeats 2000000 in
set_option maxRecDepth 20000 in
theorem r_isName (s : ByteArray) (w : World) (hs : s.size ≤ maxLen) :
    Calls Tryd.prog 48 #[.string s] w fun e w' => e = .returned (.bool (nmB s)) ∧ w = w' := by
  unfold maxLen at hs
  go_enter Tryd.func48, Tryd.ntmps48
  go_wp2
  go_loop [3] (fun i => ∃ k : Nat, k ≤ s.size ∧ i = .int .i64 k ∧ Hid ((List.range k).all (fun k => chB k (chAt s k)) = true)) (fun i => s.size - (intOf i).toNat)
  case atStart => exact ⟨0, by omega, rfl, Lib.hid rfl⟩
  case round =>
    obtain ⟨k, hk, rfl, HI⟩ := hrel
    have k0 : (0 : Int) ≤ (k : Int) := Int.natCast_nonneg _
    by_cases hlt : k < s.size
    · have k1 : (k : Int) < (s.size : Int) := by omega
      have HC := Lib.hid (chAt_of hlt)
      obtain ⟨z, hz⟩ : ∃ z, ((k : Int) == 0) = z := ⟨_, rfl⟩
      have HZ := Lib.hid (show k = 0 ↔ z = true by rw [← hz]; simp)
      cases z
      all_goals
        rcases (by omega : ((s[k].toNat : Int) < 48) ∨ (48 ≤ (s[k].toNat : Int) ∧ (s[k].toNat : Int) ≤ 57) ∨ (57 < (s[k].toNat : Int) ∧ (s[k].toNat : Int) < 95) ∨ ((s[k].toNat : Int) = 95) ∨ (95 < (s[k].toNat : Int) ∧ (s[k].toNat : Int) < 97) ∨ (97 ≤ (s[k].toNat : Int) ∧ (s[k].toNat : Int) ≤ 122) ∨ (122 < (s[k].toNat : Int))) with hc | hc | hc | hc | hc | hc | hc
        · have t0 : decide (97 ≤ (s[k].toNat : Int)) = false := by simp; omega
          have t1 : decide ((s[k].toNat : Int) ≤ 122) = true := by simp; omega
          have t2 : ((s[k].toNat : Int) == 95) = false := by simp; omega
          have t3 : decide (48 ≤ (s[k].toNat : Int)) = false := by simp; omega
          have t4 : decide ((s[k].toNat : Int) ≤ 57) = true := by simp; omega
          have HCC := Lib.hid hc
          clear hc
          go_wp2
          all_goals first
            | (go_ret; exact ⟨ret_bool (by rw [nm_no hlt (chB_no.2 (by have hz := HZ.out; have hc := HCC.out; rw [HC.out] at hc; simp at hz; omega))]), rfl⟩)
            | (go_round; (case rel => exact ⟨k + 1, by omega, by go_num, Lib.hid (nm_step HI.out (chB_yes.2 (by have hz := HZ.out; have hc := HCC.out; rw [HC.out] at hc; simp at hz; omega)))⟩); (case measure => simp [intOf]; omega))
        · have t0 : decide (97 ≤ (s[k].toNat : Int)) = false := by simp; omega
          have t1 : decide ((s[k].toNat : Int) ≤ 122) = true := by simp; omega
          have t2 : ((s[k].toNat : Int) == 95) = false := by simp; omega
          have t3 : decide (48 ≤ (s[k].toNat : Int)) = true := by simp; omega
          have t4 : decide ((s[k].toNat : Int) ≤ 57) = true := by simp; omega
          have HCC := Lib.hid hc
          clear hc
          go_wp2
          all_goals first
            | (go_ret; exact ⟨ret_bool (by rw [nm_no hlt (chB_no.2 (by have hz := HZ.out; have hc := HCC.out; rw [HC.out] at hc; simp at hz; omega))]), rfl⟩)
            | (go_round; (case rel => exact ⟨k + 1, by omega, by go_num, Lib.hid (nm_step HI.out (chB_yes.2 (by have hz := HZ.out; have hc := HCC.out; rw [HC.out] at hc; simp at hz; omega)))⟩); (case measure => simp [intOf]; omega))
        · have t0 : decide (97 ≤ (s[k].toNat : Int)) = false := by simp; omega
          have t1 : decide ((s[k].toNat : Int) ≤ 122) = true := by simp; omega
          have t2 : ((s[k].toNat : Int) == 95) = false := by simp; omega
          have t3 : decide (48 ≤ (s[k].toNat : Int)) = true := by simp; omega
          have t4 : decide ((s[k].toNat : Int) ≤ 57) = false := by simp; omega
          have HCC := Lib.hid hc
          clear hc
          go_wp2
          all_goals first
            | (go_ret; exact ⟨ret_bool (by rw [nm_no hlt (chB_no.2 (by have hz := HZ.out; have hc := HCC.out; rw [HC.out] at hc; simp at hz; omega))]), rfl⟩)
            | (go_round; (case rel => exact ⟨k + 1, by omega, by go_num, Lib.hid (nm_step HI.out (chB_yes.2 (by have hz := HZ.out; have hc := HCC.out; rw [HC.out] at hc; simp at hz; omega)))⟩); (case measure => simp [intOf]; omega))
        · have t0 : decide (97 ≤ (s[k].toNat : Int)) = false := by simp; omega
          have t1 : decide ((s[k].toNat : Int) ≤ 122) = true := by simp; omega
          have t2 : ((s[k].toNat : Int) == 95) = true := by simp; omega
          have t3 : decide (48 ≤ (s[k].toNat : Int)) = true := by simp; omega
          have t4 : decide ((s[k].toNat : Int) ≤ 57) = false := by simp; omega
          have HCC := Lib.hid hc
          clear hc
          go_wp2
          all_goals first
            | (go_ret; exact ⟨ret_bool (by rw [nm_no hlt (chB_no.2 (by have hz := HZ.out; have hc := HCC.out; rw [HC.out] at hc; simp at hz; omega))]), rfl⟩)
            | (go_round; (case rel => exact ⟨k + 1, by omega, by go_num, Lib.hid (nm_step HI.out (chB_yes.2 (by have hz := HZ.out; have hc := HCC.out; rw [HC.out] at hc; simp at hz; omega)))⟩); (case measure => simp [intOf]; omega))
        · have t0 : decide (97 ≤ (s[k].toNat : Int)) = false := by simp; omega
          have t1 : decide ((s[k].toNat : Int) ≤ 122) = true := by simp; omega
          have t2 : ((s[k].toNat : Int) == 95) = false := by simp; omega
          have t3 : decide (48 ≤ (s[k].toNat : Int)) = true := by simp; omega
          have t4 : decide ((s[k].toNat : Int) ≤ 57) = false := by simp; omega
          have HCC := Lib.hid hc
          clear hc
          go_wp2
          all_goals first
            | (go_ret; exact ⟨ret_bool (by rw [nm_no hlt (chB_no.2 (by have hz := HZ.out; have hc := HCC.out; rw [HC.out] at hc; simp at hz; omega))]), rfl⟩)
            | (go_round; (case rel => exact ⟨k + 1, by omega, by go_num, Lib.hid (nm_step HI.out (chB_yes.2 (by have hz := HZ.out; have hc := HCC.out; rw [HC.out] at hc; simp at hz; omega)))⟩); (case measure => simp [intOf]; omega))
        · have t0 : decide (97 ≤ (s[k].toNat : Int)) = true := by simp; omega
          have t1 : decide ((s[k].toNat : Int) ≤ 122) = true := by simp; omega
          have t2 : ((s[k].toNat : Int) == 95) = false := by simp; omega
          have t3 : decide (48 ≤ (s[k].toNat : Int)) = true := by simp; omega
          have t4 : decide ((s[k].toNat : Int) ≤ 57) = false := by simp; omega
          have HCC := Lib.hid hc
          clear hc
          go_wp2
          all_goals first
            | (go_ret; exact ⟨ret_bool (by rw [nm_no hlt (chB_no.2 (by have hz := HZ.out; have hc := HCC.out; rw [HC.out] at hc; simp at hz; omega))]), rfl⟩)
            | (go_round; (case rel => exact ⟨k + 1, by omega, by go_num, Lib.hid (nm_step HI.out (chB_yes.2 (by have hz := HZ.out; have hc := HCC.out; rw [HC.out] at hc; simp at hz; omega)))⟩); (case measure => simp [intOf]; omega))
        · have t0 : decide (97 ≤ (s[k].toNat : Int)) = true := by simp; omega
          have t1 : decide ((s[k].toNat : Int) ≤ 122) = false := by simp; omega
          have t2 : ((s[k].toNat : Int) == 95) = false := by simp; omega
          have t3 : decide (48 ≤ (s[k].toNat : Int)) = true := by simp; omega
          have t4 : decide ((s[k].toNat : Int) ≤ 57) = false := by simp; omega
          have HCC := Lib.hid hc
          clear hc
          go_wp2
          all_goals first
            | (go_ret; exact ⟨ret_bool (by rw [nm_no hlt (chB_no.2 (by have hz := HZ.out; have hc := HCC.out; rw [HC.out] at hc; simp at hz; omega))]), rfl⟩)
            | (go_round; (case rel => exact ⟨k + 1, by omega, by go_num, Lib.hid (nm_step HI.out (chB_yes.2 (by have hz := HZ.out; have hc := HCC.out; rw [HC.out] at hc; simp at hz; omega)))⟩); (case measure => simp [intOf]; omega))
    · obtain rfl : k = s.size := by omega
      have HN := Lib.hid (nm_yes HI.out)
      go_wp2_with (go_at_call 49; ((with_reducible refine (r_within _ _ _ _).mono ?_); rintro e w' ⟨rfl, rfl⟩))
      go_ret
      exact ⟨ret_bool HN.out.symm, rfl⟩
end Go.Proofs.YtoelekhkgknneaaDoor
