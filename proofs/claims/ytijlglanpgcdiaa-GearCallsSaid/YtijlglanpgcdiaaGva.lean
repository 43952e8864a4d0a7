/- Gear: lists of texts; ContainsFunc at flaws; what makes a link weak. -/
import Derived.Test.YtijlglanpgcdiaaGzc
import Derived.StillTail
import Derived.StillTailTactics
set_option linter.unusedSimpArgs false
set_option linter.unusedVariables false
namespace Go.Proofs.Ytijlglanpgcdiaa
open Go.RowKit Go.Maps

def sC (s : ByteArray) : List Value := [.string s]
theorem rdS {w : World} {A : Option Addr} {l : List ByteArray} (h : Rd sC 1 w A l) {k : Nat} (hk : k < l.length) :
    ∃ x b off, l[k]? = some x ∧ A = some ⟨b, off, none⟩ ∧ b < w.heap.size ∧ w.cell? ⟨b, off + k, none⟩ = some (.string x) := by
  obtain ⟨x, hx⟩ := get_lt hk
  obtain ⟨b, off, e, hb, hc⟩ := h.get hx
  exact ⟨x, b, off, hx, e, hb, by simpa using hc 0 _ rfl⟩
def hasB (l : List ByteArray) (s : ByteArray) : Bool := l.any fun x => s.toList == x.toList
theorem has_idx (l : List ByteArray) (s : ByteArray) : hasB l s = decide (0 ≤ idxOf (fun x : ByteArray => s.toList == x.toList) l 0) := by
  rw [Bool.eq_iff_iff, decide_eq_true_iff, idxOf_nonneg]; rfl
theorem toList_comm (a b : ByteArray) : (a.toList == b.toList) = (b.toList == a.toList) := by
  rw [Bool.eq_iff_iff, beq_iff_eq, beq_iff_eq]; exact eq_comm
set_option maxHeartbeats 1000000 in
set_option maxRecDepth 20000 in
theorem p_index (A : Option Addr) (l : List ByteArray) (c : Nat) (s : ByteArray) (w : World) (hl : l.length ≤ 100000) (hR : Rd sC 1 w A l) :
    Calls Try.prog 89 #[.slice A l.length c, .string s] w fun e w' => e = .returned (.int .i64 (idxOf (fun x : ByteArray => s.toList == x.toList) l 0)) ∧ w = w' := by
  go_enter Try.func89, Try.ntmps89
  go_wp2
  go_loop [8] (fun i => ∃ k : Nat, k ≤ l.length ∧ i = .int .i64 k ∧ Hid (idxOf (fun x : ByteArray => s.toList == x.toList) l 0 = idxOf (fun x : ByteArray => s.toList == x.toList) (l.drop k) k)) (fun i => l.length - (intOf i).toNat)
  case atStart => exact ⟨0, by omega, rfl, Lib.hid rfl⟩
  case round =>
    obtain ⟨k, hk, rfl, HI⟩ := hrel
    have k0 : (0 : Int) ≤ (k : Int) := Int.natCast_nonneg _
    by_cases hlt : k < l.length
    · have k1 : (k : Int) < (l.length : Int) := by omega
      obtain ⟨x, b, off, hx, rfl, hb, c0⟩ := rdS hR hlt
      have HD := Lib.hid (idxOf_drop (fun x : ByteArray => s.toList == x.toList) l k x hx)
      clear hx
      cases he : (s.toList == x.toList)
      · have HE := Lib.hid he
        go_wp2
        go_round
        case rel => exact ⟨k + 1, by omega, by go_num, Lib.hid (by rw [HI.out, HD.out, HE.out]; rfl)⟩
        case measure => simp [intOf]; omega
      · have HE := Lib.hid he
        go_wp2
        go_ret
        exact ⟨by rw [HI.out, HD.out, HE.out]; rfl, rfl⟩
    · obtain rfl : k = l.length := by omega
      go_wp2
      go_ret
      exact ⟨by rw [HI.out, List.drop_length]; rfl, rfl⟩
theorem p_contains (A : Option Addr) (l : List ByteArray) (c : Nat) (s : ByteArray) (w : World) (hl : l.length ≤ 100000) (hR : Rd sC 1 w A l) :
    Calls Try.prog 75 #[.slice A l.length c, .string s] w fun e w' => e = .returned (.bool (hasB l s)) ∧ w = w' := by
  have HC := Lib.hid (p_index A l c s w hl hR)
  have HA := Lib.hid (has_idx l s)
  clear hR
  go_enter Try.func75, Try.ntmps75
  go_wp2_with (go_at_call 89; refine HC.out.mono ?_; rintro e w' ⟨rfl, rfl⟩)
  go_ret
  exact ⟨ret_bool (by rw [HA.out]), rfl⟩
set_option maxHeartbeats 1000000 in
set_option maxRecDepth 20000 in
theorem r_Has (A : Option Addr) (l : List ByteArray) (c : Nat) (s : ByteArray) (w : World) (hl : l.length ≤ 100000) (hR : Rd sC 1 w A l) :
    Calls Try.prog 79 #[.slice A l.length c, .string s] w fun e w' => e = .returned (.bool (hasB l s)) ∧ w' = w := by
  go_enter Try.func79, Try.ntmps79
  go_wp2
  go_loop [5] (fun i => ∃ k : Nat, k ≤ l.length ∧ i = .int .i64 k ∧ Hid (hasB (l.take k) s = false)) (fun i => l.length - (intOf i).toNat)
  case atStart => exact ⟨0, by omega, rfl, Lib.hid rfl⟩
  case round =>
    obtain ⟨k, hk, rfl, HI⟩ := hrel
    have k0 : (0 : Int) ≤ (k : Int) := Int.natCast_nonneg _
    by_cases hlt : k < l.length
    · have k1 : (k : Int) < (l.length : Int) := by omega
      obtain ⟨x, b, off, hx, rfl, hb, c0⟩ := rdS hR hlt
      have HX := Lib.hid hx
      clear hx
      cases he : (x.toList == s.toList)
      · have HE := Lib.hid (show hasB (l.take (k + 1)) s = false by
          have h1 := HI.out
          unfold hasB at h1 ⊢
          rw [List.take_add_one, HX.out, List.any_append, h1]; simp; rw [toList_comm] at he; simpa using he)
        go_wp2
        go_round
        case rel => exact ⟨k + 1, by omega, by go_num, HE⟩
        case measure => simp [intOf]; omega
      · have HE := Lib.hid (show hasB l s = true by
          unfold hasB
          rw [List.any_eq_true]
          exact ⟨x, List.mem_of_getElem? HX.out, by rw [toList_comm]; exact he⟩)
        go_wp2
        go_ret
        exact ⟨by rw [HE.out]; rfl, rfl⟩
    · obtain rfl : k = l.length := by omega
      have HE := Lib.hid (show hasB l s = false by have := HI.out; rwa [List.take_length] at this)
      go_wp2
      go_ret
      exact ⟨by rw [HE.out]; rfl, rfl⟩
/-- a flaw: a function and what it captured -/
structure Fw where
  f : FuncId
  cap : Array Value
def Fw.cs (x : Fw) : List Value := [.func (.func x.f) #[] x.cap]
abbrev fwV (x : Fw) : Value := .agg #[.func (.func x.f) #[] x.cap]
theorem rdF {w : World} {A : Option Addr} {l : List Fw} (h : Rd Fw.cs 1 w A l) {k : Nat} (hk : k < l.length) :
    ∃ x b off, l[k]? = some x ∧ A = some ⟨b, off, none⟩ ∧ b < w.heap.size ∧ w.cell? ⟨b, off + k, none⟩ = some (.func (.func x.f) #[] x.cap) := by
  obtain ⟨x, hx⟩ := get_lt hk
  obtain ⟨b, off, e, hb, hc⟩ := h.get hx
  exact ⟨x, b, off, hx, e, hb, by simpa using hc 0 _ rfl⟩
theorem c_indexF (A : Option Addr) (l : List (Fw)) (c : Nat) (p : Fw → Bool) (f : FuncId) (cap : Array Value) (w : World) (hl : l.length ≤ 100000) (hR : Rd Fw.cs 1 w A l)
    (he : ∀ args W, (callFunc f args).run Try.prog W = .ok (.enter f args) W)
    (hf : ∀ W x, Below w.heap.size w W → x ∈ l → Calls Try.prog f (#[fwV x] ++ cap) W fun e W' => e = .returned (.bool (p x)) ∧ Below W.heap.size W W') :
    Calls Try.prog 90 #[.slice A l.length c, .func (.func f) #[] cap] w fun e w' => e = .returned (.int .i64 (idxOf p l 0)) ∧ Below w.heap.size w w' := by
  have HF := Lib.hid hf
  clear hf
  go_enter Try.func90, Try.ntmps90
  go_wp2
  go_loopw [8] (fun i wr => ∃ k : Nat, k ≤ l.length ∧ i = .int .i64 k ∧ Below w.heap.size w wr ∧ Hid (idxOf p l 0 = idxOf p (l.drop k) k)) (fun i _ => l.length - (intOf i).toNat)
  case atStart => exact ⟨0, by omega, rfl, Below.refl _ _, rfl⟩
  case round =>
    obtain ⟨k, hk, rfl, hB, HI⟩ := hrel
    by_cases hlt : k < l.length
    · obtain ⟨x, b, off, hx, rfl, hb, c0⟩ := rdF (hR.on hB) hlt
      have HD := Lib.hid (idxOf_drop p l k x hx)
      have hm := List.mem_of_getElem? hx
      have HC := Lib.hid (HF.out wr x hB hm)
      clear hx hm
      cases hp : p x
      all_goals
        have HP := Lib.hid hp
        clear hp
        go_wp2_with fail
        refine HC.out.mono ?_
        rintro e w1 ⟨rfl, hb1⟩
        rw [HP.out]
        go_wp2
      · go_roundw
        case rel => exact ⟨k + 1, by omega, by go_num, hB.trans (hb1.mono hB.size), by rw [HI.out, HD.out, HP.out]; rfl⟩
        case measure => simp [intOf]; omega
      · go_ret
        exact ⟨ret_int (by rw [HI.out, HD.out, HP.out]; rfl), hB.trans (hb1.mono hB.size)⟩
    · go_wp2
      go_ret
      exact ⟨ret_int (by rw [HI.out, List.drop_of_length_le (by omega)]; rfl), hB⟩

theorem c_containsF (A : Option Addr) (l : List (Fw)) (c : Nat) (p : Fw → Bool) (f : FuncId) (cap : Array Value) (w : World) (hl : l.length ≤ 100000) (hR : Rd Fw.cs 1 w A l)
    (he : ∀ args W, (callFunc f args).run Try.prog W = .ok (.enter f args) W)
    (hf : ∀ W x, Below w.heap.size w W → x ∈ l → Calls Try.prog f (#[fwV x] ++ cap) W fun e W' => e = .returned (.bool (p x)) ∧ Below W.heap.size W W') :
    Calls Try.prog 77 #[.slice A l.length c, .func (.func f) #[] cap] w fun e w' => e = .returned (.bool (l.any p)) ∧ Below w.heap.size w w' := by
  have HC := Lib.hid (c_indexF A l c p f cap w hl hR he hf)
  have HA := Lib.hid (idxOf_nonneg p l 0)
  clear he hf hR
  go_enter Try.func77, Try.ntmps77
  go_wp2_with (go_at_call 90; refine HC.out.mono ?_; rintro e w' ⟨rfl, hb⟩)
  go_ret
  exact ⟨ret_bool (by rw [Bool.eq_iff_iff, ← HA.out]; simp), hb⟩

theorem p_Weak1 (x : It) (y day : Int) (b : Nat) (w : World) (hb : b < w.heap.size) (hc : w.cell? ⟨b, 0, none⟩ = some (.int .i64 day)) :
    Calls Try.prog 73 #[itV x, .int .i64 y, .pointer (some ⟨b, 0, none⟩)] w fun e w' => e = .returned (.bool (decide (x.du < day))) ∧ Below w.heap.size w w' := by
  go_enter Try.func73, Try.ntmps73
  go_wp2
  go_ret
  exact ⟨rfl, by (repeat' (first | assumption | exact below_refl _ | refine bl_alloc ?_ _ | refine Below.setCell ?_ ?_ _ | refine below_draw ?_ | refine below_drewN ?_ _ | refine below_tr ?_ (by assumption))) <;> (first | omega | (simp; done) | (simp; omega))⟩
theorem p_Weak2 (x : It) (y : Int) (b : Nat) (A : Option Addr) (l : List ByteArray) (c : Nat) (w : World) (hb : b < w.heap.size) (hl : l.length ≤ 100000) (hR : Rd sC 1 w A l) (hc : w.cell? ⟨b, 0, none⟩ = some (.slice A l.length c)) :
    Calls Try.prog 74 #[itV x, .int .i64 y, .pointer (some ⟨b, 0, none⟩)] w fun e w' => e = .returned (.bool (hasB l x.bt)) ∧ Below w.heap.size w w' := by
  have HC := Lib.hid (fun W (h : Below w.heap.size w W) => p_contains A l c x.bt W hl (hR.on h))
  clear hR
  go_enter Try.func74, Try.ntmps74
  go_wp2_with (go_at_call 75; refine (HC.out _ (by (repeat' (first | assumption | exact below_refl _ | refine bl_alloc ?_ _ | refine Below.setCell ?_ ?_ _ | refine below_draw ?_ | refine below_drewN ?_ _ | refine below_tr ?_ (by assumption))) <;> (first | omega | (simp; done) | (simp; omega)))).mono ?_; rintro e w' ⟨rfl, rfl⟩)
  go_ret
  exact ⟨rfl, by (repeat' (first | assumption | exact below_refl _ | refine bl_alloc ?_ _ | refine Below.setCell ?_ ?_ _ | refine below_draw ?_ | refine below_drewN ?_ _ | refine below_tr ?_ (by assumption))) <;> (first | omega | (simp; done) | (simp; omega))⟩
theorem p_Weak3 (x : It) (y : Int) (w : World) :
    Calls Try.prog 76 #[itV x, .int .i64 y] w fun e w' => e = .returned (.bool (decide (x.ld < y))) ∧ Below w.heap.size w w' := by
  go_enter Try.func76, Try.ntmps76
  go_wp2
  go_ret
  exact ⟨ret_bool (by simp), by (repeat' (first | assumption | exact below_refl _ | refine bl_alloc ?_ _ | refine Below.setCell ?_ ?_ _ | refine below_draw ?_ | refine below_drewN ?_ _ | refine below_tr ?_ (by assumption))) <;> (first | omega | (simp; done) | (simp; omega))⟩
set_option maxHeartbeats 1000000 in
set_option maxRecDepth 20000 in
theorem p_Weak4 (x : Fw) (it : It) (y : Int) (v : Bool) (b1 b2 b3 k c : Nat) (A : Option Addr) (Y : List Int) (w : World) (h1 : b1 < w.heap.size) (h2 : b2 < w.heap.size) (h3 : b3 < w.heap.size) (hk : Y[k]? = some y) (hR : Rd zC 1 w A Y)
    (c0 : w.cell? ⟨b1, 0, none⟩ = some (.string it.nm)) (c1 : w.cell? ⟨b1, 1, none⟩ = some (.int .i64 it.ld)) (c2 : w.cell? ⟨b1, 2, none⟩ = some (.int .i64 it.du)) (c3 : w.cell? ⟨b1, 3, none⟩ = some (.string it.bt))
    (c4 : w.cell? ⟨b2, 0, none⟩ = some (.slice A Y.length c)) (c5 : w.cell? ⟨b3, 0, none⟩ = some (.int .i64 (k : Nat)))
    (he : ∀ args W, (callFunc x.f args).run Try.prog W = .ok (.enter x.f args) W)
    (hf : ∀ W, Below w.heap.size w W → Calls Try.prog x.f (#[itV it, .int .i64 y] ++ x.cap) W fun e W' => e = .returned (.bool v) ∧ Below W.heap.size W W') :
    Calls Try.prog 78 #[fwV x, .pointer (some ⟨b1, 0, none⟩), .pointer (some ⟨b2, 0, none⟩), .pointer (some ⟨b3, 0, none⟩)] w fun e w' => e = .returned (.bool v) ∧ Below w.heap.size w w' := by
  have hkl := (List.getElem?_eq_some_iff.1 hk).1
  obtain ⟨y', ab, ao, hy, rfl, hab, d0⟩ := rd_int hR hkl
  obtain rfl : y = y' := by rw [hk] at hy; exact Option.some.inj hy
  have k0 : (0 : Int) ≤ (k : Int) := Int.natCast_nonneg _
  have k1 : (k : Int) < (Y.length : Int) := by omega
  have HF := Lib.hid hf
  have HB := Lib.hid (show Below w.heap.size w (w.alloc (.cells #[.func (.func x.f) #[] x.cap] 84)) from bl_alloc (below_refl _) _)
  clear hk hy hR hf
  go_enter Try.func78, Try.ntmps78
  go_wp2_with fail
  refine wp_region_still_tail 7 (by kernel_rfl) (by kernel_rfl) ?_
  change wpStill _ _ (World.drew _) _ _ _
  simp only [List.take_succ_cons, List.take_zero, List.drop_succ_cons, List.drop_zero]
  repeat still_step
  refine wpStill_nil ?_
  change wpList _ _ _ _ _ (World.drew _)
  go_wp2_with fail
  refine (HF.out _ (by (repeat' (first | assumption | exact below_refl _ | refine bl_alloc ?_ _ | refine Below.setCell ?_ ?_ _ | refine below_draw ?_ | refine below_drewN ?_ _ | refine below_tr ?_ (by assumption))) <;> (first | omega | (simp; done) | (simp; omega)))).mono ?_
  rintro e w1 ⟨rfl, hb1⟩
  go_wp2
  go_ret
  exact ⟨rfl, by (repeat' (first | assumption | exact below_refl _ | refine bl_alloc ?_ _ | refine Below.setCell ?_ ?_ _ | refine below_draw ?_ | refine below_drewN ?_ _ | refine below_tr ?_ (by assumption))) <;> (first | omega | (simp; done) | (simp; omega))⟩
end Go.Proofs.Ytijlglanpgcdiaa
