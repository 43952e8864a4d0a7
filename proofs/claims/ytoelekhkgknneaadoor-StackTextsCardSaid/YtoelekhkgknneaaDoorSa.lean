/- Stack, the first walks: bounds, courses, validity. -/
import Derived.Test.YtoelekhkgknneaaDoorProg
import Derived.Test.YtoelekhkgknneaaDoorKit
import Derived.Shelf.Abstract
namespace Go.Proofs.YtoelekhkgknneaaDoor
open Go.RowKit

def wn (n lo hi : Int) : Bool := decide (lo ≤ n) && decide (n ≤ hi)
structure Course where
  h : Int
  o : Int
  i : Int
  wt : Int
  e : Int
  n : Int
def Course.cs (c : Course) : List Value := [.int .i64 c.h, .int .i64 c.o, .int .i64 c.i, .int .i64 c.wt, .int .i64 c.e, .int .i64 c.n]
theorem rdC {w : World} {A : Option Addr} {l : List Course} (h : Rd Course.cs 6 w A l) {k : Nat} (hk : k < l.length) :
    ∃ x b off, l[k]? = some x ∧ A = some ⟨b, off, none⟩ ∧ b < w.heap.size ∧ w.cell? ⟨b, off + k * 6, none⟩ = some (.int .i64 x.h) ∧ w.cell? ⟨b, off + k * 6 + 1, none⟩ = some (.int .i64 x.o) ∧
      w.cell? ⟨b, off + k * 6 + 2, none⟩ = some (.int .i64 x.i) ∧ w.cell? ⟨b, off + k * 6 + 3, none⟩ = some (.int .i64 x.wt) ∧ w.cell? ⟨b, off + k * 6 + 4, none⟩ = some (.int .i64 x.e) ∧ w.cell? ⟨b, off + k * 6 + 5, none⟩ = some (.int .i64 x.n) := by
  obtain ⟨x, hx⟩ := get_lt hk
  obtain ⟨b, off, e, hb, hc⟩ := h.get hx
  exact ⟨x, b, off, hx, e, hb, hc 0 _ rfl, hc 1 _ rfl, hc 2 _ rfl, hc 3 _ rfl, hc 4 _ rfl, hc 5 _ rfl⟩
def soundB (c : Course) : Bool := wn c.h 1 2000 && (decide (0 ≤ c.i) && (decide (c.i < c.o) && (decide (c.o ≤ 5000) && (wn c.wt 1 1000000 && (wn c.e (-5000) 5000 && wn c.n (-5000) 5000)))))

theorem s_within (n lo hi : Int) (w : World) :
    Calls Tryd.prog 98 #[.int .i64 n, .int .i64 lo, .int .i64 hi] w fun e w' => e = .returned (.bool (wn n lo hi)) ∧ w = w' := by
  by_cases h : lo ≤ n
  all_goals
    go_enter Tryd.func98, Tryd.ntmps98
    go_wp2
    go_ret
    exact ⟨ret_bool (by simp [wn]; omega), rfl⟩
theorem r_within (n lo hi : Int) (w : World) :
    Calls Tryd.prog 104 #[.int .i64 n, .int .i64 lo, .int .i64 hi] w fun e w' => e = .returned (.bool (wn n lo hi)) ∧ w = w' := by
  by_cases h : lo ≤ n
  all_goals
    go_enter Tryd.func104, Tryd.ntmps104
    go_wp2
    go_ret
    exact ⟨ret_bool (by simp [wn]; omega), rfl⟩
theorem s_sound (c : Course) (w : World) :
    Calls Tryd.prog 101 #[.agg #[.int .i64 c.h, .int .i64 c.o, .int .i64 c.i, .int .i64 c.wt, .int .i64 c.e, .int .i64 c.n]] w fun r w' => r = .returned (.bool (soundB c)) ∧ Below w.heap.size w w' := by
  go_enter Tryd.func101, Tryd.ntmps101
  go_wp2_with (go_at_call 98; refine (s_within _ _ _ _).mono ?_; rintro e w' ⟨rfl, rfl⟩)
  all_goals
    go_ret
    exact ⟨ret_bool (by simp [soundB, *] <;> (intros; omega)), below_alloc _ _⟩
theorem r_sound (c : Course) (w : World) :
    Calls Tryd.prog 103 #[.agg #[.int .i64 c.h, .int .i64 c.o, .int .i64 c.i, .int .i64 c.wt, .int .i64 c.e, .int .i64 c.n]] w fun r w' => r = .returned (.bool (soundB c)) ∧ Below w.heap.size w w' := by
  go_enter Tryd.func103, Tryd.ntmps103
  go_wp2_with (go_at_call 104; refine (r_within _ _ _ _).mono ?_; rintro e w' ⟨rfl, rfl⟩)
  all_goals
    go_ret
    exact ⟨ret_bool (by simp [soundB, *] <;> (intros; omega)), below_alloc _ _⟩
theorem s_unsound (c : Course) (w : World) :
    Calls Tryd.prog 100 #[.agg #[.int .i64 c.h, .int .i64 c.o, .int .i64 c.i, .int .i64 c.wt, .int .i64 c.e, .int .i64 c.n]] w fun r w' => r = .returned (.bool (!soundB c)) ∧ Below w.heap.size w w' := by
  go_enter Tryd.func100, Tryd.ntmps100
  go_wp2_with (go_at_call 101; refine (s_sound c _).mono ?_; rintro e w' ⟨rfl, hb⟩)
  go_ret
  exact ⟨ret_bool rfl, below_tr (below_alloc _ _) hb⟩

theorem c_indexFunc (A : Option Addr) (l : List Course) (c : Nat) (p : Course → Bool) (f : FuncId) (cap : Array Value) (w : World) (hl : l.length ≤ 100000) (hR : Rd Course.cs 6 w A l)
    (he : ∀ args W, (callFunc f args).run Tryd.prog W = .ok (.enter f args) W)
    (hf : ∀ W x, Below w.heap.size w W → x ∈ l → Calls Tryd.prog f (#[.agg #[.int .i64 x.h, .int .i64 x.o, .int .i64 x.i, .int .i64 x.wt, .int .i64 x.e, .int .i64 x.n]] ++ cap) W fun e W' => e = .returned (.bool (p x)) ∧ Below W.heap.size W W') :
    Calls Tryd.prog 133 #[.slice A l.length c, .func (.func f) #[] cap] w fun e w' => e = .returned (.int .i64 (idxOf p l 0)) ∧ Below w.heap.size w w' := by
  have HF := Lib.hid hf
  clear hf
  go_enter Tryd.func133, Tryd.ntmps133
  go_wp2
  go_loopw [8] (fun i wr => ∃ k : Nat, k ≤ l.length ∧ i = .int .i64 k ∧ Below w.heap.size w wr ∧ Hid (idxOf p l 0 = idxOf p (l.drop k) k)) (fun i _ => l.length - (intOf i).toNat)
  case atStart => exact ⟨0, by omega, rfl, Below.refl _ _, rfl⟩
  case round =>
    obtain ⟨k, hk, rfl, hB, HI⟩ := hrel
    by_cases hlt : k < l.length
    · obtain ⟨x, b, off, hx, rfl, hb, c0, c1, c2, c3, c4, c5⟩ := rdC (hR.on hB) hlt
      have HD := Lib.hid (idxOf_drop p l k x hx)
      have hm := List.mem_of_getElem? hx
      have HC := Lib.hid (HF.out wr x hB hm)
      clear hx hm
      cases hp : p x
      all_goals
        have HP := Lib.hid hp
        clear hp
        go_wp2_with fail
        refine HC.out.mono ?_
        rintro e w1 ⟨rfl, hb1⟩
        rw [HP.out]
        go_wp2
      · go_roundw
        case rel => exact ⟨k + 1, by omega, by go_num, hB.trans (hb1.mono hB.size), by rw [HI.out, HD.out, HP.out]; rfl⟩
        case measure => simp [intOf]; omega
      · go_ret
        exact ⟨ret_int (by rw [HI.out, HD.out, HP.out]; rfl), hB.trans (hb1.mono hB.size)⟩
    · go_wp2
      go_ret
      exact ⟨ret_int (by rw [HI.out, List.drop_of_length_le (by omega)]; rfl), hB⟩

theorem c_containsFunc (A : Option Addr) (l : List Course) (c : Nat) (p : Course → Bool) (f : FuncId) (cap : Array Value) (w : World) (hl : l.length ≤ 100000) (hR : Rd Course.cs 6 w A l)
    (he : ∀ args W, (callFunc f args).run Tryd.prog W = .ok (.enter f args) W)
    (hf : ∀ W x, Below w.heap.size w W → x ∈ l → Calls Tryd.prog f (#[.agg #[.int .i64 x.h, .int .i64 x.o, .int .i64 x.i, .int .i64 x.wt, .int .i64 x.e, .int .i64 x.n]] ++ cap) W fun e W' => e = .returned (.bool (p x)) ∧ Below W.heap.size W W') :
    Calls Tryd.prog 99 #[.slice A l.length c, .func (.func f) #[] cap] w fun e w' => e = .returned (.bool (l.any p)) ∧ Below w.heap.size w w' := by
  have HC := Lib.hid (c_indexFunc A l c p f cap w hl hR he hf)
  have HA := Lib.hid (idxOf_nonneg p l 0)
  clear he hf hR
  go_enter Tryd.func99, Tryd.ntmps99
  go_wp2_with (go_at_call 133; refine HC.out.mono ?_; rintro e w' ⟨rfl, hb⟩)
  go_ret
  exact ⟨ret_bool (by rw [Bool.eq_iff_iff, ← HA.out]; simp), hb⟩

def validC (l : List Course) : Bool := wn l.length 1 60 && l.all soundB
theorem any_not_sound (l : List Course) : (l.any fun c => !soundB c) = !l.all soundB := by induction l <;> simp_all

theorem s_valid (A : Option Addr) (l : List Course) (c : Nat) (w : World) (hl : l.length ≤ 100000) (hR : Rd Course.cs 6 w A l) :
    Calls Tryd.prog 59 #[.slice A l.length c] w fun e w' => e = .returned (.bool (validC l)) ∧ Below w.heap.size w w' := by
  have HC := Lib.hid (c_containsFunc A l c (fun c => !soundB c) 100 #[] w hl hR (enters_of Tryd.func100 (by kernel_rfl) rfl) (fun W x _ _ => s_unsound x W))
  rw [any_not_sound] at HC
  go_enter Tryd.func59, Tryd.ntmps59
  go_wp2_with (first
    | (go_at_call 98; refine (s_within _ _ _ _).mono ?_; rintro e w' ⟨rfl, rfl⟩)
    | (go_at_call 99; refine HC.out.mono ?_; rintro e w' ⟨rfl, hb⟩))
  all_goals go_ret
  · exact ⟨ret_bool (by simp [validC, *]), hb⟩
  · exact ⟨ret_bool (by simp [validC, *]), below_refl _⟩

theorem all_take_succ {α : Type} {p : α → Bool} {l : List α} {k : Nat} {x : α} (hx : l[k]? = some x) (h : (l.take k).all p = true) : (l.take (k + 1)).all p = p x := by
  rw [List.take_add_one, hx]; simp [h]
theorem all_take_false {α : Type} {p : α → Bool} {l : List α} {k : Nat} {x : α} (hx : l[k]? = some x) (h : p x = false) : l.all p = false := by
  rw [List.all_eq_false]; exact ⟨x, List.mem_of_getElem? hx, by simp [h]⟩

theorem r_valid (A : Option Addr) (l : List Course) (c : Nat) (w : World) (hl : l.length ≤ 100000) (hR : Rd Course.cs 6 w A l) :
    Calls Tryd.prog 62 #[.slice A l.length c] w fun e w' => e = .returned (.bool (validC l)) ∧ Below w.heap.size w w' := by
  go_enter Tryd.func62, Tryd.ntmps62
  go_wp2
  go_loopw [3] (fun i wr => ∃ k : Nat, k ≤ l.length ∧ i = .int .i64 k ∧ Below w.heap.size w wr ∧ Hid ((l.take k).all soundB = true)) (fun i _ => l.length - (intOf i).toNat)
  case atStart => exact ⟨0, by omega, rfl, Below.refl _ _, by show _ = _; simp⟩
  case round =>
    obtain ⟨k, hk, rfl, hB, HI⟩ := hrel
    by_cases hlt : k < l.length
    · obtain ⟨x, b, off, hx, rfl, hb, c0, c1, c2, c3, c4, c5⟩ := rdC (hR.on hB) hlt
      cases hp : soundB x
      all_goals
        have HX := Lib.hid hx
        have HP := Lib.hid hp
        clear hp hx
        go_wp2_with (go_at_call 103; refine (r_sound x _).mono ?_; rintro e w' ⟨rfl, hb1⟩; rw [HP.out])
      · go_ret
        exact ⟨ret_bool (by simp [validC, all_take_false HX.out HP.out]), hB.trans (hb1.mono hB.size)⟩
      · go_roundw
        case rel => exact ⟨k + 1, by omega, by go_num, hB.trans (hb1.mono hB.size), by show _ = _; rw [all_take_succ HX.out HI.out, HP.out]⟩
        case measure => simp [intOf]; omega
    · have ha : l.all soundB = true := by have := HI.out; rwa [List.take_of_length_le (by omega)] at this
      have HA := Lib.hid ha
      clear ha HI
      go_wp2_with (go_at_call 104; refine (r_within _ _ _ _).mono ?_; rintro e w' ⟨rfl, rfl⟩)
      go_ret
      exact ⟨ret_bool (by simp [validC, HA.out]), hB⟩

def askedE (l : List Course) (bed : Int) : Int := if validC l then (if wn bed 0 ((l.length : Int) - 1) then 0 else 7) else 1
def windyE (l : List Course) (bed p side : Int) : Int := if validC l then (if wn bed 0 ((l.length : Int) - 1) && (wn p 0 10000 && wn side 0 3) then 0 else 7) else 1

theorem s_asked (A : Option Addr) (l : List Course) (c : Nat) (bed : Int) (w : World) (hl : l.length ≤ 100000) (hR : Rd Course.cs 6 w A l) :
    Calls Tryd.prog 131 #[.slice A l.length c, .int .i64 bed] w fun e w' => e = .returned (.int .i64 (askedE l bed)) ∧ Below w.heap.size w w' := by
  go_enter Tryd.func131, Tryd.ntmps131
  go_wp2_with (first
    | (go_at_call 98; refine (s_within _ _ _ _).mono ?_; rintro e w' ⟨rfl, rfl⟩)
    | (go_at_call 59; refine (s_valid A l c _ hl hR).mono ?_; rintro e w' ⟨rfl, hb⟩))
  all_goals go_ret
  all_goals exact ⟨ret_int (by simp_all [askedE]), hb⟩

theorem s_windy (A : Option Addr) (l : List Course) (c : Nat) (bed p side : Int) (w : World) (hl : l.length ≤ 100000) (hR : Rd Course.cs 6 w A l) :
    Calls Tryd.prog 94 #[.slice A l.length c, .int .i64 bed, .int .i64 p, .int .i64 side] w fun e w' => e = .returned (.int .i64 (windyE l bed p side)) ∧ Below w.heap.size w w' := by
  go_enter Tryd.func94, Tryd.ntmps94
  go_wp2_with (first
    | (go_at_call 98; refine (s_within _ _ _ _).mono ?_; rintro e w' ⟨rfl, rfl⟩)
    | (go_at_call 131; refine (s_asked A l c bed _ hl hR).mono ?_; rintro e w' ⟨rfl, hb⟩))
  all_goals go_ret
  all_goals exact ⟨ret_int (by simp only [windyE, askedE] at *; cases hv : validC l <;> cases hw : wn bed 0 ((l.length : Int) - 1) <;> simp_all), hb⟩

end Go.Proofs.YtoelekhkgknneaaDoor
