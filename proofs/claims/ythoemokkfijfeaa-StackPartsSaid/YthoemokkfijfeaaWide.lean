/- Numbers of 128 bits: products and sums of the two programs. -/
import Derived.Test.YthoemokkfijfeaaNum
import Derived.Test.YthoemokkfijfeaaShelf
import Derived.Laws.Externs
import Derived.Lib.Hide
namespace Go.Proofs.Ythoemokkfijfeaa
open Go.RowKit

def Q64 : Nat := 18446744073709551616
def hi64 (v : Nat) : Nat := v / Q64
def lo64 (v : Nat) : Nat := v % Q64
theorem c_mul64 (x y : Nat) (hx : x < Q64) (hy : y < Q64) (w : World) :
    Calls Try.prog 92 #[.int .u64 x, .int .u64 y] w fun e w' => e = .returned (.tuple #[.int .u64 (hi64 (x * y) : Nat), .int .u64 (lo64 (x * y) : Nat)]) ∧ w = w' :=
  (Try.bits_Mul64 x y hx hy w).mono fun _ _ ⟨h1, h2⟩ => ⟨h1, h2.symm⟩
theorem c_add64 (x y : Nat) (w : World) :
    (callFunc 93 #[.int .u64 x, .int .u64 y, .int .u64 0]).run Try.prog w = .ok (.value (.tuple #[.int .u64 (lo64 (x + y) : Nat), .int .u64 (hi64 (x + y) : Nat)])) w := by
  rw [run_callFunc_extern Try.func93 (by kernel_rfl) (by kernel_rfl) (by kernel_rfl) (e := add64Entry) (by kernel_rfl), run_add64 x y 0 (by omega) (by omega) (by omega) (by omega)]
  simp only [Result.andThen, lo64, hi64, Q64]
  congr 5 <;> omega
theorem wrap_u64 {n : Nat} (h : n < Q64) : IntKind.u64.wrap (n : Int) = n := by unfold Q64 at h; rw [IntKind.wrap_u64]; omega
theorem hi_lt {v : Nat} (h : v < Q64 * Q64) : hi64 v < Q64 := by unfold hi64; unfold Q64 at *; omega
theorem lo_lt (v : Nat) : lo64 v < Q64 := by unfold lo64; unfold Q64 at *; omega

/-- a number of 128 bits as the program holds it -/
abbrev wideV (v : Nat) : Value := .agg #[.int .u64 (hi64 v : Nat), .int .u64 (lo64 v : Nat)]

theorem load_wide {W : World} {b : Nat} {x y : Value} (h : Blk W b 96 #[x, y]) : (loadVar 96 ⟨b, 0, none⟩).run Try.prog W = .ok (.agg #[x, y]) W := by
  have c0 := h.cell 0
  have c1 := h.cell 1
  simp only [List.getElem?_toArray, List.getElem?_cons_zero, List.getElem?_cons_succ] at c0 c1
  go_simp

set_option maxRecDepth 20000 in
theorem s_times (a b : Nat) (w : World) (ha : (a : Int) < 9223372036854775808) (hb : (b : Int) < 9223372036854775808) :
    Calls Try.prog 83 #[.int .i64 a, .int .i64 b] w fun e w' => e = .returned (wideV (a * b)) ∧ Below w.heap.size w w' := by
  have ha' : a < Q64 := by unfold Q64; omega
  have hb' : b < Q64 := by unfold Q64; omega
  have e1 := wrap_u64 ha'
  have e2 := wrap_u64 hb'
  have HC := Lib.hid (fun W => c_mul64 a b ha' hb' W)
  clear ha hb ha' hb'
  go_enter Try.func83, Try.ntmps83
  go_wp2_with (go_at_call 92; refine (HC.out _).mono ?_; rintro e w1 ⟨rfl, rfl⟩)
  refine bodyPost_ret (res_c rfl rfl (load_wide (Blk.new w _ _))) rfl ⟨rfl, below_alloc _ _⟩

theorem hl_eq (v : Nat) : v = hi64 v * Q64 + lo64 v := by unfold hi64 lo64; have := Nat.div_add_mod v Q64; rw [Nat.mul_comm] at this; exact this.symm
theorem hi_add (v u : Nat) : hi64 (v + u) = hi64 v + hi64 u + hi64 (lo64 v + lo64 u) := by
  unfold hi64 lo64 Q64; omega
theorem lo_add (v u : Nat) : lo64 (lo64 v + lo64 u) = lo64 (v + u) := by unfold lo64 Q64; omega

set_option maxRecDepth 20000 in
theorem s_plus (v u : Nat) (w : World) (h : v + u < Q64 * Q64) :
    Calls Try.prog 85 #[wideV v, wideV u] w fun e w' => e = .returned (wideV (v + u)) ∧ Below w.heap.size w w' := by
  have h1 := hi_add v u
  have h2 := hi_lt h
  have e1 : IntKind.u64.wrap ((hi64 v : Nat) + (hi64 u : Nat) : Int) = (hi64 v : Nat) + (hi64 u : Nat) := by
    have := wrap_u64 (n := hi64 v + hi64 u) (by omega); simpa using this
  have e2 : IntKind.u64.wrap ((hi64 v : Nat) + (hi64 u : Nat) + (hi64 (lo64 v + lo64 u) : Nat) : Int) = (hi64 (v + u) : Nat) := by
    have := wrap_u64 h2; rw [h1] at this; rw [h1]; simpa using this
  have e3 : ((lo64 (lo64 v + lo64 u) : Nat) : Int) = (lo64 (v + u) : Nat) := by rw [lo_add]
  have HC := fun W => c_add64 (lo64 v) (lo64 u) W
  clear h h1 h2
  go_enter Try.func85, Try.ntmps85
  go_wp2
  have h0 : (w.heap.size + 1 + 1) = ((w.alloc (.cells #[.int .u64 (hi64 v : Nat), .int .u64 (lo64 v : Nat)] 96)).alloc (.cells #[.int .u64 (hi64 u : Nat), .int .u64 (lo64 u : Nat)] 96)).heap.size := by simp
  refine bodyPost_ret (res_c rfl rfl (by rw [h0]; exact load_wide (Blk.new _ _ _))) rfl ⟨rfl, ((below_alloc _ _).alloc (by simp) _).alloc (by simp; omega) _⟩

theorem wide_cases (v u : Nat) : (hi64 u < hi64 v ∧ u < v) ∨ (hi64 u = hi64 v ∧ lo64 u < lo64 v ∧ u < v) ∨ (hi64 u = hi64 v ∧ lo64 u = lo64 v ∧ ¬ u < v) ∨ (hi64 u = hi64 v ∧ lo64 v < lo64 u ∧ ¬ u < v) ∨ (hi64 v < hi64 u ∧ ¬ u < v) := by
  unfold hi64 lo64 Q64; omega

set_option maxRecDepth 20000 in
theorem s_above (v u : Nat) (w : World) :
    Calls Try.prog 86 #[wideV v, wideV u] w fun e w' => e = .returned (.bool (decide (u < v))) ∧ Below w.heap.size w w' := by
  rcases wide_cases v u with ⟨h1, h2⟩ | ⟨h1, h2, h3⟩ | ⟨h1, h2, h3⟩ | ⟨h1, h2, h3⟩ | ⟨h1, h2⟩
  · have H := Lib.hid h2
    have t1 : (((hi64 v : Nat) : Int) == (hi64 u : Nat)) = false := by simp; omega
    clear h2
    go_enter Try.func86, Try.ntmps86
    go_wp2
    go_ret
    exact ⟨ret_bool (by simp [H.out]), (below_alloc _ _).alloc (by simp) _⟩
  · have H := Lib.hid h3
    have t1 : (((lo64 v : Nat) : Int) == (lo64 u : Nat)) = false := by simp; omega
    clear h3
    unfold wideV
    rw [h1]
    clear h1
    go_enter Try.func86, Try.ntmps86
    go_wp2
    go_ret
    exact ⟨ret_bool (by simp [H.out]), (below_alloc _ _).alloc (by simp) _⟩
  · have H := Lib.hid h3
    clear h3
    unfold wideV
    rw [h1, h2]
    clear h1 h2
    go_enter Try.func86, Try.ntmps86
    go_wp2
    go_ret
    exact ⟨ret_bool (by simp; exact Nat.not_lt.1 H.out), (below_alloc _ _).alloc (by simp) _⟩
  · have H := Lib.hid h3
    have t1 : (((lo64 v : Nat) : Int) == (lo64 u : Nat)) = false := by simp; omega
    clear h3
    unfold wideV
    rw [h1]
    clear h1
    go_enter Try.func86, Try.ntmps86
    go_wp2
    go_ret
    exact ⟨ret_bool (by simp; exact ⟨fun h => absurd h (by omega), fun h => absurd h H.out⟩), (below_alloc _ _).alloc (by simp) _⟩
  · have H := Lib.hid h2
    have t1 : (((hi64 v : Nat) : Int) == (hi64 u : Nat)) = false := by simp; omega
    clear h2
    go_enter Try.func86, Try.ntmps86
    go_wp2
    go_ret
    exact ⟨ret_bool (by simp; exact ⟨fun h => absurd h (by omega), fun h => absurd h H.out⟩), (below_alloc _ _).alloc (by simp) _⟩

theorem s_size (n : Int) (w : World) (h : Fits n) :
    Calls Try.prog 84 #[.int .i64 n] w fun e w' => e = .returned (.int .i64 (n.natAbs : Nat)) ∧ w = w' := by
  have e1 : IntKind.i64.wrap (-n) = -n := fits_wrap (by unfold Fits at *; omega)
  go_enter Try.func84, Try.ntmps84
  go_wp2
  all_goals
    go_ret
    exact ⟨ret_int (by omega), rfl⟩

theorem r_size (n : Int) (w : World) (h : Fits n) :
    Calls Try.prog 88 #[.int .i64 n] w fun e w' => e = .returned (.int .u64 (n.natAbs : Nat)) ∧ w = w' := by
  obtain ⟨h1, h2⟩ := h
  by_cases hn : n < 0
  · have e1 : IntKind.u64.wrap (-(IntKind.u64.wrap n)) = (n.natAbs : Int) := by rw [IntKind.wrap_u64, IntKind.wrap_u64]; omega
    go_enter Try.func88, Try.ntmps88
    go_wp2
    go_ret
    exact ⟨rfl, rfl⟩
  · have e1 : IntKind.u64.wrap n = (n.natAbs : Int) := by rw [IntKind.wrap_u64]; omega
    go_enter Try.func88, Try.ntmps88
    go_wp2
    go_ret
    exact ⟨rfl, rfl⟩

set_option maxRecDepth 20000 in
theorem r_atMost (a b m n d : Nat) (w : World) (ha : a < Q64) (hb : b < Q64) (hm : m < Q64) (hn : n < Q64) (hd : d < Q64) (h : (a + b) * m < Q64 * Q64) :
    Calls Try.prog 87 #[.int .u64 a, .int .u64 b, .int .u64 m, .int .u64 n, .int .u64 d] w fun e w' => e = .returned (.bool (decide ((a + b) * m ≤ n * d))) ∧ w = w' := by
  have hT : (a + b) * m = a * m + b * m := Nat.add_mul _ _ _
  rw [hT] at h ⊢
  have h1 := hi_add (a * m) (b * m)
  have h2 := hi_lt h
  have e1 : IntKind.u64.wrap ((hi64 (a * m) : Nat) + (hi64 (b * m) : Nat) : Int) = (hi64 (a * m) : Nat) + (hi64 (b * m) : Nat) := by
    have := wrap_u64 (n := hi64 (a * m) + hi64 (b * m)) (by omega); simpa using this
  have e2 : IntKind.u64.wrap ((hi64 (a * m) : Nat) + (hi64 (b * m) : Nat) + (hi64 (lo64 (a * m) + lo64 (b * m)) : Nat) : Int) = (hi64 (a * m + b * m) : Nat) := by
    have := wrap_u64 h2; rw [h1] at this; rw [h1]; simpa using this
  have e3 : ((lo64 (lo64 (a * m) + lo64 (b * m)) : Nat) : Int) = (lo64 (a * m + b * m) : Nat) := by rw [lo_add]
  have HC := fun W => c_add64 (lo64 (a * m)) (lo64 (b * m)) W
  have H1 := Lib.hid (fun W => c_mul64 a m ha hm W)
  have H2 := Lib.hid (fun W => c_mul64 b m hb hm W)
  have H3 := Lib.hid (fun W => c_mul64 n d hn hd W)
  have W1 := wide_cases (a * m + b * m) (n * d)
  clear h h1 h2 ha hb hm hn hd hT
  generalize a * m + b * m = T at *
  generalize n * d = U at *
  rcases W1 with ⟨h1, h2⟩ | ⟨h1, h2, h3⟩ | ⟨h1, h2, h3⟩ | ⟨h1, h2, h3⟩ | ⟨h1, h2⟩
  · have H := Lib.hid h2
    have t1 : (((hi64 T : Nat) : Int) == (hi64 U : Nat)) = false := by simp; omega
    clear h2
    go_enter Try.func87, Try.ntmps87
    go_wp2_with fail
    refine (H1.out _).mono ?_
    rintro e w1 ⟨rfl, rfl⟩
    go_wp2_with fail
    refine (H2.out _).mono ?_
    rintro e w1 ⟨rfl, rfl⟩
    go_wp2_with fail
    refine (H3.out _).mono ?_
    rintro e w1 ⟨rfl, rfl⟩
    go_wp2
    go_ret
    have := H.out
    exact ⟨ret_bool (by rw [Bool.eq_iff_iff]; simp; omega), rfl⟩
  · have H := Lib.hid (show U < T ∧ lo64 U < lo64 T from ⟨h3, h2⟩)
    have t1 : (((hi64 T : Nat) : Int) == (hi64 U : Nat)) = true := by simp; omega
    have t2 : ¬ hi64 T < hi64 U := by omega
    clear h1 h2 h3
    go_enter Try.func87, Try.ntmps87
    go_wp2_with fail
    refine (H1.out _).mono ?_
    rintro e w1 ⟨rfl, rfl⟩
    go_wp2_with fail
    refine (H2.out _).mono ?_
    rintro e w1 ⟨rfl, rfl⟩
    go_wp2_with fail
    refine (H3.out _).mono ?_
    rintro e w1 ⟨rfl, rfl⟩
    go_wp2
    go_ret
    have := H.out
    exact ⟨ret_bool (by rw [Bool.eq_iff_iff]; simp; omega), rfl⟩
  · have H := Lib.hid (show ¬ U < T ∧ lo64 U = lo64 T from ⟨h3, h2⟩)
    have t1 : (((hi64 T : Nat) : Int) == (hi64 U : Nat)) = true := by simp; omega
    have t2 : ¬ hi64 T < hi64 U := by omega
    clear h1 h2 h3
    go_enter Try.func87, Try.ntmps87
    go_wp2_with fail
    refine (H1.out _).mono ?_
    rintro e w1 ⟨rfl, rfl⟩
    go_wp2_with fail
    refine (H2.out _).mono ?_
    rintro e w1 ⟨rfl, rfl⟩
    go_wp2_with fail
    refine (H3.out _).mono ?_
    rintro e w1 ⟨rfl, rfl⟩
    go_wp2
    go_ret
    have := H.out
    exact ⟨ret_bool (by rw [Bool.eq_iff_iff]; simp; omega), rfl⟩
  · have H := Lib.hid (show ¬ U < T ∧ lo64 T < lo64 U from ⟨h3, h2⟩)
    have t1 : (((hi64 T : Nat) : Int) == (hi64 U : Nat)) = true := by simp; omega
    have t2 : ¬ hi64 T < hi64 U := by omega
    clear h1 h2 h3
    go_enter Try.func87, Try.ntmps87
    go_wp2_with fail
    refine (H1.out _).mono ?_
    rintro e w1 ⟨rfl, rfl⟩
    go_wp2_with fail
    refine (H2.out _).mono ?_
    rintro e w1 ⟨rfl, rfl⟩
    go_wp2_with fail
    refine (H3.out _).mono ?_
    rintro e w1 ⟨rfl, rfl⟩
    go_wp2
    go_ret
    have := H.out
    exact ⟨ret_bool (by rw [Bool.eq_iff_iff]; simp; omega), rfl⟩
  · have H := Lib.hid h2
    clear h2
    go_enter Try.func87, Try.ntmps87
    go_wp2_with fail
    refine (H1.out _).mono ?_
    rintro e w1 ⟨rfl, rfl⟩
    go_wp2_with fail
    refine (H2.out _).mono ?_
    rintro e w1 ⟨rfl, rfl⟩
    go_wp2_with fail
    refine (H3.out _).mono ?_
    rintro e w1 ⟨rfl, rfl⟩
    go_wp2
    go_ret
    have := H.out
    exact ⟨ret_bool (by rw [Bool.eq_iff_iff]; simp; omega), rfl⟩
end Go.Proofs.Ythoemokkfijfeaa
