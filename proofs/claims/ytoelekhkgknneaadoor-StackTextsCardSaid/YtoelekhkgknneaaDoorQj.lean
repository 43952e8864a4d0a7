/- Stack's texts: a course as six numbers; words and Format by the program. -/
import Derived.Test.YtoelekhkgknneaaDoorSi
import Derived.Test.YtoelekhkgknneaaDoorQl
set_option linter.unusedSimpArgs false
set_option linter.unusedVariables false
namespace Go.Proofs.YtoelekhkgknneaaDoor.Tx
open Go.RowKit Go.Lib

def csZ (c : Course) : List Int := [c.h, c.o, c.i, c.wt, c.e, c.n]
def ofC : List Int → Course
  | [a, b, c, d, e, f] => ⟨a, b, c, d, e, f⟩
  | _ => ⟨0, 0, 0, 0, 0, 0⟩
theorem sound_bd {c : Course} (h : soundB c = true) : ∀ m ∈ csZ c, -1000000 ≤ m ∧ m ≤ 1000000 := fun m hm => by
  unfold soundB wn at h
  simp only [Bool.and_eq_true, decide_eq_true_eq] at h
  simp only [csZ, List.mem_cons, List.not_mem_nil, or_false] at hm
  rcases hm with rfl | rfl | rfl | rfl | rfl | rfl <;> omega
theorem valid_snoc {g : List Course} {x : Course} (h : validC (g ++ [x]) = true) : soundB x = true := by
  unfold validC at h
  rw [Bool.and_eq_true, List.all_eq_true] at h
  exact h.2 x (by simp)
def coX : LayX Course where
  n := 6
  of := ofC
  ns := csZ
  bad := ⟨0, 0, 0, 0, 0, 0⟩
  vld := validC
  n0 := by omega
  of_ns := fun _ => rfl
  ns_of := fun l h => by
    match l, h with
    | [a, b, c, d, e, f], _ => rfl
  ns_len := fun _ => rfl
  bd := fun g x h m hm => by have := sound_bd (valid_snoc h) m hm; omega
  nbad := fun g => by
    cases h : validC (g ++ [(⟨0, 0, 0, 0, 0, 0⟩ : Course)])
    · rfl
    · exact absurd (valid_snoc h) (by decide)
  nnil := by decide
  pre := fun g k h hk => by
    unfold validC at h ⊢
    rw [Bool.and_eq_true, List.all_eq_true] at h ⊢
    refine ⟨?_, fun x hx => h.2 x (List.mem_of_mem_take hx)⟩
    have h1 := h.1
    unfold wn at h1 ⊢
    simp only [Bool.and_eq_true, decide_eq_true_eq, List.length_take] at h1 ⊢
    omega
  most := fun g h => by
    unfold validC wn at h
    simp only [Bool.and_eq_true, decide_eq_true_eq] at h
    omega
abbrev coV (c : Course) : Value := .agg #[.int .i64 c.h, .int .i64 c.o, .int .i64 c.i, .int .i64 c.wt, .int .i64 c.e, .int .i64 c.n]
/-- its numbers are numbers of 64 bits -/
def B64 (c : Course) : Prop := ∀ m ∈ csZ c, -9223372036854775808 ≤ m ∧ m ≤ 9223372036854775807
theorem run_ix6 (a b c d e f : Int) {k : Nat} {x : Int} (h : [a, b, c, d, e, f][k]? = some x) (W : World) : (Instr.index 96 (.agg #[.int .i64 a, .int .i64 b, .int .i64 c, .int .i64 d, .int .i64 e, .int .i64 f]) (.int .i64 (k : Int))).run Tryd.prog W = .ok (.int .i64 x) W := by
  have hk : k < 6 := (List.getElem?_eq_some_iff.1 h).1
  have s0 : (0 : Int) ≤ (k : Int) := Int.natCast_nonneg _
  have s1 : (k : Int) < 6 := by omega
  have h1 : ([.int .i64 a, .int .i64 b, .int .i64 c, .int .i64 d, .int .i64 e, .int .i64 f] : List Value)[k]? = some (.int .i64 x) := by
    have : ([a, b, c, d, e, f].map (Value.int .i64))[k]? = some (.int .i64 x) := by rw [List.getElem?_map, h]; rfl
    exact this
  simp [Instr.index, go_sem, s0, s1, part]
  rw [if_pos hk, h1]
  rfl
set_option maxHeartbeats 2000000 in
set_option maxRecDepth 20000 in
theorem p_words (c : Course) (w : World) (hc : B64 c) (hT : TabP w) : Calls Tryd.prog 58 #[coV c] w fun e w' => e = .returned (.string (bts (lnN (csZ c)))) ∧ Below w.heap.size w w' := by
  have HC := Lib.hid (fun (k : Nat) (x : Int) (h : (csZ c)[k]? = some x) => hc x (List.mem_of_getElem? h))
  have HX := Lib.hid (fun (k : Nat) (x : Int) (h : (csZ c)[k]? = some x) => run_ix6 c.h c.o c.i c.wt c.e c.n h)
  have x0 := Blk.new w 91 #[.int .i64 c.h, .int .i64 c.o, .int .i64 c.i, .int .i64 c.wt, .int .i64 c.e, .int .i64 c.n]
  have B0 := bl_alloc (below_refl w) (.cells #[.int .i64 c.h, .int .i64 c.o, .int .i64 c.i, .int .i64 c.wt, .int .i64 c.e, .int .i64 c.n] 91)
  have q0 := x0.cell 0
  have q1 := x0.cell 1
  have q2 := x0.cell 2
  have q3 := x0.cell 3
  have q4 := x0.cell 4
  have q5 := x0.cell 5
  simp only [List.getElem?_toArray, List.getElem?_cons_zero, List.getElem?_cons_succ] at q0 q1 q2 q3 q4 q5
  obtain ⟨i0, hi, hi1, hi2, hi3⟩ := info_str1
  have hZ : (csZ c).length = 6 := rfl
  clear hc
  have HF := Lib.hid (show lnN (csZ c) = joinZ 32 ((csZ c).map itoa) from rfl)
  rw [HF.out]
  generalize csZ c = Z at *
  obtain ⟨c0, c1, c2, c3, c4, c5⟩ := c
  dsimp only at *
  go_enter Tryd.func58, Tryd.ntmps58
  go_wp2
  go_loopw [3, 19] (fun v i wr => ∃ k : Nat, k ≤ 6 ∧ i = .int .i64 k ∧ Below w.heap.size w wr ∧ wr.ownsRow w.heap.size 9 1 v k (fl stG ((Z.take k).map itoa))) (fun _ i _ => 6 - (RowKit.intOf i).toNat)
  case atStart => exact ⟨0, by omega, rfl, B0, World.ownsRow_nil _ _ _ _⟩
  case round =>
    obtain ⟨k, hk, rfl, hbw, hown⟩ := hrel
    obtain ⟨ad, cp, rfl⟩ := own_slice hown
    rename World => wr
    have hbvs := hbw.size
    have k0 : (0 : Int) ≤ (k : Int) := Int.natCast_nonneg _
    by_cases hlt : k < 6
    · have k1 : (k : Int) < 6 := by omega
      obtain ⟨x, hx⟩ := get_lt (l := Z) (k := k) (by omega)
      have hix := HX.out k x hx
      have hxb := HC.out k x hx
      have HI := Lib.hid (c_ItoaV x wr hxb.1 hxb.2 (tab_on hT hbw))
      have HS := Lib.hid (show (Z.take (k + 1)).map itoa = (Z.take k).map itoa ++ [itoa x] by rw [List.take_add_one, hx, List.map_append]; rfl)
      have hlk : ((Z.take k).map itoa).length ≤ 6 := by rw [List.length_map, List.length_take]; omega
      clear hx hxb HX HC hZ
      generalize itoa x = SX at *
      go_wp2_with (first
        | (go_at_call 80; ((with_reducible refine HI.out.mono ?_); rintro e w3 ⟨rfl, hb3⟩; have hz3 := hb3.size))
        | (at_builtin; (refine wpList_append_own _ rfl _ _ 72 rfl w.heap.size 9 i0 (.string ByteArray.empty) 1 16 (by kernel_rfl) hi hi1 hi2 hi3 rfl (by omega) _ _ _ rfl ((own_on hown hb3).alloc _) ⟨w3.heap.size, 0, none⟩ 1 1 (stG SX) rfl rfl (cells_new w3 (stG SX) 9) (fun u hu => by simp [stG] at hu; rcases hu with rfl; rfl) (by unfold maxLen; omega) (by omega) (by simp; omega) ?_; intro v' w4 hown4 hgrow _)))
      go_roundw
      case rel => exact ⟨k + 1, by omega, by go_num, bl_app (below_tr hbw hb3) (own_on hown hb3) hgrow (Nat.le_refl _) (Nat.le_trans hbw.size hb3.size), by rw [HS.out, fl_snocG]; exact hown4⟩
      case measure => simp [RowKit.intOf]; omega
    · obtain rfl : k = 6 := by omega
      have hP : ((Z.take 6).map itoa).length = 6 := by rw [List.length_map, List.length_take]; omega
      have hT6 : Z.take 6 = Z := List.take_of_length_le (by omega)
      rw [hT6] at hown hP
      have hown2 : wr.ownsRow w.heap.size 9 1 (.slice ad 6 cp) (Z.map itoa).length (fl stG (Z.map itoa)) := by rw [hP]; exact hown
      obtain ⟨A3, c3', e3, hr3, hc3, _⟩ := own_rdc stG_len hown2
      rw [hP] at e3
      have HJ := Lib.hid (c_Join A3 (Z.map itoa) c3' wr (by omega) hc3 (fun p hp => by
        obtain ⟨m, hm, rfl⟩ := List.mem_map.1 hp
        obtain ⟨j, hj, rfl⟩ := List.getElem_of_mem hm
        have := HC.out j _ (List.getElem?_eq_getElem hj)
        have := itoa_len this.1 this.2
        omega) hr3)
      rw [hP] at HJ
      cases e3
      clear hown hown2 hP hT6 HX HC hZ hr3
      go_wp2_with (go_at_call 55; ((with_reducible refine HJ.out.mono ?_); rintro e w3 ⟨rfl, hb3⟩))
      go_ret
      exact ⟨rfl, below_tr hbw hb3⟩
end Go.Proofs.YtoelekhkgknneaaDoor.Tx
