/- Wind cards: SameSpans, Format at few gusts, awake, many. -/
import Derived.Test.YtoelekhkgknneaaDoorDa
set_option linter.unusedSimpArgs false
set_option linter.unusedVariables false
namespace Go.Proofs.YtoelekhkgknneaaDoor
open Go.RowKit

theorem rdP {w : World} {A : Option Addr} {l : List Sp} (h : Rd pC 2 w A l) {k : Nat} (hk : k < l.length) :
    ∃ x y b off, l[k]? = some (x, y) ∧ A = some ⟨b, off, none⟩ ∧ b < w.heap.size ∧ w.cell? ⟨b, off + k * 2, none⟩ = some (.int .i64 ((x : Nat) : Int)) ∧ w.cell? ⟨b, off + k * 2 + 1, none⟩ = some (.int .i64 ((y : Nat) : Int)) := by
  obtain ⟨⟨x, y⟩, hx⟩ := get_lt hk
  obtain ⟨b, off, e, hb, hc⟩ := h.get hx
  exact ⟨x, y, b, off, hx, e, hb, by simpa using hc 0 _ rfl, by simpa using hc 1 _ rfl⟩
set_option maxHeartbeats 1000000 in
set_option maxRecDepth 20000 in
theorem r_sameSpans (A B : Option Addr) (l : List Sp) (c d : Nat) (w : World) (hl : l.length ≤ 100000) (hA : Rd pC 2 w A l) (hB : Rd pC 2 w B l) :
    Calls Tryd.prog 52 #[.slice A l.length c, .slice B l.length d] w fun e w' => e = .returned (.bool true) ∧ Below w.heap.size w w' := by
  go_enter Tryd.func52, Tryd.ntmps52
  go_wp2
  go_loopw [5] (fun i wr => ∃ k : Nat, k ≤ l.length ∧ i = .int .i64 k ∧ Below w.heap.size w wr) (fun i _ => l.length - (intOf i).toNat)
  case atStart => exact ⟨0, by omega, rfl, below_refl _⟩
  case round =>
    obtain ⟨k, hk, rfl, hbw⟩ := hrel
    by_cases hlt : k < l.length
    · obtain ⟨x, y, b, off, hx, rfl, hb, c0, c1⟩ := rdP (hA.on hbw) hlt
      obtain ⟨x2, y2, b', off', hy, rfl, hb', d0, d1⟩ := rdP (hB.on hbw) hlt
      obtain ⟨rfl, rfl⟩ : x = x2 ∧ y = y2 := by rw [hx] at hy; cases hy; exact ⟨rfl, rfl⟩
      have k0 : (0 : Int) ≤ (k : Int) := Int.natCast_nonneg _
      have k1 : (k : Int) < (l.length : Int) := by omega
      clear hx hy
      go_wp2
      go_quiet (fail)
      go_wp2
      go_roundw
      case rel => exact ⟨k + 1, by omega, by go_num, below_drewN hbw _⟩
      case measure => simp [intOf]; omega
    · obtain rfl : k = l.length := by omega
      go_wp2
      go_ret
      exact ⟨rfl, hbw⟩
/-- words of gusts -/
def wordB (x : Int) : ByteArray := if x = -1 then ⟨#[45]⟩ else ⟨(Lib.decDigits x.toNat).toArray⟩
theorem p_word (x : Int) (w : World) (h0 : -1 ≤ x) (h1 : x < 100) : Calls Tryd.prog 54 #[.int .i64 x] w fun e w' => e = .returned (.string (wordB x)) ∧ w = w' := by
  by_cases h : x = -1
  · subst h
    go_enter Tryd.func54, Tryd.ntmps54
    go_wp2
    go_ret
    exact ⟨rfl, rfl⟩
  · obtain ⟨n, rfl⟩ := Int.eq_ofNat_of_zero_le (show 0 ≤ x by omega)
    have HW := Lib.hid (show wordB (n : Int) = ⟨(Lib.decDigits n).toArray⟩ by unfold wordB; rw [if_neg h]; rfl)
    have n1 : n < 100 := by omega
    go_enter Tryd.func54, Tryd.ntmps54
    go_wp2_with (go_at_call 80; ((with_reducible refine (Tryd.strconv_Itoa_small n n1 _).mono ?_); rintro e w' ⟨rfl, rfl⟩))
    go_ret
    exact ⟨by rw [HW.out]; rfl, rfl⟩
def wdC (x : Int) : List Value := [.string (wordB x)]
theorem wdC_len (x : Int) : (wdC x).length = 1 := rfl
theorem info_str : ∃ i : TypeInfo, Tryd.prog.info? 9 = some i ∧ i.zero = some (.string ByteArray.empty) ∧ i.size = 1 ∧ i.bytes = 16 := info_parts (by kernel_rfl)
/-- gusts as a text -/
def fmB (l : List Int) : ByteArray := ⟨(Lib.join ((l.map wordB).map (·.data.toList)) [32]).toArray⟩
set_option maxHeartbeats 2000000 in
set_option maxRecDepth 20000 in
theorem p_Format (B : Option Addr) (l : List Int) (d : Nat) (w : World) (hl : l.length ≤ 100000) (hS : Rd zC 1 w B l) (hg : vGu l = true) (hx : ∀ x ∈ l, -1 ≤ x ∧ x < 100) (h0 : l ≠ []) (hj : (Lib.join ((l.map wordB).map (·.data.toList)) [32]).length ≤ 140737488355328) :
    Calls Tryd.prog 17 #[.slice B l.length d] w fun e w' => e = .returned (.string (fmB l)) ∧ Below w.heap.size w w' := by
  have H2 := Lib.hid (p_ValidGustsV (c := d) hg hl hS)
  have HX := Lib.hid hx
  have HJ := Lib.hid hj
  have HN0 := Lib.hid h0
  obtain ⟨i0, hi, hi1, hi2, hi3⟩ := info_str
  clear hx hj hg h0
  go_enter Tryd.func17, Tryd.ntmps17
  go_wp2_with (go_at_call 53; ((with_reducible refine (H2.out).mono ?_); rintro e w1 ⟨rfl, hb1⟩; obtain ⟨hc1, hf1⟩ := bcell hb1; have hz1 := hb1.size; (try simp [sz_drew, sz_drewN] at hz1); (try simp only [sz_drew, sz_drewN] at hc1 hf1)))
  clear hc1 hf1 hz1
  have hbs := hb1.size
  go_loopw [3, 11] (fun v i wr => ∃ k : Nat, k ≤ l.length ∧ i = .int .i64 k ∧ Below w.heap.size w wr ∧ wr.ownsRow w.heap.size 9 1 v (l.take k).length (fl wdC (l.take k))) (fun _ i _ => l.length - (intOf i).toNat)
  case atStart => exact ⟨0, by omega, rfl, hb1, World.ownsRow_nil w1 _ _ _⟩
  case round =>
    obtain ⟨k, hk, rfl, hbw, hown⟩ := hrel
    obtain ⟨ad, cp, rfl⟩ := own_slice hown
    have hbvs := hbw.size
    by_cases hlt : k < l.length
    · have k0 : (0 : Int) ≤ (k : Int) := Int.natCast_nonneg _
      have k1 : (k : Int) < (l.length : Int) := by omega
      obtain ⟨g, gb, go, hgk, rfl, hgb, c0⟩ := rd_int (hS.on hbw) hlt
      have HW := Lib.hid (fun W => p_word g W (HX.out g (List.mem_of_getElem? hgk)).1 (HX.out g (List.mem_of_getElem? hgk)).2)
      have hlen : (l.take k).length ≤ 100000 := by rw [List.length_take]; omega
      have HST := Lib.hid (show l.take (k + 1) = l.take k ++ [g] by rw [List.take_add_one, hgk]; rfl)
      have HZ := Lib.hid (fun (w1 : World) (j : Nat) u (hu : (wdC g)[j]? = some u) => cells_new w1 (wdC g) 9 j u hu)
      have HIN : Hid (∀ s : List Int, (s ++ [g]).length = s.length + 1) := Lib.hid (fun s => by simp)
      clear hgk
      generalize l.take k = S at *
      go_wp2_with (first
        | (go_at_call 54; ((with_reducible refine (HW.out _).mono ?_); rintro e w' ⟨rfl, rfl⟩))
        | (at_builtin; go_loud (refine wpList_append_own _ rfl _ _ 72 rfl w.heap.size 9 i0 (.string ByteArray.empty) 1 16 (by kernel_rfl) hi hi1 hi2 hi3 rfl (by omega) _ _ _ rfl (hown.alloc _) ⟨wr.heap.size, 0, none⟩ 1 1 (wdC g) rfl rfl (HZ.out wr) (fun u hu => by simp [wdC] at hu; rcases hu with rfl; rfl) (by unfold maxLen; omega) (by omega) (by simp; omega) ?_; intro v' w4 hown4 hgrow _)))
      go_roundw
      case rel => exact ⟨k + 1, by omega, by go_num, bl_app hbw hown hgrow (Nat.le_refl _) hbw.size, by rw [HST.out, HIN.out, fl_snoc]; exact hown4⟩
      case measure => simp [intOf]; omega
    · obtain rfl : k = l.length := by omega
      rw [List.take_length] at hown
      obtain ⟨A3, c3, e3, hr3, hc3, _⟩ := own_rdc wdC_len hown
      cases e3
      obtain ⟨b, off, rfl, hlt3, hcell⟩ := hr3 HN0.out
      have HJN := Lib.hid (show Calls Tryd.prog 55 #[.slice (some ⟨b, off, none⟩) l.length cp, .string ⟨#[32]⟩] wr (fun e w' => e = .returned (.string (fmB l)) ∧ Below wr.heap.size wr w') by
        have h := Tryd.strings_Join b off cp (l.map wordB) ⟨#[32]⟩ wr (fun j x hj => by
          rw [List.getElem?_map, Option.map_eq_some_iff] at hj
          obtain ⟨y, hy, rfl⟩ := hj
          simpa using hcell j y hy 0 _ rfl) hlt3 (by rw [List.length_map]; omega) (by rw [List.length_map]; exact hc3) HJ.out
        rw [List.length_map] at h
        exact h)
      clear hcell hr3 hown
      rw [List.take_length]
      go_wp2_with (go_at_call 55; ((with_reducible refine HJN.out.mono ?_); rintro e w3 ⟨rfl, hb3⟩))
      go_ret
      exact ⟨rfl, below_tr hbw hb3⟩
/-- many -/
def manyB (l : List Int) : Bool := (decide (300 < l.length) && decide (l.length ≤ 2000)) || decide (2050 < l.length)
theorem p_many (B : Option Addr) (l : List Int) (d : Nat) (w : World) (hl : l.length ≤ maxLen) : Calls Tryd.prog 16 #[.slice B l.length d] w fun e w' => e = .returned (.bool (manyB l)) ∧ w = w' := by
  unfold maxLen at hl
  have HM := Lib.hid (show manyB l = ((decide (300 < l.length) && decide (l.length ≤ 2000)) || decide (2050 < l.length)) from rfl)
  by_cases h1 : 300 < (l.length : Int)
  · by_cases h2 : (l.length : Int) ≤ 2000
    · go_enter Tryd.func16, Tryd.ntmps16
      go_wp2
      go_ret
      exact ⟨ret_bool (by rw [HM.out, decide_eq_true (show 300 < l.length by omega), decide_eq_true (show l.length ≤ 2000 by omega)]; rfl), rfl⟩
    · by_cases h3 : 2050 < (l.length : Int)
      · go_enter Tryd.func16, Tryd.ntmps16
        go_wp2
        go_ret
        exact ⟨ret_bool (by rw [HM.out, decide_eq_false (show ¬ l.length ≤ 2000 by omega), decide_eq_true (show 2050 < l.length by omega)]; simp), rfl⟩
      · go_enter Tryd.func16, Tryd.ntmps16
        go_wp2
        go_ret
        exact ⟨ret_bool (by rw [HM.out, decide_eq_false (show ¬ l.length ≤ 2000 by omega), decide_eq_false (show ¬ 2050 < l.length by omega)]; simp), rfl⟩
  · have h3 : ¬ (2050 < (l.length : Int)) := by omega
    go_enter Tryd.func16, Tryd.ntmps16
    go_wp2
    go_ret
    exact ⟨ret_bool (by rw [HM.out, decide_eq_false (show ¬ 300 < l.length by omega), decide_eq_false (show ¬ 2050 < l.length by omega)]; rfl), rfl⟩
/-- a list of numbers laid out -/
theorem blk_rdZ {w : World} {b : Nat} (l : List Int) (h : Blk w b 3 (l.map (Value.int .i64)).toArray) : Rd zC 1 w (some ⟨b, 0, none⟩) l := fun _ => by
  refine ⟨b, 0, rfl, h.lt, fun k y hy j v hv => ?_⟩
  have hj : j < 1 := (List.getElem?_eq_some_iff.1 hv).1
  obtain rfl : j = 0 := by omega
  rw [Nat.zero_add, h.cell]
  simp only [Nat.mul_one, Nat.add_zero, List.getElem?_toArray, List.getElem?_map, hy]
  simpa [zC] using hv
theorem blk_rdP {w : World} {b : Nat} (x y : Nat) (h : Blk w b 88 #[.int .i64 (x : Nat), .int .i64 (y : Nat)]) : Rd pC 2 w (some ⟨b, 0, none⟩) [(x, y)] := fun _ => by
  refine ⟨b, 0, rfl, h.lt, fun k z hz j v hv => ?_⟩
  have hk : k < 1 := (List.getElem?_eq_some_iff.1 hz).1
  obtain rfl : k = 0 := by omega
  cases hz
  rw [Nat.zero_mul, Nat.add_zero, Nat.zero_add, h.cell]
  simpa [pC] using hv
/-- awake -/
def awR : Ru := ⟨50, 40, 2⟩
def awA : List Int := [30, 55, 45, 35, 35, 30]
def awB : List Int := [30, 55, -1, 35, 35, 30]
def awC : List Int := [30, -1, 55]
theorem aw_a : stL awR awA = [(1, 5)] ∧ aE awR awA = 0 := by constructor <;> decide +kernel
theorem aw_b : stL awR awB = [(1, 5)] ∧ aE awR awB = 0 := by constructor <;> decide +kernel
theorem aw_c : fmB awC = ⟨#[51, 48, 32, 45, 32, 53, 53]⟩ := by decide +kernel
set_option maxHeartbeats 2000000 in
set_option maxRecDepth 20000 in
theorem l_awake (w : World) : Calls Tryd.prog 15 #[] w fun e w' => e = .returned (.bool true) ∧ Below w.heap.size w w' := by
  have HA : Hid (∀ (b : Nat) W, Rd zC 1 W (some ⟨b, 0, none⟩) awA → Calls Tryd.prog 51 #[.agg #[.int .i64 50, .int .i64 40, .int .i64 2], .slice (some ⟨b, 0, none⟩) 6 6] W fun e w' => ∃ A c, e = .returned (.tuple #[.slice A 1 c, .int .i64 0]) ∧ Rd pC 2 w' A [(1, 5)] ∧ Below W.heap.size W w') := Lib.hid (fun (b : Nat) W hR => by
    refine (p_Stops (some ⟨b, 0, none⟩) awR awA 6 W (by decide) hR).mono ?_
    rintro e w' ⟨v, rfl, ⟨A, c, rfl, hr⟩, hb⟩
    rw [aw_a.1] at hr ⊢
    exact ⟨A, c, by rw [aw_a.2]; rfl, hr, hb⟩)
  have HB : Hid (∀ (b : Nat) W, Rd zC 1 W (some ⟨b, 0, none⟩) awB → Calls Tryd.prog 51 #[.agg #[.int .i64 50, .int .i64 40, .int .i64 2], .slice (some ⟨b, 0, none⟩) 6 6] W fun e w' => ∃ A c, e = .returned (.tuple #[.slice A 1 c, .int .i64 0]) ∧ Rd pC 2 w' A [(1, 5)] ∧ Below W.heap.size W w') := Lib.hid (fun (b : Nat) W hR => by
    refine (p_Stops (some ⟨b, 0, none⟩) awR awB 6 W (by decide) hR).mono ?_
    rintro e w' ⟨v, rfl, ⟨A, c, rfl, hr⟩, hb⟩
    rw [aw_b.1] at hr ⊢
    exact ⟨A, c, by rw [aw_b.2]; rfl, hr, hb⟩)
  have HS : Hid (∀ A B c d W, Rd pC 2 W A [(1, 5)] → Rd pC 2 W B [(1, 5)] → Calls Tryd.prog 52 #[.slice A 1 c, .slice B 1 d] W fun e w' => e = .returned (.bool true) ∧ Below W.heap.size W w') := Lib.hid (fun A B c d W h1 h2 => r_sameSpans A B [(1, 5)] c d W (by decide) h1 h2)
  have HF : Hid (∀ b W, Rd zC 1 W (some ⟨b, 0, none⟩) awC → Calls Tryd.prog 17 #[.slice (some ⟨b, 0, none⟩) 3 3] W fun e w' => e = .returned (.string ⟨#[51, 48, 32, 45, 32, 53, 53]⟩) ∧ Below W.heap.size W w') := Lib.hid (fun b W hR => by
    have := p_Format (some ⟨b, 0, none⟩) awC 3 W (by decide) hR (by decide +kernel) (by decide) (by decide) (by decide +kernel)
    rwa [aw_c] at this)
  go_enter Tryd.func15, Tryd.ntmps15
  go_wp2_with fail
  have x0 := (Blk.new w 82 #[.int .i64 50, .int .i64 40, .int .i64 2]).alloc (.cells #[.int .i64 30, .int .i64 55, .int .i64 45, .int .i64 35, .int .i64 35, .int .i64 30] 3)
  have B0 := bl_alloc (bl_alloc (below_refl w) (.cells #[.int .i64 50, .int .i64 40, .int .i64 2] 82)) (.cells #[.int .i64 30, .int .i64 55, .int .i64 45, .int .i64 35, .int .i64 35, .int .i64 30] 3)
  have y0 : Rd zC 1 ((w.alloc (.cells #[.int .i64 50, .int .i64 40, .int .i64 2] 82)).alloc (.cells #[.int .i64 30, .int .i64 55, .int .i64 45, .int .i64 35, .int .i64 35, .int .i64 30] 3)) (some ⟨w.heap.size + 1, 0, none⟩) awA := by
    have h := Blk.new (w.alloc (.cells #[.int .i64 50, .int .i64 40, .int .i64 2] 82)) 3 (awA.map (Value.int .i64)).toArray
    rw [World.size_alloc] at h
    exact blk_rdZ awA h
  have HC := HA.out _ _ y0
  generalize (w.alloc (.cells #[.int .i64 50, .int .i64 40, .int .i64 2] 82)).alloc (.cells #[.int .i64 30, .int .i64 55, .int .i64 45, .int .i64 35, .int .i64 35, .int .i64 30] 3) = W0 at *
  clear HA
  refine HC.mono ?_
  rintro e w1 ⟨A1, c1, rfl, hr1, hb1⟩
  have B1 := below_tr B0 hb1
  have x1 := x0.below hb1 x0.lt
  have q0 := x1.cell 0
  have q1 := x1.cell 1
  have q2 := x1.cell 2
  simp only [List.getElem?_toArray, List.getElem?_cons_zero, List.getElem?_cons_succ] at q0 q1 q2
  clear hb1 x0 B0 HC y0
  go_wp2_with fail
  have y1 : Rd zC 1 (w1.alloc (.cells #[.int .i64 30, .int .i64 55, .int .i64 (-1), .int .i64 35, .int .i64 35, .int .i64 30] 3)) (some ⟨w1.heap.size, 0, none⟩) awB := blk_rdZ awB (Blk.new w1 3 (awB.map (Value.int .i64)).toArray)
  have HC := HB.out _ _ y1
  have r1 := hr1.on (below_alloc w1 (.cells #[.int .i64 30, .int .i64 55, .int .i64 (-1), .int .i64 35, .int .i64 35, .int .i64 30] 3))
  have B2 := bl_alloc B1 (.cells #[.int .i64 30, .int .i64 55, .int .i64 (-1), .int .i64 35, .int .i64 35, .int .i64 30] 3)
  generalize w1.alloc (.cells #[.int .i64 30, .int .i64 55, .int .i64 (-1), .int .i64 35, .int .i64 35, .int .i64 30] 3) = W1 at *
  clear HB y1 x1 q0 q1 q2 B1 hr1
  refine HC.mono ?_
  rintro e w2 ⟨A2, c2, rfl, hr2, hb2⟩
  have r2 := r1.on hb2
  have B3 := below_tr B2 hb2
  clear HC r1 B2 hb2
  go_wp2_with fail
  have y1 : Rd pC 2 (w2.alloc (.cells #[.int .i64 1, .int .i64 5] 88)) (some ⟨w2.heap.size, 0, none⟩) [(1, 5)] := blk_rdP 1 5 (Blk.new w2 88 #[.int .i64 ((1 : Nat) : Int), .int .i64 ((5 : Nat) : Int)])
  have r3 := r2.on (below_alloc w2 (.cells #[.int .i64 1, .int .i64 5] 88))
  have s3 := hr2.on (below_alloc w2 (.cells #[.int .i64 1, .int .i64 5] 88))
  have HC := HS.out _ _ c1 1 _ r3 y1
  have B4 := bl_alloc B3 (.cells #[.int .i64 1, .int .i64 5] 88)
  generalize w2.alloc (.cells #[.int .i64 1, .int .i64 5] 88) = W2 at *
  clear r2 hr2 B3 y1
  refine HC.mono ?_
  rintro e w3 ⟨rfl, hb3⟩
  have HD := HS.out _ _ c1 c2 _ (r3.on hb3) (s3.on hb3)
  have B5 := below_tr B4 hb3
  clear HC r3 s3 hb3 B4 HS
  go_wp2_with fail
  refine HD.mono ?_
  rintro e w4 ⟨rfl, hb4⟩
  have B6 := below_tr B5 hb4
  clear HD B5 hb4
  go_wp2_with fail
  have y1 : Rd zC 1 (w4.alloc (.cells #[.int .i64 30, .int .i64 (-1), .int .i64 55] 3)) (some ⟨w4.heap.size, 0, none⟩) awC := blk_rdZ awC (Blk.new w4 3 (awC.map (Value.int .i64)).toArray)
  have HC := HF.out _ _ y1
  have B7 := bl_alloc B6 (.cells #[.int .i64 30, .int .i64 (-1), .int .i64 55] 3)
  generalize w4.alloc (.cells #[.int .i64 30, .int .i64 (-1), .int .i64 55] 3) = W4 at *
  clear HF y1 B6
  refine HC.mono ?_
  rintro e w5 ⟨rfl, hb5⟩
  have B8 := below_tr B7 hb5
  clear HC B7 hb5
  go_wp2
  go_ret
  exact ⟨rfl, B8⟩
end Go.Proofs.YtoelekhkgknneaaDoor
