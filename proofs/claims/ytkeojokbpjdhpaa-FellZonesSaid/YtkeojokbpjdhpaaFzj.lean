/- Fell: Clear by the program, whole. -/
import Derived.Test.YtkeojokbpjdhpaaFzi
set_option linter.unusedSimpArgs false
set_option linter.unusedVariables false
namespace Go.Proofs.Ytkeojokbpjdhpaa
open Go.RowKit

set_option maxHeartbeats 2000000 in
set_option maxRecDepth 20000 in
theorem p_Clear (f : Sp) (r d : Int) (A : Option Addr) (l : List Sp) (c : Nat) (B : Option Addr) (ways : List Sp) (c' : Nat) (w : World) (hl : l.length ≤ 100000) (hw : ways.length ≤ 100000) (hR : Rd Sp.cs 2 w A l) (hS : Rd Sp.cs 2 w B ways) :
    Calls Try.prog 27 #[spV f, .int .i64 r, .int .i64 d, .slice A l.length c, .slice B ways.length c'] w (ClP f r d l ways w) := by
  have HF := Lib.hid (fun b (h : isS f = b) W => p_isSpotV h W)
  have HZ := Lib.hid (fun b (h : (wn r 1 20000 && wn d 0 1000) = b) W => p_sizedV h W)
  have HT1 := Lib.hid (fun b (h : thB l = b) W (hb : Below w.heap.size w W) => p_thingsV (d := c) h hl (hR.on hb))
  have HT2 := Lib.hid (fun b (h : thB ways = b) W (hb : Below w.heap.size w W) => p_thingsV (d := c') h hw (hS.on hb))
  have H7 := Lib.hid (fun (h : ckB f r d l ways = false) => cl_seven h)
  obtain ⟨W1, hW1⟩ : ∃ W1, W1 = (((w.alloc (.cells (spA f) 24)).alloc (.cells #[.int .i64 r] 3)).alloc (.cells #[.int .i64 d] 3)).alloc (.cells #[.slice A l.length c] 31) := ⟨_, rfl⟩
  have x5 : Blk W1 w.heap.size 24 (spA f) := by rw [hW1]; exact (((Blk.new w 24 (spA f)).alloc _).alloc _).alloc _
  have x6 : Blk W1 (w.heap.size + 1) 3 #[.int .i64 r] := by
    have := Blk.new (w.alloc (.cells (spA f) 24)) 3 #[.int .i64 r]
    rw [World.size_alloc] at this
    rw [hW1]; exact (this.alloc _).alloc _
  have x7 : Blk W1 (w.heap.size + 1 + 1) 3 #[.int .i64 d] := by
    have := Blk.new ((w.alloc (.cells (spA f) 24)).alloc (.cells #[.int .i64 r] 3)) 3 #[.int .i64 d]
    rw [World.size_alloc, World.size_alloc] at this
    rw [hW1]; exact this.alloc _
  have x8 : Blk W1 (w.heap.size + 1 + 1 + 1) 31 #[.slice A l.length c] := by
    have := Blk.new (((w.alloc (.cells (spA f) 24)).alloc (.cells #[.int .i64 r] 3)).alloc (.cells #[.int .i64 d] 3)) 31 #[.slice A l.length c]
    rw [World.size_alloc, World.size_alloc, World.size_alloc] at this
    rw [hW1]; exact this
  have B0 : Below w.heap.size w W1 := by rw [hW1]; exact bl_alloc (bl_alloc (bl_alloc (bl_alloc (below_refl w) _) _) _) _
  unfold ClP
  cases h1 : isS f
  · have HE := Lib.hid (H7.out (by unfold ckB; rw [h1]; rfl))
    have Q1 := Lib.hid (HF.out _ h1)
    clear h1 HF HZ HT1 HT2 H7
    go_enter Try.func27, Try.ntmps27
    go_wp2_with fail
    refine (Q1.out _).mono ?_
    rintro e w1 ⟨rfl, hb1⟩
    have hb1' : Below W1.heap.size W1 w1 := by rw [hW1]; exact hb1
    have B1 := below_tr B0 hb1'
    have y5 := x5.below hb1' x5.lt
    have y6 := x6.below hb1' x6.lt
    have y7 := x7.below hb1' x7.lt
    have y8 := x8.below hb1' x8.lt
    have e6 := blk_int y6
    have e7 := blk_int y7
    have e8 : w1.cell? ⟨w.heap.size + 1 + 1 + 1, 0, none⟩ = some (.slice A l.length c) := by have := y8.cell 0; simpa using this
    clear hW1 hb1 x5 x6 x7 x8 B0
    go_wp2
    go_ret2
    exact ⟨by rw [HE.out.1, HE.out.2]; rfl, B1⟩
  have Q1 := Lib.hid (HF.out _ h1)
  cases h2 : (wn r 1 20000 && wn d 0 1000)
  · have HE := Lib.hid (H7.out (by unfold ckB; rw [h1, h2]; rfl))
    have Q2 := Lib.hid (HZ.out _ h2)
    clear h1 h2 HF HZ HT1 HT2 H7
    go_enter Try.func27, Try.ntmps27
    go_wp2_with fail
    refine (Q1.out _).mono ?_
    rintro e w1 ⟨rfl, hb1⟩
    have hb1' : Below W1.heap.size W1 w1 := by rw [hW1]; exact hb1
    have B1 := below_tr B0 hb1'
    have y5 := x5.below hb1' x5.lt
    have y6 := x6.below hb1' x6.lt
    have y7 := x7.below hb1' x7.lt
    have y8 := x8.below hb1' x8.lt
    have e6 := blk_int y6
    have e7 := blk_int y7
    have e8 : w1.cell? ⟨w.heap.size + 1 + 1 + 1, 0, none⟩ = some (.slice A l.length c) := by have := y8.cell 0; simpa using this
    clear hW1 hb1 x5 x6 x7 x8 B0
    go_wp2_with (go_at_call 53; ((with_reducible refine (Q2.out _).mono ?_); rintro e w' ⟨rfl, rfl⟩))
    go_ret2
    exact ⟨by rw [HE.out.1, HE.out.2]; rfl, B1⟩
  have Q2 := Lib.hid (HZ.out _ h2)
  cases h3 : thB l
  · have HE := Lib.hid (H7.out (by unfold ckB; rw [h1, h2, h3]; rfl))
    have Q3 := Lib.hid (HT1.out _ h3)
    clear h1 h2 h3 HF HZ HT1 HT2 H7
    go_enter Try.func27, Try.ntmps27
    go_wp2_with fail
    refine (Q1.out _).mono ?_
    rintro e w1 ⟨rfl, hb1⟩
    have hb1' : Below W1.heap.size W1 w1 := by rw [hW1]; exact hb1
    have B1 := below_tr B0 hb1'
    have y5 := x5.below hb1' x5.lt
    have y6 := x6.below hb1' x6.lt
    have y7 := x7.below hb1' x7.lt
    have y8 := x8.below hb1' x8.lt
    have e6 := blk_int y6
    have e7 := blk_int y7
    have e8 : w1.cell? ⟨w.heap.size + 1 + 1 + 1, 0, none⟩ = some (.slice A l.length c) := by have := y8.cell 0; simpa using this
    clear hW1 hb1 x5 x6 x7 x8 B0
    go_wp2_with (go_at_call 53; ((with_reducible refine (Q2.out _).mono ?_); rintro e w' ⟨rfl, rfl⟩))
    refine (Q3.out _ B1).mono ?_
    rintro e w2 ⟨rfl, hb2⟩
    have B2 := below_tr B1 hb2
    have v5 := y5.below hb2 y5.lt
    have v6 := y6.below hb2 y6.lt
    have v7 := y7.below hb2 y7.lt
    have v8 := y8.below hb2 y8.lt
    clear y5 y6 y7 y8 e6 e7 e8
    go_wp2
    go_ret2
    exact ⟨by rw [HE.out.1, HE.out.2]; rfl, B2⟩
  have Q3 := Lib.hid (HT1.out _ h3)
  cases h4 : thB ways
  · have HE := Lib.hid (H7.out (by unfold ckB; rw [h1, h2, h3, h4]; rfl))
    have Q4 := Lib.hid (HT2.out _ h4)
    clear h1 h2 h3 h4 HF HZ HT1 HT2 H7
    go_enter Try.func27, Try.ntmps27
    go_wp2_with fail
    refine (Q1.out _).mono ?_
    rintro e w1 ⟨rfl, hb1⟩
    have hb1' : Below W1.heap.size W1 w1 := by rw [hW1]; exact hb1
    have B1 := below_tr B0 hb1'
    have y5 := x5.below hb1' x5.lt
    have y6 := x6.below hb1' x6.lt
    have y7 := x7.below hb1' x7.lt
    have y8 := x8.below hb1' x8.lt
    have e6 := blk_int y6
    have e7 := blk_int y7
    have e8 : w1.cell? ⟨w.heap.size + 1 + 1 + 1, 0, none⟩ = some (.slice A l.length c) := by have := y8.cell 0; simpa using this
    clear hW1 hb1 x5 x6 x7 x8 B0
    go_wp2_with (go_at_call 53; ((with_reducible refine (Q2.out _).mono ?_); rintro e w' ⟨rfl, rfl⟩))
    refine (Q3.out _ B1).mono ?_
    rintro e w2 ⟨rfl, hb2⟩
    have B2 := below_tr B1 hb2
    have v5 := y5.below hb2 y5.lt
    have v6 := y6.below hb2 y6.lt
    have v7 := y7.below hb2 y7.lt
    have v8 := y8.below hb2 y8.lt
    clear y5 y6 y7 y8 e6 e7 e8
    go_wp2_with fail
    refine (Q4.out _ B2).mono ?_
    rintro e w3 ⟨rfl, hb3⟩
    have B3 := below_tr B2 hb3
    go_wp2
    go_ret2
    exact ⟨by rw [HE.out.1, HE.out.2]; rfl, B3⟩
  have Q4 := Lib.hid (HT2.out _ h4)
  have hck : ckB f r d l ways = true := by unfold ckB; rw [h1, h2, h3, h4]; rfl
  have H3 := Lib.hid h3
  clear h1 h2 h3 h4 HF HZ HT1 HT2 H7
  by_cases hi : idxOf (cwP f r d l) ways 0 < 0
  · have HE := Lib.hid (cl_none hck hi)
    clear hck
    go_enter Try.func27, Try.ntmps27
    go_wp2_with fail
    refine (Q1.out _).mono ?_
    rintro e w1 ⟨rfl, hb1⟩
    have hb1' : Below W1.heap.size W1 w1 := by rw [hW1]; exact hb1
    have B1 := below_tr B0 hb1'
    have y5 := x5.below hb1' x5.lt
    have y6 := x6.below hb1' x6.lt
    have y7 := x7.below hb1' x7.lt
    have y8 := x8.below hb1' x8.lt
    have e6 := blk_int y6
    have e7 := blk_int y7
    have e8 : w1.cell? ⟨w.heap.size + 1 + 1 + 1, 0, none⟩ = some (.slice A l.length c) := by have := y8.cell 0; simpa using this
    clear hW1 hb1 x5 x6 x7 x8 B0
    go_wp2_with (go_at_call 53; ((with_reducible refine (Q2.out _).mono ?_); rintro e w' ⟨rfl, rfl⟩))
    refine (Q3.out _ B1).mono ?_
    rintro e w2 ⟨rfl, hb2⟩
    have B2 := below_tr B1 hb2
    have v5 := y5.below hb2 y5.lt
    have v6 := y6.below hb2 y6.lt
    have v7 := y7.below hb2 y7.lt
    have v8 := y8.below hb2 y8.lt
    clear y5 y6 y7 y8 e6 e7 e8
    go_wp2_with fail
    refine (Q4.out _ B2).mono ?_
    rintro e w3 ⟨rfl, hb3⟩
    have B3 := below_tr B2 hb3
    have o5 := v5.below hb3 v5.lt
    have o6 := v6.below hb3 v6.lt
    have o7 := v7.below hb3 v7.lt
    have o8 := v8.below hb3 v8.lt
    have HI := Lib.hid (c_indexS B ways c' (cwP f r d l) 56 #[.pointer (some ⟨w.heap.size, 0, none⟩), .pointer (some ⟨w.heap.size + 1, 0, none⟩), .pointer (some ⟨w.heap.size + 1 + 1, 0, none⟩), .pointer (some ⟨w.heap.size + 1 + 1 + 1, 0, none⟩)] w3 hw (hS.on B3) (enters_of Try.func56 (by kernel_rfl) rfl) (fun W x hW hx => p_Clear1 f x r d A l c _ _ _ _ W hl H3.out (o5.below hW o5.lt) (o6.below hW o6.lt) (o7.below hW o7.lt) (o8.below hW o8.lt) ((hR.on B3).on hW)))
    generalize idxOf (cwP f r d l) ways 0 = X at *
    go_wp2_with fail
    refine HI.out.mono ?_
    rintro e w4 ⟨rfl, hb4⟩
    go_wp2
    go_ret2
    exact ⟨by rw [HE.out.1, HE.out.2]; rfl, below_tr B3 hb4⟩
  · have HE := Lib.hid (cl_some hck hi)
    have hi' : 0 ≤ idxOf (cwP f r d l) ways 0 := by omega
    clear hck
    go_enter Try.func27, Try.ntmps27
    go_wp2_with fail
    refine (Q1.out _).mono ?_
    rintro e w1 ⟨rfl, hb1⟩
    have hb1' : Below W1.heap.size W1 w1 := by rw [hW1]; exact hb1
    have B1 := below_tr B0 hb1'
    have y5 := x5.below hb1' x5.lt
    have y6 := x6.below hb1' x6.lt
    have y7 := x7.below hb1' x7.lt
    have y8 := x8.below hb1' x8.lt
    have e6 := blk_int y6
    have e7 := blk_int y7
    have e8 : w1.cell? ⟨w.heap.size + 1 + 1 + 1, 0, none⟩ = some (.slice A l.length c) := by have := y8.cell 0; simpa using this
    clear hW1 hb1 x5 x6 x7 x8 B0
    go_wp2_with (go_at_call 53; ((with_reducible refine (Q2.out _).mono ?_); rintro e w' ⟨rfl, rfl⟩))
    refine (Q3.out _ B1).mono ?_
    rintro e w2 ⟨rfl, hb2⟩
    have B2 := below_tr B1 hb2
    have v5 := y5.below hb2 y5.lt
    have v6 := y6.below hb2 y6.lt
    have v7 := y7.below hb2 y7.lt
    have v8 := y8.below hb2 y8.lt
    clear y5 y6 y7 y8 e6 e7 e8
    go_wp2_with fail
    refine (Q4.out _ B2).mono ?_
    rintro e w3 ⟨rfl, hb3⟩
    have B3 := below_tr B2 hb3
    have o5 := v5.below hb3 v5.lt
    have o6 := v6.below hb3 v6.lt
    have o7 := v7.below hb3 v7.lt
    have o8 := v8.below hb3 v8.lt
    have HI := Lib.hid (c_indexS B ways c' (cwP f r d l) 56 #[.pointer (some ⟨w.heap.size, 0, none⟩), .pointer (some ⟨w.heap.size + 1, 0, none⟩), .pointer (some ⟨w.heap.size + 1 + 1, 0, none⟩), .pointer (some ⟨w.heap.size + 1 + 1 + 1, 0, none⟩)] w3 hw (hS.on B3) (enters_of Try.func56 (by kernel_rfl) rfl) (fun W x hW hx => p_Clear1 f x r d A l c _ _ _ _ W hl H3.out (o5.below hW o5.lt) (o6.below hW o6.lt) (o7.below hW o7.lt) (o8.below hW o8.lt) ((hR.on B3).on hW)))
    generalize idxOf (cwP f r d l) ways 0 = X at *
    go_wp2_with fail
    refine HI.out.mono ?_
    rintro e w4 ⟨rfl, hb4⟩
    go_wp2
    go_ret2
    exact ⟨by rw [HE.out.1, HE.out.2]; rfl, below_tr B3 hb4⟩
end Go.Proofs.Ytkeojokbpjdhpaa
