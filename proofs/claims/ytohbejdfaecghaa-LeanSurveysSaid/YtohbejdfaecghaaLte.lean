/- Lean: LeanThrough, LeanWorst, LeanLines walked. -/
import Derived.Test.YtohbejdfaecghaaLtd
import Derived.Test.YtohbejdfaecghaaLtx
set_option linter.unusedSimpArgs false
set_option linter.unusedVariables false
namespace Go.Proofs.Ytohbejdfaecghaa
open Go.RowKit

theorem off_zero_dst {x : Ln} {p : Pt} (h : off3 x p = 0) : (dstL x p).1.1 = 0 := by
  unfold dstL
  split
  · show gN (farV x.1 x.2.1 x.2.2 p) x.2.2 = 0
    have : farV x.1 x.2.1 x.2.2 p = 0 := by unfold off3 at h; unfold farV; rw [h]; rfl
    rw [this]; unfold gN; simp
  · rfl
theorem thrU_pos {p q : Pt} (h : p.h ≠ q.h) : 0 < (thrU p q).2.2 := by
  unfold thrU; split
  · exact thr_pos ‹_›
  · exact thr_pos (by omega)
theorem thrU_off {p q : Pt} (h : p.h ≠ q.h) : off3 (thrU p q) p = 0 ∧ off3 (thrU p q) q = 0 := by
  unfold thrU; split
  · exact thr_off ‹_›
  · exact (thr_off (by omega)).symm
theorem vld_mk3 {a b d : Int} (h : inB a b d = true) : vldL (mk3 a b d).1 (mk3 a b d).2.1 (mk3 a b d).2.2 = true := by
  obtain ⟨a0, a1, b0, b1, d0, d1⟩ := lb_of h
  obtain ⟨v1, v2, v3⟩ := g3_dvd a b d
  have m1 := m3_bd v1 (by omega) (B := 100000000000000000) (by omega) a1
  have m2 := m3_bd v2 (by omega) (B := 1000000000000) (by omega) b1
  have m3' := m3_bd v3 (by omega) (B := 1000000000000) (by omega) d1
  have hp := mk3_pos (a := a) (b := b) (d := d) (by omega)
  have hg := g3_mk3 (a := a) (b := b) (d := d) (by omega)
  unfold vldL inB
  simp only [Bool.and_eq_true, wn_iff, decide_eq_true_eq]
  unfold mk3 at *
  dsimp only at *
  exact ⟨⟨by omega, by omega, by omega⟩, hg⟩
theorem thrU_vld {p q : Pt} (hp : SP p) (hq : SP q) (h : p.h ≠ q.h) : vldL (thrU p q).1 (thrU p q).2.1 (thrU p q).2.2 = true := by
  unfold thrU; split
  · exact vld_mk3 (tb_in hp hq ‹_›)
  · exact vld_mk3 (tb_in hq hp (by omega))
/-- what LeanThrough asks of a line that was found -/
theorem through_law {p q : Pt} (h : (thruL p q).2 = 0) : (dstL (thruL p q).1 p).2 = 0 ∧ (dstL (thruL p q).1 q).2 = 0 ∧ (dstL (thruL p q).1 p).1.1 = 0 ∧ (dstL (thruL p q).1 q).1.1 = 0 := by
  unfold thruL at *
  split at h
  · rename_i hs
    rw [if_pos hs]
    split at h
    · exact absurd h (by decide)
    · rename_i hne
      rw [if_neg hne]
      have hv := thrU_vld (sp_of hs.1) (sp_of hs.2) hne
      obtain ⟨o1, o2⟩ := thrU_off hne
      refine ⟨?_, ?_, off_zero_dst o1, off_zero_dst o2⟩
      · unfold dstL; rw [if_pos ⟨hv, hs.1⟩]
      · unfold dstL; rw [if_pos ⟨hv, hs.2⟩]
  · exact absurd h (by decide)

set_option maxHeartbeats 1000000 in
set_option maxRecDepth 20000 in
theorem l_through (p q : Pt) (w : World) :
    Calls Try.prog 4 #[.agg #[.int .i64 p.h, .int .i64 p.x], .agg #[.int .i64 q.h, .int .i64 q.x]] w fun e w' => e = .returned (.bool true) ∧ Below w.heap.size w w' := by
  have P1 := fun W => p_Through p q W
  have P2 := fun W => r_Through p q W
  have hl := through_law (p := p) (q := q)
  generalize thruL p q = T at *
  obtain ⟨⟨x0, x1, x2⟩, e⟩ := T
  dsimp only at P1 P2 hl
  have P3 := fun W => p_Distance x0 x1 x2 p W
  have P4 := fun W => p_Distance x0 x1 x2 q W
  by_cases he : e = 0
  · subst he
    obtain ⟨h1, h2, h3, h4⟩ := hl rfl
    generalize dstL (x0, x1, x2) p = D1 at *
    generalize dstL (x0, x1, x2) q = D2 at *
    obtain ⟨⟨n1, d1⟩, e1⟩ := D1
    obtain ⟨⟨n2, d2⟩, e2⟩ := D2
    dsimp only at *
    subst h1 h2 h3 h4
    have P1 := Lib.hid P1
    have P2 := Lib.hid P2
    have P3 := Lib.hid P3
    have P4 := Lib.hid P4
    clear hl
    go_enter Try.func4, Try.ntmps4
    go_wp2_with (first
      | (go_at_call 19; ((with_reducible refine (P2.out _).mono ?_); rintro e w2 ⟨rfl, hb2⟩; obtain ⟨hc2, hf2⟩ := bcell hb2; have hz2 := hb2.size; (try simp [sz_drew, sz_drewN] at hz2); (try simp only [sz_drew, sz_drewN] at hc2 hf2); have z2_0 : w.heap.size < w2.heap.size := (by omega); have z2_1 : w.heap.size + 1 < w2.heap.size := (by omega); have y2_0 : w1.heap.size < w2.heap.size := (by omega)))
      | (go_at_call 18; ((with_reducible refine (P1.out _).mono ?_); rintro e w1 ⟨rfl, hb1⟩; obtain ⟨hc1, hf1⟩ := bcell hb1; have hz1 := hb1.size; (try simp [sz_drew, sz_drewN] at hz1); (try simp only [sz_drew, sz_drewN] at hc1 hf1); have z1_0 : w.heap.size < w1.heap.size := (by omega); have z1_1 : w.heap.size + 1 < w1.heap.size := (by omega)))
      | (go_at_call 20; ((with_reducible refine (P3.out _).mono ?_); rintro e w3 ⟨rfl, hb3⟩; obtain ⟨hc3, hf3⟩ := bcell hb3; have hz3 := hb3.size; (try simp [sz_drew, sz_drewN] at hz3); (try simp only [sz_drew, sz_drewN] at hc3 hf3); have z3_0 : w.heap.size < w3.heap.size := (by omega); have z3_1 : w.heap.size + 1 < w3.heap.size := (by omega); have y3_0 : w1.heap.size < w3.heap.size := (by omega); have y3_1 : w2.heap.size < w3.heap.size := (by omega)))
      | (go_at_call 20; ((with_reducible refine (P4.out _).mono ?_); rintro e w4 ⟨rfl, hb4⟩; obtain ⟨hc4, hf4⟩ := bcell hb4; have hz4 := hb4.size; (try simp [sz_drew, sz_drewN] at hz4); (try simp only [sz_drew, sz_drewN] at hc4 hf4); have z4_0 : w.heap.size < w4.heap.size := (by omega); have z4_1 : w.heap.size + 1 < w4.heap.size := (by omega); have y4_0 : w1.heap.size < w4.heap.size := (by omega); have y4_1 : w2.heap.size < w4.heap.size := (by omega); have y4_2 : w3.heap.size < w4.heap.size := (by omega)))
      | (go_at_call 17; ((with_reducible refine (p_awake _).mono ?_); rintro e w5 ⟨rfl, hb5⟩; obtain ⟨hc5, hf5⟩ := bcell hb5; have hz5 := hb5.size; (try simp [sz_drew, sz_drewN] at hz5); (try simp only [sz_drew, sz_drewN] at hc5 hf5); have z5_0 : w.heap.size < w5.heap.size := (by omega); have z5_1 : w.heap.size + 1 < w5.heap.size := (by omega))))
    go_ret
    exact ⟨rfl, by (repeat' (first | assumption | exact below_refl _ | refine bl_alloc ?_ _ | refine Below.setCell ?_ ?_ _ | refine below_draw ?_ | refine below_drewN ?_ _ | refine below_tr ?_ (by assumption))) <;> (first | omega | (simp; done) | (simp; omega))⟩
  · have t1 : (e != 0) = true := by simpa using he
    have P1 := Lib.hid P1
    have P2 := Lib.hid P2
    clear hl P3 P4
    go_enter Try.func4, Try.ntmps4
    go_wp2_with (first
      | (go_at_call 19; ((with_reducible refine (P2.out _).mono ?_); rintro e w2 ⟨rfl, hb2⟩; obtain ⟨hc2, hf2⟩ := bcell hb2; have hz2 := hb2.size; (try simp [sz_drew, sz_drewN] at hz2); (try simp only [sz_drew, sz_drewN] at hc2 hf2); have z2_0 : w.heap.size < w2.heap.size := (by omega); have z2_1 : w.heap.size + 1 < w2.heap.size := (by omega); have y2_0 : w1.heap.size < w2.heap.size := (by omega)))
      | (go_at_call 18; ((with_reducible refine (P1.out _).mono ?_); rintro e w1 ⟨rfl, hb1⟩; obtain ⟨hc1, hf1⟩ := bcell hb1; have hz1 := hb1.size; (try simp [sz_drew, sz_drewN] at hz1); (try simp only [sz_drew, sz_drewN] at hc1 hf1); have z1_0 : w.heap.size < w1.heap.size := (by omega); have z1_1 : w.heap.size + 1 < w1.heap.size := (by omega)))
      | (go_at_call 17; ((with_reducible refine (p_awake _).mono ?_); rintro e w5 ⟨rfl, hb5⟩; obtain ⟨hc5, hf5⟩ := bcell hb5; have hz5 := hb5.size; (try simp [sz_drew, sz_drewN] at hz5); (try simp only [sz_drew, sz_drewN] at hc5 hf5); have z5_0 : w.heap.size < w5.heap.size := (by omega); have z5_1 : w.heap.size + 1 < w5.heap.size := (by omega))))
    go_ret
    exact ⟨rfl, by (repeat' (first | assumption | exact below_refl _ | refine bl_alloc ?_ _ | refine Below.setCell ?_ ?_ _ | refine below_draw ?_ | refine below_drewN ?_ _ | refine below_tr ?_ (by assumption))) <;> (first | omega | (simp; done) | (simp; omega))⟩
end Go.Proofs.Ytohbejdfaecghaa
