/- Lean: LeanRaises walked. -/
import Derived.Test.YtohbejdfaecghaaLpa
import Derived.Test.YtohbejdfaecghaaLpc
import Derived.Test.YtohbejdfaecghaaLnc
import Derived.Test.YtohbejdfaecghaaLdm
set_option linter.unusedSimpArgs false
set_option linter.unusedVariables false
namespace Go.Proofs.Ytohbejdfaecghaa
open Go.RowKit

theorem raises_law {l : List Pt} {x : Ln} (hE : (rsdL l x).2 = 0) (hx : x.2.2 = 1) (a0 : -10000000000 ≤ x.1) (a1 : x.1 ≤ 10000000000) (b0 : -1000000 ≤ x.2.1) (b1 : x.2.1 ≤ 1000000) :
    1 ≤ l.length ∧ ∃ p q : Ln, nearL l = (p, 0) ∧ nearL (rsdL l x).1 = (q, 0) ∧ bendL (rsdL l x).1 = bendL l ∧ (bendL l).2 = 0 ∧ vldL p.1 p.2.1 p.2.2 = true ∧ (-12000000000 ≤ p.1 ∧ p.1 ≤ 12000000000 ∧ -40000 ≤ p.2.1 ∧ p.2.1 ≤ 40000 ∧ 1 ≤ p.2.2 ∧ p.2.2 ≤ 400000) ∧
      (l.length = 1 → q.2.1 = 0) ∧ ((2 ≤ l.length ∨ x.2.1 = 0) → makeL (p.1 + x.1 * p.2.2) (p.2.1 + x.2.1 * p.2.2) p.2.2 = (q, 0)) := by
  unfold rsdL at *
  split at hE
  · rename_i hv
    rw [if_pos hv]
    split at hE
    · rename_i hs
      rw [if_pos hs]
      obtain ⟨hp, _⟩ := hv
      have hu := vldP_up hp hs
      have hb := near_small hp
      obtain ⟨h1, _⟩ := vld_len hp
      have hlen : (l.map (upPt x)).length = l.length := List.length_map ..
      refine ⟨h1, nearP l, nearP (l.map (upPt x)), by simp [nearL, hp], by simp [nearL, hu], ?_, by simp [bendL, hp], near_vld hp, hb, fun h => ?_, fun h => ?_⟩
      · dsimp only
        rcases Nat.eq_or_lt_of_le h1 with he | he
        · rw [bend_one hu (by omega), bend_one hp he.symm]
        · obtain ⟨e1, e2⟩ := raise_law hp hs hx (.inl he)
          unfold bendL
          rw [if_pos hu, if_pos hp, e2, e1]
      · rw [(near_one (l := l.map (upPt x)) (by omega)).1]
      · obtain ⟨e1, _⟩ := raise_law hp hs hx h
        rw [e1]
        obtain ⟨b2, b3, b4, b5, b6, b7⟩ := hb
        have m1 := mul_bd (a := x.1) (b := (nearP l).2.2) (A := 10000000000) (B := 400000) a0 a1 (by omega) b7
        have m2 := mul_bd (a := x.2.1) (b := (nearP l).2.2) (A := 1000000) (B := 400000) b0 b1 (by omega) b7
        rw [make_yes (by simp only [inB, Bool.and_eq_true, wn_iff]; omega)]
        have := mk3_red (x := ((nearP l).1 + x.1 * (nearP l).2.2, (nearP l).2.1 + x.2.1 * (nearP l).2.2, (nearP l).2.2)) (by show g3 _ _ _ = 1; rw [g3_up]; exact vld_red (near_vld hp))
        rw [this]
    · exact absurd hE (by decide)
  · exact absurd hE (by decide)
theorem rsd_len (l : List Pt) (x : Ln) : (rsdL l x).1.length ≤ l.length := by
  unfold rsdL; split
  · split <;> simp
  · simp
set_option maxHeartbeats 8000000 in
set_option maxRecDepth 20000 in
theorem l_raises (A : Option Addr) (l : List Pt) (c : Nat) (a b d : Int) (w : World) (hR : Rd Pt.cs 2 w A l) (hn : l.length ≤ maxLen) :
    Calls Try.prog 14 #[.slice A l.length c, lineV a b d] w fun e w' => e = .returned (.bool true) ∧ Below w.heap.size w w' := by
  unfold maxLen at hn
  by_cases hlen : 100 < l.length
  · go_enter Try.func14, Try.ntmps14
    go_wp2_with (go_at_call 17; ((with_reducible refine (p_awake _).mono ?_); rintro e w1 ⟨rfl, hb1⟩; obtain ⟨hc1, hf1⟩ := bcell hb1; have hz1 := hb1.size; (try simp [sz_drew, sz_drewN] at hz1); (try simp only [sz_drew, sz_drewN] at hc1 hf1); have z1_0 : w.heap.size < w1.heap.size := (by omega)))
    go_ret
    exact ⟨rfl, by (repeat' (first | assumption | exact below_refl _ | refine bl_alloc ?_ _ | refine Below.setCell ?_ ?_ _ | refine below_draw ?_ | refine below_drewN ?_ _ | refine below_tr ?_ (by assumption))) <;> (first | omega | (simp; done) | (simp; omega))⟩
  · have HR := Lib.hid hR
    have P1 := fun W (h : Below w.heap.size w W) => p_Raised A l c a b d W (by omega) (HR.out.on h)
    have P2 := fun W (h : Below w.heap.size w W) => r_Raised A l c a b d W (by omega) (HR.out.on h)
    have hrl := rsd_len l (a, b, d)
    have hlaw := raises_law (l := l) (x := (a, b, d))
    have P5 := fun W (h : Below w.heap.size w W) => p_Nearest A l c W (by omega) (HR.out.on h)
    have P6 := fun W (h : Below w.heap.size w W) => p_Bend A l c W (by omega) (HR.out.on h)
    generalize (rsdL l (a, b, d)).1 = R at *
    generalize (rsdL l (a, b, d)).2 = E at *
    have hrl' : R.length ≤ 100000 := by omega
    have PS := Lib.hid (fun A B c d W h1 h2 => r_samePoints A B R c d W hrl' h1 h2)
    have P7 := fun A c W h => p_Nearest A R c W hrl' h
    have P8 := fun A c W h => p_Bend A R c W hrl' h
    have P1 := Lib.hid P1
    have P2 := Lib.hid P2
    have HRL := Lib.hid hrl'
    clear hR hrl hrl'
    by_cases he : E = 0
    · subst he
      by_cases hd : d = 1
      · subst hd
        by_cases ha0 : a < -10000000000
        · have t1 : decide (a < -10000000000) = true := by simpa using ha0
          clear hlaw P5 P6 P7 P8
          go_enter Try.func14, Try.ntmps14
          go_wp2_with (first
            | (go_at_call 55; ((with_reducible refine (P1.out _ (below_alloc _ _)).mono ?_); rintro e w1 ⟨v1, rfl, ho1, hb1⟩; obtain ⟨A1, c1, rfl, hr1⟩ := own_rd Pt.cs_len ho1; obtain ⟨hc1, hf1⟩ := bcell hb1; have hz1 := hb1.size; (try simp at hz1); have z1 : w.heap.size < w1.heap.size := (by omega); have B1 : Below w.heap.size w w1 := (by (repeat' (first | assumption | exact below_refl _ | refine bl_alloc ?_ _ | refine Below.setCell ?_ ?_ _ | refine below_draw ?_ | refine below_drewN ?_ _ | refine below_tr ?_ (by assumption))) <;> (first | omega | (simp; done) | (simp; omega)))))
            | (go_at_call 56; ((with_reducible refine (P2.out _ B1).mono ?_); rintro e w2 ⟨v2, rfl, ho2, hb2⟩; obtain ⟨A2, c2, rfl, hr2⟩ := own_rd Pt.cs_len ho2; obtain ⟨hc2, hf2⟩ := bcell hb2; have hz2 := hb2.size; have z2 : w.heap.size < w2.heap.size := (by omega); have B2 : Below w.heap.size w w2 := (by (repeat' (first | assumption | exact below_refl _ | refine bl_alloc ?_ _ | refine Below.setCell ?_ ?_ _ | refine below_draw ?_ | refine below_drewN ?_ _ | refine below_tr ?_ (by assumption))) <;> (first | omega | (simp; done) | (simp; omega))); have hr3 := hr1.on hb2))
            | ((go_at_call 43; ((with_reducible refine (PS.out _ _ _ _ _ hr3 hr2).mono ?_); rintro e w3 ⟨rfl, hb3⟩; obtain ⟨hc3, hf3⟩ := bcell hb3; have hz3 := hb3.size; (try simp [sz_drew, sz_drewN] at hz3); (try simp only [sz_drew, sz_drewN] at hc3 hf3); have z3_0 : w.heap.size < w3.heap.size := (by omega))); have B3 : Below w.heap.size w w3 := (by (repeat' (first | assumption | exact below_refl _ | refine bl_alloc ?_ _ | refine Below.setCell ?_ ?_ _ | refine below_draw ?_ | refine below_drewN ?_ _ | refine below_tr ?_ (by assumption))) <;> (first | omega | (simp; done) | (simp; omega))); have hr4 := hr3.on hb3)
            | (go_at_call 17; ((with_reducible refine (p_awake _).mono ?_); rintro e w4 ⟨rfl, hb4⟩; obtain ⟨hc4, hf4⟩ := bcell hb4; have hz4 := hb4.size; (try simp [sz_drew, sz_drewN] at hz4); (try simp only [sz_drew, sz_drewN] at hc4 hf4); have z4_0 : w.heap.size < w4.heap.size := (by omega))))
          go_ret
          exact ⟨rfl, by (repeat' (first | assumption | exact below_refl _ | refine bl_alloc ?_ _ | refine Below.setCell ?_ ?_ _ | refine below_draw ?_ | refine below_drewN ?_ _ | refine below_tr ?_ (by assumption))) <;> (first | omega | (simp; done) | (simp; omega))⟩
        · have t1 : decide (a < -10000000000) = false := by simpa using ha0
          by_cases ha1 : 10000000000 < a
          · have t2 : decide (10000000000 < a) = true := by simpa using ha1
            clear hlaw P5 P6 P7 P8
            go_enter Try.func14, Try.ntmps14
            go_wp2_with (first
              | (go_at_call 55; ((with_reducible refine (P1.out _ (below_alloc _ _)).mono ?_); rintro e w1 ⟨v1, rfl, ho1, hb1⟩; obtain ⟨A1, c1, rfl, hr1⟩ := own_rd Pt.cs_len ho1; obtain ⟨hc1, hf1⟩ := bcell hb1; have hz1 := hb1.size; (try simp at hz1); have z1 : w.heap.size < w1.heap.size := (by omega); have B1 : Below w.heap.size w w1 := (by (repeat' (first | assumption | exact below_refl _ | refine bl_alloc ?_ _ | refine Below.setCell ?_ ?_ _ | refine below_draw ?_ | refine below_drewN ?_ _ | refine below_tr ?_ (by assumption))) <;> (first | omega | (simp; done) | (simp; omega)))))
              | (go_at_call 56; ((with_reducible refine (P2.out _ B1).mono ?_); rintro e w2 ⟨v2, rfl, ho2, hb2⟩; obtain ⟨A2, c2, rfl, hr2⟩ := own_rd Pt.cs_len ho2; obtain ⟨hc2, hf2⟩ := bcell hb2; have hz2 := hb2.size; have z2 : w.heap.size < w2.heap.size := (by omega); have B2 : Below w.heap.size w w2 := (by (repeat' (first | assumption | exact below_refl _ | refine bl_alloc ?_ _ | refine Below.setCell ?_ ?_ _ | refine below_draw ?_ | refine below_drewN ?_ _ | refine below_tr ?_ (by assumption))) <;> (first | omega | (simp; done) | (simp; omega))); have hr3 := hr1.on hb2))
              | ((go_at_call 43; ((with_reducible refine (PS.out _ _ _ _ _ hr3 hr2).mono ?_); rintro e w3 ⟨rfl, hb3⟩; obtain ⟨hc3, hf3⟩ := bcell hb3; have hz3 := hb3.size; (try simp [sz_drew, sz_drewN] at hz3); (try simp only [sz_drew, sz_drewN] at hc3 hf3); have z3_0 : w.heap.size < w3.heap.size := (by omega))); have B3 : Below w.heap.size w w3 := (by (repeat' (first | assumption | exact below_refl _ | refine bl_alloc ?_ _ | refine Below.setCell ?_ ?_ _ | refine below_draw ?_ | refine below_drewN ?_ _ | refine below_tr ?_ (by assumption))) <;> (first | omega | (simp; done) | (simp; omega))); have hr4 := hr3.on hb3)
              | (go_at_call 17; ((with_reducible refine (p_awake _).mono ?_); rintro e w4 ⟨rfl, hb4⟩; obtain ⟨hc4, hf4⟩ := bcell hb4; have hz4 := hb4.size; (try simp [sz_drew, sz_drewN] at hz4); (try simp only [sz_drew, sz_drewN] at hc4 hf4); have z4_0 : w.heap.size < w4.heap.size := (by omega))))
            go_ret
            exact ⟨rfl, by (repeat' (first | assumption | exact below_refl _ | refine bl_alloc ?_ _ | refine Below.setCell ?_ ?_ _ | refine below_draw ?_ | refine below_drewN ?_ _ | refine below_tr ?_ (by assumption))) <;> (first | omega | (simp; done) | (simp; omega))⟩
          · have t2 : decide (10000000000 < a) = false := by simpa using ha1
            by_cases hb0 : b < -1000000
            · have t3 : decide (b < -1000000) = true := by simpa using hb0
              clear hlaw P5 P6 P7 P8
              go_enter Try.func14, Try.ntmps14
              go_wp2_with (first
                | (go_at_call 55; ((with_reducible refine (P1.out _ (below_alloc _ _)).mono ?_); rintro e w1 ⟨v1, rfl, ho1, hb1⟩; obtain ⟨A1, c1, rfl, hr1⟩ := own_rd Pt.cs_len ho1; obtain ⟨hc1, hf1⟩ := bcell hb1; have hz1 := hb1.size; (try simp at hz1); have z1 : w.heap.size < w1.heap.size := (by omega); have B1 : Below w.heap.size w w1 := (by (repeat' (first | assumption | exact below_refl _ | refine bl_alloc ?_ _ | refine Below.setCell ?_ ?_ _ | refine below_draw ?_ | refine below_drewN ?_ _ | refine below_tr ?_ (by assumption))) <;> (first | omega | (simp; done) | (simp; omega)))))
                | (go_at_call 56; ((with_reducible refine (P2.out _ B1).mono ?_); rintro e w2 ⟨v2, rfl, ho2, hb2⟩; obtain ⟨A2, c2, rfl, hr2⟩ := own_rd Pt.cs_len ho2; obtain ⟨hc2, hf2⟩ := bcell hb2; have hz2 := hb2.size; have z2 : w.heap.size < w2.heap.size := (by omega); have B2 : Below w.heap.size w w2 := (by (repeat' (first | assumption | exact below_refl _ | refine bl_alloc ?_ _ | refine Below.setCell ?_ ?_ _ | refine below_draw ?_ | refine below_drewN ?_ _ | refine below_tr ?_ (by assumption))) <;> (first | omega | (simp; done) | (simp; omega))); have hr3 := hr1.on hb2))
                | ((go_at_call 43; ((with_reducible refine (PS.out _ _ _ _ _ hr3 hr2).mono ?_); rintro e w3 ⟨rfl, hb3⟩; obtain ⟨hc3, hf3⟩ := bcell hb3; have hz3 := hb3.size; (try simp [sz_drew, sz_drewN] at hz3); (try simp only [sz_drew, sz_drewN] at hc3 hf3); have z3_0 : w.heap.size < w3.heap.size := (by omega))); have B3 : Below w.heap.size w w3 := (by (repeat' (first | assumption | exact below_refl _ | refine bl_alloc ?_ _ | refine Below.setCell ?_ ?_ _ | refine below_draw ?_ | refine below_drewN ?_ _ | refine below_tr ?_ (by assumption))) <;> (first | omega | (simp; done) | (simp; omega))); have hr4 := hr3.on hb3)
                | (go_at_call 17; ((with_reducible refine (p_awake _).mono ?_); rintro e w4 ⟨rfl, hb4⟩; obtain ⟨hc4, hf4⟩ := bcell hb4; have hz4 := hb4.size; (try simp [sz_drew, sz_drewN] at hz4); (try simp only [sz_drew, sz_drewN] at hc4 hf4); have z4_0 : w.heap.size < w4.heap.size := (by omega))))
              go_ret
              exact ⟨rfl, by (repeat' (first | assumption | exact below_refl _ | refine bl_alloc ?_ _ | refine Below.setCell ?_ ?_ _ | refine below_draw ?_ | refine below_drewN ?_ _ | refine below_tr ?_ (by assumption))) <;> (first | omega | (simp; done) | (simp; omega))⟩
            · have t3 : decide (b < -1000000) = false := by simpa using hb0
              by_cases hb1 : 1000000 < b
              · have t4 : decide (1000000 < b) = true := by simpa using hb1
                clear hlaw P5 P6 P7 P8
                go_enter Try.func14, Try.ntmps14
                go_wp2_with (first
                  | (go_at_call 55; ((with_reducible refine (P1.out _ (below_alloc _ _)).mono ?_); rintro e w1 ⟨v1, rfl, ho1, hb1⟩; obtain ⟨A1, c1, rfl, hr1⟩ := own_rd Pt.cs_len ho1; obtain ⟨hc1, hf1⟩ := bcell hb1; have hz1 := hb1.size; (try simp at hz1); have z1 : w.heap.size < w1.heap.size := (by omega); have B1 : Below w.heap.size w w1 := (by (repeat' (first | assumption | exact below_refl _ | refine bl_alloc ?_ _ | refine Below.setCell ?_ ?_ _ | refine below_draw ?_ | refine below_drewN ?_ _ | refine below_tr ?_ (by assumption))) <;> (first | omega | (simp; done) | (simp; omega)))))
                  | (go_at_call 56; ((with_reducible refine (P2.out _ B1).mono ?_); rintro e w2 ⟨v2, rfl, ho2, hb2⟩; obtain ⟨A2, c2, rfl, hr2⟩ := own_rd Pt.cs_len ho2; obtain ⟨hc2, hf2⟩ := bcell hb2; have hz2 := hb2.size; have z2 : w.heap.size < w2.heap.size := (by omega); have B2 : Below w.heap.size w w2 := (by (repeat' (first | assumption | exact below_refl _ | refine bl_alloc ?_ _ | refine Below.setCell ?_ ?_ _ | refine below_draw ?_ | refine below_drewN ?_ _ | refine below_tr ?_ (by assumption))) <;> (first | omega | (simp; done) | (simp; omega))); have hr3 := hr1.on hb2))
                  | ((go_at_call 43; ((with_reducible refine (PS.out _ _ _ _ _ hr3 hr2).mono ?_); rintro e w3 ⟨rfl, hb3⟩; obtain ⟨hc3, hf3⟩ := bcell hb3; have hz3 := hb3.size; (try simp [sz_drew, sz_drewN] at hz3); (try simp only [sz_drew, sz_drewN] at hc3 hf3); have z3_0 : w.heap.size < w3.heap.size := (by omega))); have B3 : Below w.heap.size w w3 := (by (repeat' (first | assumption | exact below_refl _ | refine bl_alloc ?_ _ | refine Below.setCell ?_ ?_ _ | refine below_draw ?_ | refine below_drewN ?_ _ | refine below_tr ?_ (by assumption))) <;> (first | omega | (simp; done) | (simp; omega))); have hr4 := hr3.on hb3)
                  | (go_at_call 17; ((with_reducible refine (p_awake _).mono ?_); rintro e w4 ⟨rfl, hb4⟩; obtain ⟨hc4, hf4⟩ := bcell hb4; have hz4 := hb4.size; (try simp [sz_drew, sz_drewN] at hz4); (try simp only [sz_drew, sz_drewN] at hc4 hf4); have z4_0 : w.heap.size < w4.heap.size := (by omega))))
                go_ret
                exact ⟨rfl, by (repeat' (first | assumption | exact below_refl _ | refine bl_alloc ?_ _ | refine Below.setCell ?_ ?_ _ | refine below_draw ?_ | refine below_drewN ?_ _ | refine below_tr ?_ (by assumption))) <;> (first | omega | (simp; done) | (simp; omega))⟩
              · have t4 : decide (1000000 < b) = false := by simpa using hb1
                obtain ⟨n0, p, q, n1, n2, n3, n4, n5, ⟨p0, p1, p2, p3, p4, p5⟩, n6, n7⟩ := hlaw rfl rfl (by dsimp only; omega) (by dsimp only; omega) (by dsimp only; omega) (by dsimp only; omega)
                rw [n1] at P5
                rw [n2] at P7
                rw [n3] at P8
                generalize bendL l = BB at *
                obtain ⟨⟨bn, bd⟩, be⟩ := BB
                dsimp only at n4 P6 P8
                subst n4
                obtain ⟨x0, x1, x2⟩ := p
                obtain ⟨y0, y1, y2⟩ := q
                dsimp only at P5 P7 n5 p0 p1 p2 p3 p4 p5 n6 n7
                have m1 := mul_bd (a := a) (b := x2) (A := 10000000000) (B := 400000) (by omega) (by omega) (by omega) p5
                have m2 := mul_bd (a := b) (b := x2) (A := 1000000) (B := 400000) (by omega) (by omega) (by omega) p5
                obtain ⟨m1, m1'⟩ := m1
                obtain ⟨m2, m2'⟩ := m2
                have P5 := Lib.hid P5
                have P6 := Lib.hid P6
                have P7 := Lib.hid P7
                have P8 := Lib.hid P8
                have PV := Lib.hid (fun W => calls_bool n5 (r_validLine x0 x1 x2 W))
                have t5 : decide (400000 < x2) = false := by simp; omega
                clear n1 n2 n3 n5
                by_cases hone : l.length = 1
                · have u1 : ((l.length : Int) == 1) = true := by simp; omega
                  have hy := n6 hone
                  subst hy
                  by_cases hb : b = 0
                  · have HM := n7 (.inr hb)
                    subst hb
                    have PM := fun W => p_Make (x0 + a * x2) (x1 + 0 * x2) x2 W
                    rw [HM] at PM
                    rw [Int.zero_mul, Int.add_zero] at PM
                    have PM := Lib.hid PM
                    have HONE := Lib.hid hone
                    clear n6 n7 HM hone
                    go_enter Try.func14, Try.ntmps14
                    go_wp2_with (first
                      | (go_at_call 55; ((with_reducible refine (P1.out _ (below_alloc _ _)).mono ?_); rintro e w1 ⟨v1, rfl, ho1, hb1⟩; obtain ⟨A1, c1, rfl, hr1⟩ := own_rd Pt.cs_len ho1; obtain ⟨hc1, hf1⟩ := bcell hb1; have hz1 := hb1.size; (try simp at hz1); have z1 : w.heap.size < w1.heap.size := (by omega); have B1 : Below w.heap.size w w1 := (by (repeat' (first | assumption | exact below_refl _ | refine bl_alloc ?_ _ | refine Below.setCell ?_ ?_ _ | refine below_draw ?_ | refine below_drewN ?_ _ | refine below_tr ?_ (by assumption))) <;> (first | omega | (simp; done) | (simp; omega)))))
                      | (go_at_call 56; ((with_reducible refine (P2.out _ B1).mono ?_); rintro e w2 ⟨v2, rfl, ho2, hb2⟩; obtain ⟨A2, c2, rfl, hr2⟩ := own_rd Pt.cs_len ho2; obtain ⟨hc2, hf2⟩ := bcell hb2; have hz2 := hb2.size; have z2 : w.heap.size < w2.heap.size := (by omega); have B2 : Below w.heap.size w w2 := (by (repeat' (first | assumption | exact below_refl _ | refine bl_alloc ?_ _ | refine Below.setCell ?_ ?_ _ | refine below_draw ?_ | refine below_drewN ?_ _ | refine below_tr ?_ (by assumption))) <;> (first | omega | (simp; done) | (simp; omega))); have hr3 := hr1.on hb2))
                      | ((go_at_call 43; ((with_reducible refine (PS.out _ _ _ _ _ hr3 hr2).mono ?_); rintro e w3 ⟨rfl, hb3⟩; obtain ⟨hc3, hf3⟩ := bcell hb3; have hz3 := hb3.size; (try simp [sz_drew, sz_drewN] at hz3); (try simp only [sz_drew, sz_drewN] at hc3 hf3); have z3_0 : w.heap.size < w3.heap.size := (by omega))); have B3 : Below w.heap.size w w3 := (by (repeat' (first | assumption | exact below_refl _ | refine bl_alloc ?_ _ | refine Below.setCell ?_ ?_ _ | refine below_draw ?_ | refine below_drewN ?_ _ | refine below_tr ?_ (by assumption))) <;> (first | omega | (simp; done) | (simp; omega))); have hr4 := hr3.on hb3)
                      | ((go_at_call 37; ((with_reducible refine (P5.out _ B3).mono ?_); rintro e w5 ⟨rfl, hb5⟩; obtain ⟨hc5, hf5⟩ := bcell hb5; have hz5 := hb5.size; (try simp [sz_drew, sz_drewN] at hz5); (try simp only [sz_drew, sz_drewN] at hc5 hf5); have z5_0 : w.heap.size < w5.heap.size := (by omega))); have B5 : Below w.heap.size w w5 := (by (repeat' (first | assumption | exact below_refl _ | refine bl_alloc ?_ _ | refine Below.setCell ?_ ?_ _ | refine below_draw ?_ | refine below_drewN ?_ _ | refine below_tr ?_ (by assumption))) <;> (first | omega | (simp; done) | (simp; omega))); have hr5 := (hr4.on hb5).on (below_alloc _ (.cells #[.int .i64 x0, .int .i64 x1, .int .i64 x2] 30)))
                      | ((go_at_call 37; ((with_reducible refine (P7.out _ _ _ hr5).mono ?_); rintro e w6 ⟨rfl, hb6⟩; obtain ⟨hc6, hf6⟩ := bcell hb6; have hz6 := hb6.size; (try simp [sz_drew, sz_drewN] at hz6); (try simp only [sz_drew, sz_drewN] at hc6 hf6); have z6_0 : w.heap.size < w6.heap.size := (by omega); have y6_0 : w5.heap.size < w6.heap.size := (by omega))); have B6 : Below w.heap.size w w6 := (by (repeat' (first | assumption | exact below_refl _ | refine bl_alloc ?_ _ | refine Below.setCell ?_ ?_ _ | refine below_draw ?_ | refine below_drewN ?_ _ | refine below_tr ?_ (by assumption))) <;> (first | omega | (simp; done) | (simp; omega))); have hr6 := (hr5.on hb6).on (below_alloc _ (.cells #[.int .i64 y0, .int .i64 0, .int .i64 y2] 30)))
                      | ((go_at_call 39; ((with_reducible refine (P6.out _ (bl_alloc B6 _)).mono ?_); rintro e w7 ⟨rfl, hb7⟩; obtain ⟨hc7, hf7⟩ := bcell hb7; have hz7 := hb7.size; (try simp [sz_drew, sz_drewN] at hz7); (try simp only [sz_drew, sz_drewN] at hc7 hf7); have z7_0 : w.heap.size < w7.heap.size := (by omega); have y7_0 : w5.heap.size < w7.heap.size := (by omega); have y7_1 : w6.heap.size < w7.heap.size := (by omega))); have B7 : Below w.heap.size w w7 := (by (repeat' (first | assumption | exact below_refl _ | refine bl_alloc ?_ _ | refine Below.setCell ?_ ?_ _ | refine below_draw ?_ | refine below_drewN ?_ _ | refine below_tr ?_ (by assumption))) <;> (first | omega | (simp; done) | (simp; omega))); have hr7 := (hr6.on hb7).on (below_alloc _ (.cells #[.int .i64 bn, .int .i64 bd] 23)))
                      | ((go_at_call 39; ((with_reducible refine (P8.out _ _ _ hr7).mono ?_); rintro e w8 ⟨rfl, hb8⟩; obtain ⟨hc8, hf8⟩ := bcell hb8; have hz8 := hb8.size; (try simp [sz_drew, sz_drewN] at hz8); (try simp only [sz_drew, sz_drewN] at hc8 hf8); have z8_0 : w.heap.size < w8.heap.size := (by omega); have y8_0 : w5.heap.size < w8.heap.size := (by omega); have y8_1 : w6.heap.size < w8.heap.size := (by omega); have y8_2 : w7.heap.size < w8.heap.size := (by omega))); have B8 : Below w.heap.size w w8 := (by (repeat' (first | assumption | exact below_refl _ | refine bl_alloc ?_ _ | refine Below.setCell ?_ ?_ _ | refine below_draw ?_ | refine below_drewN ?_ _ | refine below_tr ?_ (by assumption))) <;> (first | omega | (simp; done) | (simp; omega))))
                      | ((go_at_call 24; ((with_reducible refine (PV.out _).mono ?_); rintro e w9 ⟨rfl, hb9⟩; obtain ⟨hc9, hf9⟩ := bcell hb9; have hz9 := hb9.size; (try simp [sz_drew, sz_drewN] at hz9); (try simp only [sz_drew, sz_drewN] at hc9 hf9); have z9_0 : w.heap.size < w9.heap.size := (by omega); have y9_0 : w5.heap.size < w9.heap.size := (by omega); have y9_1 : w6.heap.size < w9.heap.size := (by omega); have y9_2 : w7.heap.size < w9.heap.size := (by omega); have y9_3 : w8.heap.size < w9.heap.size := (by omega))); have B9 : Below w.heap.size w w9 := (by (repeat' (first | assumption | exact below_refl _ | refine bl_alloc ?_ _ | refine Below.setCell ?_ ?_ _ | refine below_draw ?_ | refine below_drewN ?_ _ | refine below_tr ?_ (by assumption))) <;> (first | omega | (simp; done) | (simp; omega))))
                      | ((go_at_call 21; ((with_reducible refine (PM.out _).mono ?_); rintro e w10 ⟨rfl, hb10⟩; obtain ⟨hc10, hf10⟩ := bcell hb10; have hz10 := hb10.size; (try simp [sz_drew, sz_drewN] at hz10); (try simp only [sz_drew, sz_drewN] at hc10 hf10); have z10_0 : w.heap.size < w10.heap.size := (by omega); have y10_0 : w5.heap.size < w10.heap.size := (by omega); have y10_1 : w6.heap.size < w10.heap.size := (by omega))); have B10 : Below w.heap.size w w10 := (by (repeat' (first | assumption | exact below_refl _ | refine bl_alloc ?_ _ | refine Below.setCell ?_ ?_ _ | refine below_draw ?_ | refine below_drewN ?_ _ | refine below_tr ?_ (by assumption))) <;> (first | omega | (simp; done) | (simp; omega))))
                      | (go_at_call 17; ((with_reducible refine (p_awake _).mono ?_); rintro e w4 ⟨rfl, hb4⟩; obtain ⟨hc4, hf4⟩ := bcell hb4; have hz4 := hb4.size; (try simp [sz_drew, sz_drewN] at hz4); (try simp only [sz_drew, sz_drewN] at hc4 hf4); have z4_0 : w.heap.size < w4.heap.size := (by omega))))
                    go_ret
                    exact ⟨rfl, by (repeat' (first | assumption | exact below_refl _ | refine bl_alloc ?_ _ | refine Below.setCell ?_ ?_ _ | refine below_draw ?_ | refine below_drewN ?_ _ | refine below_tr ?_ (by assumption))) <;> (first | omega | (simp; done) | (simp; omega))⟩
                  · have u2 : (b != 0) = true := by simpa using hb
                    have HONE := Lib.hid hone
                    clear n6 n7 hone
                    go_enter Try.func14, Try.ntmps14
                    go_wp2_with (first
                      | (go_at_call 55; ((with_reducible refine (P1.out _ (below_alloc _ _)).mono ?_); rintro e w1 ⟨v1, rfl, ho1, hb1⟩; obtain ⟨A1, c1, rfl, hr1⟩ := own_rd Pt.cs_len ho1; obtain ⟨hc1, hf1⟩ := bcell hb1; have hz1 := hb1.size; (try simp at hz1); have z1 : w.heap.size < w1.heap.size := (by omega); have B1 : Below w.heap.size w w1 := (by (repeat' (first | assumption | exact below_refl _ | refine bl_alloc ?_ _ | refine Below.setCell ?_ ?_ _ | refine below_draw ?_ | refine below_drewN ?_ _ | refine below_tr ?_ (by assumption))) <;> (first | omega | (simp; done) | (simp; omega)))))
                      | (go_at_call 56; ((with_reducible refine (P2.out _ B1).mono ?_); rintro e w2 ⟨v2, rfl, ho2, hb2⟩; obtain ⟨A2, c2, rfl, hr2⟩ := own_rd Pt.cs_len ho2; obtain ⟨hc2, hf2⟩ := bcell hb2; have hz2 := hb2.size; have z2 : w.heap.size < w2.heap.size := (by omega); have B2 : Below w.heap.size w w2 := (by (repeat' (first | assumption | exact below_refl _ | refine bl_alloc ?_ _ | refine Below.setCell ?_ ?_ _ | refine below_draw ?_ | refine below_drewN ?_ _ | refine below_tr ?_ (by assumption))) <;> (first | omega | (simp; done) | (simp; omega))); have hr3 := hr1.on hb2))
                      | ((go_at_call 43; ((with_reducible refine (PS.out _ _ _ _ _ hr3 hr2).mono ?_); rintro e w3 ⟨rfl, hb3⟩; obtain ⟨hc3, hf3⟩ := bcell hb3; have hz3 := hb3.size; (try simp [sz_drew, sz_drewN] at hz3); (try simp only [sz_drew, sz_drewN] at hc3 hf3); have z3_0 : w.heap.size < w3.heap.size := (by omega))); have B3 : Below w.heap.size w w3 := (by (repeat' (first | assumption | exact below_refl _ | refine bl_alloc ?_ _ | refine Below.setCell ?_ ?_ _ | refine below_draw ?_ | refine below_drewN ?_ _ | refine below_tr ?_ (by assumption))) <;> (first | omega | (simp; done) | (simp; omega))); have hr4 := hr3.on hb3)
                      | ((go_at_call 37; ((with_reducible refine (P5.out _ B3).mono ?_); rintro e w5 ⟨rfl, hb5⟩; obtain ⟨hc5, hf5⟩ := bcell hb5; have hz5 := hb5.size; (try simp [sz_drew, sz_drewN] at hz5); (try simp only [sz_drew, sz_drewN] at hc5 hf5); have z5_0 : w.heap.size < w5.heap.size := (by omega))); have B5 : Below w.heap.size w w5 := (by (repeat' (first | assumption | exact below_refl _ | refine bl_alloc ?_ _ | refine Below.setCell ?_ ?_ _ | refine below_draw ?_ | refine below_drewN ?_ _ | refine below_tr ?_ (by assumption))) <;> (first | omega | (simp; done) | (simp; omega))); have hr5 := (hr4.on hb5).on (below_alloc _ (.cells #[.int .i64 x0, .int .i64 x1, .int .i64 x2] 30)))
                      | ((go_at_call 37; ((with_reducible refine (P7.out _ _ _ hr5).mono ?_); rintro e w6 ⟨rfl, hb6⟩; obtain ⟨hc6, hf6⟩ := bcell hb6; have hz6 := hb6.size; (try simp [sz_drew, sz_drewN] at hz6); (try simp only [sz_drew, sz_drewN] at hc6 hf6); have z6_0 : w.heap.size < w6.heap.size := (by omega); have y6_0 : w5.heap.size < w6.heap.size := (by omega))); have B6 : Below w.heap.size w w6 := (by (repeat' (first | assumption | exact below_refl _ | refine bl_alloc ?_ _ | refine Below.setCell ?_ ?_ _ | refine below_draw ?_ | refine below_drewN ?_ _ | refine below_tr ?_ (by assumption))) <;> (first | omega | (simp; done) | (simp; omega))); have hr6 := (hr5.on hb6).on (below_alloc _ (.cells #[.int .i64 y0, .int .i64 0, .int .i64 y2] 30)))
                      | ((go_at_call 39; ((with_reducible refine (P6.out _ (bl_alloc B6 _)).mono ?_); rintro e w7 ⟨rfl, hb7⟩; obtain ⟨hc7, hf7⟩ := bcell hb7; have hz7 := hb7.size; (try simp [sz_drew, sz_drewN] at hz7); (try simp only [sz_drew, sz_drewN] at hc7 hf7); have z7_0 : w.heap.size < w7.heap.size := (by omega); have y7_0 : w5.heap.size < w7.heap.size := (by omega); have y7_1 : w6.heap.size < w7.heap.size := (by omega))); have B7 : Below w.heap.size w w7 := (by (repeat' (first | assumption | exact below_refl _ | refine bl_alloc ?_ _ | refine Below.setCell ?_ ?_ _ | refine below_draw ?_ | refine below_drewN ?_ _ | refine below_tr ?_ (by assumption))) <;> (first | omega | (simp; done) | (simp; omega))); have hr7 := (hr6.on hb7).on (below_alloc _ (.cells #[.int .i64 bn, .int .i64 bd] 23)))
                      | ((go_at_call 39; ((with_reducible refine (P8.out _ _ _ hr7).mono ?_); rintro e w8 ⟨rfl, hb8⟩; obtain ⟨hc8, hf8⟩ := bcell hb8; have hz8 := hb8.size; (try simp [sz_drew, sz_drewN] at hz8); (try simp only [sz_drew, sz_drewN] at hc8 hf8); have z8_0 : w.heap.size < w8.heap.size := (by omega); have y8_0 : w5.heap.size < w8.heap.size := (by omega); have y8_1 : w6.heap.size < w8.heap.size := (by omega); have y8_2 : w7.heap.size < w8.heap.size := (by omega))); have B8 : Below w.heap.size w w8 := (by (repeat' (first | assumption | exact below_refl _ | refine bl_alloc ?_ _ | refine Below.setCell ?_ ?_ _ | refine below_draw ?_ | refine below_drewN ?_ _ | refine below_tr ?_ (by assumption))) <;> (first | omega | (simp; done) | (simp; omega))))
                      | ((go_at_call 24; ((with_reducible refine (PV.out _).mono ?_); rintro e w9 ⟨rfl, hb9⟩; obtain ⟨hc9, hf9⟩ := bcell hb9; have hz9 := hb9.size; (try simp [sz_drew, sz_drewN] at hz9); (try simp only [sz_drew, sz_drewN] at hc9 hf9); have z9_0 : w.heap.size < w9.heap.size := (by omega); have y9_0 : w5.heap.size < w9.heap.size := (by omega); have y9_1 : w6.heap.size < w9.heap.size := (by omega); have y9_2 : w7.heap.size < w9.heap.size := (by omega); have y9_3 : w8.heap.size < w9.heap.size := (by omega))); have B9 : Below w.heap.size w w9 := (by (repeat' (first | assumption | exact below_refl _ | refine bl_alloc ?_ _ | refine Below.setCell ?_ ?_ _ | refine below_draw ?_ | refine below_drewN ?_ _ | refine below_tr ?_ (by assumption))) <;> (first | omega | (simp; done) | (simp; omega))))
                      | (go_at_call 17; ((with_reducible refine (p_awake _).mono ?_); rintro e w4 ⟨rfl, hb4⟩; obtain ⟨hc4, hf4⟩ := bcell hb4; have hz4 := hb4.size; (try simp [sz_drew, sz_drewN] at hz4); (try simp only [sz_drew, sz_drewN] at hc4 hf4); have z4_0 : w.heap.size < w4.heap.size := (by omega))))
                    go_ret
                    exact ⟨rfl, by (repeat' (first | assumption | exact below_refl _ | refine bl_alloc ?_ _ | refine Below.setCell ?_ ?_ _ | refine below_draw ?_ | refine below_drewN ?_ _ | refine below_tr ?_ (by assumption))) <;> (first | omega | (simp; done) | (simp; omega))⟩
                · have u1 : ((l.length : Int) == 1) = false := by simp; omega
                  have h1 : 2 ≤ l.length ∨ b = 0 := .inl (by omega)
                  have HM := n7 h1
                  have PM := fun W => p_Make (x0 + a * x2) (x1 + b * x2) x2 W
                  rw [HM] at PM
                  have PM := Lib.hid PM
                  clear n6 n7 HM h1
                  go_enter Try.func14, Try.ntmps14
                  go_wp2_with (first
                    | (go_at_call 55; ((with_reducible refine (P1.out _ (below_alloc _ _)).mono ?_); rintro e w1 ⟨v1, rfl, ho1, hb1⟩; obtain ⟨A1, c1, rfl, hr1⟩ := own_rd Pt.cs_len ho1; obtain ⟨hc1, hf1⟩ := bcell hb1; have hz1 := hb1.size; (try simp at hz1); have z1 : w.heap.size < w1.heap.size := (by omega); have B1 : Below w.heap.size w w1 := (by (repeat' (first | assumption | exact below_refl _ | refine bl_alloc ?_ _ | refine Below.setCell ?_ ?_ _ | refine below_draw ?_ | refine below_drewN ?_ _ | refine below_tr ?_ (by assumption))) <;> (first | omega | (simp; done) | (simp; omega)))))
                    | (go_at_call 56; ((with_reducible refine (P2.out _ B1).mono ?_); rintro e w2 ⟨v2, rfl, ho2, hb2⟩; obtain ⟨A2, c2, rfl, hr2⟩ := own_rd Pt.cs_len ho2; obtain ⟨hc2, hf2⟩ := bcell hb2; have hz2 := hb2.size; have z2 : w.heap.size < w2.heap.size := (by omega); have B2 : Below w.heap.size w w2 := (by (repeat' (first | assumption | exact below_refl _ | refine bl_alloc ?_ _ | refine Below.setCell ?_ ?_ _ | refine below_draw ?_ | refine below_drewN ?_ _ | refine below_tr ?_ (by assumption))) <;> (first | omega | (simp; done) | (simp; omega))); have hr3 := hr1.on hb2))
                    | ((go_at_call 43; ((with_reducible refine (PS.out _ _ _ _ _ hr3 hr2).mono ?_); rintro e w3 ⟨rfl, hb3⟩; obtain ⟨hc3, hf3⟩ := bcell hb3; have hz3 := hb3.size; (try simp [sz_drew, sz_drewN] at hz3); (try simp only [sz_drew, sz_drewN] at hc3 hf3); have z3_0 : w.heap.size < w3.heap.size := (by omega))); have B3 : Below w.heap.size w w3 := (by (repeat' (first | assumption | exact below_refl _ | refine bl_alloc ?_ _ | refine Below.setCell ?_ ?_ _ | refine below_draw ?_ | refine below_drewN ?_ _ | refine below_tr ?_ (by assumption))) <;> (first | omega | (simp; done) | (simp; omega))); have hr4 := hr3.on hb3)
                    | ((go_at_call 37; ((with_reducible refine (P5.out _ B3).mono ?_); rintro e w5 ⟨rfl, hb5⟩; obtain ⟨hc5, hf5⟩ := bcell hb5; have hz5 := hb5.size; (try simp [sz_drew, sz_drewN] at hz5); (try simp only [sz_drew, sz_drewN] at hc5 hf5); have z5_0 : w.heap.size < w5.heap.size := (by omega))); have B5 : Below w.heap.size w w5 := (by (repeat' (first | assumption | exact below_refl _ | refine bl_alloc ?_ _ | refine Below.setCell ?_ ?_ _ | refine below_draw ?_ | refine below_drewN ?_ _ | refine below_tr ?_ (by assumption))) <;> (first | omega | (simp; done) | (simp; omega))); have hr5 := (hr4.on hb5).on (below_alloc _ (.cells #[.int .i64 x0, .int .i64 x1, .int .i64 x2] 30)))
                    | ((go_at_call 37; ((with_reducible refine (P7.out _ _ _ hr5).mono ?_); rintro e w6 ⟨rfl, hb6⟩; obtain ⟨hc6, hf6⟩ := bcell hb6; have hz6 := hb6.size; (try simp [sz_drew, sz_drewN] at hz6); (try simp only [sz_drew, sz_drewN] at hc6 hf6); have z6_0 : w.heap.size < w6.heap.size := (by omega); have y6_0 : w5.heap.size < w6.heap.size := (by omega))); have B6 : Below w.heap.size w w6 := (by (repeat' (first | assumption | exact below_refl _ | refine bl_alloc ?_ _ | refine Below.setCell ?_ ?_ _ | refine below_draw ?_ | refine below_drewN ?_ _ | refine below_tr ?_ (by assumption))) <;> (first | omega | (simp; done) | (simp; omega))); have hr6 := (hr5.on hb6).on (below_alloc _ (.cells #[.int .i64 y0, .int .i64 y1, .int .i64 y2] 30)))
                    | ((go_at_call 39; ((with_reducible refine (P6.out _ (bl_alloc B6 _)).mono ?_); rintro e w7 ⟨rfl, hb7⟩; obtain ⟨hc7, hf7⟩ := bcell hb7; have hz7 := hb7.size; (try simp [sz_drew, sz_drewN] at hz7); (try simp only [sz_drew, sz_drewN] at hc7 hf7); have z7_0 : w.heap.size < w7.heap.size := (by omega); have y7_0 : w5.heap.size < w7.heap.size := (by omega); have y7_1 : w6.heap.size < w7.heap.size := (by omega))); have B7 : Below w.heap.size w w7 := (by (repeat' (first | assumption | exact below_refl _ | refine bl_alloc ?_ _ | refine Below.setCell ?_ ?_ _ | refine below_draw ?_ | refine below_drewN ?_ _ | refine below_tr ?_ (by assumption))) <;> (first | omega | (simp; done) | (simp; omega))); have hr7 := (hr6.on hb7).on (below_alloc _ (.cells #[.int .i64 bn, .int .i64 bd] 23)))
                    | ((go_at_call 39; ((with_reducible refine (P8.out _ _ _ hr7).mono ?_); rintro e w8 ⟨rfl, hb8⟩; obtain ⟨hc8, hf8⟩ := bcell hb8; have hz8 := hb8.size; (try simp [sz_drew, sz_drewN] at hz8); (try simp only [sz_drew, sz_drewN] at hc8 hf8); have z8_0 : w.heap.size < w8.heap.size := (by omega); have y8_0 : w5.heap.size < w8.heap.size := (by omega); have y8_1 : w6.heap.size < w8.heap.size := (by omega); have y8_2 : w7.heap.size < w8.heap.size := (by omega))); have B8 : Below w.heap.size w w8 := (by (repeat' (first | assumption | exact below_refl _ | refine bl_alloc ?_ _ | refine Below.setCell ?_ ?_ _ | refine below_draw ?_ | refine below_drewN ?_ _ | refine below_tr ?_ (by assumption))) <;> (first | omega | (simp; done) | (simp; omega))))
                    | ((go_at_call 24; ((with_reducible refine (PV.out _).mono ?_); rintro e w9 ⟨rfl, hb9⟩; obtain ⟨hc9, hf9⟩ := bcell hb9; have hz9 := hb9.size; (try simp [sz_drew, sz_drewN] at hz9); (try simp only [sz_drew, sz_drewN] at hc9 hf9); have z9_0 : w.heap.size < w9.heap.size := (by omega); have y9_0 : w5.heap.size < w9.heap.size := (by omega); have y9_1 : w6.heap.size < w9.heap.size := (by omega); have y9_2 : w7.heap.size < w9.heap.size := (by omega); have y9_3 : w8.heap.size < w9.heap.size := (by omega))); have B9 : Below w.heap.size w w9 := (by (repeat' (first | assumption | exact below_refl _ | refine bl_alloc ?_ _ | refine Below.setCell ?_ ?_ _ | refine below_draw ?_ | refine below_drewN ?_ _ | refine below_tr ?_ (by assumption))) <;> (first | omega | (simp; done) | (simp; omega))))
                    | ((go_at_call 21; ((with_reducible refine (PM.out _).mono ?_); rintro e w10 ⟨rfl, hb10⟩; obtain ⟨hc10, hf10⟩ := bcell hb10; have hz10 := hb10.size; (try simp [sz_drew, sz_drewN] at hz10); (try simp only [sz_drew, sz_drewN] at hc10 hf10); have z10_0 : w.heap.size < w10.heap.size := (by omega); have y10_0 : w5.heap.size < w10.heap.size := (by omega); have y10_1 : w6.heap.size < w10.heap.size := (by omega))); have B10 : Below w.heap.size w w10 := (by (repeat' (first | assumption | exact below_refl _ | refine bl_alloc ?_ _ | refine Below.setCell ?_ ?_ _ | refine below_draw ?_ | refine below_drewN ?_ _ | refine below_tr ?_ (by assumption))) <;> (first | omega | (simp; done) | (simp; omega))))
                    | (go_at_call 17; ((with_reducible refine (p_awake _).mono ?_); rintro e w4 ⟨rfl, hb4⟩; obtain ⟨hc4, hf4⟩ := bcell hb4; have hz4 := hb4.size; (try simp [sz_drew, sz_drewN] at hz4); (try simp only [sz_drew, sz_drewN] at hc4 hf4); have z4_0 : w.heap.size < w4.heap.size := (by omega))))
                  go_ret
                  exact ⟨rfl, by (repeat' (first | assumption | exact below_refl _ | refine bl_alloc ?_ _ | refine Below.setCell ?_ ?_ _ | refine below_draw ?_ | refine below_drewN ?_ _ | refine below_tr ?_ (by assumption))) <;> (first | omega | (simp; done) | (simp; omega))⟩
      · have t1 : (d != 1) = true := by simpa using hd
        clear hlaw P5 P6 P7 P8
        go_enter Try.func14, Try.ntmps14
        go_wp2_with (first
          | (go_at_call 55; ((with_reducible refine (P1.out _ (below_alloc _ _)).mono ?_); rintro e w1 ⟨v1, rfl, ho1, hb1⟩; obtain ⟨A1, c1, rfl, hr1⟩ := own_rd Pt.cs_len ho1; obtain ⟨hc1, hf1⟩ := bcell hb1; have hz1 := hb1.size; (try simp at hz1); have z1 : w.heap.size < w1.heap.size := (by omega); have B1 : Below w.heap.size w w1 := (by (repeat' (first | assumption | exact below_refl _ | refine bl_alloc ?_ _ | refine Below.setCell ?_ ?_ _ | refine below_draw ?_ | refine below_drewN ?_ _ | refine below_tr ?_ (by assumption))) <;> (first | omega | (simp; done) | (simp; omega)))))
          | (go_at_call 56; ((with_reducible refine (P2.out _ B1).mono ?_); rintro e w2 ⟨v2, rfl, ho2, hb2⟩; obtain ⟨A2, c2, rfl, hr2⟩ := own_rd Pt.cs_len ho2; obtain ⟨hc2, hf2⟩ := bcell hb2; have hz2 := hb2.size; have z2 : w.heap.size < w2.heap.size := (by omega); have B2 : Below w.heap.size w w2 := (by (repeat' (first | assumption | exact below_refl _ | refine bl_alloc ?_ _ | refine Below.setCell ?_ ?_ _ | refine below_draw ?_ | refine below_drewN ?_ _ | refine below_tr ?_ (by assumption))) <;> (first | omega | (simp; done) | (simp; omega))); have hr3 := hr1.on hb2))
          | ((go_at_call 43; ((with_reducible refine (PS.out _ _ _ _ _ hr3 hr2).mono ?_); rintro e w3 ⟨rfl, hb3⟩; obtain ⟨hc3, hf3⟩ := bcell hb3; have hz3 := hb3.size; (try simp [sz_drew, sz_drewN] at hz3); (try simp only [sz_drew, sz_drewN] at hc3 hf3); have z3_0 : w.heap.size < w3.heap.size := (by omega))); have B3 : Below w.heap.size w w3 := (by (repeat' (first | assumption | exact below_refl _ | refine bl_alloc ?_ _ | refine Below.setCell ?_ ?_ _ | refine below_draw ?_ | refine below_drewN ?_ _ | refine below_tr ?_ (by assumption))) <;> (first | omega | (simp; done) | (simp; omega))); have hr4 := hr3.on hb3)
          | (go_at_call 17; ((with_reducible refine (p_awake _).mono ?_); rintro e w4 ⟨rfl, hb4⟩; obtain ⟨hc4, hf4⟩ := bcell hb4; have hz4 := hb4.size; (try simp [sz_drew, sz_drewN] at hz4); (try simp only [sz_drew, sz_drewN] at hc4 hf4); have z4_0 : w.heap.size < w4.heap.size := (by omega))))
        go_ret
        exact ⟨rfl, by (repeat' (first | assumption | exact below_refl _ | refine bl_alloc ?_ _ | refine Below.setCell ?_ ?_ _ | refine below_draw ?_ | refine below_drewN ?_ _ | refine below_tr ?_ (by assumption))) <;> (first | omega | (simp; done) | (simp; omega))⟩
    · have t1 : (E != 0) = true := by simpa using he
      clear hlaw P5 P6 P7 P8
      go_enter Try.func14, Try.ntmps14
      go_wp2_with (first
        | (go_at_call 55; ((with_reducible refine (P1.out _ (below_alloc _ _)).mono ?_); rintro e w1 ⟨v1, rfl, ho1, hb1⟩; obtain ⟨A1, c1, rfl, hr1⟩ := own_rd Pt.cs_len ho1; obtain ⟨hc1, hf1⟩ := bcell hb1; have hz1 := hb1.size; (try simp at hz1); have z1 : w.heap.size < w1.heap.size := (by omega); have B1 : Below w.heap.size w w1 := (by (repeat' (first | assumption | exact below_refl _ | refine bl_alloc ?_ _ | refine Below.setCell ?_ ?_ _ | refine below_draw ?_ | refine below_drewN ?_ _ | refine below_tr ?_ (by assumption))) <;> (first | omega | (simp; done) | (simp; omega)))))
        | (go_at_call 56; ((with_reducible refine (P2.out _ B1).mono ?_); rintro e w2 ⟨v2, rfl, ho2, hb2⟩; obtain ⟨A2, c2, rfl, hr2⟩ := own_rd Pt.cs_len ho2; obtain ⟨hc2, hf2⟩ := bcell hb2; have hz2 := hb2.size; have z2 : w.heap.size < w2.heap.size := (by omega); have B2 : Below w.heap.size w w2 := (by (repeat' (first | assumption | exact below_refl _ | refine bl_alloc ?_ _ | refine Below.setCell ?_ ?_ _ | refine below_draw ?_ | refine below_drewN ?_ _ | refine below_tr ?_ (by assumption))) <;> (first | omega | (simp; done) | (simp; omega))); have hr3 := hr1.on hb2))
        | ((go_at_call 43; ((with_reducible refine (PS.out _ _ _ _ _ hr3 hr2).mono ?_); rintro e w3 ⟨rfl, hb3⟩; obtain ⟨hc3, hf3⟩ := bcell hb3; have hz3 := hb3.size; (try simp [sz_drew, sz_drewN] at hz3); (try simp only [sz_drew, sz_drewN] at hc3 hf3); have z3_0 : w.heap.size < w3.heap.size := (by omega))); have B3 : Below w.heap.size w w3 := (by (repeat' (first | assumption | exact below_refl _ | refine bl_alloc ?_ _ | refine Below.setCell ?_ ?_ _ | refine below_draw ?_ | refine below_drewN ?_ _ | refine below_tr ?_ (by assumption))) <;> (first | omega | (simp; done) | (simp; omega))); have hr4 := hr3.on hb3)
        | (go_at_call 17; ((with_reducible refine (p_awake _).mono ?_); rintro e w4 ⟨rfl, hb4⟩; obtain ⟨hc4, hf4⟩ := bcell hb4; have hz4 := hb4.size; (try simp [sz_drew, sz_drewN] at hz4); (try simp only [sz_drew, sz_drewN] at hc4 hf4); have z4_0 : w.heap.size < w4.heap.size := (by omega))))
      go_ret
      exact ⟨rfl, by (repeat' (first | assumption | exact below_refl _ | refine bl_alloc ?_ _ | refine Below.setCell ?_ ?_ _ | refine below_draw ?_ | refine below_drewN ?_ _ | refine below_tr ?_ (by assumption))) <;> (first | omega | (simp; done) | (simp; omega))⟩
theorem l_raisesF (A : Option Addr) (l : List Pt) (c : Nat) (x : Ln) (w : World) (hn : l.length ≤ maxLen) (hR : Rd Pt.cs 2 w A l) (_ : ∀ p ∈ l, I64 p.h ∧ I64 p.x) (_ : I64 x.1 ∧ I64 x.2.1 ∧ I64 x.2.2) :
    Calls Try.prog 14 #[.slice A l.length c, .agg (Lcs x).toArray] w fun e w' => e = .returned (.bool true) ∧ Below w.heap.size w w' := by
  obtain ⟨a, b, d⟩ := x
  exact l_raises A l c a b d w hR hn
end Go.Proofs.Ytohbejdfaecghaa
