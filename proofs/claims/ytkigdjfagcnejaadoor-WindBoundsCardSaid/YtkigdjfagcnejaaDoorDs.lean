/- Wind cards: WindStops walked. -/
import Derived.Test.YtkigdjfagcnejaaDoorDr
set_option linter.unusedSimpArgs false
set_option linter.unusedVariables false
namespace Go.Proofs.YtkigdjfagcnejaaDoor
open Go.RowKit

set_option maxHeartbeats 4000000 in
set_option maxRecDepth 20000 in
theorem l_WindStops (r : Ru) (A : Option Addr) (l : List Int) (c : Nat) (mi fr tu : Int) (w : World) (hl0 : l.length ≤ maxLen) (hR : Rd zC 1 w A l) :
    Calls Tryd.prog 7 #[ruV r, .slice A l.length c, .int .i64 mi, .int .i64 fr, .int .i64 tu] w fun e w' => e = .returned (.bool true) ∧ Below w.heap.size w w' := by
  have HMA := Lib.hid (fun b (h : manyB l = b) W => h ▸ p_many A l c W hl0)
  go_enter Tryd.func7, Tryd.ntmps7
  go_wp2_with fail
  have x0 := Blk.new w 23 #[.int .i64 r.s, .int .i64 r.g, .int .i64 r.c]
  have B0 := bl_alloc (below_refl w) (.cells #[.int .i64 r.s, .int .i64 r.g, .int .i64 r.c] 23)
  generalize w.alloc (.cells #[.int .i64 r.s, .int .i64 r.g, .int .i64 r.c] 23) = W0 at *
  refine (l_awake W0).mono ?_
  rintro e w1 ⟨rfl, hb1⟩
  have B1 := below_tr B0 hb1
  have x1 := x0.below hb1 x0.lt
  have q0 := x1.cell 0
  have q1 := x1.cell 1
  have q2 := x1.cell 2
  simp only [List.getElem?_toArray, List.getElem?_cons_zero, List.getElem?_cons_succ] at q0 q1 q2
  clear hb1 x0 B0
  cases hm : manyB l
  rotate_left
  · go_wp2_with (go_at_call 15; ((with_reducible refine (HMA.out _ hm _).mono ?_); rintro e w' ⟨rfl, rfl⟩))
    go_ret
    exact ⟨rfl, B1⟩
  have hl : l.length ≤ 100000 := by
    unfold manyB at hm
    rw [Bool.or_eq_false_iff, decide_eq_false_iff_not] at hm
    omega
  have hS : (stL r l).length ≤ 100000 := by
    unfold stL
    split
    · exact Nat.le_trans (spS_len _ _) hl
    · exact Nat.zero_le _
  go_wp2_with (go_at_call 15; ((with_reducible refine (HMA.out _ hm _).mono ?_); rintro e w' ⟨rfl, rfl⟩))
  refine (p_Stops A r l c w1 hl (hR.on B1)).mono ?_
  rintro e w2 ⟨v2, rfl, ⟨A2, c2, rfl, r2⟩, hb2⟩
  have B2 := below_tr B1 hb2
  have x2 := x1.below hb2 x1.lt
  have q0 := x2.cell 0
  have q1 := x2.cell 1
  have q2 := x2.cell 2
  simp only [List.getElem?_toArray, List.getElem?_cons_zero, List.getElem?_cons_succ] at q0 q1 q2
  clear hb2 x1 B1
  go_wp2_with fail
  refine (r_Stops A r l c w2 hl (hR.on B2)).mono ?_
  rintro e w3 ⟨v3, rfl, ⟨A3, c3, rfl, r3⟩, hb3⟩
  have B3 := below_tr B2 hb3
  have x3 := x2.below hb3 x2.lt
  have s3 := r2.on hb3
  have q0 := x3.cell 0
  have q1 := x3.cell 1
  have q2 := x3.cell 2
  simp only [List.getElem?_toArray, List.getElem?_cons_zero, List.getElem?_cons_succ] at q0 q1 q2
  have z3 := x3.lt
  clear hb3 x2 B2 r2
  go_upto_region 7 with fail
  go_cut [59] (fun s wx => s = .bool false ∧ Below w3.heap.size w3 wx)
  case first =>
    have HG1 := Lib.hid (fun W (h : Below w3.heap.size w3 W) => p_ValidGusts A l c W hl (hR.on (below_tr B3 h)))
    have HG2 := Lib.hid (fun W (h : Below w3.heap.size w3 W) => r_ValidGusts A l c W hl (hR.on (below_tr B3 h)))
    have HR1 := Lib.hid (fun W => p_ValidRule r W)
    have HR2 := Lib.hid (fun W => r_ValidRule r W)
    have HSS := Lib.hid (fun W (h : Below w3.heap.size w3 W) => r_sameSpans A2 A3 (stL r l) c2 c3 W hS (s3.on h) (r3.on h))
    generalize vGu l = G at *
    generalize vRu r = V at *
    generalize (stL r l).length = n at *
    clear HMA hm hS s3 r3
    go_region_held3 (fun w' => (∀ b o, b < w3.heap.size → w'.cell? ⟨b, o, none⟩ = w3.cell? ⟨b, o, none⟩) ∧ (∀ b o, b < w3.heap.size → w'.frozen? ⟨b, o, none⟩ = w3.frozen? ⟨b, o, none⟩) ∧ Below w3.heap.size w3 w') ((first | assumption | (refine kp_of ?_; (repeat' (first | assumption | exact below_refl _ | refine bl_alloc ?_ _ | refine Below.setCell ?_ ?_ _ | refine below_draw ?_ | refine below_drewN ?_ _ | refine below_tr ?_ (by assumption))) <;> (first | omega | (simp; done) | (simp; omega))))) ((first
          | (go_at_call 29; ((with_reducible refine (HG1.out _ (by (repeat' (first | assumption | exact below_refl _ | refine bl_alloc ?_ _ | refine Below.setCell ?_ ?_ _ | refine below_draw ?_ | refine below_drewN ?_ _ | refine below_tr ?_ (by assumption))) <;> (first | omega | (simp; done) | (simp; omega)))).mono ?_); rintro e w4 ⟨rfl, hb4⟩; obtain ⟨hc4, hf4⟩ := bcell hb4; have hz4 := hb4.size; (try simp [sz_drew, sz_drewN] at hz4); (try simp only [sz_drew, sz_drewN] at hc4 hf4); have B4 : Below w3.heap.size w3 w4 := (by (repeat' (first | assumption | exact below_refl _ | refine bl_alloc ?_ _ | refine Below.setCell ?_ ?_ _ | refine below_draw ?_ | refine below_drewN ?_ _ | refine below_tr ?_ (by assumption))) <;> (first | omega | (simp; done) | (simp; omega)))))
          | (go_at_call 30; ((with_reducible refine (HG2.out _ (by (repeat' (first | assumption | exact below_refl _ | refine bl_alloc ?_ _ | refine Below.setCell ?_ ?_ _ | refine below_draw ?_ | refine below_drewN ?_ _ | refine below_tr ?_ (by assumption))) <;> (first | omega | (simp; done) | (simp; omega)))).mono ?_); rintro e w5 ⟨rfl, rfl⟩))
          | (go_at_call 31; ((with_reducible refine (HR1.out _).mono ?_); rintro e w6 ⟨rfl, hb6⟩; obtain ⟨hc6, hf6⟩ := bcell hb6; have hz6 := hb6.size; (try simp [sz_drew, sz_drewN] at hz6); (try simp only [sz_drew, sz_drewN] at hc6 hf6); have B6 : Below w3.heap.size w3 w6 := (by (repeat' (first | assumption | exact below_refl _ | refine bl_alloc ?_ _ | refine Below.setCell ?_ ?_ _ | refine below_draw ?_ | refine below_drewN ?_ _ | refine below_tr ?_ (by assumption))) <;> (first | omega | (simp; done) | (simp; omega)))))
          | (go_at_call 12; ((with_reducible refine (HR2.out _).mono ?_); rintro e w7 ⟨rfl, hb7⟩; obtain ⟨hc7, hf7⟩ := bcell hb7; have hz7 := hb7.size; (try simp [sz_drew, sz_drewN] at hz7); (try simp only [sz_drew, sz_drewN] at hc7 hf7); have B7 : Below w3.heap.size w3 w7 := (by (repeat' (first | assumption | exact below_refl _ | refine bl_alloc ?_ _ | refine Below.setCell ?_ ?_ _ | refine below_draw ?_ | refine below_drewN ?_ _ | refine below_tr ?_ (by assumption))) <;> (first | omega | (simp; done) | (simp; omega)))))
          | (go_at_call 32; ((with_reducible refine (HSS.out _ (by (repeat' (first | assumption | exact below_refl _ | refine bl_alloc ?_ _ | refine Below.setCell ?_ ?_ _ | refine below_draw ?_ | refine below_drewN ?_ _ | refine below_tr ?_ (by assumption))) <;> (first | omega | (simp; done) | (simp; omega)))).mono ?_); rintro e w8 ⟨rfl, hb8⟩; obtain ⟨hc8, hf8⟩ := bcell hb8; have hz8 := hb8.size; (try simp [sz_drew, sz_drewN] at hz8); (try simp only [sz_drew, sz_drewN] at hc8 hf8); have B8 : Below w3.heap.size w3 w8 := (by (repeat' (first | assumption | exact below_refl _ | refine bl_alloc ?_ _ | refine Below.setCell ?_ ?_ _ | refine below_draw ?_ | refine below_drewN ?_ _ | refine below_tr ?_ (by assumption))) <;> (first | omega | (simp; done) | (simp; omega)))))))
    go_wp2
    go_meet
    case rel => exact ⟨rfl, by (repeat' (first | assumption | exact below_refl _ | refine bl_alloc ?_ _ | refine Below.setCell ?_ ?_ _ | refine below_draw ?_ | refine below_drewN ?_ _ | refine below_tr ?_ (by assumption))) <;> (first | omega | (simp; done) | (simp; omega))⟩
  case rest =>
    obtain ⟨rfl, hbx⟩ := hcut
    have B10 := below_tr B3 hbx
    have x10 := x3.below hbx x3.lt
    obtain ⟨w10, rfl⟩ : ∃ w10 : World, w10 = wc := ⟨_, rfl⟩
    clear hbx B3 x3 q0 q1 q2 z3 s3 r3 hm HMA hS
    have q0 := x10.cell 0
    have q1 := x10.cell 1
    have q2 := x10.cell 2
    simp only [List.getElem?_toArray, List.getElem?_cons_zero, List.getElem?_cons_succ] at q0 q1 q2
    go_wp2_with fail
    refine (p_Goes A r l c mi w10 hl (hR.on B10)).mono ?_
    rintro e w11 ⟨rfl, hb11⟩
    have B11 := below_tr B10 hb11
    have x11 := x10.below hb11 x10.lt
    clear hb11 B10 x10 q0 q1 q2
    have q0 := x11.cell 0
    have q1 := x11.cell 1
    have q2 := x11.cell 2
    simp only [List.getElem?_toArray, List.getElem?_cons_zero, List.getElem?_cons_succ] at q0 q1 q2
    go_wp2_with fail
    refine (r_Goes A r l c mi w11 hl (hR.on B11)).mono ?_
    rintro e w12 ⟨rfl, hb12⟩
    have B12 := below_tr B11 hb12
    have x12 := x11.below hb12 x11.lt
    clear hb12 B11 x11 q0 q1 q2
    have q0 := x12.cell 0
    have q1 := x12.cell 1
    have q2 := x12.cell 2
    simp only [List.getElem?_toArray, List.getElem?_cons_zero, List.getElem?_cons_succ] at q0 q1 q2
    go_wp2_with fail
    refine (p_Minutes A r l c fr tu w12 hl (hR.on B12)).mono ?_
    rintro e w13 ⟨rfl, hb13⟩
    have B13 := below_tr B12 hb13
    have x13 := x12.below hb13 x12.lt
    clear hb13 B12 x12 q0 q1 q2
    have q0 := x13.cell 0
    have q1 := x13.cell 1
    have q2 := x13.cell 2
    simp only [List.getElem?_toArray, List.getElem?_cons_zero, List.getElem?_cons_succ] at q0 q1 q2
    go_wp2_with fail
    refine (r_Minutes A r l c fr tu w13 hl (hR.on B13)).mono ?_
    rintro e w14 ⟨rfl, hb14⟩
    have B14 := below_tr B13 hb14
    have x14 := x13.below hb14 x13.lt
    clear hb14 B13 x13 q0 q1 q2
    have q0 := x14.cell 0
    have q1 := x14.cell 1
    have q2 := x14.cell 2
    simp only [List.getElem?_toArray, List.getElem?_cons_zero, List.getElem?_cons_succ] at q0 q1 q2
    go_wp2_with fail
    refine (p_Longest A r l c w14 hl (hR.on B14)).mono ?_
    rintro e w15 ⟨rfl, hb15⟩
    have B15 := below_tr B14 hb15
    have x15 := x14.below hb15 x14.lt
    clear hb15 B14 x14 q0 q1 q2
    have q0 := x15.cell 0
    have q1 := x15.cell 1
    have q2 := x15.cell 2
    simp only [List.getElem?_toArray, List.getElem?_cons_zero, List.getElem?_cons_succ] at q0 q1 q2
    have z15 := x15.lt
    go_wp2_with fail
    have y15 := Blk.new w15 31 #[.int .i64 ((lgB r l).1 : Nat), .int .i64 ((lgB r l).2 : Nat)]
    have x15' := x15.alloc (.cells #[.int .i64 ((lgB r l).1 : Nat), .int .i64 ((lgB r l).2 : Nat)] 31)
    have B15' := bl_alloc B15 (.cells #[.int .i64 ((lgB r l).1 : Nat), .int .i64 ((lgB r l).2 : Nat)] 31)
    generalize hW : w15.alloc (.cells #[.int .i64 ((lgB r l).1 : Nat), .int .i64 ((lgB r l).2 : Nat)] 31) = W15 at *
    clear hW x15 B15 q0 q1 q2
    refine (r_Longest A r l c W15 hl (hR.on B15')).mono ?_
    rintro e w16 ⟨rfl, hb16⟩
    have B16 := below_tr B15' hb16
    have x16 := x15'.below hb16 x15'.lt
    have y16 := y15.below hb16 y15.lt
    clear hb16 B15' x15' y15
    have p0 := y16.cell 0
    have p1 := y16.cell 1
    have zy := y16.lt
    simp only [List.getElem?_toArray, List.getElem?_cons_zero, List.getElem?_cons_succ] at p0 p1
    have q0 := x16.cell 0
    have q1 := x16.cell 1
    have q2 := x16.cell 2
    simp only [List.getElem?_toArray, List.getElem?_cons_zero, List.getElem?_cons_succ] at q0 q1 q2
    have z16 := x16.lt
    go_wp2_with fail
    have x16' := x16.alloc (.cells #[.int .i64 ((lgB r l).1 : Nat), .int .i64 ((lgB r l).2 : Nat)] 31)
    have B16' := bl_alloc B16 (.cells #[.int .i64 ((lgB r l).1 : Nat), .int .i64 ((lgB r l).2 : Nat)] 31)
    generalize hW : w16.alloc (.cells #[.int .i64 ((lgB r l).1 : Nat), .int .i64 ((lgB r l).2 : Nat)] 31) = W16 at *
    clear hW x16 B16 y16 q0 q1 q2 p0 p1
    refine (p_Resumes A r l c W16 hl (hR.on B16')).mono ?_
    rintro e w17 ⟨rfl, hb17⟩
    have B17 := below_tr B16' hb17
    have x17 := x16'.below hb17 x16'.lt
    clear hb17 B16' x16'
    have q0 := x17.cell 0
    have q1 := x17.cell 1
    have q2 := x17.cell 2
    simp only [List.getElem?_toArray, List.getElem?_cons_zero, List.getElem?_cons_succ] at q0 q1 q2
    go_wp2_with fail
    refine (r_Resumes A r l c w17 hl (hR.on B17)).mono ?_
    rintro e w18 ⟨rfl, hb18⟩
    have B18 := below_tr B17 hb18
    have x18 := x17.below hb18 x17.lt
    clear hb18 B17 x17 q0 q1 q2
    have q0 := x18.cell 0
    have q1 := x18.cell 1
    have q2 := x18.cell 2
    simp only [List.getElem?_toArray, List.getElem?_cons_zero, List.getElem?_cons_succ] at q0 q1 q2
    go_wp2
    go_ret
    exact ⟨rfl, B18⟩
end Go.Proofs.YtkigdjfagcnejaaDoor
