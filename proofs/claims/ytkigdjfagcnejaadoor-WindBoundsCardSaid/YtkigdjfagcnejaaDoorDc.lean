/- Wind cards: WindStricter walked. -/
import Derived.Test.YtkigdjfagcnejaaDoorDb
import Derived.Deep.DeepCutAuto
set_option linter.unusedSimpArgs false
set_option linter.unusedVariables false
namespace Go.Proofs.YtkigdjfagcnejaaDoor
open Go.RowKit

/-- the first span -/
theorem spS_head (p : Nat → Bool) : ∀ n, ((∀ k, k < n → p k = false) ∧ spS p n = []) ∨ ∃ a b t, spS p n = (a, b) :: t ∧ a < n ∧ p a = true ∧ ∀ k, k < a → p k = false
  | 0 => Or.inl ⟨fun _ h => by omega, rfl⟩
  | n + 1 => by
    rcases spS_head p n with ⟨h0, h1⟩ | ⟨a, b, t, h1, h2, h3, h4⟩
    · cases hp : p n
      · refine Or.inl ⟨fun k hk => ?_, by rw [spS_no hp, h1]⟩
        by_cases e : k = n
        · subst e; exact hp
        · exact h0 k (by omega)
      · exact Or.inr ⟨n, n + 1, [], by rw [spS_new hp (by rw [h1]; simp), h1]; rfl, by omega, hp, h0⟩
    · right
      cases hp : p n
      · exact ⟨a, b, t, by rw [spS_no hp, h1], by omega, h3, h4⟩
      · rcases List.eq_nil_or_concat t with ht | ⟨t', ⟨x, y⟩, ht⟩
        · subst ht
          by_cases hb : b = n
          · subst hb
            exact ⟨a, b + 1, [], by rw [spS_long (s := []) hp h1]; rfl, by omega, h3, h4⟩
          · exact ⟨a, b, [(n, n + 1)], by rw [spS_new hp (by rw [h1]; simp; omega), h1]; rfl, by omega, h3, h4⟩
        · rw [List.concat_eq_append] at ht
          subst ht
          by_cases hb : y = n
          · subst hb
            exact ⟨a, b, t' ++ [(x, y + 1)], by rw [spS_long (s := (a, b) :: t') hp h1]; rfl, by omega, h3, h4⟩
          · exact ⟨a, b, t' ++ [(x, y)] ++ [(n, n + 1)], by rw [spS_new hp (by rw [show spS p n = ((a, b) :: t') ++ [(x, y)] from h1, List.getLast?_concat]; intro _ _ e; cases e; exact hb), h1]; rfl, by omega, h3, h4⟩
/-- all goes as long as nothing stops -/
theorem st_first {r : Ru} {l : List Int} : ∀ {k : Nat}, (∀ j, j < k → gA r l j = true) → stA r l k = -1
  | 0, _ => rfl
  | k + 1, h => by
    have hk := h k (by omega)
    unfold gA gB at hk
    rw [Bool.and_eq_true, Bool.and_eq_true, decide_eq_true_iff, decide_eq_true_iff, decide_eq_true_iff] at hk
    rw [stA]; unfold nx
    rw [if_pos hk.1, if_neg (by omega)]
/-- a lesser Stop never stops later at first -/
theorem stop_less {r s : Ru} {l : List Int} (hs : s.s ≤ r.s) {a : Nat} (h : stP r l a = true) (hb : ∀ k, k < a → stP r l k = false) (h2 : ∀ k, k ≤ a → stP s l k = false) : False := by
  have h3 : ∀ k, k ≤ a → gA s l k = true := fun k hk => by have := h2 k hk; unfold stP at this; simpa using this
  have h4 := st_first (r := r) (l := l) (k := a) (fun j hj => by have := hb j hj; unfold stP at this; simpa using this)
  have h5 := h3 a (Nat.le_refl _)
  unfold stP at h
  rw [Bool.not_eq_true'] at h
  unfold gA gB at h h5
  rw [Bool.and_eq_true, Bool.and_eq_true, decide_eq_true_iff, decide_eq_true_iff, decide_eq_true_iff] at h5
  rw [h4, decide_eq_true (by omega), decide_eq_true (by omega), decide_eq_true (by omega)] at h
  cases h
/-- a greater Calm never lets work go more -/
theorem calm_more {r s : Ru} {l : List Int} (hr : vRu r = true) (h1 : s.s = r.s) (h2 : s.g = r.g) (h3 : r.c ≤ s.c) : ∀ k, stA r l k = -1 ∨ (0 ≤ stA r l k ∧ stA r l k = stA s l k)
  | 0 => Or.inl rfl
  | k + 1 => by
    have ih := calm_more hr h1 h2 h3 (l := l) k
    have b := vru hr
    rw [stA, stA]
    have hbd := (stA_bd hr l k).2
    generalize l.getD k 0 = g at *
    generalize stA r l k = x at *
    generalize stA s l k = y at *
    unfold nx
    rw [h1, h2]
    split <;> split <;> (try split) <;> (try split) <;> (try split) <;> omega
theorem calm_goes {r s : Ru} {l : List Int} (hr : vRu r = true) (h1 : s.s = r.s) (h2 : s.g = r.g) (h3 : r.c ≤ s.c) {k : Nat} (h : gA s l k = true) : gA r l k = true := by
  have := calm_more hr h1 h2 h3 (l := l) k
  unfold gA gB at h ⊢
  rw [Bool.and_eq_true, Bool.and_eq_true, decide_eq_true_iff, decide_eq_true_iff, decide_eq_true_iff] at h ⊢
  rw [h1] at h
  refine ⟨?_, h.2⟩
  omega
theorem goes_at {r : Ru} {l : List Int} {k : Nat} (h : aE r l = 0) (hk : k < l.length) : goE r l (k : Int) = 0 ∧ goB r l (k : Int) = gA r l k := by
  have h1 : goE r l (k : Int) = 0 := by unfold goE; rw [if_pos h, if_pos (wn_iff.2 ⟨by omega, by omega⟩)]
  exact ⟨h1, by unfold goB; rw [if_pos h1, show ((k : Int)).toNat = k by omega]⟩
theorem p_GoesV {A : Option Addr} {r : Ru} {l : List Int} {c k : Nat} {w : World} (hl : l.length ≤ 100000) (hR : Rd zC 1 w A l) (h : aE r l = 0) (hk : k < l.length) :
    Calls Tryd.prog 13 #[ruV r, .slice A l.length c, .int .i64 (k : Nat)] w fun e w' => e = .returned (.tuple #[.bool (gA r l k), .int .i64 0]) ∧ Below w.heap.size w w' := by
  have := p_Goes A r l c (k : Int) w hl hR
  rwa [(goes_at h hk).1, (goes_at h hk).2] at this
set_option maxHeartbeats 4000000 in
set_option maxRecDepth 20000 in
theorem l_WindStricter (r : Ru) (A : Option Addr) (l : List Int) (c : Nat) (sp cl : Int) (w : World) (hl0 : l.length ≤ maxLen) (hR : Rd zC 1 w A l) :
    Calls Tryd.prog 3 #[ruV r, .slice A l.length c, .int .i64 sp, .int .i64 cl] w fun e w' => e = .returned (.bool true) ∧ Below w.heap.size w w' := by
  have x0 := Blk.new w 23 #[.int .i64 r.s, .int .i64 r.g, .int .i64 r.c]
  have B0 := bl_alloc (below_refl w) (.cells #[.int .i64 r.s, .int .i64 r.g, .int .i64 r.c] 23)
  by_cases c1 : 300 < (l.length : Int)
  · clear hR
    unfold maxLen at hl0
    go_enter Tryd.func3, Tryd.ntmps3
    go_wp2_with (go_at_call 10; ((with_reducible refine (l_awake _).mono ?_); rintro e w1 ⟨rfl, hb1⟩; obtain ⟨hc1, hf1⟩ := bcell hb1; have hz1 := hb1.size; (try simp [sz_drew, sz_drewN] at hz1); (try simp only [sz_drew, sz_drewN] at hc1 hf1); have z1_0 : w.heap.size < w1.heap.size := (by omega)))
    go_ret
    exact ⟨rfl, by (repeat' (first | assumption | exact below_refl _ | refine bl_alloc ?_ _ | refine Below.setCell ?_ ?_ _ | refine below_draw ?_ | refine below_drewN ?_ _ | refine below_tr ?_ (by assumption))) <;> (first | omega | (simp; done) | (simp; omega))⟩
  have hl : l.length ≤ 100000 := by omega
  go_enter Tryd.func3, Tryd.ntmps3
  go_wp2_with fail
  generalize w.alloc (.cells #[.int .i64 r.s, .int .i64 r.g, .int .i64 r.c] 23) = W0 at *
  refine (l_awake W0).mono ?_
  rintro e w1 ⟨rfl, hb1⟩
  have B1 := below_tr B0 hb1
  have x1 := x0.below hb1 x0.lt
  have q0 := x1.cell 0
  have q1 := x1.cell 1
  have q2 := x1.cell 2
  simp only [List.getElem?_toArray, List.getElem?_cons_zero, List.getElem?_cons_succ] at q0 q1 q2
  clear hb1 x0 B0
  go_wp2_with fail
  refine (p_Stops A r l c w1 hl (hR.on B1)).mono ?_
  rintro e w2 ⟨v2, rfl, ⟨A2, c2, rfl, r2⟩, hb2⟩
  have B2 := below_tr B1 hb2
  have x2 := x1.below hb2 x1.lt
  have q0 := x2.cell 0
  have q1 := x2.cell 1
  have q2 := x2.cell 2
  simp only [List.getElem?_toArray, List.getElem?_cons_zero, List.getElem?_cons_succ] at q0 q1 q2
  clear hb2 x1 B1
  by_cases h1 : aE r l = 0
  rotate_left
  · rw [aE_one h1]
    go_wp2_with fail
    go_ret
    exact ⟨rfl, B2⟩
  rw [h1]
  go_wp2_with fail
  have x3 := x2.alloc (.cells #[.int .i64 sp, .int .i64 r.g, .int .i64 r.c] 23)
  have y3 := Blk.new w2 23 #[.int .i64 sp, .int .i64 r.g, .int .i64 r.c]
  have B3 := bl_alloc B2 (.cells #[.int .i64 sp, .int .i64 r.g, .int .i64 r.c] 23)
  have r3 := r2.on (below_alloc w2 (.cells #[.int .i64 sp, .int .i64 r.g, .int .i64 r.c] 23))
  have z2 := B2.size
  generalize w2.alloc (.cells #[.int .i64 sp, .int .i64 r.g, .int .i64 r.c] 23) = W3 at *
  refine (p_Stops A ⟨sp, r.g, r.c⟩ l c W3 hl (hR.on B3)).mono ?_
  rintro e w4 ⟨v4, rfl, ⟨A4, c4, rfl, r4⟩, hb4⟩
  have B4 := below_tr B3 hb4
  have x4 := x3.below hb4 x3.lt
  have y4 := y3.below hb4 y3.lt
  have s4 := r3.on hb4
  have n4 : w.heap.size ≠ w2.heap.size := by have := x2.lt; omega
  have q0 := x4.cell 0
  have q1 := x4.cell 1
  have q2 := x4.cell 2
  have p0 := y4.cell 0
  have p1 := y4.cell 1
  have p2 := y4.cell 2
  simp only [List.getElem?_toArray, List.getElem?_cons_zero, List.getElem?_cons_succ] at q0 q1 q2 p0 p1 p2
  clear hb4 x2 x3 y3 B3 r3 r2 B2
  generalize w2.heap.size = D at *
  go_upto_region 11 with fail
  go_cut [9, 12, 13, 69] (fun _ _ _ s wx => s = .bool false ∧ Below w.heap.size w wx ∧ Blk wx w.heap.size 23 #[.int .i64 r.s, .int .i64 r.g, .int .i64 r.c] ∧ Blk wx D 23 #[.int .i64 sp, .int .i64 r.g, .int .i64 r.c])
  case first =>
    by_cases h2 : aE ⟨sp, r.g, r.c⟩ l = 0
    rotate_left
    · rw [aE_one h2]
      go_quiet (fail)
      go_wp2
      go_meet
      case rel => exact ⟨rfl, below_drewN B4 _, x4.drewN _, y4.drewN _⟩
    rw [h2]
    by_cases h3 : sp ≤ r.s
    rotate_left
    · go_quiet (fail)
      go_wp2
      go_meet
      case rel => exact ⟨rfl, below_drewN B4 _, x4.drewN _, y4.drewN _⟩
    have e1 : stL r l = spS (stP r l) l.length := by unfold stL; rw [if_pos h1]
    have e2 : stL ⟨sp, r.g, r.c⟩ l = spS (stP ⟨sp, r.g, r.c⟩ l) l.length := by unfold stL; rw [if_pos h2]
    rw [e1] at s4 ⊢
    rw [e2] at r4 ⊢
    have hd1 := spS_head (stP r l) l.length
    have hd2 := spS_head (stP ⟨sp, r.g, r.c⟩ l) l.length
    have hlt := fun a (h : stP r l a = true) => stop_less (r := r) (s := ⟨sp, r.g, r.c⟩) (l := l) h3 h
    generalize spS (stP r l) l.length = U at *
    generalize spS (stP ⟨sp, r.g, r.c⟩ l) l.length = V at *
    rcases hd1 with ⟨_, rfl⟩ | ⟨a, b, t, rfl, ha, hpa, hna⟩
    · clear hd2 hlt e1 e2
      go_quiet (fail)
      go_wp2
      go_meet
      case rel => exact ⟨rfl, below_drewN B4 _, x4.drewN _, y4.drewN _⟩
    rcases hd2 with ⟨hno, rfl⟩ | ⟨a2, b2, t2, rfl, ha2, hpa2, hna2⟩
    · exact (hlt a hpa hna (fun k hk => hno k (by omega))).elim
    have hle : (a2 : Int) ≤ (a : Int) := by
      apply Int.ofNat_le.2
      apply Nat.le_of_not_lt
      intro hlt2
      exact hlt a hpa hna (fun k hk => hna2 k (by omega))
    obtain ⟨_, _, bA, oA, e5, rfl, hbA, d0, _⟩ := rdP s4 (k := 0) (by simp)
    obtain ⟨_, _, bB, oB, e6, rfl, hbB, d1, _⟩ := rdP r4 (k := 0) (by simp)
    cases e5
    cases e6
    rw [List.length_cons, List.length_cons]
    have l1 : (0 : Int) < ((t.length + 1 : Nat) : Int) := by omega
    have l2 : (0 : Int) < ((t2.length + 1 : Nat) : Int) := by omega
    have l3 : ¬ (((t2.length + 1 : Nat) : Int) = 0) := by omega
    rw [Nat.zero_mul, Nat.add_zero] at d0 d1
    generalize t.length + 1 = n1 at *
    generalize t2.length + 1 = n2 at *
    have l4 : 0 < n1 := by omega
    have l5 : 0 < n2 := by omega
    have l6 : ((n2 : Int) == 0) = false := by simp; omega
    have l7 : (n2 == 0) = false := by simp; omega
    have l8 : ¬ ((a : Int) < (a2 : Int)) := by omega
    have l9 : decide ((a : Int) < (a2 : Int)) = false := by simp; omega
    have l10 : decide (a < a2) = false := by simp; omega
    have l11 : ¬ n2 = 0 := by omega
    clear hlt e1 e2 hpa hna ha ha2 hpa2 hna2 s4 r4
    go_quiet (fail)
    go_wp2
    go_meet
    case rel => exact ⟨rfl, below_drewN B4 _, x4.drewN _, y4.drewN _⟩
  case rest =>
    obtain ⟨rfl, B5, x5, y5⟩ := hcut
    have q0 := x5.cell 0
    have q1 := x5.cell 1
    have q2 := x5.cell 2
    have p0 := y5.cell 0
    have p1 := y5.cell 1
    have p2 := y5.cell 2
    have f0 := y5.frozen 0
    have f1 := y5.frozen 1
    have f2 := y5.frozen 2
    simp only [List.getElem?_toArray, List.getElem?_cons_zero, List.getElem?_cons_succ] at q0 q1 q2 p0 p1 p2
    go_upto_region 15 with fail
    have y6 := (((y5.set_ 0 (.int .i64 r.s)).set_ 1 (.int .i64 r.g)).set_ 2 (.int .i64 r.c)).set_ 2 (.int .i64 cl)
    have x6 := (((x5.far (p := ⟨D, 0, none⟩) n4 (.int .i64 r.s)).far (p := ⟨D, 1, none⟩) n4 (.int .i64 r.g)).far (p := ⟨D, 2, none⟩) n4 (.int .i64 r.c)).far (p := ⟨D, 2, none⟩) n4 (.int .i64 cl)
    have B6 := (((B5.setCell (p := ⟨D, 0, none⟩) z2 (.int .i64 r.s)).setCell (p := ⟨D, 1, none⟩) z2 (.int .i64 r.g)).setCell (p := ⟨D, 2, none⟩) z2 (.int .i64 r.c)).setCell (p := ⟨D, 2, none⟩) z2 (.int .i64 cl)
    generalize (((wc.setCell ⟨D, 0, none⟩ (.int .i64 r.s)).setCell ⟨D, 1, none⟩ (.int .i64 r.g)).setCell ⟨D, 2, none⟩ (.int .i64 r.c)).setCell ⟨D, 2, none⟩ (.int .i64 cl) = W6 at *
    simp only [List.setIfInBounds_toArray, List.set_cons_zero, List.set_cons_succ] at y6
    clear x5 y5 B5 q0 q1 q2 p0 p1 p2 f0 f1 f2
    have q0 := x6.cell 0
    have q1 := x6.cell 1
    have q2 := x6.cell 2
    have p0 := y6.cell 0
    have p1 := y6.cell 1
    have p2 := y6.cell 2
    simp only [List.getElem?_toArray, List.getElem?_cons_zero, List.getElem?_cons_succ] at q0 q1 q2 p0 p1 p2
    by_cases h5 : cl < r.c
    · go_wp2_with fail
      go_ret
      exact ⟨rfl, B6⟩
    go_wp2_with fail
    refine (r_ValidRule ⟨r.s, r.g, cl⟩ W6).mono ?_
    rintro e w7 ⟨rfl, hb7⟩
    have B7 := below_tr B6 hb7
    have x7 := x6.below hb7 x6.lt
    have y7 := y6.below hb7 y6.lt
    clear B6 x6 y6 hb7 q0 q1 q2 p0 p1 p2
    cases h6 : vRu ⟨r.s, r.g, cl⟩
    · go_wp2_with fail
      go_ret
      exact ⟨rfl, B7⟩
    obtain ⟨hvr, hgu⟩ := a_z h1
    have h7 : aE ⟨r.s, r.g, cl⟩ l = 0 := by unfold aE; rw [h6, hgu]; rfl
    have HI := Lib.hid (fun k (h : gA ⟨r.s, r.g, cl⟩ l k = true) => calm_goes (s := ⟨r.s, r.g, cl⟩) (l := l) hvr rfl rfl (by show r.c ≤ cl; omega) h)
    have H1 := Lib.hid (fun W k (hb : Below w.heap.size w W) (hk : k < l.length) => p_GoesV (c := c) hl (hR.on hb) h7 hk)
    have H2 := Lib.hid (fun W k (hb : Below w.heap.size w W) (hk : k < l.length) => p_GoesV (c := c) hl (hR.on hb) h1 hk)
    clear hvr hgu h7 h6 h1 hR
    go_wp2_with fail
    go_loopw [14] (fun i wr => ∃ k : Nat, k ≤ l.length ∧ i = .int .i64 k ∧ Below w.heap.size w wr ∧ Blk wr w.heap.size 23 #[.int .i64 r.s, .int .i64 r.g, .int .i64 r.c] ∧ Blk wr D 23 #[.int .i64 r.s, .int .i64 r.g, .int .i64 cl]) (fun i _ => l.length - (intOf i).toNat)
    case atStart => exact ⟨0, by omega, rfl, B7, x7, y7⟩
    case round =>
      clear B7 x7 y7
      obtain ⟨k, hk, rfl, hbw, x8, y8⟩ := hrel
      by_cases hlt : k < l.length
      · have k0 : (0 : Int) ≤ (k : Int) := Int.natCast_nonneg _
        have k1 : (k : Int) < (l.length : Int) := by omega
        have p0 := y8.cell 0
        have p1 := y8.cell 1
        have p2 := y8.cell 2
        simp only [List.getElem?_toArray, List.getElem?_cons_zero, List.getElem?_cons_succ] at p0 p1 p2
        go_wp2_with fail
        refine (H1.out _ k hbw hlt).mono ?_
        rintro e w9 ⟨rfl, hb9⟩
        have B9 := below_tr hbw hb9
        have x9 := x8.below hb9 x8.lt
        have y9 := y8.below hb9 y8.lt
        clear p0 p1 p2 x8 y8 hbw hb9
        have q0 := x9.cell 0
        have q1 := x9.cell 1
        have q2 := x9.cell 2
        simp only [List.getElem?_toArray, List.getElem?_cons_zero, List.getElem?_cons_succ] at q0 q1 q2
        go_wp2_with fail
        refine (H2.out _ k B9 hlt).mono ?_
        rintro e w10 ⟨rfl, hb10⟩
        have B10 := below_tr B9 hb10
        have x10 := x9.below hb10 x9.lt
        have y10 := y9.below hb10 y9.lt
        clear q0 q1 q2 x9 y9 B9 hb10
        have HIk := Lib.hid (HI.out k)
        cases hs : gA ⟨r.s, r.g, cl⟩ l k
        · go_wp2
          go_roundw
          case rel => exact ⟨k + 1, by omega, by go_num, B10, x10, y10⟩
          case measure => simp [intOf]; omega
        · rw [HIk.out hs]
          go_wp2
          go_roundw
          case rel => exact ⟨k + 1, by omega, by go_num, B10, x10, y10⟩
          case measure => simp [intOf]; omega
      · obtain rfl : k = l.length := by omega
        go_wp2
        go_ret
        exact ⟨rfl, hbw⟩
end Go.Proofs.YtkigdjfagcnejaaDoor
