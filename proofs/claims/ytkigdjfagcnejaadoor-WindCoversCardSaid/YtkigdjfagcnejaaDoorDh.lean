/- Wind cards: WindCovers walked. -/
import Derived.Test.YtkigdjfagcnejaaDoorDg
set_option linter.unusedSimpArgs false
set_option linter.unusedVariables false
namespace Go.Proofs.YtkigdjfagcnejaaDoor
open Go.RowKit

theorem run_storeCells_nil' (p : Addr) (w : World) : (storeCells p []).run Tryd.prog w = .ok () w := rfl
attribute [local go_sem] Sem.run_pure run_storeCells_nil'
theorem own_zero (w : World) (e : TypeId) : (w.alloc (.cells #[] e)).ownsRow w.heap.size e 1 (.slice (some ⟨w.heap.size, 0, none⟩) 0 0) 0 [] :=
  ⟨rfl, .inr ⟨w.heap.size, 0, #[], rfl, Nat.le_refl _, (Blk.new w e #[] : Blk _ _ _ _), Nat.le_refl _, Nat.zero_le _, rfl, rfl⟩⟩
theorem rs_some {r : Ru} {l : List Int} (h : rsE r l = 0) : l ≠ [] := by
  intro e
  subst e
  unfold rsE at h
  split at h
  · change (if stA r [] 0 < 0 then (10 : Int) else 0) = 0 at h
    rw [if_pos (show stA r [] 0 < 0 by unfold stA; omega)] at h; omega
  · omega
theorem rd_pre {α : Type} {enc : α → List Value} {sz : Nat} {w : World} {A : Option Addr} {l z : List α} (h : Rd enc sz w A (l ++ z)) : Rd enc sz w A l := fun hne => by
  obtain ⟨b, off, e, hb, hc⟩ := h (by simp [hne])
  exact ⟨b, off, e, hb, fun k x hx j v hv => hc k x (by rw [List.getElem?_append_left (List.getElem?_eq_some_iff.1 hx).1]; exact hx) j v hv⟩
theorem ga_low {r : Ru} {l : List Int} {i : Nat} {x : Int} (hx : l[i]? = some x) (h : gA r l i = true) : 0 ≤ x ∧ x < r.s := by
  unfold gA gB at h
  rw [Bool.and_eq_true, Bool.and_eq_true, decide_eq_true_iff, decide_eq_true_iff, decide_eq_true_iff, getD_of hx] at h
  exact h.2
set_option maxHeartbeats 4000000 in
set_option maxRecDepth 20000 in
theorem l_WindCovers (r : Ru) (A : Option Addr) (l : List Int) (c : Nat) (w : World) (hl0 : l.length ≤ maxLen) (hR : Rd zC 1 w A l) :
    Calls Tryd.prog 4 #[ruV r, .slice A l.length c] w fun e w' => e = .returned (.bool true) ∧ Below w.heap.size w w' := by
  have x0 := Blk.new w 23 #[.int .i64 r.s, .int .i64 r.g, .int .i64 r.c]
  have B0 := bl_alloc (below_refl w) (.cells #[.int .i64 r.s, .int .i64 r.g, .int .i64 r.c] 23)
  by_cases c1 : 300 < (l.length : Int)
  · clear hR
    unfold maxLen at hl0
    go_enter Tryd.func4, Tryd.ntmps4
    go_wp2_with (go_at_call 10; ((with_reducible refine (l_awake _).mono ?_); rintro e w1 ⟨rfl, hb1⟩; obtain ⟨hc1, hf1⟩ := bcell hb1; have hz1 := hb1.size; (try simp [sz_drew, sz_drewN] at hz1); (try simp only [sz_drew, sz_drewN] at hc1 hf1); have z1_0 : w.heap.size < w1.heap.size := (by omega)))
    go_ret
    exact ⟨rfl, by (repeat' (first | assumption | exact below_refl _ | refine bl_alloc ?_ _ | refine Below.setCell ?_ ?_ _ | refine below_draw ?_ | refine below_drewN ?_ _ | refine below_tr ?_ (by assumption))) <;> (first | omega | (simp; done) | (simp; omega))⟩
  have hl : l.length ≤ 100000 := by omega
  go_enter Tryd.func4, Tryd.ntmps4
  go_wp2_with fail
  generalize w.alloc (.cells #[.int .i64 r.s, .int .i64 r.g, .int .i64 r.c] 23) = W0 at *
  refine (l_awake W0).mono ?_
  rintro e w1 ⟨rfl, hb1⟩
  have B1 := below_tr B0 hb1
  have x1 := x0.below hb1 x0.lt
  have q0 := x1.cell 0
  have q1 := x1.cell 1
  have q2 := x1.cell 2
  simp only [List.getElem?_toArray, List.getElem?_cons_zero, List.getElem?_cons_succ] at q0 q1 q2
  clear hb1 x0 B0
  go_wp2_with fail
  refine (p_Stops A r l c w1 hl (hR.on B1)).mono ?_
  rintro e w2 ⟨v2, rfl, ⟨A2, c2, rfl, r2⟩, hb2⟩
  have B2 := below_tr B1 hb2
  have x2 := x1.below hb2 x1.lt
  clear hb2 x1 B1 q0 q1 q2
  by_cases h1 : aE r l = 0
  rotate_left
  · rw [aE_one h1]
    go_wp2_with fail
    go_ret
    exact ⟨rfl, B2⟩
  have e1 : stL r l = spS (stP r l) l.length := by unfold stL; rw [if_pos h1]
  rw [h1, e1]
  rw [e1] at r2
  have HIN := Lib.hid (fun i k (h0 : i < l.length) a b => sp_in (p := stP r l) (n := l.length) (i := i) (k := k) h0 a b)
  have HLN := Lib.hid (spS_len (stP r l) l.length)
  have HAP := Lib.hid (spS_apart (stP r l) l.length)
  have H2 := Lib.hid (fun W k (hb : Below w.heap.size w W) (hk : k < l.length) => p_GoesV (c := c) hl (hR.on hb) h1 hk)
  have HGO := Lib.hid (fun i x hx h => ga_low (r := r) (l := l) (i := i) (x := x) hx h)
  have HST : Hid (∀ i, gA r l i = !stP r l i) := Lib.hid (fun i => by unfold stP; simp)
  have HL2 := Lib.hid hl
  have HH1 := Lib.hid h1
  have H5 := Lib.hid (fun W (hb : Below w.heap.size w W) => p_Resumes A r l c W hl (hR.on hb))
  have HRE : Hid (rsE r l = 0 ∨ rsE r l = 10) := Lib.hid (by
    unfold rsE
    rw [if_pos h1]
    split
    · exact Or.inr rfl
    · exact Or.inl rfl)
  clear h1 e1
  generalize spS (stP r l) l.length = S at *
  have hS : S.length ≤ 100000 := Nat.le_trans HLN.out hl
  go_wp2_with fail
  go_loopw [7, 8] (fun s7 s8 wr => ∃ i k : Nat, i ≤ l.length ∧ k ≤ S.length ∧ s8 = .int .i64 i ∧ s7 = .int .i64 k ∧ Below w.heap.size w wr ∧ Blk wr w.heap.size 23 #[.int .i64 r.s, .int .i64 r.g, .int .i64 r.c] ∧ Rd pC 2 wr A2 S ∧ ∀ (j : Nat) (y : Sp), j < k → S[j]? = some y → y.2 ≤ i) (fun _ s8 _ => l.length - (intOf s8).toNat)
  case atStart => exact ⟨0, 0, by omega, by omega, rfl, rfl, B2, x2, r2, fun j y h => by omega⟩
  case round =>
    clear B2 x2 r2
    rename World => wa
    obtain ⟨i, k0, hi, hk0, rfl, rfl, hbw, x8, s8, hno⟩ := hrel
    have i0 : (0 : Int) ≤ (i : Int) := Int.natCast_nonneg _
    have p0 := x8.cell 0
    have p1 := x8.cell 1
    have p2 := x8.cell 2
    simp only [List.getElem?_toArray, List.getElem?_cons_zero, List.getElem?_cons_succ] at p0 p1 p2
    by_cases hlt : i < l.length
    · have i1 : (i : Int) < (l.length : Int) := by omega
      go_wp2_with fail
      go_loopw [7] (fun s7 wz => ∃ k : Nat, k ≤ S.length ∧ s7 = .int .i64 k ∧ wz = wa ∧ ∀ (j : Nat) (y : Sp), j < k → S[j]? = some y → y.2 ≤ i) (fun s7 _ => S.length - (intOf s7).toNat)
      case atStart => exact ⟨k0, hk0, rfl, rfl, hno⟩
      case round =>
        obtain ⟨k, hk, rfl, rfl, hno2⟩ := hrel
        have kk0 : (0 : Int) ≤ (k : Int) := Int.natCast_nonneg _
        by_cases hks : k < S.length
        · have k1 : (k : Int) < (S.length : Int) := by omega
          obtain ⟨f, t, b, off, hy, rfl, hb, d0, d1⟩ := rdP s8 hks
          by_cases hti : (t : Int) ≤ (i : Int)
          · go_wp2
            go_roundw
            case rel => exact ⟨k + 1, by omega, by go_num, trivial, fun j y hj hyj => by
              by_cases e : j = k
              · subst e; rw [hy] at hyj; cases hyj; exact Int.ofNat_le.1 hti
              · exact hno2 j y (by omega) hyj⟩
            case measure => simp [intOf]; omega
          · have hII := HIN.out i k hlt hno2 (fun x hx => by rw [hy] at hx; cases hx; exact Int.ofNat_lt.1 (Int.not_le.1 hti))
            by_cases hfi : (f : Int) ≤ (i : Int)
            · have hga : gA r l i = false := by rw [HST.out, hII.2 ⟨(f, t), hy, Int.ofNat_le.1 hfi⟩]; rfl
              clear hII
              go_wp2_with fail
              refine (H2.out _ i hbw hlt).mono ?_
              rintro e w9 ⟨rfl, hb9⟩
              have B9 := below_tr hbw hb9
              have x9 := x8.below hb9 x8.lt
              have s9 := s8.on hb9
              have q0 := x9.cell 0
              simp only [List.getElem?_toArray, List.getElem?_cons_zero] at q0
              rw [hga]
              go_wp2_with fail
              go_quiet (fail)
              go_wp2
              go_roundw
              case rel => exact ⟨i + 1, k, by omega, hk, by go_num, rfl, below_drewN B9 _, x9.drewN _, s9.on (below_drewN (below_refl _) _), fun j y hj hy => by have := hno2 j y hj hy; omega⟩
              case measure => simp [intOf]; omega
            · have hga : gA r l i = true := by
                rw [HST.out]
                cases hp : stP r l i
                · rfl
                · obtain ⟨x, hx, hx1⟩ := hII.1 hp
                  rw [hy] at hx; cases hx
                  exact absurd (Int.ofNat_le.2 hx1) hfi
              clear hII
              go_wp2_with fail
              refine (H2.out _ i hbw hlt).mono ?_
              rintro e w9 ⟨rfl, hb9⟩
              have B9 := below_tr hbw hb9
              have x9 := x8.below hb9 x8.lt
              have s9 := s8.on hb9
              have q0 := x9.cell 0
              simp only [List.getElem?_toArray, List.getElem?_cons_zero] at q0
              obtain ⟨x, xb, xo, hx, rfl, hxb, c0⟩ := rd_int (hR.on B9) hlt
              obtain ⟨g0, g1⟩ := HGO.out i x hx hga
              have g2 : ¬ r.s ≤ x := by omega
              have g3 : decide (x < 0) = false := decide_eq_false (by omega)
              rw [hga]
              clear hx
              go_wp2_with fail
              go_quiet (fail)
              go_wp2
              go_roundw
              case rel => exact ⟨i + 1, k, by omega, hk, by go_num, rfl, below_drewN B9 _, x9.drewN _, s9.on (below_drewN (below_refl _) _), fun j y hj hy => by have := hno2 j y hj hy; omega⟩
              case measure => simp [intOf]; omega
        · have hII := HIN.out i k hlt hno2 (fun x hx => by have := (List.getElem?_eq_some_iff.1 hx).1; omega)
          have hga : gA r l i = true := by
            rw [HST.out]
            cases hp : stP r l i
            · rfl
            · obtain ⟨x, hx, hx1⟩ := hII.1 hp
              have := (List.getElem?_eq_some_iff.1 hx).1; omega
          clear hII
          have k2 : ¬ (k : Int) < (S.length : Int) := by omega
          go_wp2_with fail
          refine (H2.out _ i hbw hlt).mono ?_
          rintro e w9 ⟨rfl, hb9⟩
          have B9 := below_tr hbw hb9
          have x9 := x8.below hb9 x8.lt
          have s9 := s8.on hb9
          have q0 := x9.cell 0
          simp only [List.getElem?_toArray, List.getElem?_cons_zero] at q0
          obtain ⟨x, xb, xo, hx, rfl, hxb, c0⟩ := rd_int (hR.on B9) hlt
          obtain ⟨g0, g1⟩ := HGO.out i x hx hga
          have g2 : ¬ r.s ≤ x := by omega
          have g3 : decide (x < 0) = false := decide_eq_false (by omega)
          rw [hga]
          clear hx
          go_wp2_with fail
          go_quiet (fail)
          go_wp2
          go_roundw
          case rel => exact ⟨i + 1, k, by omega, hk, by go_num, rfl, below_drewN B9 _, x9.drewN _, s9.on (below_drewN (below_refl _) _), fun j y hj hy => by have := hno2 j y hj hy; omega⟩
          case measure => simp [intOf]; omega
    · obtain rfl : i = l.length := by omega
      go_wp2_with fail
      have HS8 := Lib.hid s8
      clear hno s8 p0 p1 p2
      go_loopw [12] (fun s12 wz => ∃ k : Nat, 1 ≤ k ∧ s12 = .int .i64 k ∧ (k = 1 ∨ k ≤ S.length) ∧ Below w.heap.size w wz ∧ Blk wz w.heap.size 23 #[.int .i64 r.s, .int .i64 r.g, .int .i64 r.c] ∧ Rd pC 2 wz A2 S) (fun s12 _ => S.length - (intOf s12).toNat)
      case atStart => exact ⟨1, by omega, rfl, Or.inl rfl, hbw, x8, HS8.out⟩
      case round =>
        clear hbw x8 HS8
        rename World => wz
        obtain ⟨k, hk1, rfl, hk2, hbz, x9, s9⟩ := hrel
        have kk0 : (0 : Int) ≤ (k : Int) := Int.natCast_nonneg _
        by_cases hks : k < S.length
        · have k1 : (k : Int) < (S.length : Int) := by omega
          obtain ⟨m, rfl⟩ : ∃ m, k = m + 1 := ⟨k - 1, by omega⟩
          obtain ⟨f, t, b, off, hy, rfl, hb, d0, d1⟩ := rdP s9 hks
          obtain ⟨f2, t2, b2, off2, hy2, e2, hb2, d2, d3⟩ := rdP s9 (show m < S.length by omega)
          cases e2
          have hlt2 : ¬ (f : Int) ≤ (t2 : Int) := by
            have h6 := List.pairwise_iff_getElem.1 HAP.out m (m + 1) (by omega) hks (by omega)
            rw [(List.getElem?_eq_some_iff.1 hy2).2, (List.getElem?_eq_some_iff.1 hy).2] at h6
            have h7 : t2 < f := h6
            omega
          have hlt3 : ¬ f ≤ t2 := by omega
          have hw1 : IntKind.i64.wrap (((m + 1 : Nat) : Int) - 1) = (m : Int) := by rw [show ((m + 1 : Nat) : Int) - 1 = (m : Int) by omega]; exact fits_wrap (by omega)
          have hw2 : IntKind.i64.wrap ((m : Int) + 1 - 1) = (m : Int) := by rw [show (m : Int) + 1 - 1 = (m : Int) by omega]; exact fits_wrap (by omega)
          have m0 : (0 : Int) ≤ (m : Int) := Int.natCast_nonneg _
          have m1 : (m : Int) < (S.length : Int) := by omega
          clear hy hy2
          go_wp2_with fail
          go_quiet (fail)
          go_wp2
          go_roundw
          case rel => exact ⟨m + 1 + 1, by omega, by go_num, Or.inr (by omega), below_drewN hbz _, x9.drewN _, s9.on (below_drewN (below_refl _) _)⟩
          case measure => simp [intOf]; omega
        · have q0 := x9.cell 0
          have q1 := x9.cell 1
          have q2 := x9.cell 2
          simp only [List.getElem?_toArray, List.getElem?_cons_zero, List.getElem?_cons_succ] at q0 q1 q2
          go_wp2_with fail
          refine (H5.out wz hbz).mono ?_
          rintro e w9 ⟨rfl, hb9⟩
          have B9 := below_tr hbz hb9
          have x10 := x9.below hb9 x9.lt
          have p0 := x10.cell 0
          have p1 := x10.cell 1
          have p2 := x10.cell 2
          simp only [List.getElem?_toArray, List.getElem?_cons_zero, List.getElem?_cons_succ] at p0 p1 p2
          clear q0 q1 q2 hb9 x9 s9 hbz
          rcases HRE.out with hre | hre
          rotate_left
          · rw [hre]
            go_wp2
            go_ret
            exact ⟨rfl, B9⟩
          obtain ⟨m, hm, hm1, hm2, hm3⟩ := rs_bd hre
          obtain ⟨hM1, hM2⟩ := rs_more hre hm (by omega)
          have HM1 := Lib.hid hM1
          have HM2 := Lib.hid hM2
          rw [hre, hm]
          have hre0 := hre
          clear hm hM1 hM2
          have hmn := fl_length zC_len l
          obtain ⟨bA, oA, rfl, hbA, _⟩ := hR (rs_some hre0)
          have B9s := B9.size
          obtain ⟨i0', hi', hi1', hi2', hi3'⟩ := info_int2
          have hz9 : bA < w9.heap.size := by omega
          have x11 := x10.alloc (.cells #[] 3)
          have B10 := bl_alloc B9 (.cells #[] 3)
          have o10 := own_zero w9 3
          have HCN := Lib.hid (rd_fl zC_len (hR.on B10))
          go_wp2_with (at_builtin; refine wpList_append_own _ rfl _ _ 24 rfl w9.heap.size 3 i0' (.int .i64 0) 1 8 (by kernel_rfl) hi' hi1' hi2' hi3' rfl (by omega) _ _ _ rfl o10 ⟨bA, oA, none⟩ l.length c (fl zC l) rfl (by rw [hmn]) HCN.out (zC_one l) (by unfold maxLen; omega) (by omega) (by simp) ?_; intro v11 w11 hown11 hgrow _)
          have B11 := bl_app0 B10 o10 hgrow B9s B10.size
          have x12 := x11.grown hgrow (own_ne o10 x10.lt)
          have z12 : w9.heap.size ≤ w11.heap.size := by have := hgrow.size; rw [World.size_alloc] at this; omega
          rw [Nat.zero_add, List.nil_append] at hown11
          have hWG := x10.lt
          clear HCN o10 x11 B10 hgrow p0 p1 p2
          generalize w9.heap.size = G at *
          go_loopw [15, 16] (fun s15 s16 wz => ∃ j : Nat, j ≤ m ∧ s16 = .int .i64 j ∧ Below w.heap.size w wz ∧ Blk wz w.heap.size 23 #[.int .i64 r.s, .int .i64 r.g, .int .i64 r.c] ∧ G ≤ wz.heap.size ∧ wz.ownsRow G 3 1 s15 (l ++ List.replicate j 0).length (fl zC (l ++ List.replicate j 0))) (fun _ s16 _ => m - (intOf s16).toNat)
          case atStart => exact ⟨0, by omega, rfl, B11, x12, z12, by simpa using hown11⟩
          case round =>
            clear B11 x12 z12 hown11
            rename World => wq
            obtain ⟨j, hj, rfl, hbq, xq, zq, hown⟩ := hrel
            obtain ⟨ad, cp, rfl⟩ := own_slice hown
            have j0 : (0 : Int) ≤ (j : Int) := Int.natCast_nonneg _
            have hLl : (l ++ List.replicate j 0).length = l.length + j := by simp
            by_cases hjm : j < m
            · have j1 : (j : Int) < (m : Int) := by omega
              have HST2 := Lib.hid (show l ++ List.replicate (j + 1) 0 = (l ++ List.replicate j 0) ++ [(0 : Int)] by rw [List.replicate_succ', List.append_assoc])
              generalize l ++ List.replicate j 0 = L at *
              have hL3 : L.length ≤ 100000 := by omega
              go_wp2_with (at_builtin; refine wpList_append_own _ rfl _ _ 24 rfl G 3 i0' (.int .i64 0) 1 8 (by kernel_rfl) hi' hi1' hi2' hi3' rfl (by omega) _ _ _ rfl (hown.alloc _) ⟨wq.heap.size, 0, none⟩ 1 1 [.int .i64 0] rfl rfl (cells_new wq [.int .i64 0] 3) (fun u hu => by simp at hu; subst hu; rfl) (by unfold maxLen; omega) (by omega) (by simp; omega) ?_; intro v13 w13 hown13 hgrow13 _)
              go_roundw
              case rel => exact ⟨j + 1, by omega, by go_num, bl_app hbq hown hgrow13 B9s hbq.size, (xq.alloc _).grown hgrow13 (own_ne hown hWG), by have := hgrow13.size; rw [World.size_alloc] at this; omega, by rw [HST2.out, fl_snoc, List.length_append]; exact hown13⟩
              case measure => simp [intOf]; omega
            · obtain rfl : j = m := by omega
              obtain ⟨A3, c3, e3, hr3, hc3, _⟩ := own_rdc zC_len hown
              cases e3
              obtain ⟨m', rfl⟩ : ∃ m', j = m' + 1 := ⟨j - 1, by omega⟩
              have hLs : l ++ List.replicate (m' + 1) 0 = (l ++ List.replicate m' 0) ++ [(0 : Int)] := by rw [List.replicate_succ', List.append_assoc]
              have hM1 := HM1.out
              have hM2 := HM2.out
              rw [show m' + 1 - 1 = m' by omega] at hM2
              have hLl2 : (l ++ List.replicate m' 0).length = l.length + m' := by simp
              have hr4 : Rd zC 1 wq ad (l ++ List.replicate m' 0) := rd_pre (z := [0]) (by rw [← hLs]; exact hr3)
              obtain ⟨b3, o3, rfl, _, _⟩ := hr3 (by intro e; rw [e] at hLl; simp at hLl)
              have H8 := Lib.hid (fun W (h : Below wq.heap.size wq W) => p_Resumes (some ⟨b3, o3, none⟩) r (l ++ List.replicate (m' + 1) 0) cp W (by omega) (hr3.on h))
              have H9 := Lib.hid (fun W (h : Below wq.heap.size wq W) => p_Resumes (some ⟨b3, o3, none⟩) r (l ++ List.replicate m' 0) cp W (by omega) (hr4.on h))
              rw [hM1] at H8
              rw [hM2] at H9
              generalize rsN r (l ++ List.replicate (m' + 1) 0) = R8 at *
              generalize rsN r (l ++ List.replicate m' 0) = R9 at *
              have hL1 : (l ++ List.replicate (m' + 1) 0).length = (l ++ List.replicate m' 0).length + 1 := by rw [hLs, List.length_append]; rfl
              rw [hL1] at hc3 H8 ⊢
              clear hr3 hr4 hLs hown hM1 hM2 hL1 hLl
              have hqb : (l ++ List.replicate m' 0).length ≤ 100000 := by omega
              clear hLl2
              generalize (l ++ List.replicate m' 0).length = q at *
              have q0' : (0 : Int) ≤ (q : Int) := Int.natCast_nonneg _
              have hw1 : IntKind.i64.wrap (((q + 1 : Nat) : Int) - 1) = (q : Int) := by rw [show ((q + 1 : Nat) : Int) - 1 = (q : Int) by omega]; exact fits_wrap (by omega)
              have hw2 : IntKind.i64.wrap ((q : Int) + 1 - 1) = (q : Int) := by rw [show (q : Int) + 1 - 1 = (q : Int) by omega]; exact fits_wrap (by omega)
              have hqc : (q : Int) ≤ (cp : Int) := by omega
              have hqc2 : q ≤ cp := by omega
              have hw3 : IntKind.i64.wrap (q : Int) = (q : Int) := fits_wrap (by omega)
              have p0 := xq.cell 0
              have p1 := xq.cell 1
              have p2 := xq.cell 2
              simp only [List.getElem?_toArray, List.getElem?_cons_zero, List.getElem?_cons_succ] at p0 p1 p2
              go_wp2_with fail
              refine (H8.out _ (below_refl _)).mono ?_
              rintro e w14 ⟨rfl, hb14⟩
              have x14 := xq.below hb14 xq.lt
              have B14 := below_tr hbq hb14
              have r0 := x14.cell 0
              have r1 := x14.cell 1
              have r2 := x14.cell 2
              simp only [List.getElem?_toArray, List.getElem?_cons_zero, List.getElem?_cons_succ] at r0 r1 r2
              have y14 := x14.lt
              clear p0 p1 p2
              go_upto_region 34 with fail
              go_cut [19, 20] (fun s19 s20 wx => s20 = .int .i64 0 ∧ Below w.heap.size w wx)
              case first =>
                clear HIN HLN HAP H2 HGO HST HL2 HH1 H5 HRE HM1 HM2
                go_region_held3 (fun w' => (∀ b o, b < w14.heap.size → w'.cell? ⟨b, o, none⟩ = w14.cell? ⟨b, o, none⟩) ∧ (∀ b o, b < w14.heap.size → w'.frozen? ⟨b, o, none⟩ = w14.frozen? ⟨b, o, none⟩) ∧ Below w14.heap.size w14 w') ((first | assumption | (refine kp_of ?_; (repeat' (first | assumption | exact below_refl _ | refine bl_alloc ?_ _ | refine Below.setCell ?_ ?_ _ | refine below_draw ?_ | refine below_drewN ?_ _ | refine below_tr ?_ (by assumption))) <;> (first | omega | (simp; done) | (simp; omega))))) ((go_at_call 14; ((with_reducible refine (H9.out _ (below_tr hb14 (by (repeat' (first | assumption | exact below_refl _ | refine bl_alloc ?_ _ | refine Below.setCell ?_ ?_ _ | refine below_draw ?_ | refine below_drewN ?_ _ | refine below_tr ?_ (by assumption))) <;> (first | omega | (simp; done) | (simp; omega))))).mono ?_); rintro e w15 ⟨rfl, hb15⟩; obtain ⟨hc15, hf15⟩ := bcell hb15; have hz15 := hb15.size; (try simp [sz_drew, sz_drewN] at hz15); (try simp only [sz_drew, sz_drewN] at hc15 hf15); have B15 : Below w14.heap.size w14 w15 := (by (repeat' (first | assumption | exact below_refl _ | refine bl_alloc ?_ _ | refine Below.setCell ?_ ?_ _ | refine below_draw ?_ | refine below_drewN ?_ _ | refine below_tr ?_ (by assumption))) <;> (first | omega | (simp; done) | (simp; omega))))))
                go_wp2
                go_meet
                case rel => exact ⟨rfl, below_tr B14 B15⟩
              case rest =>
                obtain ⟨rfl, Bx⟩ := hcut
                go_wp2
                go_ret
                exact ⟨rfl, Bx⟩
end Go.Proofs.YtkigdjfagcnejaaDoor
