/- Wind cards: Merged by the program and by the reference; forecasts compared. -/
import Derived.Test.YtkigdjfagcnejaaDoorDu
set_option linter.unusedSimpArgs false
set_option linter.unusedVariables false
namespace Go.Proofs.YtkigdjfagcnejaaDoor
open Go.RowKit

def GotC (w' : World) (v : Value) (l : List Ca) : Prop := ∃ A c, v = .slice A l.length c ∧ Rd Ca.cs 4 w' A l
theorem gotC_nil (w' : World) : GotC w' (.slice none 0 0) [] := ⟨none, 0, rfl, fun h => absurd rfl h⟩
theorem info_cast : ∃ i : TypeInfo, Tryd.prog.info? 78 = some i ∧ i.zero = some (.agg #[.int .i64 0, .int .i64 0, .int .i64 0, .int .i64 0]) ∧ i.size = 4 ∧ i.bytes = 32 := info_parts (by kernel_rfl)
theorem ca_row {W : World} {base g cap : Nat} {s : List Ca} {y : Ca} (o : W.ownsRow base 78 4 (.slice (some ⟨g, 0, none⟩) (s.length + 1) cap) (s.length + 1) (fl Ca.cs (s ++ [y]))) :
    W.cell? ⟨g, s.length * 4, none⟩ = some (.int .i64 y.f) ∧ W.cell? ⟨g, s.length * 4 + 1, none⟩ = some (.int .i64 y.t) ∧ W.cell? ⟨g, s.length * 4 + 2, none⟩ = some (.int .i64 y.lo) ∧ W.cell? ⟨g, s.length * 4 + 3, none⟩ = some (.int .i64 y.hi) ∧ W.frozen? ⟨g, s.length * 4 + 1, none⟩ = false := by
  have h : ∀ (r : Nat) (u : Value), (Ca.cs y)[r]? = some u → (fl Ca.cs (s ++ [y]))[s.length * 4 + r]? = some u := fun r u hu => fl_get Ca.cs_len (k := s.length) (x := y) (by simp) hu
  exact ⟨(own_cell o (h 0 _ rfl)).1, (own_cell o (h 1 _ rfl)).1, (own_cell o (h 2 _ rfl)).1, (own_cell o (h 3 _ rfl)).1, (own_cell o (h 1 _ rfl)).2⟩
theorem ca_put {W : World} {base g cap : Nat} {s : List Ca} {y : Ca} (o : W.ownsRow base 78 4 (.slice (some ⟨g, 0, none⟩) (s.length + 1) cap) (s.length + 1) (fl Ca.cs (s ++ [y]))) (t : Int) :
    (W.setCell ⟨g, s.length * 4 + 1, none⟩ (.int .i64 t)).ownsRow base 78 4 (.slice (some ⟨g, 0, none⟩) (s.length + 1) cap) (s.length + 1) (fl Ca.cs (s ++ [⟨y.f, t, y.lo, y.hi⟩])) := by
  have h1 := own_put o (s.length * 4 + 1) (.int .i64 t)
  have hfl2 : (fl Ca.cs s).length = s.length * 4 := fl_length Ca.cs_len s
  rw [fl_snoc, List.set_append_right _ _ (by omega), hfl2, show s.length * 4 + 1 - s.length * 4 = 1 by omega] at h1
  rw [fl_snoc]
  exact h1
set_option maxHeartbeats 4000000 in
set_option maxRecDepth 20000 in
theorem p_Merged (A : Option Addr) (l : List Ca) (c : Nat) (w : World) (hl : l.length ≤ 100000) (hR : Rd Ca.cs 4 w A l) :
    Calls Tryd.prog 25 #[.slice A l.length c] w fun e w' => ∃ v, e = .returned (.tuple #[v, .int .i64 (mgE l)]) ∧ GotC w' v (mgL l) ∧ Below w.heap.size w w' := by
  have H1 := Lib.hid (fun b (h : vCa l = b) => p_ValidCastsV (c := c) h hl hR)
  cases h : vCa l
  · have HE := Lib.hid (show mgE l = 1 by unfold mgE; rw [if_neg (by simp [h])])
    have HL := Lib.hid (show mgL l = [] by unfold mgL; rw [if_neg (by simp [h])])
    clear hR
    go_enter Tryd.func25, Tryd.ntmps25
    go_wp2_with (go_at_call 21; ((with_reducible refine (H1.out _ h).mono ?_); rintro e w1 ⟨rfl, hb1⟩; obtain ⟨hc1, hf1⟩ := bcell hb1; have hz1 := hb1.size; (try simp [sz_drew, sz_drewN] at hz1); (try simp only [sz_drew, sz_drewN] at hc1 hf1)))
    go_ret2
    exact ⟨_, by rw [HE.out]; rfl, by rw [HL.out]; exact gotC_nil _, hb1⟩
  have HE := Lib.hid (show mgE l = 0 by unfold mgE; rw [if_pos h])
  have HL := Lib.hid (show mgL l = mgK l l.length by unfold mgL; rw [if_pos h])
  have HLn := Lib.hid (mgK_len l)
  have HK := Lib.hid (fun k x (h : l[k]? = some x) => mgK_step h)
  obtain ⟨i0, hi, hi1, hi2, hi3⟩ := info_cast
  go_enter Tryd.func25, Tryd.ntmps25
  go_wp2_with (go_at_call 21; ((with_reducible refine (H1.out _ h).mono ?_); rintro e w1 ⟨rfl, hb1⟩; obtain ⟨hc1, hf1⟩ := bcell hb1; have hz1 := hb1.size; (try simp [sz_drew, sz_drewN] at hz1); (try simp only [sz_drew, sz_drewN] at hc1 hf1)))
  have B1s := hb1.size
  go_loopw [4, 13] (fun v i wr => ∃ k : Nat, k ≤ l.length ∧ i = .int .i64 k ∧ Below w.heap.size w wr ∧ wr.ownsRow w.heap.size 78 4 v (mgK l k).length (fl Ca.cs (mgK l k))) (fun _ i _ => l.length - (intOf i).toNat)
  case atStart => exact ⟨0, by omega, rfl, hb1, by rw [mgK_zero]; exact World.ownsRow_nil w1 _ _ _⟩
  case round =>
    clear hb1 hc1 hf1 hz1 h H1 B1s
    obtain ⟨k, hk, rfl, hbw, hown⟩ := hrel
    obtain ⟨ad, cp, rfl⟩ := own_slice hown
    have k0 : (0 : Int) ≤ (k : Int) := Int.natCast_nonneg _
    have hlen := HLn.out k
    have hws := hbw.size
    by_cases hlt : k < l.length
    · have k1 : (k : Int) < (l.length : Int) := by omega
      obtain ⟨x, b, off, hx, rfl, hb, c0, c1, c2, c3⟩ := rdCa (hR.on hbw) hlt
      have hst := HK.out k x hx
      clear hx
      have HZ := Lib.hid (fun (w1 : World) (j : Nat) u (hu : (Ca.cs x)[j]? = some u) => cells_new w1 (Ca.cs x) 78 j u hu)
      rcases List.eq_nil_or_concat (mgK l k) with hS | ⟨s, y, hS⟩
      · rw [hS, mgS_none] at hst
        have HLS := Lib.hid (show (mgK l (k + 1)).length = 0 + 1 by rw [hst]; rfl)
        have HFS := Lib.hid (show fl Ca.cs (mgK l (k + 1)) = [] ++ Ca.cs x by rw [hst]; exact fl_snoc [] x)
        have hl0 : (mgK l k).length = 0 := by rw [hS]; rfl
        rw [hl0] at hown ⊢
        rw [hS, show fl Ca.cs ([] : List Ca) = [] from rfl] at hown
        clear hst hS hl0 hlen
        have x0 := Blk.new wr 78 #[.int .i64 x.f, .int .i64 x.t, .int .i64 x.lo, .int .i64 x.hi]
        have bA := bl_alloc hbw (.cells #[.int .i64 x.f, .int .i64 x.t, .int .i64 x.lo, .int .i64 x.hi] 78)
        have oA := own_on hown (below_alloc wr (.cells #[.int .i64 x.f, .int .i64 x.t, .int .i64 x.lo, .int .i64 x.hi] 78))
        go_wp2_with fail
        go_quiet (fail)
        have B1 := below_drewN bA nq
        have o1 := own_on oA (below_drewN (below_refl _) nq)
        have x3 := x0.drewN nq
        have e0 := x3.cell 0
        have e1 := x3.cell 1
        have e2 := x3.cell 2
        have e3 := x3.cell 3
        simp only [List.getElem?_toArray, List.getElem?_cons_zero, List.getElem?_cons_succ] at e0 e1 e2 e3
        generalize (wr.alloc (.cells #[.int .i64 x.f, .int .i64 x.t, .int .i64 x.lo, .int .i64 x.hi] 78)).drewN nq = W3 at *
        clear x3 x0 bA oA
        go_wp2_with (at_builtin; go_loud (refine wpList_append_own _ rfl _ _ 39 rfl w.heap.size 78 i0 (.agg #[.int .i64 0, .int .i64 0, .int .i64 0, .int .i64 0]) 4 32 (by kernel_rfl) hi hi1 hi2 hi3 rfl (by omega) _ _ _ rfl (o1.alloc _) ⟨W3.heap.size, 0, none⟩ 1 1 (Ca.cs x) rfl rfl (HZ.out W3) (fun u hu => by simp [Ca.cs] at hu; rcases hu with rfl | rfl | rfl | rfl <;> rfl) (by unfold maxLen; omega) (by omega) (by simp; have := B1.size; omega) ?_; intro v' w4 hown4 hgrow _))
        go_roundw
        case rel => exact ⟨k + 1, by omega, by go_num, bl_app B1 o1 hgrow (Nat.le_refl _) B1.size, by rw [HLS.out, HFS.out]; exact hown4⟩
        case measure => simp [intOf]; omega
      · rw [List.concat_eq_append] at hS
        have hsl : (mgK l k).length = s.length + 1 := by rw [hS]; simp
        rw [hsl] at hown hlen ⊢
        rw [hS] at hown hst
        obtain ⟨g, cp2, e9⟩ := ownsRow_succ hown
        cases e9
        have HROW := Lib.hid (fun (W : World) (o : W.ownsRow w.heap.size 78 4 (.slice (some ⟨g, 0, none⟩) (s.length + 1) cp) (s.length + 1) (fl Ca.cs (s ++ [y]))) => ca_row o)
        have hgB := (own_ge hown g rfl).1
        have hgL := (own_ge hown g rfl).2
        have s0 : (0 : Int) ≤ (s.length : Int) := Int.natCast_nonneg _
        have s1 : (s.length : Int) < ((s.length + 1 : Nat) : Int) := by omega
        have hqk : s.length + 1 ≤ k := hlen
        by_cases hj : y.t = x.f ∧ y.lo = x.lo ∧ y.hi = x.hi
        · rw [mgS_join hj.1 hj.2.1 hj.2.2] at hst
          obtain ⟨j1, j2, j3⟩ := hj
          have HST := Lib.hid hst
          have HSET := Lib.hid (fun (W : World) (o : W.ownsRow w.heap.size 78 4 (.slice (some ⟨g, 0, none⟩) (s.length + 1) cp) (s.length + 1) (fl Ca.cs (s ++ [y]))) => ca_put o x.t)
          have HLL := Lib.hid (show (s ++ [(⟨y.f, x.t, y.lo, y.hi⟩ : Ca)]).length = s.length + 1 by simp)
          have n1 : (y.t == x.f) = true := by simpa using j1
          have n2 : (y.lo == x.lo) = true := by simpa using j2
          have n3 : (y.hi == x.hi) = true := by simpa using j3
          clear hst hS hsl hlen j1 j2 j3
          have x0 := Blk.new wr 78 #[.int .i64 x.f, .int .i64 x.t, .int .i64 x.lo, .int .i64 x.hi]
          have bA := bl_alloc hbw (.cells #[.int .i64 x.f, .int .i64 x.t, .int .i64 x.lo, .int .i64 x.hi] 78)
          have oA := own_on hown (below_alloc wr (.cells #[.int .i64 x.f, .int .i64 x.t, .int .i64 x.lo, .int .i64 x.hi] 78))
          obtain ⟨q0, q1, q2, q3, f1⟩ := HROW.out _ oA
          generalize s.length = q at *
          go_wp2_with fail
          go_quiet (fail)
          have B1 := below_drewN bA nq
          have o1 := own_on oA (below_drewN (below_refl _) nq)
          have x3 := x0.drewN nq
          have e0 := x3.cell 0
          have e1 := x3.cell 1
          have e2 := x3.cell 2
          have e3 := x3.cell 3
          simp only [List.getElem?_toArray, List.getElem?_cons_zero, List.getElem?_cons_succ] at e0 e1 e2 e3
          obtain ⟨_, p1, _, _, f2⟩ := HROW.out _ o1
          generalize (wr.alloc (.cells #[.int .i64 x.f, .int .i64 x.t, .int .i64 x.lo, .int .i64 x.hi] 78)).drewN nq = W3 at *
          clear x3 x0 bA oA
          go_wp2
          go_roundw
          case rel => exact ⟨k + 1, by omega, by go_num, B1.setCell (p := ⟨g, _, none⟩) hgB _, by rw [HST.out, HLL.out]; exact HSET.out _ o1⟩
          case measure => simp [intOf]; omega
        · rw [mgS_new hj] at hst
          have HLS := Lib.hid (show (mgK l (k + 1)).length = s.length + 1 + 1 by rw [hst]; simp)
          have HFS := Lib.hid (show fl Ca.cs (mgK l (k + 1)) = fl Ca.cs (s ++ [y]) ++ Ca.cs x by rw [hst]; exact fl_snoc (s ++ [y]) x)
          clear hst hS hsl hlen
          have x0 := Blk.new wr 78 #[.int .i64 x.f, .int .i64 x.t, .int .i64 x.lo, .int .i64 x.hi]
          have bA := bl_alloc hbw (.cells #[.int .i64 x.f, .int .i64 x.t, .int .i64 x.lo, .int .i64 x.hi] 78)
          have oA := own_on hown (below_alloc wr (.cells #[.int .i64 x.f, .int .i64 x.t, .int .i64 x.lo, .int .i64 x.hi] 78))
          obtain ⟨q0, q1, q2, q3, f1⟩ := HROW.out _ oA
          generalize s.length = q at *
          by_cases j1 : y.t = x.f
          · by_cases j2 : y.lo = x.lo
            · have j3 : y.hi ≠ x.hi := fun h => hj ⟨j1, j2, h⟩
              have n1 : (y.t == x.f) = true := by simpa using j1
              have n2 : (y.lo == x.lo) = true := by simpa using j2
              have n3 : (y.hi == x.hi) = false := by simpa using j3
              clear j1 j2 j3 hj
              go_wp2_with fail
              go_quiet (fail)
              have B1 := below_drewN bA nq
              have o1 := own_on oA (below_drewN (below_refl _) nq)
              have x3 := x0.drewN nq
              have e0 := x3.cell 0
              have e1 := x3.cell 1
              have e2 := x3.cell 2
              have e3 := x3.cell 3
              simp only [List.getElem?_toArray, List.getElem?_cons_zero, List.getElem?_cons_succ] at e0 e1 e2 e3
              generalize (wr.alloc (.cells #[.int .i64 x.f, .int .i64 x.t, .int .i64 x.lo, .int .i64 x.hi] 78)).drewN nq = W3 at *
              clear x3 x0 bA oA
              go_wp2_with (at_builtin; go_loud (refine wpList_append_own _ rfl _ _ 39 rfl w.heap.size 78 i0 (.agg #[.int .i64 0, .int .i64 0, .int .i64 0, .int .i64 0]) 4 32 (by kernel_rfl) hi hi1 hi2 hi3 rfl (by omega) _ _ _ rfl (o1.alloc _) ⟨W3.heap.size, 0, none⟩ 1 1 (Ca.cs x) rfl rfl (HZ.out W3) (fun u hu => by simp [Ca.cs] at hu; rcases hu with rfl | rfl | rfl | rfl <;> rfl) (by unfold maxLen; omega) (by omega) (by simp; have := B1.size; omega) ?_; intro v' w4 hown4 hgrow _))
              go_roundw
              case rel => exact ⟨k + 1, by omega, by go_num, bl_app B1 o1 hgrow (Nat.le_refl _) B1.size, by rw [HLS.out, HFS.out]; exact hown4⟩
              case measure => simp [intOf]; omega
            · have n1 : (y.t == x.f) = true := by simpa using j1
              have n2 : (y.lo == x.lo) = false := by simpa using j2
              clear j1 j2 hj
              go_wp2_with fail
              go_quiet (fail)
              have B1 := below_drewN bA nq
              have o1 := own_on oA (below_drewN (below_refl _) nq)
              have x3 := x0.drewN nq
              have e0 := x3.cell 0
              have e1 := x3.cell 1
              have e2 := x3.cell 2
              have e3 := x3.cell 3
              simp only [List.getElem?_toArray, List.getElem?_cons_zero, List.getElem?_cons_succ] at e0 e1 e2 e3
              generalize (wr.alloc (.cells #[.int .i64 x.f, .int .i64 x.t, .int .i64 x.lo, .int .i64 x.hi] 78)).drewN nq = W3 at *
              clear x3 x0 bA oA
              go_wp2_with (at_builtin; go_loud (refine wpList_append_own _ rfl _ _ 39 rfl w.heap.size 78 i0 (.agg #[.int .i64 0, .int .i64 0, .int .i64 0, .int .i64 0]) 4 32 (by kernel_rfl) hi hi1 hi2 hi3 rfl (by omega) _ _ _ rfl (o1.alloc _) ⟨W3.heap.size, 0, none⟩ 1 1 (Ca.cs x) rfl rfl (HZ.out W3) (fun u hu => by simp [Ca.cs] at hu; rcases hu with rfl | rfl | rfl | rfl <;> rfl) (by unfold maxLen; omega) (by omega) (by simp; have := B1.size; omega) ?_; intro v' w4 hown4 hgrow _))
              go_roundw
              case rel => exact ⟨k + 1, by omega, by go_num, bl_app B1 o1 hgrow (Nat.le_refl _) B1.size, by rw [HLS.out, HFS.out]; exact hown4⟩
              case measure => simp [intOf]; omega
          · have n1 : (y.t == x.f) = false := by simpa using j1
            clear j1 hj
            go_wp2_with fail
            go_quiet (fail)
            have B1 := below_drewN bA nq
            have o1 := own_on oA (below_drewN (below_refl _) nq)
            have x3 := x0.drewN nq
            have e0 := x3.cell 0
            have e1 := x3.cell 1
            have e2 := x3.cell 2
            have e3 := x3.cell 3
            simp only [List.getElem?_toArray, List.getElem?_cons_zero, List.getElem?_cons_succ] at e0 e1 e2 e3
            generalize (wr.alloc (.cells #[.int .i64 x.f, .int .i64 x.t, .int .i64 x.lo, .int .i64 x.hi] 78)).drewN nq = W3 at *
            clear x3 x0 bA oA
            go_wp2_with (at_builtin; go_loud (refine wpList_append_own _ rfl _ _ 39 rfl w.heap.size 78 i0 (.agg #[.int .i64 0, .int .i64 0, .int .i64 0, .int .i64 0]) 4 32 (by kernel_rfl) hi hi1 hi2 hi3 rfl (by omega) _ _ _ rfl (o1.alloc _) ⟨W3.heap.size, 0, none⟩ 1 1 (Ca.cs x) rfl rfl (HZ.out W3) (fun u hu => by simp [Ca.cs] at hu; rcases hu with rfl | rfl | rfl | rfl <;> rfl) (by unfold maxLen; omega) (by omega) (by simp; have := B1.size; omega) ?_; intro v' w4 hown4 hgrow _))
            go_roundw
            case rel => exact ⟨k + 1, by omega, by go_num, bl_app B1 o1 hgrow (Nat.le_refl _) B1.size, by rw [HLS.out, HFS.out]; exact hown4⟩
            case measure => simp [intOf]; omega
    · obtain rfl : k = l.length := by omega
      obtain ⟨A2, c2, e2, hr2⟩ := own_rd Ca.cs_len hown
      cases e2
      go_wp2
      go_ret2
      exact ⟨_, by rw [HE.out]; rfl, by rw [HL.out]; exact ⟨_, _, rfl, hr2⟩, hbw⟩
set_option maxHeartbeats 4000000 in
set_option maxRecDepth 20000 in
theorem r_Merged (A : Option Addr) (l : List Ca) (c : Nat) (w : World) (hl : l.length ≤ 100000) (hR : Rd Ca.cs 4 w A l) :
    Calls Tryd.prog 26 #[.slice A l.length c] w fun e w' => ∃ v, e = .returned (.tuple #[v, .int .i64 (mgE l)]) ∧ GotC w' v (mgL l) ∧ Below w.heap.size w w' := by
  have H1 := Lib.hid (fun b (h : vCa l = b) => r_ValidCastsV (c := c) h hl hR)
  cases h : vCa l
  · have HE := Lib.hid (show mgE l = 1 by unfold mgE; rw [if_neg (by simp [h])])
    have HL := Lib.hid (show mgL l = [] by unfold mgL; rw [if_neg (by simp [h])])
    clear hR
    go_enter Tryd.func26, Tryd.ntmps26
    go_wp2_with (go_at_call 22; ((with_reducible refine (H1.out _ h).mono ?_); rintro e w1 ⟨rfl, hb1⟩; obtain ⟨hc1, hf1⟩ := bcell hb1; have hz1 := hb1.size; (try simp [sz_drew, sz_drewN] at hz1); (try simp only [sz_drew, sz_drewN] at hc1 hf1)))
    go_ret2
    exact ⟨_, by rw [HE.out]; rfl, by rw [HL.out]; exact gotC_nil _, hb1⟩
  have HE := Lib.hid (show mgE l = 0 by unfold mgE; rw [if_pos h])
  have HL := Lib.hid (show mgL l = mgK l l.length by unfold mgL; rw [if_pos h])
  have HLn := Lib.hid (mgK_len l)
  have HK := Lib.hid (fun k x (h : l[k]? = some x) => mgK_step h)
  obtain ⟨i0, hi, hi1, hi2, hi3⟩ := info_cast
  go_enter Tryd.func26, Tryd.ntmps26
  go_wp2_with (go_at_call 22; ((with_reducible refine (H1.out _ h).mono ?_); rintro e w1 ⟨rfl, hb1⟩; obtain ⟨hc1, hf1⟩ := bcell hb1; have hz1 := hb1.size; (try simp [sz_drew, sz_drewN] at hz1); (try simp only [sz_drew, sz_drewN] at hc1 hf1)))
  have B1s := hb1.size
  go_loopw [4, 5] (fun v i wr => ∃ k : Nat, k ≤ l.length ∧ i = .int .i64 k ∧ Below w.heap.size w wr ∧ wr.ownsRow w.heap.size 78 4 v (mgK l k).length (fl Ca.cs (mgK l k))) (fun _ i _ => l.length - (intOf i).toNat)
  case atStart => exact ⟨0, by omega, rfl, hb1, by rw [mgK_zero]; exact World.ownsRow_nil w1 _ _ _⟩
  case round =>
    clear hb1 hc1 hf1 hz1 h H1 B1s
    obtain ⟨k, hk, rfl, hbw, hown⟩ := hrel
    obtain ⟨ad, cp, rfl⟩ := own_slice hown
    have k0 : (0 : Int) ≤ (k : Int) := Int.natCast_nonneg _
    have hlen := HLn.out k
    have hws := hbw.size
    by_cases hlt : k < l.length
    · have k1 : (k : Int) < (l.length : Int) := by omega
      obtain ⟨x, b, off, hx, rfl, hb, c0, c1, c2, c3⟩ := rdCa (hR.on hbw) hlt
      have hst := HK.out k x hx
      clear hx
      have HZ := Lib.hid (fun (w1 : World) (j : Nat) u (hu : (Ca.cs x)[j]? = some u) => cells_new w1 (Ca.cs x) 78 j u hu)
      rcases List.eq_nil_or_concat (mgK l k) with hS | ⟨s, y, hS⟩
      · rw [hS, mgS_none] at hst
        have HLS := Lib.hid (show (mgK l (k + 1)).length = 0 + 1 by rw [hst]; rfl)
        have HFS := Lib.hid (show fl Ca.cs (mgK l (k + 1)) = [] ++ Ca.cs x by rw [hst]; exact fl_snoc [] x)
        have hl0 : (mgK l k).length = 0 := by rw [hS]; rfl
        rw [hl0] at hown ⊢
        rw [hS, show fl Ca.cs ([] : List Ca) = [] from rfl] at hown
        clear hst hS hl0 hlen
        go_wp2_with fail
        go_quiet (fail)
        have B1 := below_drewN hbw nq
        have o1 := own_on hown (below_drewN (below_refl _) nq)
        have e0 : (wr.drewN nq).cell? ⟨b, off + k * 4, none⟩ = some (.int .i64 x.f) := c0
        have e1 : (wr.drewN nq).cell? ⟨b, off + k * 4 + 1, none⟩ = some (.int .i64 x.t) := c1
        have e2 : (wr.drewN nq).cell? ⟨b, off + k * 4 + 2, none⟩ = some (.int .i64 x.lo) := c2
        have e3 : (wr.drewN nq).cell? ⟨b, off + k * 4 + 3, none⟩ = some (.int .i64 x.hi) := c3
        generalize wr.drewN nq = W3 at *
        go_wp2_with (at_builtin; go_loud (refine wpList_append_own _ rfl _ _ 39 rfl w.heap.size 78 i0 (.agg #[.int .i64 0, .int .i64 0, .int .i64 0, .int .i64 0]) 4 32 (by kernel_rfl) hi hi1 hi2 hi3 rfl (by omega) _ _ _ rfl (o1.alloc _) ⟨W3.heap.size, 0, none⟩ 1 1 (Ca.cs x) rfl rfl (HZ.out W3) (fun u hu => by simp [Ca.cs] at hu; rcases hu with rfl | rfl | rfl | rfl <;> rfl) (by unfold maxLen; omega) (by omega) (by simp; have := B1.size; omega) ?_; intro v' w4 hown4 hgrow _))
        go_roundw
        case rel => exact ⟨k + 1, by omega, by go_num, bl_app B1 o1 hgrow (Nat.le_refl _) B1.size, by rw [HLS.out, HFS.out]; exact hown4⟩
        case measure => simp [intOf]; omega
      · rw [List.concat_eq_append] at hS
        have hsl : (mgK l k).length = s.length + 1 := by rw [hS]; simp
        rw [hsl] at hown hlen ⊢
        rw [hS] at hown hst
        obtain ⟨g, cp2, e9⟩ := ownsRow_succ hown
        cases e9
        have HROW := Lib.hid (fun (W : World) (o : W.ownsRow w.heap.size 78 4 (.slice (some ⟨g, 0, none⟩) (s.length + 1) cp) (s.length + 1) (fl Ca.cs (s ++ [y]))) => ca_row o)
        have hgB := (own_ge hown g rfl).1
        have hgL := (own_ge hown g rfl).2
        have s0 : (0 : Int) ≤ (s.length : Int) := Int.natCast_nonneg _
        have s1 : (s.length : Int) < ((s.length + 1 : Nat) : Int) := by omega
        have hqk : s.length + 1 ≤ k := hlen
        by_cases hj : y.t = x.f ∧ y.lo = x.lo ∧ y.hi = x.hi
        · rw [mgS_join hj.1 hj.2.1 hj.2.2] at hst
          obtain ⟨j1, j2, j3⟩ := hj
          have HST := Lib.hid hst
          have HSET := Lib.hid (fun (W : World) (o : W.ownsRow w.heap.size 78 4 (.slice (some ⟨g, 0, none⟩) (s.length + 1) cp) (s.length + 1) (fl Ca.cs (s ++ [y]))) => ca_put o x.t)
          have HLL := Lib.hid (show (s ++ [(⟨y.f, x.t, y.lo, y.hi⟩ : Ca)]).length = s.length + 1 by simp)
          have n1 : (y.t == x.f) = true := by simpa using j1
          have n2 : (y.lo == x.lo) = true := by simpa using j2
          have n3 : (y.hi == x.hi) = true := by simpa using j3
          clear hst hS hsl hlen j1 j2 j3
          obtain ⟨q0, q1, q2, q3, f1⟩ := HROW.out _ hown
          generalize s.length = q at *
          go_wp2_with fail
          go_quiet (fail)
          have B1 := below_drewN hbw nq
          have o1 := own_on hown (below_drewN (below_refl _) nq)
          have e0 : (wr.drewN nq).cell? ⟨b, off + k * 4, none⟩ = some (.int .i64 x.f) := c0
          have e1 : (wr.drewN nq).cell? ⟨b, off + k * 4 + 1, none⟩ = some (.int .i64 x.t) := c1
          have e2 : (wr.drewN nq).cell? ⟨b, off + k * 4 + 2, none⟩ = some (.int .i64 x.lo) := c2
          have e3 : (wr.drewN nq).cell? ⟨b, off + k * 4 + 3, none⟩ = some (.int .i64 x.hi) := c3
          obtain ⟨_, p1, _, _, f2⟩ := HROW.out _ o1
          generalize wr.drewN nq = W3 at *
          go_wp2
          go_roundw
          case rel => exact ⟨k + 1, by omega, by go_num, B1.setCell (p := ⟨g, _, none⟩) hgB _, by rw [HST.out, HLL.out]; exact HSET.out _ o1⟩
          case measure => simp [intOf]; omega
        · rw [mgS_new hj] at hst
          have HLS := Lib.hid (show (mgK l (k + 1)).length = s.length + 1 + 1 by rw [hst]; simp)
          have HFS := Lib.hid (show fl Ca.cs (mgK l (k + 1)) = fl Ca.cs (s ++ [y]) ++ Ca.cs x by rw [hst]; exact fl_snoc (s ++ [y]) x)
          clear hst hS hsl hlen
          obtain ⟨q0, q1, q2, q3, f1⟩ := HROW.out _ hown
          generalize s.length = q at *
          by_cases j1 : y.t = x.f
          · by_cases j2 : y.lo = x.lo
            · have j3 : y.hi ≠ x.hi := fun h => hj ⟨j1, j2, h⟩
              have n1 : (y.t == x.f) = true := by simpa using j1
              have n2 : (y.lo == x.lo) = true := by simpa using j2
              have n3 : (y.hi == x.hi) = false := by simpa using j3
              clear j1 j2 j3 hj
              go_wp2_with fail
              go_quiet (fail)
              have B1 := below_drewN hbw nq
              have o1 := own_on hown (below_drewN (below_refl _) nq)
              have e0 : (wr.drewN nq).cell? ⟨b, off + k * 4, none⟩ = some (.int .i64 x.f) := c0
              have e1 : (wr.drewN nq).cell? ⟨b, off + k * 4 + 1, none⟩ = some (.int .i64 x.t) := c1
              have e2 : (wr.drewN nq).cell? ⟨b, off + k * 4 + 2, none⟩ = some (.int .i64 x.lo) := c2
              have e3 : (wr.drewN nq).cell? ⟨b, off + k * 4 + 3, none⟩ = some (.int .i64 x.hi) := c3
              generalize wr.drewN nq = W3 at *
              go_wp2_with (at_builtin; go_loud (refine wpList_append_own _ rfl _ _ 39 rfl w.heap.size 78 i0 (.agg #[.int .i64 0, .int .i64 0, .int .i64 0, .int .i64 0]) 4 32 (by kernel_rfl) hi hi1 hi2 hi3 rfl (by omega) _ _ _ rfl (o1.alloc _) ⟨W3.heap.size, 0, none⟩ 1 1 (Ca.cs x) rfl rfl (HZ.out W3) (fun u hu => by simp [Ca.cs] at hu; rcases hu with rfl | rfl | rfl | rfl <;> rfl) (by unfold maxLen; omega) (by omega) (by simp; have := B1.size; omega) ?_; intro v' w4 hown4 hgrow _))
              go_roundw
              case rel => exact ⟨k + 1, by omega, by go_num, bl_app B1 o1 hgrow (Nat.le_refl _) B1.size, by rw [HLS.out, HFS.out]; exact hown4⟩
              case measure => simp [intOf]; omega
            · have n1 : (y.t == x.f) = true := by simpa using j1
              have n2 : (y.lo == x.lo) = false := by simpa using j2
              clear j1 j2 hj
              go_wp2_with fail
              go_quiet (fail)
              have B1 := below_drewN hbw nq
              have o1 := own_on hown (below_drewN (below_refl _) nq)
              have e0 : (wr.drewN nq).cell? ⟨b, off + k * 4, none⟩ = some (.int .i64 x.f) := c0
              have e1 : (wr.drewN nq).cell? ⟨b, off + k * 4 + 1, none⟩ = some (.int .i64 x.t) := c1
              have e2 : (wr.drewN nq).cell? ⟨b, off + k * 4 + 2, none⟩ = some (.int .i64 x.lo) := c2
              have e3 : (wr.drewN nq).cell? ⟨b, off + k * 4 + 3, none⟩ = some (.int .i64 x.hi) := c3
              generalize wr.drewN nq = W3 at *
              go_wp2_with (at_builtin; go_loud (refine wpList_append_own _ rfl _ _ 39 rfl w.heap.size 78 i0 (.agg #[.int .i64 0, .int .i64 0, .int .i64 0, .int .i64 0]) 4 32 (by kernel_rfl) hi hi1 hi2 hi3 rfl (by omega) _ _ _ rfl (o1.alloc _) ⟨W3.heap.size, 0, none⟩ 1 1 (Ca.cs x) rfl rfl (HZ.out W3) (fun u hu => by simp [Ca.cs] at hu; rcases hu with rfl | rfl | rfl | rfl <;> rfl) (by unfold maxLen; omega) (by omega) (by simp; have := B1.size; omega) ?_; intro v' w4 hown4 hgrow _))
              go_roundw
              case rel => exact ⟨k + 1, by omega, by go_num, bl_app B1 o1 hgrow (Nat.le_refl _) B1.size, by rw [HLS.out, HFS.out]; exact hown4⟩
              case measure => simp [intOf]; omega
          · have n1 : (y.t == x.f) = false := by simpa using j1
            clear j1 hj
            go_wp2_with fail
            go_quiet (fail)
            have B1 := below_drewN hbw nq
            have o1 := own_on hown (below_drewN (below_refl _) nq)
            have e0 : (wr.drewN nq).cell? ⟨b, off + k * 4, none⟩ = some (.int .i64 x.f) := c0
            have e1 : (wr.drewN nq).cell? ⟨b, off + k * 4 + 1, none⟩ = some (.int .i64 x.t) := c1
            have e2 : (wr.drewN nq).cell? ⟨b, off + k * 4 + 2, none⟩ = some (.int .i64 x.lo) := c2
            have e3 : (wr.drewN nq).cell? ⟨b, off + k * 4 + 3, none⟩ = some (.int .i64 x.hi) := c3
            generalize wr.drewN nq = W3 at *
            go_wp2_with (at_builtin; go_loud (refine wpList_append_own _ rfl _ _ 39 rfl w.heap.size 78 i0 (.agg #[.int .i64 0, .int .i64 0, .int .i64 0, .int .i64 0]) 4 32 (by kernel_rfl) hi hi1 hi2 hi3 rfl (by omega) _ _ _ rfl (o1.alloc _) ⟨W3.heap.size, 0, none⟩ 1 1 (Ca.cs x) rfl rfl (HZ.out W3) (fun u hu => by simp [Ca.cs] at hu; rcases hu with rfl | rfl | rfl | rfl <;> rfl) (by unfold maxLen; omega) (by omega) (by simp; have := B1.size; omega) ?_; intro v' w4 hown4 hgrow _))
            go_roundw
            case rel => exact ⟨k + 1, by omega, by go_num, bl_app B1 o1 hgrow (Nat.le_refl _) B1.size, by rw [HLS.out, HFS.out]; exact hown4⟩
            case measure => simp [intOf]; omega
    · obtain rfl : k = l.length := by omega
      obtain ⟨A2, c2, e2, hr2⟩ := own_rd Ca.cs_len hown
      cases e2
      go_wp2
      go_ret2
      exact ⟨_, by rw [HE.out]; rfl, by rw [HL.out]; exact ⟨_, _, rfl, hr2⟩, hbw⟩
set_option maxHeartbeats 1000000 in
set_option maxRecDepth 20000 in
theorem l_casts (A B : Option Addr) (l : List Ca) (c d : Nat) (w : World) (hl : l.length ≤ 100000) (hA : Rd Ca.cs 4 w A l) (hB : Rd Ca.cs 4 w B l) :
    Calls Tryd.prog 27 #[.slice A l.length c, .slice B l.length d] w fun e w' => e = .returned (.bool true) ∧ Below w.heap.size w w' := by
  go_enter Tryd.func27, Tryd.ntmps27
  go_wp2
  go_loopw [5] (fun i wr => ∃ k : Nat, k ≤ l.length ∧ i = .int .i64 k ∧ Below w.heap.size w wr) (fun i _ => l.length - (intOf i).toNat)
  case atStart => exact ⟨0, by omega, rfl, below_refl _⟩
  case round =>
    obtain ⟨k, hk, rfl, hbw⟩ := hrel
    by_cases hlt : k < l.length
    · obtain ⟨x, b, off, hx, rfl, hb, c0, c1, c2, c3⟩ := rdCa (hA.on hbw) hlt
      obtain ⟨x2, b', off', hy, rfl, hb', d0, d1, d2, d3⟩ := rdCa (hB.on hbw) hlt
      obtain rfl : x = x2 := by rw [hx] at hy; cases hy; rfl
      have k0 : (0 : Int) ≤ (k : Int) := Int.natCast_nonneg _
      have k1 : (k : Int) < (l.length : Int) := by omega
      clear hx hy
      go_wp2
      go_quiet (fail)
      go_wp2
      go_roundw
      case rel => exact ⟨k + 1, by omega, by go_num, below_drewN hbw _⟩
      case measure => simp [intOf]; omega
    · obtain rfl : k = l.length := by omega
      go_wp2
      go_ret
      exact ⟨rfl, hbw⟩
end Go.Proofs.YtkigdjfagcnejaaDoor
