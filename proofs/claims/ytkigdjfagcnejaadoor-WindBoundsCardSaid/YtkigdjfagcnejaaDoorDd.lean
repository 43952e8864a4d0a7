/- Wind cards: castAt and Kept of the reference, SameInts. -/
import Derived.Test.YtkigdjfagcnejaaDoorDc
set_option linter.unusedSimpArgs false
set_option linter.unusedVariables false
namespace Go.Proofs.YtkigdjfagcnejaaDoor
open Go.RowKit

theorem load_ca {W : World} {b : Nat} {x y z u : Value} (h : Blk W b 78 #[x, y, z, u]) : (loadVar 78 ⟨b, 0, none⟩).run Tryd.prog W = .ok (.agg #[x, y, z, u]) W := by
  have h0 := h.cell 0
  have h1 := h.cell 1
  have h2 := h.cell 2
  have h3 := h.cell 3
  simp only [List.getElem?_toArray, List.getElem?_cons_zero, List.getElem?_cons_succ] at h0 h1 h2 h3
  simp [go_sem, h0, h1, h2, h3]
theorem hit_at {c : List Ca} (h : vCa c = true) {t : Int} {k : Nat} {x : Ca} (hx : c[k]? = some x) (hp : inC t x = true) (hn : ∀ (j : Nat) (y : Ca), j < k → c[j]? = some y → inC t y = false) : ctO c t = some x := by
  have h1 := idx_at c k 0 x hx hp hn
  cases hc : ctO c t with
  | none => rw [ix_none h hc] at h1; omega
  | some y =>
    obtain ⟨h2, h3⟩ := ix_some h hc
    rw [h1] at h2
    have h4 : k = kF c t := by omega
    rw [← h4, hx] at h3
    exact h3.symm
theorem hit_none {c : List Ca} (h : vCa c = true) {t : Int} (hn : ∀ (j : Nat) (y : Ca), j < c.length → c[j]? = some y → inC t y = false) : ctO c t = none := by
  cases hc : ctO c t with
  | none => rfl
  | some y =>
    obtain ⟨h2, h3⟩ := ix_some h hc
    have h4 : idxOf (inC t) c 0 = -1 := idx_none (fun z hz => by
      obtain ⟨i, hi⟩ := List.getElem?_of_mem hz
      exact hn i z (List.getElem?_eq_some_iff.1 hi).1 hi) 0
    omega
set_option maxHeartbeats 4000000 in
set_option maxRecDepth 20000 in
theorem r_castAt (A : Option Addr) (l : List Ca) (c : Nat) (t : Int) (w : World) (hl : l.length ≤ 100000) (hv : vCa l = true) (hR : Rd Ca.cs 4 w A l) :
    Calls Tryd.prog 59 #[.slice A l.length c, .int .i64 t] w fun e w' => e = .returned (.tuple #[caV ((ctO l t).getD caZ0), .bool (ctO l t).isSome]) ∧ Below w.heap.size w w' := by
  have HH := Lib.hid (fun k x h1 h2 h3 => hit_at hv (t := t) (k := k) (x := x) h1 h2 h3)
  have HN := Lib.hid (fun h => hit_none hv (t := t) h)
  clear hv
  go_enter Tryd.func59, Tryd.ntmps59
  go_wp2_with fail
  have x0 := Blk.new w 78 #[.int .i64 0, .int .i64 0, .int .i64 0, .int .i64 0]
  have B0 := bl_alloc (below_refl w) (.cells #[.int .i64 0, .int .i64 0, .int .i64 0, .int .i64 0] 78)
  generalize w.alloc (.cells #[.int .i64 0, .int .i64 0, .int .i64 0, .int .i64 0] 78) = W0 at *
  go_loopw [6] (fun i wr => ∃ k : Nat, k ≤ l.length ∧ i = .int .i64 k ∧ wr = W0 ∧ ∀ (j : Nat) (y : Ca), j < k → l[j]? = some y → inC t y = false) (fun i _ => l.length - (intOf i).toNat)
  case atStart => exact ⟨0, by omega, rfl, rfl, fun j y h => by omega⟩
  case round =>
    obtain ⟨k, hk, rfl, rfl, hno⟩ := hrel
    have HNO := Lib.hid hno
    clear hno
    by_cases hlt : k < l.length
    · have k0 : (0 : Int) ≤ (k : Int) := Int.natCast_nonneg _
      have k1 : (k : Int) < (l.length : Int) := by omega
      obtain ⟨x, b, off, hx, rfl, hb, c0, c1, c2, c3⟩ := rdCa (hR.on B0) hlt
      have HX := Lib.hid hx
      clear hx
      by_cases h1 : x.f ≤ t
      · by_cases h2 : t < x.t
        · have HC := Lib.hid (HH.out k x HX.out (by unfold inC; exact wn_iff.2 ⟨h1, by omega⟩) HNO.out)
          have f0 := x0.frozen 0
          have f1 := x0.frozen 1
          have f2 := x0.frozen 2
          have f3 := x0.frozen 3
          have q0 := x0.cell 0
          have q1 := x0.cell 1
          have q2 := x0.cell 2
          have q3 := x0.cell 3
          simp only [List.getElem?_toArray, List.getElem?_cons_zero, List.getElem?_cons_succ] at q0 q1 q2 q3
          go_wp2
          refine bodyPost_ret (res_ct rfl rfl (load_ca ((((x0.set_ 0 _).set_ 1 _).set_ 2 _).set_ 3 _))) rfl ⟨by rw [HC.out]; rfl, ?_⟩
          (repeat' (first | assumption | exact below_refl _ | refine bl_alloc ?_ _ | refine Below.setCell ?_ ?_ _ | refine below_draw ?_ | refine below_drewN ?_ _ | refine below_tr ?_ (by assumption))) <;> (first | omega | (simp; done) | (simp; omega))
        · have HS := Lib.hid (show inC t x = false by unfold inC; cases h : wn t x.f (x.t - 1) with
            | false => rfl
            | true => have := wn_iff.1 h; omega)
          go_wp2
          go_roundw
          case rel => exact ⟨k + 1, by omega, by go_num, trivial, fun j y hj hy => by
            by_cases e : j = k
            · subst e; rw [HX.out] at hy; cases hy; exact HS.out
            · exact HNO.out j y (by omega) hy⟩
          case measure => simp [intOf]; omega
      · have HS := Lib.hid (show inC t x = false by unfold inC; cases h : wn t x.f (x.t - 1) with
          | false => rfl
          | true => have := wn_iff.1 h; omega)
        go_wp2
        go_roundw
        case rel => exact ⟨k + 1, by omega, by go_num, trivial, fun j y hj hy => by
          by_cases e : j = k
          · subst e; rw [HX.out] at hy; cases hy; exact HS.out
          · exact HNO.out j y (by omega) hy⟩
        case measure => simp [intOf]; omega
    · obtain rfl : k = l.length := by omega
      have HC := Lib.hid (HN.out HNO.out)
      have f0 := x0.frozen 0
      have f1 := x0.frozen 1
      have f2 := x0.frozen 2
      have f3 := x0.frozen 3
      have q0 := x0.cell 0
      have q1 := x0.cell 1
      have q2 := x0.cell 2
      have q3 := x0.cell 3
      simp only [List.getElem?_toArray, List.getElem?_cons_zero, List.getElem?_cons_succ] at q0 q1 q2 q3
      go_wp2
      refine bodyPost_ret (res_ct rfl rfl (load_ca ((((x0.set_ 0 _).set_ 1 _).set_ 2 _).set_ 3 _))) rfl ⟨by rw [HC.out]; rfl, ?_⟩
      (repeat' (first | assumption | exact below_refl _ | refine bl_alloc ?_ _ | refine Below.setCell ?_ ?_ _ | refine below_draw ?_ | refine below_drewN ?_ _ | refine below_tr ?_ (by assumption))) <;> (first | omega | (simp; done) | (simp; omega))
set_option maxHeartbeats 4000000 in
set_option maxRecDepth 20000 in
theorem r_Kept (A B : Option Addr) (cs : List Ca) (l : List Int) (c d : Nat) (w : World) (hcl : cs.length ≤ 100000) (hl : l.length ≤ 100000) (hR : Rd Ca.cs 4 w A cs) (hS : Rd zC 1 w B l) :
    Calls Tryd.prog 17 #[.slice A cs.length c, .slice B l.length d] w fun e w' => ∃ v, e = .returned (.tuple #[v, .int .i64 (kpE cs l)]) ∧ GotW w' v (kpZ cs l) ∧ Below w.heap.size w w' := by
  have H1 := Lib.hid (r_ValidCasts A cs c w hcl hR)
  have H2 := Lib.hid (fun W (hb : Below w.heap.size w W) => r_ValidGusts B l d W hl (hS.on hb))
  cases h1 : vCa cs
  · have HE := Lib.hid (show kpE cs l = 1 by unfold kpE; rw [h1]; rfl)
    have HZ := Lib.hid (show kpZ cs l = [] by unfold kpZ; rw [HE.out]; rfl)
    rw [h1] at H1
    go_enter Tryd.func17, Tryd.ntmps17
    go_wp2_with (go_at_call 22; ((with_reducible refine (H1.out).mono ?_); rintro e w1 ⟨rfl, hb1⟩; obtain ⟨hc1, hf1⟩ := bcell hb1; have hz1 := hb1.size; (try simp [sz_drew, sz_drewN] at hz1); (try simp only [sz_drew, sz_drewN] at hc1 hf1)))
    go_ret2
    exact ⟨_, by rw [HE.out]; rfl, by rw [HZ.out]; exact gotW_nil _, hb1⟩
  cases h2 : vGu l
  · have HE := Lib.hid (show kpE cs l = 1 by unfold kpE; rw [h1, h2]; rfl)
    have HZ := Lib.hid (show kpZ cs l = [] by unfold kpZ; rw [HE.out]; rfl)
    rw [h1] at H1
    rw [h2] at H2
    go_enter Tryd.func17, Tryd.ntmps17
    go_wp2_with (first | (go_at_call 22; ((with_reducible refine (H1.out).mono ?_); rintro e w1 ⟨rfl, hb1⟩; obtain ⟨hc1, hf1⟩ := bcell hb1; have hz1 := hb1.size; (try simp [sz_drew, sz_drewN] at hz1); (try simp only [sz_drew, sz_drewN] at hc1 hf1))) | (go_at_call 30; ((with_reducible refine (H2.out _ hb1).mono ?_); rintro e w' ⟨rfl, rfl⟩)))
    go_ret2
    exact ⟨_, by rw [HE.out]; rfl, by rw [HZ.out]; exact gotW_nil _, hb1⟩
  have HE := Lib.hid (show kpE cs l = 0 by unfold kpE; rw [h1, h2]; rfl)
  have HZ := Lib.hid (show kpZ cs l = fZ (kpP cs l) l.length by unfold kpZ; rw [if_pos HE.out])
  have HN := Lib.hid (fun k h => fN_no (p := kpP cs l) (k := k) h)
  have HY := Lib.hid (fun k h => fN_yes (p := kpP cs l) (k := k) h)
  have HLn := Lib.hid (fun k => fN_len (kpP cs l) k)
  have HGU := Lib.hid (vgu h2).2
  have H3 := Lib.hid (fun W t (hb : Below w.heap.size w W) => r_castAt A cs c t W hcl h1 (hR.on hb))
  obtain ⟨i0, hi, hi1, hi2, hi3⟩ := info_int2
  rw [h1] at H1
  rw [h2] at H2
  go_enter Tryd.func17, Tryd.ntmps17
  go_wp2_with (first | (go_at_call 22; ((with_reducible refine (H1.out).mono ?_); rintro e w1 ⟨rfl, hb1⟩; obtain ⟨hc1, hf1⟩ := bcell hb1; have hz1 := hb1.size; (try simp [sz_drew, sz_drewN] at hz1); (try simp only [sz_drew, sz_drewN] at hc1 hf1))) | (go_at_call 30; ((with_reducible refine (H2.out _ hb1).mono ?_); rintro e w' ⟨rfl, rfl⟩)))
  have B2 := hb1
  have B2s := B2.size
  obtain ⟨w2, hw2⟩ : ∃ w2 : World, w2 = w1 := ⟨w1, rfl⟩
  go_loopw [6, 7] (fun v i wr => ∃ k : Nat, k ≤ l.length ∧ i = .int .i64 k ∧ Below w.heap.size w wr ∧ Below w2.heap.size w2 wr ∧ wr.ownsRow w2.heap.size 3 1 v (fN (kpP cs l) k).length (fl nC (fN (kpP cs l) k))) (fun _ i _ => l.length - (intOf i).toNat)
  case atStart => exact ⟨0, by omega, rfl, B2, by rw [hw2]; exact below_refl _, by rw [hw2]; exact World.ownsRow_nil w1 _ _ _⟩
  case round =>
    rw [← hw2] at B2s
    clear hb1 hc1 hf1 hz1 B2 hw2
    obtain ⟨k, hk, rfl, hbw, hbv, hown⟩ := hrel
    obtain ⟨ad, cp, rfl⟩ := own_slice hown
    have hlen := HLn.out k
    have hbvs := hbv.size
    by_cases hlt : k < l.length
    · have k0 : (0 : Int) ≤ (k : Int) := Int.natCast_nonneg _
      have k1 : (k : Int) < (l.length : Int) := by omega
      have HC := Lib.hid (H3.out wr (k : Int) hbw)
      cases hct : ctO cs (k : Int) with
      | none =>
        have hp : kpP cs l k = false := by unfold kpP; rw [hct]
        have HST := Lib.hid (HN.out k hp)
        rw [hct] at HC
        clear hp hct
        go_wp2_with fail
        refine HC.out.mono ?_
        rintro e w3 ⟨rfl, hb3⟩
        obtain ⟨g2, gb, go, hg2, rfl, hgb, c0⟩ := rd_int (hS.on (below_tr hbw hb3)) hlt
        have bA := bl_alloc (below_tr hbw hb3) (.cells #[.int .i64 0, .int .i64 0, .int .i64 0, .int .i64 0] 78)
        have vA := bl_alloc (below_tr hbv hb3) (.cells #[.int .i64 0, .int .i64 0, .int .i64 0, .int .i64 0] 78)
        have oA := own_on (own_on hown hb3) (below_alloc w3 (.cells #[.int .i64 0, .int .i64 0, .int .i64 0, .int .i64 0] 78))
        go_wp2_with fail
        go_quiet (fail)
        go_wp2
        go_roundw
        case rel => exact ⟨k + 1, by omega, by go_num, below_drewN bA _, below_drewN vA _, by rw [HST.out]; exact own_on oA (below_drewN (below_refl _) _)⟩
        case measure => simp [intOf]; omega
      | some x =>
        obtain ⟨g, hgk⟩ := get_lt hlt
        have hgd : l.getD k 0 = g := getD_of hgk
        obtain ⟨g0, g1⟩ := HGU.out k g hgk
        have hp : kpP cs l k = (decide (g ≠ -1) && !wn g x.lo x.hi) := by unfold kpP; rw [hct, hgd]
        rw [hct] at HC
        clear hct
        by_cases hg1 : g < 0
        · have hd : decide (0 ≤ g) = false := decide_eq_false (by omega)
          have HST := Lib.hid (HN.out k (by rw [hp, decide_eq_false (by omega)]; rfl))
          clear hp
          go_wp2_with fail
          refine HC.out.mono ?_
          rintro e w3 ⟨rfl, hb3⟩
          obtain ⟨g2, gb, go, hg2, rfl, hgb, c0⟩ := rd_int (hS.on (below_tr hbw hb3)) hlt
          obtain rfl : g2 = g := by rw [hgk] at hg2; exact (Option.some.inj hg2).symm
          have bA := bl_alloc (below_tr hbw hb3) (.cells #[.int .i64 x.f, .int .i64 x.t, .int .i64 x.lo, .int .i64 x.hi] 78)
          have vA := bl_alloc (below_tr hbv hb3) (.cells #[.int .i64 x.f, .int .i64 x.t, .int .i64 x.lo, .int .i64 x.hi] 78)
          have oA := own_on (own_on hown hb3) (below_alloc w3 (.cells #[.int .i64 x.f, .int .i64 x.t, .int .i64 x.lo, .int .i64 x.hi] 78))
          go_wp2_with fail
          go_quiet (fail)
          go_wp2
          go_roundw
          case rel => exact ⟨k + 1, by omega, by go_num, below_drewN bA _, below_drewN vA _, by rw [HST.out]; exact own_on oA (below_drewN (below_refl _) _)⟩
          case measure => simp [intOf]; omega
        have hg4 : 0 ≤ g := by omega
        by_cases hg2x : g < x.lo
        · have HST := Lib.hid (HY.out k (by rw [hp, decide_eq_true (by omega), show wn g x.lo x.hi = false from by cases h : wn g x.lo x.hi with | false => rfl | true => have := wn_iff.1 h; omega]; rfl))
          clear hp
          go_wp2_with fail
          refine HC.out.mono ?_
          rintro e w3 ⟨rfl, hb3⟩
          obtain ⟨g2, gb, go, hg2, rfl, hgb, c0⟩ := rd_int (hS.on (below_tr hbw hb3)) hlt
          obtain rfl : g2 = g := by rw [hgk] at hg2; exact (Option.some.inj hg2).symm
          have bA := bl_alloc (below_tr hbw hb3) (.cells #[.int .i64 x.f, .int .i64 x.t, .int .i64 x.lo, .int .i64 x.hi] 78)
          have vA := bl_alloc (below_tr hbv hb3) (.cells #[.int .i64 x.f, .int .i64 x.t, .int .i64 x.lo, .int .i64 x.hi] 78)
          have oA := own_on (own_on hown hb3) (below_alloc w3 (.cells #[.int .i64 x.f, .int .i64 x.t, .int .i64 x.lo, .int .i64 x.hi] 78))
          go_wp2_with fail
          go_quiet (fail)
          have b3 := below_drewN bA nq
          have v3 := below_drewN vA nq
          have o3 := own_on oA (below_drewN (below_refl _) nq)
          generalize (w3.alloc (.cells #[.int .i64 x.f, .int .i64 x.t, .int .i64 x.lo, .int .i64 x.hi] 78)).drewN nq = W3 at *
          go_wp2_with (at_builtin; refine wpList_append_own _ rfl _ _ 24 rfl w2.heap.size 3 i0 (.int .i64 0) 1 8 (by kernel_rfl) hi hi1 hi2 hi3 rfl (by omega) _ _ _ rfl (o3.alloc _) ⟨W3.heap.size, 0, none⟩ 1 1 [.int .i64 k] rfl rfl (cells_new W3 [.int .i64 k] 3) (fun u hu => by simp at hu; subst hu; rfl) (by unfold maxLen; omega) (by omega) (by simp; have := v3.size; omega) ?_; intro v' w9 hown9 hgrow _)
          go_roundw
          case rel => exact ⟨k + 1, by omega, by go_num, bl_app b3 o3 hgrow B2s b3.size, bl_app v3 o3 hgrow (Nat.le_refl _) v3.size, by rw [HST.out, fl_snoc, List.length_append]; exact hown9⟩
          case measure => simp [intOf]; omega
        have hg5 : x.lo ≤ g := by omega
        by_cases hg3x : x.hi < g
        · have HST := Lib.hid (HY.out k (by rw [hp, decide_eq_true (by omega), show wn g x.lo x.hi = false from by cases h : wn g x.lo x.hi with | false => rfl | true => have := wn_iff.1 h; omega]; rfl))
          clear hp
          go_wp2_with fail
          refine HC.out.mono ?_
          rintro e w3 ⟨rfl, hb3⟩
          obtain ⟨g2, gb, go, hg2, rfl, hgb, c0⟩ := rd_int (hS.on (below_tr hbw hb3)) hlt
          obtain rfl : g2 = g := by rw [hgk] at hg2; exact (Option.some.inj hg2).symm
          have bA := bl_alloc (below_tr hbw hb3) (.cells #[.int .i64 x.f, .int .i64 x.t, .int .i64 x.lo, .int .i64 x.hi] 78)
          have vA := bl_alloc (below_tr hbv hb3) (.cells #[.int .i64 x.f, .int .i64 x.t, .int .i64 x.lo, .int .i64 x.hi] 78)
          have oA := own_on (own_on hown hb3) (below_alloc w3 (.cells #[.int .i64 x.f, .int .i64 x.t, .int .i64 x.lo, .int .i64 x.hi] 78))
          go_wp2_with fail
          go_quiet (fail)
          have b3 := below_drewN bA nq
          have v3 := below_drewN vA nq
          have o3 := own_on oA (below_drewN (below_refl _) nq)
          generalize (w3.alloc (.cells #[.int .i64 x.f, .int .i64 x.t, .int .i64 x.lo, .int .i64 x.hi] 78)).drewN nq = W3 at *
          go_wp2_with (at_builtin; refine wpList_append_own _ rfl _ _ 24 rfl w2.heap.size 3 i0 (.int .i64 0) 1 8 (by kernel_rfl) hi hi1 hi2 hi3 rfl (by omega) _ _ _ rfl (o3.alloc _) ⟨W3.heap.size, 0, none⟩ 1 1 [.int .i64 k] rfl rfl (cells_new W3 [.int .i64 k] 3) (fun u hu => by simp at hu; subst hu; rfl) (by unfold maxLen; omega) (by omega) (by simp; have := v3.size; omega) ?_; intro v' w9 hown9 hgrow _)
          go_roundw
          case rel => exact ⟨k + 1, by omega, by go_num, bl_app b3 o3 hgrow B2s b3.size, bl_app v3 o3 hgrow (Nat.le_refl _) v3.size, by rw [HST.out, fl_snoc, List.length_append]; exact hown9⟩
          case measure => simp [intOf]; omega
        · have HST := Lib.hid (HN.out k (by rw [hp, wn_iff.2 ⟨by omega, by omega⟩]; simp))
          clear hp
          go_wp2_with fail
          refine HC.out.mono ?_
          rintro e w3 ⟨rfl, hb3⟩
          obtain ⟨g2, gb, go, hg2, rfl, hgb, c0⟩ := rd_int (hS.on (below_tr hbw hb3)) hlt
          obtain rfl : g2 = g := by rw [hgk] at hg2; exact (Option.some.inj hg2).symm
          have bA := bl_alloc (below_tr hbw hb3) (.cells #[.int .i64 x.f, .int .i64 x.t, .int .i64 x.lo, .int .i64 x.hi] 78)
          have vA := bl_alloc (below_tr hbv hb3) (.cells #[.int .i64 x.f, .int .i64 x.t, .int .i64 x.lo, .int .i64 x.hi] 78)
          have oA := own_on (own_on hown hb3) (below_alloc w3 (.cells #[.int .i64 x.f, .int .i64 x.t, .int .i64 x.lo, .int .i64 x.hi] 78))
          go_wp2_with fail
          go_quiet (fail)
          go_wp2
          go_roundw
          case rel => exact ⟨k + 1, by omega, by go_num, below_drewN bA _, below_drewN vA _, by rw [HST.out]; exact own_on oA (below_drewN (below_refl _) _)⟩
          case measure => simp [intOf]; omega
    · obtain rfl : k = l.length := by omega
      have hown2 := own_base hown B2s
      go_wp2
      go_ret2
      exact ⟨_, by rw [HE.out]; rfl, by rw [HZ.out]; exact got_fN hown2, hbw⟩
end Go.Proofs.YtkigdjfagcnejaaDoor
