/- Stack: the walk of StackSplits. -/
import Derived.Test.YthoemokkfijfeaaPc
namespace Go.Proofs.Ythoemokkfijfeaa
open Go.RowKit

set_option maxHeartbeats 4000000 in
set_option maxRecDepth 100000 in
theorem l_splits_in (A : Option Addr) (l : List Course) (c k bed : Nat) (a : Int) (x : Course) (w : World) (hl : l.length ≤ 60) (hlc : l.length ≤ c) (hcm : c ≤ maxLen) (hR : Rd Course.cs 6 w A l) (hv : validC l = true) (hx : l[k]? = some x) (hE : splitX l x a = 0) (hbl : bed < l.length) :
    Calls Try.prog 7 #[.slice A l.length c, .agg #[.int .i64 k, .int .i64 a, .int .i64 bed]] w fun e w' => e = .returned (.bool true) ∧ Below w.heap.size w w' := by
  have hkl : k < l.length := (List.getElem?_eq_some_iff.1 hx).1
  have hl2 : l.length ≤ 100000 := by omega
  obtain ⟨hv2, hlen⟩ := split_valid hv hx hE
  have H0 := fun W (h : Below w.heap.size w W) => s_split A l c k a W hl2 hlc hcm (hR.on h)
  rw [splitE_of (asked_ok hv hkl) hx, hE] at H0
  by_cases hkb : k < bed
  · skip
    have hto : (bed + 1) = (if k < bed then bed + 1 else bed) := by rw [if_pos hkb]
    have hS := split_drop (a := a) hx bed
    rw [← hto] at hS
    have hTl : (bed + 1) < (splitL l k a).length := by rw [hlen]; omega
    obtain ⟨e1, e2, e3, e4, e5⟩ := hS
    have K1 := fun (A2 : Option Addr) (c2 : Nat) W (h : Rd Course.cs 6 W A2 (splitL l k a)) => s_weight A2 (splitL l k a) c2 ((bed + 1) : Nat) W (by omega) h
    have K2 := fun (A2 : Option Addr) (c2 : Nat) W (h : Rd Course.cs 6 W A2 (splitL l k a)) => s_centre A2 (splitL l k a) c2 ((bed + 1) : Nat) W (by omega) h
    have K3 := fun (A2 : Option Addr) (c2 : Nat) W (h : Rd Course.cs 6 W A2 (splitL l k a)) => s_moment A2 (splitL l k a) c2 ((bed + 1) : Nat) 9 W (by omega) h
    rw [weightR_ok (asked_ok hv2 hTl), e1] at K1
    rw [centreR_ok (asked_ok hv2 hTl), e1, e2, e3] at K2
    rw [momentR_ok (windy_ok hv2 hTl (by omega) (by omega)), e5] at K3
    have H1 := fun W (h : Below w.heap.size w W) => s_weight A l c bed W hl2 (hR.on h)
    have H2 := fun W (h : Below w.heap.size w W) => s_centre A l c bed W hl2 (hR.on h)
    have H3 := fun W (h : Below w.heap.size w W) => s_moment A l c bed 9 W hl2 (hR.on h)
    rw [weightR_ok (asked_ok hv hbl)] at H1
    rw [centreR_ok (asked_ok hv hbl)] at H2
    rw [momentR_ok (windy_ok hv hbl (by omega) (by omega))] at H3
    simp only [rat, Int.natCast_add, Int.cast_ofNat_Int] at K1 K2 K3 H1 H2 H3
    clear e1 e2 e3 e4 e5 hTl hto hx hv hv2
    generalize splitL l k a = L at *
    generalize gN (es (l.drop bed)) (wts (l.drop bed)) = eN at *
    generalize gD (es (l.drop bed)) (wts (l.drop bed)) = eD at *
    generalize gN (ns (l.drop bed)) (wts (l.drop bed)) = fN at *
    generalize gD (ns (l.drop bed)) (wts (l.drop bed)) = fD at *
    generalize gN (9 * push (l.drop bed)) 1000000 = mN at *
    generalize gD (9 * push (l.drop bed)) 1000000 = mD at *
    generalize wts (l.drop bed) = WT at *
    have K1 := Lib.hid K1
    have K2 := Lib.hid K2
    have K3 := Lib.hid K3
    have H1 := Lib.hid H1
    have H2 := Lib.hid H2
    have H3 := Lib.hid H3
    have H0 := Lib.hid H0
    have hb1 : (bed : Int) < (l.length : Int) := by omega
    have hb0 : (0 : Int) ≤ (bed : Int) := by omega
    have hk0 : (0 : Int) ≤ (k : Int) := by omega
    have hk1 : (k : Int) < (l.length : Int) := by omega
    have hq1 : ((L.length : Int) != (l.length : Int) + 1) = false := by simp; omega
    have hkI : (k : Int) < (bed : Int) := by omega
    clear hlen
    go_enter Try.func7, Try.ntmps7
    go_wp2_with (first
      | (go_at_call 37; ((with_reducible refine (H0.out _ (below_alloc w (.cells #[.int .i64 k, .int .i64 a, .int .i64 bed] 40))).mono ?_); rintro e w1 ⟨v1, rfl, g1, c1⟩; obtain ⟨a1, m1, rfl, r1⟩ := got_rd0 g1; have b1 : Below w.heap.size w w1 := below_tr (below_alloc w (.cells #[.int .i64 k, .int .i64 a, .int .i64 bed] 40)) c1; have dn1 : Blk w1 (w.heap.size) 40 #[.int .i64 k, .int .i64 a, .int .i64 bed] := (by have h := (Blk.new w 40 #[.int .i64 k, .int .i64 a, .int .i64 bed]); (try simp only [World.size_alloc] at h); exact h.below c1 (by (try simp only [World.size_alloc]); omega)); have qn10 : w1.cell? ⟨w.heap.size, 0, none⟩ = some (.int .i64 k) := dn1.cell 0; have qn11 : w1.cell? ⟨w.heap.size, 1, none⟩ = some (.int .i64 a) := dn1.cell 1; have qn12 : w1.cell? ⟨w.heap.size, 2, none⟩ = some (.int .i64 bed) := dn1.cell 2; have yn1 : w.heap.size < w1.heap.size := dn1.lt))
      | (go_at_call 19; ((with_reducible refine (H1.out _ b1).mono ?_); rintro e w2 ⟨rfl, c2⟩; have b2 : Below w.heap.size w w2 := below_tr b1 c2; have dn2 : Blk w2 (w.heap.size) 40 #[.int .i64 k, .int .i64 a, .int .i64 bed] := dn1.below c2 dn1.lt; have qn20 : w2.cell? ⟨w.heap.size, 0, none⟩ = some (.int .i64 k) := dn2.cell 0; have qn21 : w2.cell? ⟨w.heap.size, 1, none⟩ = some (.int .i64 a) := dn2.cell 1; have qn22 : w2.cell? ⟨w.heap.size, 2, none⟩ = some (.int .i64 bed) := dn2.cell 2; have yn2 : w.heap.size < w2.heap.size := dn2.lt; have r2 := r1.on c2))
      | (go_at_call 19; ((with_reducible refine (K1.out _ _ _ r2).mono ?_); rintro e w3 ⟨rfl, c3⟩; have b3 : Below w.heap.size w w3 := below_tr b2 c3; have dn3 : Blk w3 (w.heap.size) 40 #[.int .i64 k, .int .i64 a, .int .i64 bed] := dn2.below c3 dn2.lt; have qn30 : w3.cell? ⟨w.heap.size, 0, none⟩ = some (.int .i64 k) := dn3.cell 0; have qn31 : w3.cell? ⟨w.heap.size, 1, none⟩ = some (.int .i64 a) := dn3.cell 1; have qn32 : w3.cell? ⟨w.heap.size, 2, none⟩ = some (.int .i64 bed) := dn3.cell 2; have yn3 : w.heap.size < w3.heap.size := dn3.lt; have r3 := r2.on c3))
      | (go_at_call 21; ((with_reducible refine (H2.out _ b3).mono ?_); rintro e w4 ⟨rfl, c4⟩; have b4 : Below w.heap.size w w4 := below_tr b3 c4; have dn4 : Blk w4 (w.heap.size) 40 #[.int .i64 k, .int .i64 a, .int .i64 bed] := dn3.below c4 dn3.lt; have qn40 : w4.cell? ⟨w.heap.size, 0, none⟩ = some (.int .i64 k) := dn4.cell 0; have qn41 : w4.cell? ⟨w.heap.size, 1, none⟩ = some (.int .i64 a) := dn4.cell 1; have qn42 : w4.cell? ⟨w.heap.size, 2, none⟩ = some (.int .i64 bed) := dn4.cell 2; have yn4 : w.heap.size < w4.heap.size := dn4.lt; have r4 := r3.on c4))
      | (go_at_call 21; ((with_reducible refine (K2.out _ _ _ (r4.on (below_tr (below_alloc w4 (.cells #[.int .i64 eN, .int .i64 eD] 30)) (below_alloc _ (.cells #[.int .i64 fN, .int .i64 fD] 30))))).mono ?_); rintro e w5 ⟨rfl, c5⟩; have b5 : Below w.heap.size w w5 := below_tr (below_tr (below_tr b4 (below_alloc w4 (.cells #[.int .i64 eN, .int .i64 eD] 30))) (below_alloc _ (.cells #[.int .i64 fN, .int .i64 fD] 30))) c5; have de5 : Blk w5 (w4.heap.size) 30 #[.int .i64 eN, .int .i64 eD] := (((Blk.new w4 _ _).alloc (.cells #[.int .i64 fN, .int .i64 fD] 30)).below c5 (by (try simp only [World.size_alloc]); omega)); have df5 : Blk w5 (w4.heap.size + 1) 30 #[.int .i64 fN, .int .i64 fD] := (by have h := Blk.new (w4.alloc (.cells #[.int .i64 eN, .int .i64 eD] 30)) 30 #[.int .i64 fN, .int .i64 fD]; (try simp only [World.size_alloc] at h); exact h.below c5 (by (try simp only [World.size_alloc]); omega)); have qe50 : w5.cell? ⟨w4.heap.size, 0, none⟩ = some (.int .i64 eN) := de5.cell 0; have qe51 : w5.cell? ⟨w4.heap.size, 1, none⟩ = some (.int .i64 eD) := de5.cell 1; have ye5 : w4.heap.size < w5.heap.size := de5.lt; have qf50 : w5.cell? ⟨w4.heap.size + 1, 0, none⟩ = some (.int .i64 fN) := df5.cell 0; have qf51 : w5.cell? ⟨w4.heap.size + 1, 1, none⟩ = some (.int .i64 fD) := df5.cell 1; have yf5 : w4.heap.size + 1 < w5.heap.size := df5.lt; have r5 := (r4.on (below_tr (below_alloc w4 (.cells #[.int .i64 eN, .int .i64 eD] 30)) (below_alloc _ (.cells #[.int .i64 fN, .int .i64 fD] 30)))).on c5))
      | (go_at_call 23; ((with_reducible refine (H3.out _ (below_tr (below_tr b5 (below_alloc w5 (.cells #[.int .i64 eN, .int .i64 eD] 30))) (below_alloc _ (.cells #[.int .i64 fN, .int .i64 fD] 30)))).mono ?_); rintro e w6 ⟨rfl, c6⟩; have b6 : Below w.heap.size w w6 := below_tr (below_tr (below_tr b5 (below_alloc w5 (.cells #[.int .i64 eN, .int .i64 eD] 30))) (below_alloc _ (.cells #[.int .i64 fN, .int .i64 fD] 30))) c6; have dg6 : Blk w6 (w5.heap.size) 30 #[.int .i64 eN, .int .i64 eD] := (((Blk.new w5 _ _).alloc (.cells #[.int .i64 fN, .int .i64 fD] 30)).below c6 (by (try simp only [World.size_alloc]); omega)); have dh6 : Blk w6 (w5.heap.size + 1) 30 #[.int .i64 fN, .int .i64 fD] := (by have h := Blk.new (w5.alloc (.cells #[.int .i64 eN, .int .i64 eD] 30)) 30 #[.int .i64 fN, .int .i64 fD]; (try simp only [World.size_alloc] at h); exact h.below c6 (by (try simp only [World.size_alloc]); omega)); have qg60 : w6.cell? ⟨w5.heap.size, 0, none⟩ = some (.int .i64 eN) := dg6.cell 0; have qg61 : w6.cell? ⟨w5.heap.size, 1, none⟩ = some (.int .i64 eD) := dg6.cell 1; have yg6 : w5.heap.size < w6.heap.size := dg6.lt; have qh60 : w6.cell? ⟨w5.heap.size + 1, 0, none⟩ = some (.int .i64 fN) := dh6.cell 0; have qh61 : w6.cell? ⟨w5.heap.size + 1, 1, none⟩ = some (.int .i64 fD) := dh6.cell 1; have yh6 : w5.heap.size + 1 < w6.heap.size := dh6.lt; have de6 : Blk w6 (w4.heap.size) 30 #[.int .i64 eN, .int .i64 eD] := ((de5.alloc (.cells #[.int .i64 eN, .int .i64 eD] 30)).alloc (.cells #[.int .i64 fN, .int .i64 fD] 30)).below c6 (by (try simp only [World.size_alloc]); have := de5.lt; omega); have qe60 : w6.cell? ⟨w4.heap.size, 0, none⟩ = some (.int .i64 eN) := de6.cell 0; have qe61 : w6.cell? ⟨w4.heap.size, 1, none⟩ = some (.int .i64 eD) := de6.cell 1; have ye6 : w4.heap.size < w6.heap.size := de6.lt; have df6 : Blk w6 (w4.heap.size + 1) 30 #[.int .i64 fN, .int .i64 fD] := ((df5.alloc (.cells #[.int .i64 eN, .int .i64 eD] 30)).alloc (.cells #[.int .i64 fN, .int .i64 fD] 30)).below c6 (by (try simp only [World.size_alloc]); have := df5.lt; omega); have qf60 : w6.cell? ⟨w4.heap.size + 1, 0, none⟩ = some (.int .i64 fN) := df6.cell 0; have qf61 : w6.cell? ⟨w4.heap.size + 1, 1, none⟩ = some (.int .i64 fD) := df6.cell 1; have yf6 : w4.heap.size + 1 < w6.heap.size := df6.lt; have r6 := (r5.on (below_tr (below_alloc w5 (.cells #[.int .i64 eN, .int .i64 eD] 30)) (below_alloc _ (.cells #[.int .i64 fN, .int .i64 fD] 30)))).on c6))
      | (go_at_call 23; ((with_reducible refine (K3.out _ _ _ (r6.on (below_alloc w6 (.cells #[.int .i64 mN, .int .i64 mD] 30)))).mono ?_); rintro e w7 ⟨rfl, c7⟩; have b7 : Below w.heap.size w w7 := below_tr (below_tr b6 (below_alloc w6 (.cells #[.int .i64 mN, .int .i64 mD] 30))) c7; have dk7 : Blk w7 (w6.heap.size) 30 #[.int .i64 mN, .int .i64 mD] := ((Blk.new w6 _ _).below c7 (by (try simp only [World.size_alloc]); omega)); have qk70 : w7.cell? ⟨w6.heap.size, 0, none⟩ = some (.int .i64 mN) := dk7.cell 0; have qk71 : w7.cell? ⟨w6.heap.size, 1, none⟩ = some (.int .i64 mD) := dk7.cell 1; have yk7 : w6.heap.size < w7.heap.size := dk7.lt; have de7 : Blk w7 (w4.heap.size) 30 #[.int .i64 eN, .int .i64 eD] := (de6.alloc (.cells #[.int .i64 mN, .int .i64 mD] 30)).below c7 (by (try simp only [World.size_alloc]); have := de6.lt; omega); have qe70 : w7.cell? ⟨w4.heap.size, 0, none⟩ = some (.int .i64 eN) := de7.cell 0; have qe71 : w7.cell? ⟨w4.heap.size, 1, none⟩ = some (.int .i64 eD) := de7.cell 1; have ye7 : w4.heap.size < w7.heap.size := de7.lt; have df7 : Blk w7 (w4.heap.size + 1) 30 #[.int .i64 fN, .int .i64 fD] := (df6.alloc (.cells #[.int .i64 mN, .int .i64 mD] 30)).below c7 (by (try simp only [World.size_alloc]); have := df6.lt; omega); have qf70 : w7.cell? ⟨w4.heap.size + 1, 0, none⟩ = some (.int .i64 fN) := df7.cell 0; have qf71 : w7.cell? ⟨w4.heap.size + 1, 1, none⟩ = some (.int .i64 fD) := df7.cell 1; have yf7 : w4.heap.size + 1 < w7.heap.size := df7.lt; have dg7 : Blk w7 (w5.heap.size) 30 #[.int .i64 eN, .int .i64 eD] := (dg6.alloc (.cells #[.int .i64 mN, .int .i64 mD] 30)).below c7 (by (try simp only [World.size_alloc]); have := dg6.lt; omega); have qg70 : w7.cell? ⟨w5.heap.size, 0, none⟩ = some (.int .i64 eN) := dg7.cell 0; have qg71 : w7.cell? ⟨w5.heap.size, 1, none⟩ = some (.int .i64 eD) := dg7.cell 1; have yg7 : w5.heap.size < w7.heap.size := dg7.lt; have dh7 : Blk w7 (w5.heap.size + 1) 30 #[.int .i64 fN, .int .i64 fD] := (dh6.alloc (.cells #[.int .i64 mN, .int .i64 mD] 30)).below c7 (by (try simp only [World.size_alloc]); have := dh6.lt; omega); have qh70 : w7.cell? ⟨w5.heap.size + 1, 0, none⟩ = some (.int .i64 fN) := dh7.cell 0; have qh71 : w7.cell? ⟨w5.heap.size + 1, 1, none⟩ = some (.int .i64 fD) := dh7.cell 1; have yh7 : w5.heap.size + 1 < w7.heap.size := dh7.lt))
      | (go_at_call 14; ((with_reducible refine (s_awake _).mono ?_); rintro e w8 ⟨rfl, c8⟩; have tok := trivial)))
    go_ret
    exact ⟨rfl, below_tr (below_tr b7 (below_alloc _ _)) c8⟩
  · skip
    have hto : bed = (if k < bed then bed + 1 else bed) := by rw [if_neg hkb]
    have hS := split_drop (a := a) hx bed
    rw [← hto] at hS
    have hTl : bed < (splitL l k a).length := by rw [hlen]; omega
    obtain ⟨e1, e2, e3, e4, e5⟩ := hS
    have K1 := fun (A2 : Option Addr) (c2 : Nat) W (h : Rd Course.cs 6 W A2 (splitL l k a)) => s_weight A2 (splitL l k a) c2 (bed : Nat) W (by omega) h
    have K2 := fun (A2 : Option Addr) (c2 : Nat) W (h : Rd Course.cs 6 W A2 (splitL l k a)) => s_centre A2 (splitL l k a) c2 (bed : Nat) W (by omega) h
    have K3 := fun (A2 : Option Addr) (c2 : Nat) W (h : Rd Course.cs 6 W A2 (splitL l k a)) => s_moment A2 (splitL l k a) c2 (bed : Nat) 9 W (by omega) h
    rw [weightR_ok (asked_ok hv2 hTl), e1] at K1
    rw [centreR_ok (asked_ok hv2 hTl), e1, e2, e3] at K2
    rw [momentR_ok (windy_ok hv2 hTl (by omega) (by omega)), e5] at K3
    have H1 := fun W (h : Below w.heap.size w W) => s_weight A l c bed W hl2 (hR.on h)
    have H2 := fun W (h : Below w.heap.size w W) => s_centre A l c bed W hl2 (hR.on h)
    have H3 := fun W (h : Below w.heap.size w W) => s_moment A l c bed 9 W hl2 (hR.on h)
    rw [weightR_ok (asked_ok hv hbl)] at H1
    rw [centreR_ok (asked_ok hv hbl)] at H2
    rw [momentR_ok (windy_ok hv hbl (by omega) (by omega))] at H3
    simp only [rat] at K1 K2 K3 H1 H2 H3
    clear e1 e2 e3 e4 e5 hTl hto hx hv hv2
    generalize splitL l k a = L at *
    generalize gN (es (l.drop bed)) (wts (l.drop bed)) = eN at *
    generalize gD (es (l.drop bed)) (wts (l.drop bed)) = eD at *
    generalize gN (ns (l.drop bed)) (wts (l.drop bed)) = fN at *
    generalize gD (ns (l.drop bed)) (wts (l.drop bed)) = fD at *
    generalize gN (9 * push (l.drop bed)) 1000000 = mN at *
    generalize gD (9 * push (l.drop bed)) 1000000 = mD at *
    generalize wts (l.drop bed) = WT at *
    have K1 := Lib.hid K1
    have K2 := Lib.hid K2
    have K3 := Lib.hid K3
    have H1 := Lib.hid H1
    have H2 := Lib.hid H2
    have H3 := Lib.hid H3
    have H0 := Lib.hid H0
    have hb1 : (bed : Int) < (l.length : Int) := by omega
    have hb0 : (0 : Int) ≤ (bed : Int) := by omega
    have hk0 : (0 : Int) ≤ (k : Int) := by omega
    have hk1 : (k : Int) < (l.length : Int) := by omega
    have hq1 : ((L.length : Int) != (l.length : Int) + 1) = false := by simp; omega
    have hkI : ¬ (k : Int) < (bed : Int) := by omega
    clear hlen
    go_enter Try.func7, Try.ntmps7
    go_wp2_with (first
      | (go_at_call 37; ((with_reducible refine (H0.out _ (below_alloc w (.cells #[.int .i64 k, .int .i64 a, .int .i64 bed] 40))).mono ?_); rintro e w1 ⟨v1, rfl, g1, c1⟩; obtain ⟨a1, m1, rfl, r1⟩ := got_rd0 g1; have b1 : Below w.heap.size w w1 := below_tr (below_alloc w (.cells #[.int .i64 k, .int .i64 a, .int .i64 bed] 40)) c1; have dn1 : Blk w1 (w.heap.size) 40 #[.int .i64 k, .int .i64 a, .int .i64 bed] := (by have h := (Blk.new w 40 #[.int .i64 k, .int .i64 a, .int .i64 bed]); (try simp only [World.size_alloc] at h); exact h.below c1 (by (try simp only [World.size_alloc]); omega)); have qn10 : w1.cell? ⟨w.heap.size, 0, none⟩ = some (.int .i64 k) := dn1.cell 0; have qn11 : w1.cell? ⟨w.heap.size, 1, none⟩ = some (.int .i64 a) := dn1.cell 1; have qn12 : w1.cell? ⟨w.heap.size, 2, none⟩ = some (.int .i64 bed) := dn1.cell 2; have yn1 : w.heap.size < w1.heap.size := dn1.lt))
      | (go_at_call 19; ((with_reducible refine (H1.out _ b1).mono ?_); rintro e w2 ⟨rfl, c2⟩; have b2 : Below w.heap.size w w2 := below_tr b1 c2; have dn2 : Blk w2 (w.heap.size) 40 #[.int .i64 k, .int .i64 a, .int .i64 bed] := dn1.below c2 dn1.lt; have qn20 : w2.cell? ⟨w.heap.size, 0, none⟩ = some (.int .i64 k) := dn2.cell 0; have qn21 : w2.cell? ⟨w.heap.size, 1, none⟩ = some (.int .i64 a) := dn2.cell 1; have qn22 : w2.cell? ⟨w.heap.size, 2, none⟩ = some (.int .i64 bed) := dn2.cell 2; have yn2 : w.heap.size < w2.heap.size := dn2.lt; have r2 := r1.on c2))
      | (go_at_call 19; ((with_reducible refine (K1.out _ _ _ r2).mono ?_); rintro e w3 ⟨rfl, c3⟩; have b3 : Below w.heap.size w w3 := below_tr b2 c3; have dn3 : Blk w3 (w.heap.size) 40 #[.int .i64 k, .int .i64 a, .int .i64 bed] := dn2.below c3 dn2.lt; have qn30 : w3.cell? ⟨w.heap.size, 0, none⟩ = some (.int .i64 k) := dn3.cell 0; have qn31 : w3.cell? ⟨w.heap.size, 1, none⟩ = some (.int .i64 a) := dn3.cell 1; have qn32 : w3.cell? ⟨w.heap.size, 2, none⟩ = some (.int .i64 bed) := dn3.cell 2; have yn3 : w.heap.size < w3.heap.size := dn3.lt; have r3 := r2.on c3))
      | (go_at_call 21; ((with_reducible refine (H2.out _ b3).mono ?_); rintro e w4 ⟨rfl, c4⟩; have b4 : Below w.heap.size w w4 := below_tr b3 c4; have dn4 : Blk w4 (w.heap.size) 40 #[.int .i64 k, .int .i64 a, .int .i64 bed] := dn3.below c4 dn3.lt; have qn40 : w4.cell? ⟨w.heap.size, 0, none⟩ = some (.int .i64 k) := dn4.cell 0; have qn41 : w4.cell? ⟨w.heap.size, 1, none⟩ = some (.int .i64 a) := dn4.cell 1; have qn42 : w4.cell? ⟨w.heap.size, 2, none⟩ = some (.int .i64 bed) := dn4.cell 2; have yn4 : w.heap.size < w4.heap.size := dn4.lt; have r4 := r3.on c4))
      | (go_at_call 21; ((with_reducible refine (K2.out _ _ _ (r4.on (below_tr (below_alloc w4 (.cells #[.int .i64 eN, .int .i64 eD] 30)) (below_alloc _ (.cells #[.int .i64 fN, .int .i64 fD] 30))))).mono ?_); rintro e w5 ⟨rfl, c5⟩; have b5 : Below w.heap.size w w5 := below_tr (below_tr (below_tr b4 (below_alloc w4 (.cells #[.int .i64 eN, .int .i64 eD] 30))) (below_alloc _ (.cells #[.int .i64 fN, .int .i64 fD] 30))) c5; have de5 : Blk w5 (w4.heap.size) 30 #[.int .i64 eN, .int .i64 eD] := (((Blk.new w4 _ _).alloc (.cells #[.int .i64 fN, .int .i64 fD] 30)).below c5 (by (try simp only [World.size_alloc]); omega)); have df5 : Blk w5 (w4.heap.size + 1) 30 #[.int .i64 fN, .int .i64 fD] := (by have h := Blk.new (w4.alloc (.cells #[.int .i64 eN, .int .i64 eD] 30)) 30 #[.int .i64 fN, .int .i64 fD]; (try simp only [World.size_alloc] at h); exact h.below c5 (by (try simp only [World.size_alloc]); omega)); have qe50 : w5.cell? ⟨w4.heap.size, 0, none⟩ = some (.int .i64 eN) := de5.cell 0; have qe51 : w5.cell? ⟨w4.heap.size, 1, none⟩ = some (.int .i64 eD) := de5.cell 1; have ye5 : w4.heap.size < w5.heap.size := de5.lt; have qf50 : w5.cell? ⟨w4.heap.size + 1, 0, none⟩ = some (.int .i64 fN) := df5.cell 0; have qf51 : w5.cell? ⟨w4.heap.size + 1, 1, none⟩ = some (.int .i64 fD) := df5.cell 1; have yf5 : w4.heap.size + 1 < w5.heap.size := df5.lt; have r5 := (r4.on (below_tr (below_alloc w4 (.cells #[.int .i64 eN, .int .i64 eD] 30)) (below_alloc _ (.cells #[.int .i64 fN, .int .i64 fD] 30)))).on c5))
      | (go_at_call 23; ((with_reducible refine (H3.out _ (below_tr (below_tr b5 (below_alloc w5 (.cells #[.int .i64 eN, .int .i64 eD] 30))) (below_alloc _ (.cells #[.int .i64 fN, .int .i64 fD] 30)))).mono ?_); rintro e w6 ⟨rfl, c6⟩; have b6 : Below w.heap.size w w6 := below_tr (below_tr (below_tr b5 (below_alloc w5 (.cells #[.int .i64 eN, .int .i64 eD] 30))) (below_alloc _ (.cells #[.int .i64 fN, .int .i64 fD] 30))) c6; have dg6 : Blk w6 (w5.heap.size) 30 #[.int .i64 eN, .int .i64 eD] := (((Blk.new w5 _ _).alloc (.cells #[.int .i64 fN, .int .i64 fD] 30)).below c6 (by (try simp only [World.size_alloc]); omega)); have dh6 : Blk w6 (w5.heap.size + 1) 30 #[.int .i64 fN, .int .i64 fD] := (by have h := Blk.new (w5.alloc (.cells #[.int .i64 eN, .int .i64 eD] 30)) 30 #[.int .i64 fN, .int .i64 fD]; (try simp only [World.size_alloc] at h); exact h.below c6 (by (try simp only [World.size_alloc]); omega)); have qg60 : w6.cell? ⟨w5.heap.size, 0, none⟩ = some (.int .i64 eN) := dg6.cell 0; have qg61 : w6.cell? ⟨w5.heap.size, 1, none⟩ = some (.int .i64 eD) := dg6.cell 1; have yg6 : w5.heap.size < w6.heap.size := dg6.lt; have qh60 : w6.cell? ⟨w5.heap.size + 1, 0, none⟩ = some (.int .i64 fN) := dh6.cell 0; have qh61 : w6.cell? ⟨w5.heap.size + 1, 1, none⟩ = some (.int .i64 fD) := dh6.cell 1; have yh6 : w5.heap.size + 1 < w6.heap.size := dh6.lt; have de6 : Blk w6 (w4.heap.size) 30 #[.int .i64 eN, .int .i64 eD] := ((de5.alloc (.cells #[.int .i64 eN, .int .i64 eD] 30)).alloc (.cells #[.int .i64 fN, .int .i64 fD] 30)).below c6 (by (try simp only [World.size_alloc]); have := de5.lt; omega); have qe60 : w6.cell? ⟨w4.heap.size, 0, none⟩ = some (.int .i64 eN) := de6.cell 0; have qe61 : w6.cell? ⟨w4.heap.size, 1, none⟩ = some (.int .i64 eD) := de6.cell 1; have ye6 : w4.heap.size < w6.heap.size := de6.lt; have df6 : Blk w6 (w4.heap.size + 1) 30 #[.int .i64 fN, .int .i64 fD] := ((df5.alloc (.cells #[.int .i64 eN, .int .i64 eD] 30)).alloc (.cells #[.int .i64 fN, .int .i64 fD] 30)).below c6 (by (try simp only [World.size_alloc]); have := df5.lt; omega); have qf60 : w6.cell? ⟨w4.heap.size + 1, 0, none⟩ = some (.int .i64 fN) := df6.cell 0; have qf61 : w6.cell? ⟨w4.heap.size + 1, 1, none⟩ = some (.int .i64 fD) := df6.cell 1; have yf6 : w4.heap.size + 1 < w6.heap.size := df6.lt; have r6 := (r5.on (below_tr (below_alloc w5 (.cells #[.int .i64 eN, .int .i64 eD] 30)) (below_alloc _ (.cells #[.int .i64 fN, .int .i64 fD] 30)))).on c6))
      | (go_at_call 23; ((with_reducible refine (K3.out _ _ _ (r6.on (below_alloc w6 (.cells #[.int .i64 mN, .int .i64 mD] 30)))).mono ?_); rintro e w7 ⟨rfl, c7⟩; have b7 : Below w.heap.size w w7 := below_tr (below_tr b6 (below_alloc w6 (.cells #[.int .i64 mN, .int .i64 mD] 30))) c7; have dk7 : Blk w7 (w6.heap.size) 30 #[.int .i64 mN, .int .i64 mD] := ((Blk.new w6 _ _).below c7 (by (try simp only [World.size_alloc]); omega)); have qk70 : w7.cell? ⟨w6.heap.size, 0, none⟩ = some (.int .i64 mN) := dk7.cell 0; have qk71 : w7.cell? ⟨w6.heap.size, 1, none⟩ = some (.int .i64 mD) := dk7.cell 1; have yk7 : w6.heap.size < w7.heap.size := dk7.lt; have de7 : Blk w7 (w4.heap.size) 30 #[.int .i64 eN, .int .i64 eD] := (de6.alloc (.cells #[.int .i64 mN, .int .i64 mD] 30)).below c7 (by (try simp only [World.size_alloc]); have := de6.lt; omega); have qe70 : w7.cell? ⟨w4.heap.size, 0, none⟩ = some (.int .i64 eN) := de7.cell 0; have qe71 : w7.cell? ⟨w4.heap.size, 1, none⟩ = some (.int .i64 eD) := de7.cell 1; have ye7 : w4.heap.size < w7.heap.size := de7.lt; have df7 : Blk w7 (w4.heap.size + 1) 30 #[.int .i64 fN, .int .i64 fD] := (df6.alloc (.cells #[.int .i64 mN, .int .i64 mD] 30)).below c7 (by (try simp only [World.size_alloc]); have := df6.lt; omega); have qf70 : w7.cell? ⟨w4.heap.size + 1, 0, none⟩ = some (.int .i64 fN) := df7.cell 0; have qf71 : w7.cell? ⟨w4.heap.size + 1, 1, none⟩ = some (.int .i64 fD) := df7.cell 1; have yf7 : w4.heap.size + 1 < w7.heap.size := df7.lt; have dg7 : Blk w7 (w5.heap.size) 30 #[.int .i64 eN, .int .i64 eD] := (dg6.alloc (.cells #[.int .i64 mN, .int .i64 mD] 30)).below c7 (by (try simp only [World.size_alloc]); have := dg6.lt; omega); have qg70 : w7.cell? ⟨w5.heap.size, 0, none⟩ = some (.int .i64 eN) := dg7.cell 0; have qg71 : w7.cell? ⟨w5.heap.size, 1, none⟩ = some (.int .i64 eD) := dg7.cell 1; have yg7 : w5.heap.size < w7.heap.size := dg7.lt; have dh7 : Blk w7 (w5.heap.size + 1) 30 #[.int .i64 fN, .int .i64 fD] := (dh6.alloc (.cells #[.int .i64 mN, .int .i64 mD] 30)).below c7 (by (try simp only [World.size_alloc]); have := dh6.lt; omega); have qh70 : w7.cell? ⟨w5.heap.size + 1, 0, none⟩ = some (.int .i64 fN) := dh7.cell 0; have qh71 : w7.cell? ⟨w5.heap.size + 1, 1, none⟩ = some (.int .i64 fD) := dh7.cell 1; have yh7 : w5.heap.size + 1 < w7.heap.size := dh7.lt))
      | (go_at_call 14; ((with_reducible refine (s_awake _).mono ?_); rintro e w8 ⟨rfl, c8⟩; have tok := trivial)))
    go_ret
    exact ⟨rfl, below_tr (below_tr b7 (below_alloc _ _)) c8⟩

end Go.Proofs.Ythoemokkfijfeaa
