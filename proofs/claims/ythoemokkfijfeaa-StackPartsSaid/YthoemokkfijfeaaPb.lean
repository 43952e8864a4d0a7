/- Stack: the walk of StackParts. -/
import Derived.Test.YthoemokkfijfeaaPa
import Derived.Deep.DeepCutAuto
namespace Go.Proofs.Ythoemokkfijfeaa
open Go.RowKit

theorem wrap_fits {n : Int} (h1 : -9000000000000000000 ≤ n) (h2 : n ≤ 9000000000000000000) : IntKind.i64.wrap n = n := fits_wrap ⟨h1, h2⟩
/-- The number of a sum of moments, in letters. -/
theorem part_sum {N g E a : Int} (h : N * g = E) (hE : E = a) (h1 : -1000000000000 ≤ a) (h2 : a ≤ 1000000000000) : IntKind.i64.wrap (N * g) = a := by rw [h, hE]; exact wrap_fits (by omega) (by omega)
theorem tdiv_letters {W D g : Int} (h0 : 0 ≤ W) (h : W / D = g) : W.tdiv D = g := by rw [Int.tdiv_eq_ediv_of_nonneg h0, h]
theorem tmod_letters {W D : Int} (h0 : 0 ≤ W) (h : W % D = 0) : W.tmod D = 0 := by rw [Int.tmod_eq_emod_of_nonneg h0, h]

set_option maxHeartbeats 4000000 in
set_option maxRecDepth 100000 in
theorem l_parts_in (A : Option Addr) (l : List Course) (c n : Nat) (p : Int) (w : World) (hl : l.length ≤ 60) (hR : Rd Course.cs 6 w A l) (hv : validC l = true) (hn : n < l.length) :
    Calls Try.prog 4 #[.slice A l.length c, .int .i64 n, .int .i64 p] w fun e w' => e = .returned (.bool true) ∧ Below w.heap.size w w' := by
  obtain ⟨hall, _, _⟩ := valid_all hv
  obtain ⟨x, hx⟩ := get_lt hn
  obtain ⟨ab, off, rfl, hab, _⟩ := hR.get hx
  obtain ⟨S, hd1, hd2, hS0, hSall, hSl, hS1⟩ := over_letters hall hl hx
  have hcb := cb_of (List.all_eq_true.1 hall x (List.mem_of_getElem? hx))
  obtain ⟨d1, d2, d3, d4, d5, d6, d7, d8, d9, d10, d11⟩ := hcb
  obtain ⟨s1, s2, s3, s4, s5, s6, s7, s8, s9, s10, s11, s12⟩ := sb_of hSall
  have q := mul_bd0 (a := ((x :: S).length : Int)) (b := ((x :: S).length : Int)) (A := 60) (B := 60) (by omega) (by simp; omega) (by omega) (by simp; omega)
  have hxs : (x :: S).all soundB = true := by rw [← hd1]; exact all_drop hall _
  obtain ⟨t1, t2, t3, t4, t5, t6, t7, t8, t9, t10, t11, t12⟩ := sb_of hxs
  have hlen : ((x :: S).length : Int) = (S.length : Int) + 1 := by simp
  have hw : wts (x :: S) = x.wt + wts S := by simp [wts]; omega
  have he : es (x :: S) = x.wt * x.e + es S := by simp [es]; omega
  have hnn : ns (x :: S) = x.wt * x.n + ns S := by simp [ns]; omega
  have m1 := mul_bd (a := x.wt) (b := x.e) (A := 1000000) (B := 5000) (by omega) d7 d8 d9
  have m2 := mul_bd (a := x.wt) (b := x.n) (A := 1000000) (B := 5000) (by omega) d7 d10 d11
  obtain ⟨N1, D1, g1, u1, u2, u3, u4, u5, u6, u7, u8, u9, u10, u11⟩ := cen (es (x :: S)) (wts (x :: S)) 300000000000 (by omega) (by omega) (by omega)
  obtain ⟨N2, D2, g2, v1, v2, v3, v4, v5, v6, v7, v8, v9, v10, v11⟩ := cen (ns (x :: S)) (wts (x :: S)) 300000000000 (by omega) (by omega) (by omega)
  obtain ⟨oN, oD, og, o1, o2, o3, o4, o5, o6, o7, o8, o9, o10, o11⟩ := cen (push (x :: S)) 1000000 72000000000000 (by omega) (by omega) (by omega)
  have ha := asked_ok hv hn
  have hl2 : l.length ≤ 100000 := by omega
  have K1 := fun W (h : Below w.heap.size w W) => s_weight _ l c n W hl2 (hR.on h)
  have K2 := fun W (h : Below w.heap.size w W) => s_centre _ l c n W hl2 (hR.on h)
  have K3 := fun W (h : Below w.heap.size w W) => s_moment _ l c n 1 W hl2 (hR.on h)
  have K4 := fun W (h : Below w.heap.size w W) => s_moment _ l c n p W hl2 (hR.on h)
  rw [weightR_ok ha, hd1, hw] at K1
  rw [centreR_ok ha, hd1, u1, u2, v1, v2] at K2
  rw [momentR_ok (windy_ok hv hn (by omega) (by omega)), hd1, Int.one_mul, o1, o2] at K3
  simp only [rat] at K1 K2 K3
  have HW0 : 0 < x.wt + wts S := by omega
  have fe : IntKind.i64.wrap (x.wt * x.e) = x.wt * x.e := wrap_fits (by omega) (by omega)
  have fn : IntKind.i64.wrap (x.wt * x.n) = x.wt * x.n := wrap_fits (by omega) (by omega)
  have hnI : (n : Int) < l.length := by omega
  rw [hw] at u4 u5 u6 u9 v4 v5 v6 v9
  have ft1 : (x.wt + wts S).tmod D1 = 0 := tmod_letters (by omega) u5
  have ft2 : (x.wt + wts S).tmod D2 = 0 := tmod_letters (by omega) v5
  have fd1 : (x.wt + wts S).tdiv D1 = g1 := tdiv_letters (by omega) u6
  have fd2 : (x.wt + wts S).tdiv D2 = g2 := tdiv_letters (by omega) v6
  have fp1 : IntKind.i64.wrap (N1 * g1) = x.wt * x.e + es S := part_sum u7 he (by omega) (by omega)
  have fp2 : IntKind.i64.wrap (N2 * g2) = x.wt * x.n + ns S := part_sum v7 hnn (by omega) (by omega)
  have HI := Lib.hid hd1
  have HO := Lib.hid (And.intro o1 o2)
  have F := Lib.hid (And.intro fe (And.intro fn (And.intro ft1 (And.intro ft2 (And.intro fd1 (And.intro fd2 (And.intro fp1 fp2)))))))
  clear fe fn ft1 ft2 fd1 fd2 fp1 fp2 u1 u2 v1 v2 o1 o2 u6 v6 o5 o6 u7 v7 o7 hw he hnn hlen t1 t2 t3 t4 t5 t6 t7 t8 t9 t10 t11 t12 q d1 d2 d3 d4 d5
  have H1 := Lib.hid K1
  have H2 := Lib.hid K2
  have H3 := Lib.hid K3
  have H4 := Lib.hid K4
  have HA := Lib.hid ha
  have HV := Lib.hid hv
  have HALL := Lib.hid hall
  have HX := Lib.hid hx
  clear K1 K2 K3 K4 ha hv hall hxs hd1
  go_enter Try.func4, Try.ntmps4
  go_upto_if 58 with (first
      | (go_at_call 19; ((with_reducible refine (H1.out _ (below_refl _)).mono ?_); rintro e w1 ⟨rfl, b1⟩))
      | (go_at_call 21; ((with_reducible refine (H2.out _ b1).mono ?_); rintro e w2 ⟨rfl, c2⟩; have b2 : Below w.heap.size w w2 := below_tr b1 c2)))
  have B9 := (((Blk.new w2 30 #[.int .i64 N1, .int .i64 D1]).alloc (.cells #[.int .i64 N2, .int .i64 D2] 30)).alloc (.cells #[.int .i64 0, .int .i64 1] 30)).alloc (.cells #[.int .i64 0, .int .i64 1] 30)
  have B10 := ((Blk.new (w2.alloc (.cells #[.int .i64 N1, .int .i64 D1] 30)) 30 #[.int .i64 N2, .int .i64 D2]).alloc (.cells #[.int .i64 0, .int .i64 1] 30)).alloc (.cells #[.int .i64 0, .int .i64 1] 30)
  have B13 := (Blk.new ((w2.alloc (.cells #[.int .i64 N1, .int .i64 D1] 30)).alloc (.cells #[.int .i64 N2, .int .i64 D2] 30)) 30 #[.int .i64 0, .int .i64 1]).alloc (.cells #[.int .i64 0, .int .i64 1] 30)
  have B14 := Blk.new (((w2.alloc (.cells #[.int .i64 N1, .int .i64 D1] 30)).alloc (.cells #[.int .i64 N2, .int .i64 D2] 30)).alloc (.cells #[.int .i64 0, .int .i64 1] 30)) 30 #[.int .i64 0, .int .i64 1]
  have bA := below_tr (below_tr (below_tr (below_tr b2 (below_alloc w2 (.cells #[.int .i64 N1, .int .i64 D1] 30))) (below_alloc _ (.cells #[.int .i64 N2, .int .i64 D2] 30))) (below_alloc _ (.cells #[.int .i64 0, .int .i64 1] 30))) (below_alloc _ (.cells #[.int .i64 0, .int .i64 1] 30))
  simp only [World.size_alloc] at B10 B13 B14
  have z2 := b2.size
  go_cut [12, 15, 16] (fun s12 s15 s16 wx => ∃ (N3 D3 g3 N4 D4 g4 : Int), s12 = .int .i64 (wts S) ∧ s15 = .int .i64 0 ∧ s16 = .int .i64 0 ∧
    Blk wx w2.heap.size 30 #[.int .i64 N1, .int .i64 D1] ∧ Blk wx (w2.heap.size + 1) 30 #[.int .i64 N2, .int .i64 D2] ∧ Blk wx (w2.heap.size + 1 + 1) 30 #[.int .i64 N3, .int .i64 D3] ∧ Blk wx (w2.heap.size + 1 + 1 + 1) 30 #[.int .i64 N4, .int .i64 D4] ∧ Below w.heap.size w wx ∧
    1 ≤ D3 ∧ 1 ≤ D4 ∧ Hid (wts S % D3 = 0 ∧ wts S % D4 = 0 ∧ wts S / D3 = g3 ∧ wts S / D4 = g4 ∧ N3 * g3 = es S ∧ N4 * g4 = ns S) ∧ 0 ≤ g3 ∧ g3 ≤ wts S ∧ 0 ≤ g4 ∧ g4 ≤ wts S ∧ -300000000000 ≤ N3 ∧ N3 ≤ 300000000000 ∧ -300000000000 ≤ N4 ∧ N4 ≤ 300000000000)
  case first =>
    by_cases hlt : n + 1 < l.length
    · have hltI : (n : Int) + 1 < l.length := by omega
      obtain ⟨N3, D3, g3, u1, u2, u3, u4', u5', u6, u7, u8', u9', u10', u11'⟩ := cen (es S) (wts S) 300000000000 (by have := hS1 hlt; omega) (by omega) (by omega)
      obtain ⟨N4, D4, g4, v1, v2, v3, v4', v5', v6, v7, v8', v9', v10', v11'⟩ := cen (ns S) (wts S) 300000000000 (by have := hS1 hlt; omega) (by omega) (by omega)
      have K1 := fun W (h : Below w.heap.size w W) => s_weight _ l c (n + 1 : Nat) W hl2 (hR.on h)
      have K2 := fun W (h : Below w.heap.size w W) => s_centre _ l c (n + 1 : Nat) W hl2 (hR.on h)
      have ha2 := asked_ok HV.out hlt
      rw [weightR_ok ha2, hd2] at K1
      rw [centreR_ok ha2, hd2, u1, u2, v1, v2] at K2
      simp only [rat] at K1 K2
      rw [show ((n + 1 : Nat) : Int) = (n : Int) + 1 from rfl] at K1 K2
      have H5 := Lib.hid K1
      have H6 := Lib.hid K2
      have HG : Hid (wts S % D3 = 0 ∧ wts S % D4 = 0 ∧ wts S / D3 = g3 ∧ wts S / D4 = g4 ∧ N3 * g3 = es S ∧ N4 * g4 = ns S) := ⟨u5', v5', u6, v6, u7, v7⟩
      clear K1 K2 ha2 u1 u2 v1 v2 u5' v5' u6 v6 u7 v7 u5 v5
      go_wp2_with (first
        | (go_at_call 19; ((with_reducible refine (H5.out _ bA).mono ?_); rintro e w5 ⟨rfl, c5⟩; have b5 : Below w.heap.size w w5 := below_tr bA c5))
        | (go_at_call 21; fail))
      refine (H6.out _ b5).mono ?_
      rintro e w6 ⟨rfl, c6⟩
      have b6 := below_tr b5 c6
      have z5 := c5.size
      simp only [World.size_alloc] at z5
      have z6 := c6.size
      have G9 := (B9.below c5 (by simp; omega)).below c6 (by omega)
      have G10 := (B10.below c5 (by simp)).below c6 (by omega)
      have G13 := (B13.below c5 (by simp)).below c6 (by omega)
      have G14 := (B14.below c5 (by simp)).below c6 (by omega)
      obtain ⟨p20, p21, p22, p23⟩ := blk2 G13
      obtain ⟨p30, p31, p32, p33⟩ := blk2 G14
      have y0 : w2.heap.size + 1 + 1 + 1 < w6.heap.size := by omega
      go_wp2
      go_meet
      case rel => exact ⟨N3, D3, g3, N4, D4, g4, rfl, rfl, rfl, (((G9.far (by simp; omega) _).far (by simp; omega) _).far (by simp; omega) _).far (by simp; omega) _, (((G10.far (by simp) _).far (by simp) _).far (by simp) _).far (by simp) _,
        (((G13.set_ 0 _).set_ 1 _).far (by simp) _).far (by simp) _, (((G14.far (by simp) _).far (by simp) _).set_ 0 _).set_ 1 _, (((b6.setCell (by simp; omega) _).setCell (by simp; omega) _).setCell (by simp; omega) _).setCell (by simp; omega) _, u3, v3, HG, u8', u9', v8', v9', u10', u11', v10', v11'⟩
    · have hS := hS0 (by omega)
      have hge : ¬ (n : Int) + 1 < l.length := by omega
      subst hS
      go_wp2
      go_meet
      case rel => exact ⟨0, 1, 0, 0, 1, 0, rfl, rfl, rfl, B9, B10, B13, B14, bA, by omega, by omega, ⟨rfl, rfl, rfl, rfl, rfl, rfl⟩, by omega, by simp [wts], by omega, by simp [wts], by omega, by omega, by omega, by omega⟩
  case rest =>
    obtain ⟨N3, D3, g3, N4, D4, g4, rfl, rfl, rfl, G9, G10, G13, G14, bx, r1, r2, HG, r3, r4, r5, r6, r7, r8, r9, r10⟩ := hcut
    clear B9 B10 B13 B14 bA
    obtain ⟨p00, p01, _, _⟩ := blk2 G9
    obtain ⟨p10, p11, _, _⟩ := blk2 G10
    obtain ⟨p20, p21, _, _⟩ := blk2 G13
    obtain ⟨p30, p31, _, _⟩ := blk2 G14
    obtain ⟨j0, j1, j2, j3, j4, j5⟩ := rdK (hR.on bx) HX.out
    have hG1 := HG.out.1
    have hG2 := HG.out.2.1
    have e1 : ab ≠ w2.heap.size := by omega
    have e2 : ab ≠ w2.heap.size + 1 := by omega
    have e3 : ab ≠ w2.heap.size + 1 + 1 := by omega
    have e4 : ab ≠ w2.heap.size + 1 + 1 + 1 := by omega
    have y0 : w2.heap.size + 1 + 1 + 1 < wc.heap.size := G14.lt
    have y1 : w2.heap.size + 1 + 1 < wc.heap.size := G13.lt
    have y2 : w2.heap.size + 1 < wc.heap.size := G10.lt
    have y3 : w2.heap.size < wc.heap.size := G9.lt
    go_wp2_with (first
      | (go_at_call 23; fail))
    rotate_left
    all_goals try (exfalso; omega)
    clear hG1 hG2
    have bxx := bx.alloc (by have := bx.size; omega) (.cells #[.int .i64 x.h, .int .i64 x.o, .int .i64 x.i, .int .i64 x.wt, .int .i64 x.e, .int .i64 x.n] 35)
    go_cut [185] (fun s wx => s = .bool false ∧ Below w.heap.size w wx)
    case first =>
      obtain ⟨_, _, G1, G2, G3, G4⟩ := HG.out
      obtain ⟨fe, fn, ft1, ft2, fd1, fd2, fp1, fp2⟩ := F.out
      have fd3 : (wts S).tdiv D3 = g3 := tdiv_letters (by omega) G1
      have fd4 : (wts S).tdiv D4 = g4 := tdiv_letters (by omega) G2
      have fp3 : IntKind.i64.wrap (N3 * g3) = es S := part_sum G3 rfl (by omega) (by omega)
      have fp4 : IntKind.i64.wrap (N4 * g4) = ns S := part_sum G4 rfl (by omega) (by omega)
      have fs1 : IntKind.i64.wrap (x.wt * x.e + es S) = x.wt * x.e + es S := wrap_fits (by omega) (by omega)
      have fs2 : IntKind.i64.wrap (x.wt * x.n + ns S) = x.wt * x.n + ns S := wrap_fits (by omega) (by omega)
      have hD1 : ¬ D1 = 0 := by omega
      have hD2 : ¬ D2 = 0 := by omega
      have hD3 : ¬ D3 = 0 := by omega
      have hD4 : ¬ D4 = 0 := by omega
      clear G1 G2 G3 G4 u5 v5
      go_quiet (fail)
      go_wp2
      go_meet
      case rel => exact ⟨rfl, below_drewN bxx _⟩
    case rest =>
      obtain ⟨rfl, by0⟩ := hcut
      clear j0 j1 j2 j3 j4 j5 p00 p01 p10 p11 p20 p21 p30 p31 G9 G10 G13 G14
      obtain ⟨wy, rfl⟩ : ∃ wy : World, wy = wc := ⟨_, rfl⟩
      go_wp2_with (first
        | (go_at_call 23; fail))
      refine (H3.out _ by0).mono ?_
      rintro e w7 ⟨rfl, c7⟩
      have b7 := below_tr by0 c7
      clear c7
      go_wp2_with (first
        | (go_at_call 23; fail))
      have G7 := Blk.new w7 30 #[.int .i64 oN, .int .i64 oD]
      by_cases hpr : 0 ≤ p ∧ p ≤ 10000
      · obtain ⟨hp0, hp1⟩ := hpr
        have K4 := H4.out
        rw [momentR_ok (windy_ok HV.out hn hp0 hp1), HI.out, ← (mom_grow (by omega)).1, ← (mom_grow (by omega)).2, HO.out.1, HO.out.2] at K4
        simp only [rat] at K4
        have mo := mul_bd (a := oN) (b := p) (A := 72000000000000) (B := 10000) (by omega) (by omega) (by omega) (by omega)
        have F1 : Fits (oN * p) := ⟨by omega, by omega⟩
        have F2 : Fits oD := ⟨by omega, by omega⟩
        have F3 : 0 < oD := by omega
        have ow : IntKind.i64.wrap (oN * p) = oN * p := fits_wrap F1
        have hmD := gD_pos (n := oN * p) F3
        have k1 : decide (1 ≤ oD) = true := decide_eq_true (by omega)
        have k2 : decide (1 ≤ gD (oN * p) oD) = true := decide_eq_true (by omega)
        refine (K4 _ (below_tr b7 (below_alloc _ _))).mono ?_
        rintro e w8 ⟨rfl, c8⟩
        clear K4
        have b8 := below_tr (below_tr b7 (below_alloc w7 (.cells #[.int .i64 oN, .int .i64 oD] 30))) c8
        obtain ⟨p70, p71, p72, p73⟩ := blk2 (G7.below c8 (by simp))
        have z8 := c8.size
        rw [World.size_alloc] at z8
        have y7 : w7.heap.size < w8.heap.size := by omega
        have n7 : w7.heap.size ≠ w8.heap.size := by omega
        clear c8
        go_wp2_with (fail)
        first
          | (go_region_held3 (fun w' => w'.cell? ⟨w7.heap.size, 0, none⟩ = some (.int .i64 oN) ∧ w'.cell? ⟨w7.heap.size, 1, none⟩ = some (.int .i64 oD) ∧ w'.cell? ⟨w8.heap.size, 0, none⟩ = some (.int .i64 (gN (oN * p) oD)) ∧ w'.cell? ⟨w8.heap.size, 1, none⟩ = some (.int .i64 (gD (oN * p) oD)))
              ((go_split_ands; refine ⟨?_, ?_, ?_, ?_⟩ <;> (first | (go_keep; done) | assumption | (refine (hc9 _ _ ?_).trans ?_ <;> (first | assumption | omega | (simp; omega) | (go_simp; done))))))
              (first
                | (go_at_call 24; ((with_reducible refine (r_lowest _ _ _ F1 F2 F3).mono ?_); rintro e w9 ⟨rfl, c9⟩; obtain ⟨hc9, hf9⟩ := bcell c9; have y8 : w8.heap.size < w9.heap.size := (by have h := c9.size; (try simp at h); omega); have y9 : w7.heap.size < w9.heap.size := (by omega)))
                | (go_at_call 14; ((with_reducible refine (s_awake _).mono ?_); rintro e w10 ⟨rfl, c10⟩; obtain ⟨hc9, hf9⟩ := bcell c10))))
          | fail
        all_goals go_wp2
        go_ret
        exact ⟨rfl, below_tr (below_tr (below_draw (below_tr b8 (below_alloc _ _))) c9) c10⟩
      · have K4 := H4.out
        have hE := windy_no HV.out (n := n) hpr
        rw [momentR_no (by rw [hE]; omega)] at K4
        generalize windyE l n p 0 = E at K4 hE
        have t1 : (E != 0) = true := by rw [hE]; rfl
        clear hE
        simp only [rat] at K4
        refine (K4 _ (below_tr b7 (below_alloc _ _))).mono ?_
        rintro e w8 ⟨rfl, c8⟩
        clear K4
        have b8 := below_tr (below_tr b7 (below_alloc w7 (.cells #[.int .i64 oN, .int .i64 oD] 30))) c8
        obtain ⟨p70, p71, p72, p73⟩ := blk2 (G7.below c8 (by simp))
        have z8 := c8.size
        rw [World.size_alloc] at z8
        have y7 : w7.heap.size < w8.heap.size := by omega
        have n7 : w7.heap.size ≠ w8.heap.size := by omega
        clear c8
        go_wp2_with (fail)
        refine wp_region_noPanic ?_
        refine wp_region_held_drew (S := fun _ => True) (by kernel_rfl) trivial (fun hS => ?_)
        refine wpAnyH_take (i := 0) (oi := { dst := some 201, op := _, type := _, pos := _, after := _, guard := none }) (v := .int .i64 E) rfl (by kernel_rfl) (by kernel_rfl) (by kernel_rfl) (fun _ _ _ h => h) (Or.inl ⟨by rfl, ?_⟩) (by assumption) ?_
        (focus (intro w' _; go_simp))
        try simp only [Act.put, List.setIfInBounds_toArray, List.set_cons_zero, List.set_cons_succ]
        refine wpAnyH_take (i := 1) (oi := { dst := some 202, op := _, type := _, pos := _, after := _, guard := none }) (v := .bool true) rfl (by kernel_rfl) (by kernel_rfl) (by kernel_rfl) (fun _ _ _ h => h) (Or.inl ⟨by rfl, ?_⟩) (by assumption) ?_
        (focus (intro w' _; go_simp))
        try simp only [Act.put, List.setIfInBounds_toArray, List.set_cons_zero, List.set_cons_succ]
        refine wpAnyH_take (i := 2) (oi := { dst := some 203, op := _, type := _, pos := _, after := _, guard := none }) (v := .bool true) rfl (by kernel_rfl) (by kernel_rfl) (by kernel_rfl) (fun _ _ _ h => h) (Or.inl ⟨by rfl, ?_⟩) (by assumption) ?_
        (focus (intro w' _; go_simp))
        try simp only [Act.put, List.setIfInBounds_toArray, List.set_cons_zero, List.set_cons_succ]
        refine wpAnyH_take (i := 3) (oi := { dst := some 204, op := _, type := _, pos := _, after := _, guard := some (2, false) }) (v := undef) rfl (by kernel_rfl) (by kernel_rfl) (by kernel_rfl) (fun _ _ _ h => h) (Or.inr ⟨by rfl, rfl⟩) (by assumption) ?_
        try simp only [Act.put, List.setIfInBounds_toArray, List.set_cons_zero, List.set_cons_succ]
        refine wpAnyH_take (i := 4) (oi := { dst := some 205, op := _, type := _, pos := _, after := _, guard := some (2, false) }) (v := undef) rfl (by kernel_rfl) (by kernel_rfl) (by kernel_rfl) (fun _ _ _ h => h) (Or.inr ⟨by rfl, rfl⟩) (by assumption) ?_
        try simp only [Act.put, List.setIfInBounds_toArray, List.set_cons_zero, List.set_cons_succ]
        refine wpAnyH_take (i := 5) (oi := { dst := some 206, op := _, type := _, pos := _, after := _, guard := some (2, false) }) (v := undef) rfl (by kernel_rfl) (by kernel_rfl) (by kernel_rfl) (fun _ _ _ h => h) (Or.inr ⟨by rfl, rfl⟩) (by assumption) ?_
        try simp only [Act.put, List.setIfInBounds_toArray, List.set_cons_zero, List.set_cons_succ]
        refine wpAnyH_take (i := 6) (oi := { dst := some 207, op := _, type := _, pos := _, after := _, guard := some (2, false) }) (v := undef) rfl (by kernel_rfl) (by kernel_rfl) (by kernel_rfl) (fun _ _ _ h => h) (Or.inr ⟨by rfl, rfl⟩) (by assumption) ?_
        try simp only [Act.put, List.setIfInBounds_toArray, List.set_cons_zero, List.set_cons_succ]
        refine wpAnyH_take (i := 7) (oi := { dst := some 208, op := _, type := _, pos := _, after := _, guard := some (6, true) }) (v := undef) rfl (by kernel_rfl) (by kernel_rfl) (by kernel_rfl) (fun _ _ _ h => h) (Or.inr ⟨by rfl, rfl⟩) (by assumption) ?_
        try simp only [Act.put, List.setIfInBounds_toArray, List.set_cons_zero, List.set_cons_succ]
        refine wpAnyH_take (i := 8) (oi := { dst := some 209, op := _, type := _, pos := _, after := _, guard := some (6, true) }) (v := undef) rfl (by kernel_rfl) (by kernel_rfl) (by kernel_rfl) (fun _ _ _ h => h) (Or.inr ⟨by rfl, rfl⟩) (by assumption) ?_
        try simp only [Act.put, List.setIfInBounds_toArray, List.set_cons_zero, List.set_cons_succ]
        refine wpAnyH_take (i := 9) (oi := { dst := some 210, op := _, type := _, pos := _, after := _, guard := some (6, true) }) (v := undef) rfl (by kernel_rfl) (by kernel_rfl) (by kernel_rfl) (fun _ _ _ h => h) (Or.inr ⟨by rfl, rfl⟩) (by assumption) ?_
        try simp only [Act.put, List.setIfInBounds_toArray, List.set_cons_zero, List.set_cons_succ]
        refine wpAnyH_take (i := 10) (oi := { dst := some 211, op := _, type := _, pos := _, after := _, guard := some (2, false) }) (v := undef) rfl (by kernel_rfl) (by kernel_rfl) (by kernel_rfl) (fun _ _ _ h => h) (Or.inr ⟨by rfl, rfl⟩) (by assumption) ?_
        try simp only [Act.put, List.setIfInBounds_toArray, List.set_cons_zero, List.set_cons_succ]
        refine wpAnyH_take (i := 11) (oi := { dst := some 212, op := _, type := _, pos := _, after := _, guard := some (2, false) }) (v := undef) rfl (by kernel_rfl) (by kernel_rfl) (by kernel_rfl) (fun _ _ _ h => h) (Or.inr ⟨by rfl, rfl⟩) (by assumption) ?_
        try simp only [Act.put, List.setIfInBounds_toArray, List.set_cons_zero, List.set_cons_succ]
        refine wpAnyH_take (i := 12) (oi := { dst := some 213, op := _, type := _, pos := _, after := _, guard := some (11, true) }) (v := undef) rfl (by kernel_rfl) (by kernel_rfl) (by kernel_rfl) (fun _ _ _ h => h) (Or.inr ⟨by rfl, rfl⟩) (by assumption) ?_
        try simp only [Act.put, List.setIfInBounds_toArray, List.set_cons_zero, List.set_cons_succ]
        refine wpAnyH_take (i := 13) (oi := { dst := some 214, op := _, type := _, pos := _, after := _, guard := some (11, true) }) (v := undef) rfl (by kernel_rfl) (by kernel_rfl) (by kernel_rfl) (fun _ _ _ h => h) (Or.inr ⟨by rfl, rfl⟩) (by assumption) ?_
        try simp only [Act.put, List.setIfInBounds_toArray, List.set_cons_zero, List.set_cons_succ]
        refine wpAnyH_take (i := 14) (oi := { dst := some 215, op := _, type := _, pos := _, after := _, guard := some (11, true) }) (v := undef) rfl (by kernel_rfl) (by kernel_rfl) (by kernel_rfl) (fun _ _ _ h => h) (Or.inr ⟨by rfl, rfl⟩) (by assumption) ?_
        try simp only [Act.put, List.setIfInBounds_toArray, List.set_cons_zero, List.set_cons_succ]
        refine wpAnyH_take (i := 15) (oi := { dst := some 216, op := _, type := _, pos := _, after := _, guard := some (11, true) }) (v := undef) rfl (by kernel_rfl) (by kernel_rfl) (by kernel_rfl) (fun _ _ _ h => h) (Or.inr ⟨by rfl, rfl⟩) (by assumption) ?_
        try simp only [Act.put, List.setIfInBounds_toArray, List.set_cons_zero, List.set_cons_succ]
        refine wpAnyH_take (i := 16) (oi := { dst := some 217, op := _, type := _, pos := _, after := _, guard := some (11, true) }) (v := undef) rfl (by kernel_rfl) (by kernel_rfl) (by kernel_rfl) (fun _ _ _ h => h) (Or.inr ⟨by rfl, rfl⟩) (by assumption) ?_
        try simp only [Act.put, List.setIfInBounds_toArray, List.set_cons_zero, List.set_cons_succ]
        refine wpAnyH_take (i := 17) (oi := { dst := some 218, op := _, type := _, pos := _, after := _, guard := some (11, true) }) (v := undef) rfl (by kernel_rfl) (by kernel_rfl) (by kernel_rfl) (fun _ _ _ h => h) (Or.inr ⟨by rfl, rfl⟩) (by assumption) ?_
        try simp only [Act.put, List.setIfInBounds_toArray, List.set_cons_zero, List.set_cons_succ]
        refine wpAnyH_take (i := 18) (oi := { dst := some 219, op := _, type := _, pos := _, after := _, guard := some (11, true) }) (v := undef) rfl (by kernel_rfl) (by kernel_rfl) (by kernel_rfl) (fun _ _ _ h => h) (Or.inr ⟨by rfl, rfl⟩) (by assumption) ?_
        try simp only [Act.put, List.setIfInBounds_toArray, List.set_cons_zero, List.set_cons_succ]
        refine wpAnyH_take (i := 19) (oi := { dst := some 220, op := _, type := _, pos := _, after := _, guard := some (11, true) }) (v := undef) rfl (by kernel_rfl) (by kernel_rfl) (by kernel_rfl) (fun _ _ _ h => h) (Or.inr ⟨by rfl, rfl⟩) (by assumption) ?_
        try simp only [Act.put, List.setIfInBounds_toArray, List.set_cons_zero, List.set_cons_succ]
        refine wpAnyH_take (i := 20) (oi := { dst := some 221, op := _, type := _, pos := _, after := _, guard := some (11, true) }) (v := undef) rfl (by kernel_rfl) (by kernel_rfl) (by kernel_rfl) (fun _ _ _ h => h) (Or.inr ⟨by rfl, rfl⟩) (by assumption) ?_
        try simp only [Act.put, List.setIfInBounds_toArray, List.set_cons_zero, List.set_cons_succ]
        refine wpAnyH_take (i := 21) (oi := { dst := some 222, op := _, type := _, pos := _, after := _, guard := some (2, false) }) (v := undef) rfl (by kernel_rfl) (by kernel_rfl) (by kernel_rfl) (fun _ _ _ h => h) (Or.inr ⟨by rfl, rfl⟩) (by assumption) ?_
        try simp only [Act.put, List.setIfInBounds_toArray, List.set_cons_zero, List.set_cons_succ]
        refine wpAnyH_take (i := 22) (oi := { dst := some 223, op := _, type := _, pos := _, after := _, guard := none }) (v := .bool true) rfl (by kernel_rfl) (by kernel_rfl) (by kernel_rfl) (fun _ _ _ h => h) (Or.inl ⟨by rfl, ?_⟩) (by assumption) ?_
        (focus (intro w' _; go_simp))
        try simp only [Act.put, List.setIfInBounds_toArray, List.set_cons_zero, List.set_cons_succ]
        refine wpAnyH_take (i := 23) (oi := { dst := some 224, op := _, type := _, pos := _, after := _, guard := none }) (v := .bool true) rfl (by kernel_rfl) (by kernel_rfl) (by kernel_rfl) (fun _ _ _ h => h) (Or.inl ⟨by rfl, ?_⟩) (by assumption) ?_
        (focus (intro w' _; go_simp))
        try simp only [Act.put, List.setIfInBounds_toArray, List.set_cons_zero, List.set_cons_succ]
        refine wpAnyH_ready (rs := [24]) (by kernel_rfl) (by simp) ?_
        refine AllReadyH.cons rfl (fun K hK => ?_) AllReadyH.nil
        go_simp
        refine (s_awake _).mono ?_
        rintro e w10 ⟨rfl, c10⟩
        refine hK.out _ _ trivial (fun hS2 => ?_)
        clear hK K
        try simp only [Act.put, List.setIfInBounds_toArray, List.set_cons_zero, List.set_cons_succ]
        refine wpAnyH_take (i := 25) (oi := { dst := some 226, op := _, type := _, pos := _, after := _, guard := none }) (v := .bool true) rfl (by kernel_rfl) (by kernel_rfl) (by kernel_rfl) (fun _ _ _ h => h) (Or.inl ⟨by rfl, ?_⟩) (by assumption) ?_
        (focus (intro w' _; go_simp))
        try simp only [Act.put, List.setIfInBounds_toArray, List.set_cons_zero, List.set_cons_succ]
        refine wpAnyH_take (i := 26) (oi := { dst := some 6, op := _, type := _, pos := _, after := _, guard := none }) (v := .bool true) rfl (by kernel_rfl) (by kernel_rfl) (by kernel_rfl) (fun _ _ _ h => h) (Or.inl ⟨by rfl, ?_⟩) (by assumption) ?_
        (focus (intro w' _; go_simp))
        try simp only [Act.put, List.setIfInBounds_toArray, List.set_cons_zero, List.set_cons_succ]
        refine wpAnyH_done (by kernel_rfl) (NoPanic.normal ?_) _
        go_wp2
        go_ret
        exact ⟨rfl, below_tr (below_draw (below_tr b8 (below_alloc _ _))) c10⟩
end Go.Proofs.Ythoemokkfijfeaa
