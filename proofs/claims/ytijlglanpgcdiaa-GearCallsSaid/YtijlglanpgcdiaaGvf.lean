/- Gear: GearLess walked. -/
import Derived.Test.YtijlglanpgcdiaaGve
set_option linter.unusedSimpArgs false
set_option linter.unusedVariables false
namespace Go.Proofs.Ytijlglanpgcdiaa
open Go.RowKit Go.Maps

theorem zC_one (L : List Int) : ∀ u ∈ fl zC L, u.oneCell' = true := by
  intro u hu
  simp only [fl, List.mem_flatMap] at hu
  obtain ⟨y, _, hy⟩ := hu
  simp only [zC, List.mem_cons, List.not_mem_nil, or_false] at hy
  subst hy; rfl
set_option maxHeartbeats 4000000 in
set_option maxRecDepth 20000 in
theorem l_GearLess (A : Option Addr) (g : List It) (c : Nat) (B : Option Addr) (r : List Lk) (d : Nat) (C : Option Addr) (back : List ByteArray) (cb : Nat) (day : Int) (D : Option Addr) (L : List Int) (f : Nat) (ear : Int) (F : Option Addr) (M : List Int) (cm : Nat) (w : World) (hl0 : g.length ≤ maxLen) (hR : Rd It.cs 4 w A g) (hW : ∀ x ∈ g, IW x) (hn0 : r.length ≤ maxLen) (hS : Rd Lk.cs 2 w B r) (hV : ∀ x ∈ r, LW x) (hbk0 : back.length ≤ maxLen) (hC : Rd sC 1 w C back) (_ : ∀ x ∈ back, x.size ≤ maxLen) (_ : (Lit.int .i64 day).wf = true) (hk0 : L.length ≤ maxLen) (hL : Rd zC 1 w D L) (_ : ∀ x ∈ L, True) (_ : (Lit.int .i64 ear).wf = true) (hm0 : M.length ≤ maxLen) (hM : Rd zC 1 w F M) (_ : ∀ x ∈ M, True) :
    Calls Try.prog 8 #[.slice A g.length c, .slice B r.length d, .slice C back.length cb, .int .i64 day, .slice D L.length f, .int .i64 ear, .slice F M.length cm] w fun e w' => e = .returned (.bool true) ∧ Below w.heap.size w w' := by
  have HM := Lib.hid (fun W (h : Below w.heap.size w W) => l_many A B g r c d W hl0 hn0 (hR.on h) hW (hS.on h) hV)
  by_cases hsh : g.length ≤ 80 ∧ r.length ≤ 40
  rotate_left
  · clear hR hW hS hV hL hC hM hl0 hn0 hk0
    go_enter Try.func8, Try.ntmps8
    go_wp2_with (go_at_call 11; ((with_reducible refine (l_awake _).mono ?_); rintro e w1 ⟨rfl, hb1⟩; obtain ⟨hc1, hf1⟩ := bcell hb1; have hz1 := hb1.size; (try simp [sz_drew, sz_drewN] at hz1); (try simp only [sz_drew, sz_drewN] at hc1 hf1)))
    refine (HM.out _ hb1).mono ?_
    rintro e w2 ⟨v, rfl, ⟨b, rfl, hbb⟩, hb2⟩
    have B2 := below_tr hb1 hb2
    obtain rfl : b = true := by cases b; exact absurd (hbb rfl) hsh; rfl
    go_wp2
    go_ret
    exact ⟨rfl, B2⟩
  have hl : g.length ≤ 100000 := by omega
  have hn : r.length ≤ 100000 := by omega
  by_cases hk100 : 100 < (back.length : Int) ∨ 40 < (L.length : Int) ∨ 40 < (M.length : Int)
  · clear hR hW hS hV hL hC hM hl0 hn0
    unfold maxLen at hk0 hbk0 hm0
    rcases (by omega : 100 < (back.length : Int) ∨ (¬ 100 < (back.length : Int) ∧ 40 < (L.length : Int)) ∨ (¬ 100 < (back.length : Int) ∧ ¬ 40 < (L.length : Int) ∧ 40 < (M.length : Int))) with h1 | ⟨h1, h2⟩ | ⟨h1, h2, h3⟩
    all_goals
      clear hk100
      go_enter Try.func8, Try.ntmps8
      go_wp2_with (go_at_call 11; ((with_reducible refine (l_awake _).mono ?_); rintro e w1 ⟨rfl, hb1⟩; obtain ⟨hc1, hf1⟩ := bcell hb1; have hz1 := hb1.size; (try simp [sz_drew, sz_drewN] at hz1); (try simp only [sz_drew, sz_drewN] at hc1 hf1)))
      refine (HM.out _ hb1).mono ?_
      rintro e w2 ⟨v, rfl, ⟨b, rfl, hbb⟩, hb2⟩
      have B2 := below_tr hb1 hb2
      cases b
      all_goals
        go_wp2
        go_ret
        exact ⟨rfl, B2⟩
  have hbk1 : ¬ 100 < (back.length : Int) := by omega
  have hk1 : ¬ 40 < (L.length : Int) := by omega
  have hm1 : ¬ 40 < (M.length : Int) := by omega
  have hbk : back.length ≤ 100000 := by omega
  have hk : L.length ≤ 100000 := by omega
  have hm : M.length ≤ 100000 := by omega
  clear hk100
  have H1 := Lib.hid (fun W (h : Below w.heap.size w W) => p_May A B C D g r back day L c d cb f W hl hn hbk hk (hR.on h) hW (hS.on h) hV (hC.on h) (hL.on h))
  have H2 := Lib.hid (fun W (h : Below w.heap.size w W) => p_Until A B g r c d W hl hn (hR.on h) hW (hS.on h) hV)
  go_enter Try.func8, Try.ntmps8
  go_wp2_with (go_at_call 11; ((with_reducible refine (l_awake _).mono ?_); rintro e w1 ⟨rfl, hb1⟩; obtain ⟨hc1, hf1⟩ := bcell hb1; have hz1 := hb1.size; (try simp [sz_drew, sz_drewN] at hz1); (try simp only [sz_drew, sz_drewN] at hc1 hf1)))
  refine (HM.out _ hb1).mono ?_
  rintro e w2 ⟨v, rfl, ⟨b, rfl, _⟩, hb2⟩
  have B2 := below_tr hb1 hb2
  clear hb1 hb2 hc1 hf1 hz1
  cases b
  rotate_left
  · go_wp2
    go_ret
    exact ⟨rfl, B2⟩
  by_cases hE : wkE g r back day L = 0
  rotate_left
  · have hE' : (wkE g r back day L != 0) = true := by simpa using hE
    generalize wkE g r back day L = E at *
    generalize mayB g r back day L = X at *
    clear hE
    go_wp2_with (go_at_call 38; ((with_reducible refine (H1.out _ B2).mono ?_); rintro e w3 ⟨rfl, hb3⟩; have B3 := below_tr B2 hb3))
    go_ret
    exact ⟨rfl, B3⟩
  obtain ⟨hvr, hb100, hday, hld⟩ := wkE_z.1 hE
  have hsE : shE g r = 0 := by unfold shE; rw [if_pos hvr]
  have hun := unI_is hvr
  have hv := vr_of hvr
  rw [hE] at H1
  rw [hsE, hun] at H2
  have hu0 := unN_nn hv
  have hu1 := unN_max g r r.length
  cases hX : mayB g r back day L
  · rw [hX] at H1
    generalize unN g r r.length = U at *
    clear hE hX
    go_wp2_with (first
      | (go_at_call 38; ((with_reducible refine (H1.out _ B2).mono ?_); rintro e w3 ⟨rfl, hb3⟩; have B3 := below_tr B2 hb3))
      | (go_at_call 31; ((with_reducible refine (H2.out _ B3).mono ?_); rintro e w4 ⟨rfl, hb4⟩; have B4 := below_tr B3 hb4)))
    go_ret
    exact ⟨rfl, B4⟩
  rw [hX] at H1
  have hdu := may_until hX
  have hdu' : ¬ unN g r r.length < day := by omega
  obtain ⟨hd0, hd1⟩ := wn_iff.1 hday
  by_cases he : ear < 0 ∨ day < ear
  · generalize unN g r r.length = U at *
    clear hE hX
    rcases (by omega : ear < 0 ∨ (¬ ear < 0 ∧ day < ear)) with h1 | ⟨h1, h2⟩
    all_goals
      go_wp2_with (first
        | (go_at_call 38; ((with_reducible refine (H1.out _ B2).mono ?_); rintro e w3 ⟨rfl, hb3⟩; have B3 := below_tr B2 hb3))
        | (go_at_call 31; ((with_reducible refine (H2.out _ B3).mono ?_); rintro e w4 ⟨rfl, hb4⟩; have B4 := below_tr B3 hb4)))
      go_ret
      exact ⟨rfl, B4⟩
  have he0 : ¬ ear < 0 := by omega
  have he1 : ¬ day < ear := by omega
  clear he
  have hep := end_pos hv
  obtain ⟨hl1, hl2⟩ := ldE_z hld
  have HOK := Lib.hid (okL_getD hl2)
  have HLE := Lib.hid (lsS_le (fun i => (okL_getD hl2 i).1) M)
  have H3 : Hid (∀ (k : Nat) (d' : Int), 0 ≤ d' → d' ≤ unN g r r.length → ∀ W, Below w.heap.size w W → ∀ D' f', Rd zC 1 W D' (lsS L M k) → Calls Try.prog 38 #[.slice A g.length c, .slice B r.length d, .slice C back.length cb, .int .i64 d', .slice D' L.length f'] W fun e w' => e = .returned (.tuple #[.bool true, .int .i64 0]) ∧ Below W.heap.size W w') := Lib.hid (fun k d' h0 h1 W hb D' f' hRd => by
    obtain ⟨a, b⟩ := may_less hX (wn_iff.2 ⟨h0, by omega⟩) h1 (HLE.out k)
    have := p_May A B C D' g r back d' (lsS L M k) c d cb f' W hl hn hbk (by rw [(HLE.out k).1]; exact hk) (hR.on hb) hW (hS.on hb) hV (hC.on hb) hRd
    rwa [a, b, (HLE.out k).1] at this)
  obtain ⟨z0, db, doff, _, rfl, _, _⟩ := rd_int hL (show 0 < L.length by omega)
  have HR3 := Lib.hid (fun W (h : Below w.heap.size w W) => rd_fl zC_len (hL.on h))
  have HO := Lib.hid (zC_one L)
  obtain ⟨i0, hi, hi1, hi2, hi3⟩ := info_int2
  generalize unN g r r.length = U at *
  have hLp : 0 < L.length := by omega
  clear hE hX hld hl1 hl2 hv hvr hep
  go_wp2_with (first
    | (go_at_call 38; ((with_reducible refine (H1.out _ B2).mono ?_); rintro e w3 ⟨rfl, hb3⟩; have B3 := below_tr B2 hb3))
    | (go_at_call 31; ((with_reducible refine (H2.out _ B3).mono ?_); rintro e w4 ⟨rfl, hb4⟩; have B4 := below_tr B3 hb4))
    | (at_builtin; go_loud (refine wpList_append_own _ rfl _ _ 30 rfl w4.heap.size 3 i0 (.int .i64 0) 1 8 (by kernel_rfl) hi hi1 hi2 hi3 rfl (by omega) _ _ _ rfl (own_none w4 _ 1) ⟨db, doff, none⟩ L.length f (fl zC L) rfl (fl_length zC_len L) (HR3.out _ (bl_alloc B4 _)) HO.out (by unfold maxLen; omega) (by omega) (by simp) ?_; intro v w5 hown hgrow _; rw [Nat.zero_add, List.nil_append] at hown; have hb5 : Below w4.heap.size w4 w5 := bl_grown (below_alloc w4 _) hgrow (fun r hr => by cases hr; exact Nat.le_refl _) (by simp); obtain ⟨gl, cap, rfl, hgl, HL5⟩ := own_LI hown (by omega))))
  have B5 := below_tr B4 hb5
  have gl0 : w.heap.size ≤ gl := by have := B4.size; omega
  clear hb3 hb4 hb5 hown hgrow B3 B4 B2
  go_loopw [20] (fun i wr => ∃ k : Nat, k ≤ L.length ∧ i = .int .i64 k ∧ Below w.heap.size w wr ∧ LI wr gl (lsS L M k)) (fun i _ => L.length - (intOf i).toNat)
  case atStart => exact ⟨0, by omega, rfl, B5, HL5⟩
  case round =>
    clear B5 HL5
    obtain ⟨k, hk, rfl, hbw, HLL⟩ := hrel
    have k0 : (0 : Int) ≤ (k : Int) := Int.natCast_nonneg _
    have hll := (HLE.out k).1
    by_cases hlt : k < L.length ∧ k < M.length
    · have k1 : (k : Int) < (L.length : Int) := by omega
      have k2 : (k : Int) < (M.length : Int) := by omega
      obtain ⟨t, ht⟩ := get_lt (show k < (lsS L M k).length by omega)
      obtain ⟨y, yb, yo, hy, rfl, hyb, q0⟩ := rd_int (hM.on hbw) hlt.2
      have q1 := HLL.cell ht
      have q2 := HLL.frozen k
      have hst : lsS L M (k + 1) = if 0 ≤ y ∧ y ≤ t then (lsS L M k).set k (t - y) else lsS L M k := by
        show (if 0 ≤ M.getD k 0 ∧ M.getD k 0 ≤ (lsS L M k).getD k 0 then (lsS L M k).set k ((lsS L M k).getD k 0 - M.getD k 0) else lsS L M k) = _
        rw [getD_of hy, getD_of ht]
      have htb := (HLE.out k).2 k
      rw [getD_of ht] at htb
      have hLb := HOK.out k
      obtain ⟨t0, t1⟩ := htb
      obtain ⟨L0, L1⟩ := hLb
      have tm : t ≤ 1000000 := by omega
      have HT := Lib.hid ht
      have hybl : yb ≠ gl := by
        obtain ⟨_, _, _, _, e0, hb0, _⟩ := rd_int hM hlt.2
        cases e0; omega
      clear hy ht t1 L0 L1
      by_cases hc0 : 0 ≤ y
      · by_cases hc1 : y ≤ t
        · have HST := Lib.hid (show lsS L M (k + 1) = (lsS L M k).set k (t - y) by rw [hst, if_pos ⟨hc0, hc1⟩])
          clear hst
          go_wp2
          go_quiet (fail)
          go_wp2
          refine wp_region_still_tail 10 (by kernel_rfl) (by kernel_rfl) ?_
          change wpStill _ _ (World.drew _) _ _ _
          simp only [List.take_succ_cons, List.take_zero, List.drop_succ_cons, List.drop_zero]
          repeat still_step
          refine wpStill_nil ?_
          change wpList _ _ _ _ _ (World.drew _)
          go_wp2
          go_roundw
          case rel => exact ⟨k + 1, by omega, by go_num, (below_draw (below_drewN hbw nq)).setCell (p := ⟨gl, k, none⟩) gl0 _, by rw [HST.out]; exact (HLL.drewN nq).drew.set HT.out _⟩
          case measure => simp [intOf]; omega
        · have HST := Lib.hid (show lsS L M (k + 1) = lsS L M k by rw [hst, if_neg (by omega)])
          clear hst
          go_wp2
          go_quiet (fail)
          go_wp2
          go_roundw
          case rel => exact ⟨k + 1, by omega, by go_num, below_drewN hbw nq, by rw [HST.out]; exact HLL.drewN nq⟩
          case measure => simp [intOf]; omega
      · have HST := Lib.hid (show lsS L M (k + 1) = lsS L M k by rw [hst, if_neg (by omega)])
        have hc2 : decide (0 ≤ y) = false := decide_eq_false hc0
        clear hst
        go_wp2
        go_quiet (fail)
        go_wp2
        go_roundw
        case rel => exact ⟨k + 1, by omega, by go_num, below_drewN hbw nq, by rw [HST.out]; exact HLL.drewN nq⟩
        case measure => simp [intOf]; omega
    · have hr5 := HLL.rd
      have e0 : (0 : Int) ≤ ear := by omega
      have u1 : ear ≤ U := by omega
      rcases (by omega : (¬ (k : Int) < (L.length : Int)) ∨ ((k : Int) < (L.length : Int) ∧ ¬ (k : Int) < (M.length : Int))) with h1 | ⟨h1, h2⟩
      all_goals
        clear hlt
        go_wp2_with (first
          | (go_at_call 38; ((with_reducible refine (H3.out k ear e0 u1 _ hbw _ _ hr5).mono ?_); rintro e w6 ⟨rfl, hb6⟩; have B6 := below_tr hbw hb6; have hr6 := hr5.on hb6))
          | (go_at_call 38; ((with_reducible refine (H3.out k U hu0 (Int.le_refl _) _ B6 _ _ hr6).mono ?_); rintro e w7 ⟨rfl, hb7⟩; have B7 := below_tr B6 hb7)))
        go_ret
        exact ⟨rfl, B7⟩
end Go.Proofs.Ytijlglanpgcdiaa
