/- Stack: shifted stacks by the reference; the statement on moves. -/
import Derived.Test.YthoemokkfijfeaaSx
namespace Go.Proofs.Ythoemokkfijfeaa
open Go.RowKit

set_option maxHeartbeats 1000000 in
theorem r_shifted (A : Option Addr) (l : List Course) (c : Nat) (a1 a2 : Int) (w : World) (hl : l.length ≤ 100000) (hR : Rd Course.cs 6 w A l) :
    Calls Try.prog 29 #[.slice A l.length c, .int .i64 a1, .int .i64 a2] w fun e w' => ∃ v, e = .returned (.tuple #[v, .int .i64 (shiftE l a1 a2)]) ∧ GotS (shiftE l a1 a2) w' w.heap.size v (l.map (shift a1 a2)) ∧ Below w.heap.size w w' := by
  have HC := Lib.hid (r_valid A l c w hl hR)
  cases hv : validC l
  · rw [hv] at HC
    have hE : shiftE l a1 a2 = 1 := by simp [shiftE, hv]
    rw [hE]
    clear hv hE
    go_enter Try.func29, Try.ntmps29
    go_wp2_with (go_at_call 18; refine HC.out.mono ?_; rintro e w1 ⟨rfl, hb1⟩)
    go_ret2
    exact ⟨_, rfl, got_no (by decide), hb1⟩
  · rw [hv] at HC
    cases h1 : wn a1 (-10000) 10000
    · have hE : shiftE l a1 a2 = 7 := by simp [shiftE, hv, h1]
      have H1 := Lib.hid h1
      rw [hE]
      clear hv hE h1
      go_enter Try.func29, Try.ntmps29
      go_wp2_with (first
        | (go_at_call 18; refine HC.out.mono ?_; rintro e w1 ⟨rfl, hb1⟩)
        | (go_at_call 60; refine (r_within _ _ _ _).mono ?_; rintro e w' ⟨rfl, rfl⟩; rw [H1.out]))
      go_ret2
      exact ⟨_, rfl, got_no (by decide), hb1⟩
    · cases h2 : wn a2 (-10000) 10000
      · have hE : shiftE l a1 a2 = 7 := by simp [shiftE, hv, h2]
        have H1 := Lib.hid h1
        have H2 := Lib.hid h2
        rw [hE]
        clear hv hE h1 h2
        go_enter Try.func29, Try.ntmps29
        go_wp2_with (first
          | (go_at_call 18; refine HC.out.mono ?_; rintro e w1 ⟨rfl, hb1⟩)
          | (go_at_call 60; refine (r_within _ _ _ _).mono ?_; rintro e w' ⟨rfl, rfl⟩; first | rw [H1.out] | rw [H2.out]))
        go_ret2
        exact ⟨_, rfl, got_no (by decide), hb1⟩
      · have hE : shiftE l a1 a2 = (if validC (l.map (shift a1 a2)) then 0 else 4) := by simp [shiftE, hv, h1, h2]
        obtain ⟨hall, hl1, hl2⟩ := valid_all hv
        obtain ⟨b, off, rfl, hblt, _⟩ := hR (by rintro rfl; simp at hl1)
        have HR := Lib.hid (fun W o (h : Below w.heap.size w W) => rd_flat ((hR.on h).on (below_alloc W o)))
        obtain ⟨i0, hi, hi1, hi2, hi3⟩ := info_course
        have HA := Lib.hid hall
        have HE := Lib.hid hE
        have H1 := Lib.hid h1
        have H2 := Lib.hid h2
        rw [wn_iff] at h1 h2
        obtain ⟨h11, h12⟩ := h1
        obtain ⟨h21, h22⟩ := h2
        have HM := Lib.hid (fun A' c' W (h : Rd Course.cs 6 W A' (l.map (shift a1 a2))) => r_valid A' (l.map (shift a1 a2)) c' W (by simp; omega) h)
        generalize shiftE l a1 a2 = E at *
        clear hv hE hall
        go_enter Try.func29, Try.ntmps29
        go_wp2_with (first
          | (go_at_call 18; refine HC.out.mono ?_; rintro e w1 ⟨rfl, hb1⟩)
          | (go_at_call 60; refine (r_within _ _ _ _).mono ?_; rintro e w' ⟨rfl, rfl⟩; first | rw [H1.out] | rw [H2.out])
          | (at_builtin; go_loud (refine wpList_append_own _ rfl _ _ 22 rfl w1.heap.size 35 i0 _ 6 48 (by kernel_rfl) hi hi1 hi2 hi3 rfl (by omega) _ _ _ rfl (own_empty w1 _ 6) ⟨b, off, none⟩ l.length c (flat l) rfl (flat_length l) (HR.out _ _ hb1) (flat_one l) (by unfold maxLen; omega) (by omega) (by simp) ?_; intro v w2 hown hgrow _; rw [Nat.zero_add, List.nil_append] at hown; have hb2 : Below w1.heap.size w1 w2 := below_grown (below_alloc w1 _) hgrow (fun r hr => by cases hr; exact Nat.le_refl _) (by simp); obtain ⟨g, cap, cur, rfl, hg, hbk, hcur⟩ := ownS_of hown (by omega))))
        go_loopw [9] (fun i wr => ∃ k : Nat, k ≤ l.length ∧ i = .int .i64 k ∧ Below w.heap.size w wr ∧ ∃ cur, Blk wr g 35 cur ∧ Hid (∀ (k' : Nat) x, (mixF (shift a1 a2) k l)[k']? = some x → ∀ (r : Nat) u, (Course.cs x)[r]? = some u → cur[k' * 6 + r]? = some u)) (fun i _ => l.length - (intOf i).toNat)
        case atStart => exact ⟨0, by omega, rfl, below_tr hb1 hb2, cur, hbk, by show ∀ _, _; rw [mixF_zero]; exact hcur⟩
        case round =>
          obtain ⟨k, hk, rfl, hbw3, cur3, hbk3, HC3⟩ := hrel
          have hk0 : (0 : Int) ≤ (k : Int) := Int.natCast_nonneg _
          have hgw : w.heap.size ≤ g := by have := hb1.size; omega
          by_cases hkl : k < l.length
          · have hkl2 : (k : Int) < (l.length : Int) := by omega
            obtain ⟨x, hx⟩ := get_lt hkl
            have hcb : CB x := cb_of (List.all_eq_true.1 HA.out x (List.mem_of_getElem? hx))
            have hmx := mixF_get (f := shift a1 a2) hx
            have q4 := (hbk3.cell (k * 6 + 4)).trans (HC3.out k x hmx 4 _ rfl)
            have q5 := (hbk3.cell (k * 6 + 5)).trans (HC3.out k x hmx 5 _ rfl)
            have f4 := hbk3.frozen (k * 6 + 4)
            have f5 := hbk3.frozen (k * 6 + 5)
            obtain ⟨d1, d2, d3, d4, d5, d6, d7, d8, d9, d10, d11⟩ := hcb
            have HX := Lib.hid hx
            clear hx hmx
            go_wp2
            go_region
            all_goals go_wp2
            all_goals go_roundw
            all_goals first
              | exact ⟨k + 1, by omega, by go_num, below_draw ((hbw3.setCell (p := ⟨g, _, none⟩) hgw _).setCell (p := ⟨g, _, none⟩) hgw _), _, ((hbk3.set_ _ _).set_ _ _).drew, by show ∀ _, _; rw [← mixF_set HX.out]; exact upd_at HC3.out (mixF_get HX.out) rfl⟩
              | (simp [intOf]; omega)
          · obtain rfl : k = l.length := by omega
            have hmix := HC3.out
            rw [mixF_all] at hmix
            have hown : OwnS wr w.heap.size (.slice (some ⟨g, 0, none⟩) l.length cap) (l.map (shift a1 a2)) := ⟨g, cap, cur3, by rw [List.length_map], hgw, hbk3, hmix⟩
            have hrd : Rd Course.cs 6 wr (some ⟨g, 0, none⟩) (l.map (shift a1 a2)) := fun _ => ⟨g, 0, rfl, hbk3.lt, fun k x hx r u hu => by rw [Nat.zero_add, hbk3.cell]; exact hmix k x hx r u hu⟩
            have HVV := Lib.hid (HM.out _ cap wr hrd)
            rw [List.length_map] at HVV
            have HO := Lib.hid hown
            clear hmix hown hrd
            cases hvm : validC (l.map (shift a1 a2))
            · rw [hvm] at HE HVV
              clear hvm
              go_wp2_with (go_at_call 18; refine HVV.out.mono ?_; rintro e w5 ⟨rfl, hb5⟩)
              go_ret2
              exact ⟨_, by rw [HE.out]; rfl, got_no (by rw [HE.out]; decide), hbw3.trans (hb5.mono hbw3.size)⟩
            · rw [hvm] at HE HVV
              clear hvm
              go_wp2_with (go_at_call 18; refine HVV.out.mono ?_; rintro e w5 ⟨rfl, hb5⟩)
              go_ret2
              exact ⟨_, by rw [HE.out]; rfl, got_ok (by rw [HE.out]; rfl) (HO.out.on hb5), hbw3.trans (hb5.mono hbw3.size)⟩

theorem GotS.on {E : Int} {W W' : World} {base : Nat} {v : Value} {l : List Course} (h : GotS E W base v l) (hb : Below W.heap.size W W') : GotS E W' base v l := by
  unfold GotS at *
  by_cases hE : E = 0
  · rw [if_pos hE] at h ⊢; exact h.on hb
  · rw [if_neg hE] at h ⊢; exact h
def gotL (E : Int) (l : List Course) : List Course := if E = 0 then l else []
theorem got_rd {E : Int} {W : World} {base : Nat} {v : Value} {l : List Course} (h : GotS E W base v l) : ∃ A c, v = .slice A (gotL E l).length c ∧ Rd Course.cs 6 W A (gotL E l) := by
  unfold GotS at h
  unfold gotL
  by_cases hE : E = 0
  · rw [if_pos hE] at h ⊢; exact h.rd
  · rw [if_neg hE] at h ⊢; exact ⟨none, 0, h, Rd.nil_⟩
theorem got_rd' {E : Int} {W : World} {base n c : Nat} {A : Option Addr} {l : List Course} (h : GotS E W base (.slice A n c) l) : Rd Course.cs 6 W A (gotL E l) := by
  obtain ⟨A', c', e, hr⟩ := got_rd h
  cases e; exact hr
theorem turned_got {W : World} {base : Nat} {v : Value} {l L : List Course} (h : if validC l then OwnS W base v L else v = .slice none 0 0) : GotS (turnedE l) W base v L := by
  unfold GotS turnedE
  cases hv : validC l <;> simp [hv] at h ⊢ <;> exact h
theorem gotL_len (E : Int) (l : List Course) : (gotL E l).length ≤ l.length := by unfold gotL; split <;> simp

set_option maxRecDepth 20000 in
theorem r_same (A B : Option Addr) (l : List Course) (c d : Nat) (w : World) (hl : l.length ≤ 100000) (hA : Rd Course.cs 6 w A l) (hB : Rd Course.cs 6 w B l) :
    Calls Try.prog 27 #[.slice A l.length c, .slice B l.length d] w fun e w' => e = .returned (.bool true) ∧ Below w.heap.size w w' := by
  go_enter Try.func27, Try.ntmps27
  go_wp2
  go_loopw [5] (fun i wr => ∃ k : Nat, k ≤ l.length ∧ i = .int .i64 k ∧ Below w.heap.size w wr) (fun i _ => l.length - (intOf i).toNat)
  case atStart => exact ⟨0, by omega, rfl, Below.refl _ _⟩
  case round =>
    obtain ⟨k, hk, rfl, hbw⟩ := hrel
    have hk0 : (0 : Int) ≤ (k : Int) := Int.natCast_nonneg _
    by_cases hkl : k < l.length
    · have hkl2 : (k : Int) < (l.length : Int) := by omega
      obtain ⟨x, b, off, hx, rfl, hb, c0, c1, c2, c3, c4, c5⟩ := rdC (hA.on hbw) hkl
      obtain ⟨y, b', off', hy, rfl, hb', e0, e1, e2, e3, e4, e5⟩ := rdC (hB.on hbw) hkl
      obtain rfl : x = y := by rw [hx] at hy; exact Option.some.inj hy
      clear hx hy
      go_wp2
      go_region
      all_goals go_wp2
      all_goals go_roundw
      all_goals first
        | exact ⟨k + 1, by omega, by go_num, below_draw hbw⟩
        | (simp [intOf]; omega)
    · go_wp2
      go_ret
      exact ⟨rfl, hbw⟩

set_option maxHeartbeats 2000000 in
set_option maxRecDepth 20000 in
theorem l_moves (A : Option Addr) (l : List Course) (c : Nat) (n0 n1 n2 : Int) (w : World) (hl : l.length ≤ maxLen) (hR : Rd Course.cs 6 w A l) :
    Calls Try.prog 5 #[.slice A l.length c, .agg #[.int .i64 n0, .int .i64 n1, .int .i64 n2]] w fun e w' => e = .returned (.bool true) ∧ Below w.heap.size w w' := by
  unfold maxLen at hl
  by_cases h : l.length ≤ 100
  · have hl2 : l.length ≤ 100000 := by omega
    have H1 := Lib.hid (fun W (h : Below w.heap.size w W) => s_turned A l c n0 W hl2 (hR.on h))
    have H2 := Lib.hid (fun W (h : Below w.heap.size w W) => r_turned A l c n0 W hl2 (hR.on h))
    have H3 := Lib.hid (fun W (h : Below w.heap.size w W) => s_shifted A l c n1 n2 W hl2 (hR.on h))
    have H4 := Lib.hid (fun W (h : Below w.heap.size w W) => r_shifted A l c n1 n2 W hl2 (hR.on h))
    have tul : ∀ E, (gotL E (turnN (quart n0) l)).length ≤ 100000 := fun E => by have := gotL_len E (turnN (quart n0) l); rw [turnN_length] at this; omega
    have shl : ∀ E, (gotL E (l.map (shift n1 n2))).length ≤ 100000 := fun E => by have := gotL_len E (l.map (shift n1 n2)); rw [List.length_map] at this; omega
    generalize shiftE l n1 n2 = se at *
    go_enter Try.func5, Try.ntmps5
    go_wp2_with (first
      | (go_at_call 25; refine (H1.out _ (below_alloc _ _)).mono ?_; rintro e w1 ⟨v1, rfl, g1, c1⟩; have g1 := turned_got g1; obtain ⟨a1, m1, rfl, _⟩ := got_rd g1; have b1 : Below w.heap.size w w1 := below_tr (below_alloc w (.cells #[.int .i64 n0, .int .i64 n1, .int .i64 n2] 40)) c1; have d1 : Blk w1 w.heap.size 40 #[.int .i64 n0, .int .i64 n1, .int .i64 n2] := (Blk.new w _ _).below c1 (by simp); have q10 : w1.cell? ⟨w.heap.size, 0, none⟩ = some (.int .i64 n0) := d1.cell 0; have q11 : w1.cell? ⟨w.heap.size, 1, none⟩ = some (.int .i64 n1) := d1.cell 1; have q12 : w1.cell? ⟨w.heap.size, 2, none⟩ = some (.int .i64 n2) := d1.cell 2; have y1 : w.heap.size < w1.heap.size := d1.lt)
      | (go_at_call 26; refine (H2.out _ b1).mono ?_; rintro e w2 ⟨v2, rfl, g2, c2⟩; have g2 := turned_got g2; obtain ⟨a2, m2, rfl, r2⟩ := got_rd g2; have r1 := got_rd' (g1.on c2); have b2 : Below w.heap.size w w2 := below_tr b1 c2; have d2 : Blk w2 w.heap.size 40 #[.int .i64 n0, .int .i64 n1, .int .i64 n2] := d1.below c2 d1.lt; have q20 : w2.cell? ⟨w.heap.size, 0, none⟩ = some (.int .i64 n0) := d2.cell 0; have q21 : w2.cell? ⟨w.heap.size, 1, none⟩ = some (.int .i64 n1) := d2.cell 1; have q22 : w2.cell? ⟨w.heap.size, 2, none⟩ = some (.int .i64 n2) := d2.cell 2; have y2 : w.heap.size < w2.heap.size := d2.lt)
      | (go_at_call 28; refine (H3.out _ b3).mono ?_; rintro e w4 ⟨v4, rfl, g4, c4⟩; obtain ⟨a4, m4, rfl, _⟩ := got_rd g4; have b4 : Below w.heap.size w w4 := below_tr b3 c4; have d4 : Blk w4 w.heap.size 40 #[.int .i64 n0, .int .i64 n1, .int .i64 n2] := d3.below c4 d3.lt; have q40 : w4.cell? ⟨w.heap.size, 0, none⟩ = some (.int .i64 n0) := d4.cell 0; have q41 : w4.cell? ⟨w.heap.size, 1, none⟩ = some (.int .i64 n1) := d4.cell 1; have q42 : w4.cell? ⟨w.heap.size, 2, none⟩ = some (.int .i64 n2) := d4.cell 2; have y4 : w.heap.size < w4.heap.size := d4.lt)
      | (go_at_call 29; refine (H4.out _ b4).mono ?_; rintro e w5 ⟨v5, rfl, g5, c5⟩; obtain ⟨a5, m5, rfl, r5⟩ := got_rd g5; have r4 := got_rd' (g4.on c5); have b5 : Below w.heap.size w w5 := below_tr b4 c5; have d5 : Blk w5 w.heap.size 40 #[.int .i64 n0, .int .i64 n1, .int .i64 n2] := d4.below c5 d4.lt; have q50 : w5.cell? ⟨w.heap.size, 0, none⟩ = some (.int .i64 n0) := d5.cell 0; have q51 : w5.cell? ⟨w.heap.size, 1, none⟩ = some (.int .i64 n1) := d5.cell 1; have q52 : w5.cell? ⟨w.heap.size, 2, none⟩ = some (.int .i64 n2) := d5.cell 2; have y5 : w.heap.size < w5.heap.size := d5.lt)
      | (go_at_call 27; refine (r_same a4 a5 _ m4 m5 w5 (shl _) r4 r5).mono ?_; rintro e w6 ⟨rfl, c6⟩; have b6 : Below w.heap.size w w6 := below_tr b5 c6)
      | (go_at_call 27; refine (r_same a1 a2 _ m1 m2 w2 (tul _) r1 r2).mono ?_; rintro e w3 ⟨rfl, c3⟩; have b3 : Below w.heap.size w w3 := below_tr b2 c3; have d3 : Blk w3 w.heap.size 40 #[.int .i64 n0, .int .i64 n1, .int .i64 n2] := d2.below c3 d2.lt; have q30 : w3.cell? ⟨w.heap.size, 0, none⟩ = some (.int .i64 n0) := d3.cell 0; have q31 : w3.cell? ⟨w.heap.size, 1, none⟩ = some (.int .i64 n1) := d3.cell 1; have q32 : w3.cell? ⟨w.heap.size, 2, none⟩ = some (.int .i64 n2) := d3.cell 2; have y3 : w.heap.size < w3.heap.size := d3.lt)
      | (go_at_call 14; refine (s_awake _).mono ?_; rintro e w9 ⟨rfl, c9⟩))
    go_ret
    exact ⟨rfl, below_tr b6 c9⟩
  · go_enter Try.func5, Try.ntmps5
    go_wp2_with (go_at_call 14; refine (s_awake _).mono ?_; rintro e w1 ⟨rfl, hb⟩)
    go_ret
    exact ⟨rfl, below_tr (below_alloc _ _) hb⟩
end Go.Proofs.Ythoemokkfijfeaa
