/- Fell: Widest by the program. -/
import Derived.Test.YtkeojokbpjdhpaaDoorFzc
import Derived.Laws.StructEq
set_option linter.unusedSimpArgs false
set_option linter.unusedVariables false
namespace Go.Proofs.YtkeojokbpjdhpaaDoor
open Go.RowKit

theorem wdE_seven {f t : Sp} {r : Int} {l : List Sp} (h : (isS f && (isS t && ((wn r 1 20000 && wn 0 0 1000) && thB l))) = false) : wdE f t r l = 7 := by unfold wdE; rw [h]; rfl
theorem wiP_err {f t : Sp} {r : Int} {l : List Sp} {E : Int} (h : wdE f t r l = E) (hE : E ≠ 0) : WiP f t r l 0 E := .inl ⟨by rw [h]; exact hE, rfl, h.symm⟩
def WdC (f t : Sp) (r : Int) (l : List Sp) (w : World) (e : Ending) (w' : World) : Prop := ∃ n E, e = .returned (.tuple #[.int .i64 n, .int .i64 E]) ∧ WiP f t r l n E ∧ Below w.heap.size w w'
theorem thB_bd {l : List Sp} (h : thB l = true) : ∀ x ∈ l, Bd 10000 x := by
  unfold thB at h
  rw [Bool.and_eq_true, List.all_eq_true] at h
  exact fun x hx => isS_bd (h.2 x hx)
set_option maxHeartbeats 4000000 in
set_option maxRecDepth 20000 in
theorem p_Widest (f t : Sp) (r : Int) (A : Option Addr) (l : List Sp) (c : Nat) (w : World) (hl : l.length ≤ 100000) (hR : Rd Sp.cs 2 w A l) :
    Calls Tryd.prog 30 #[spV f, spV t, .int .i64 r, .slice A l.length c] w (WdC f t r l w) := by
  have HF := Lib.hid (fun b (h : isS f = b) W => p_isSpotV h W)
  have HT := Lib.hid (fun b (h : isS t = b) W => p_isSpotV h W)
  have HS := Lib.hid (fun b (h : (wn r 1 20000 && wn 0 0 1000) = b) W => p_sizedV h W)
  have HTh := Lib.hid (fun W (hb : Below w.heap.size w W) => p_things A l c W hl (hR.on hb))
  have H7 := Lib.hid (fun h => wiP_err (wdE_seven (f := f) (t := t) (r := r) (l := l) h) (by omega))
  have x0 := (Blk.new w 24 (spA f)).alloc (.cells (spA t) 24)
  have x1 := Blk.new (w.alloc (.cells (spA f) 24)) 24 (spA t)
  rw [World.size_alloc] at x1
  have B0 := bl_alloc (bl_alloc (below_refl w) (.cells (spA f) 24)) (.cells (spA t) 24)
  unfold WdC
  cases h1 : isS f
  · have HE := Lib.hid (H7.out (by rw [h1]; rfl))
    have Q1 := Lib.hid (HF.out _ h1)
    clear h1 HF HT HS HTh H7 x0 x1
    go_enter Tryd.func30, Tryd.ntmps30
    go_wp2_with fail
    refine (Q1.out _).mono ?_
    rintro e w1 ⟨rfl, hb1⟩
    go_wp2
    go_ret2
    exact ⟨0, 7, rfl, HE.out, below_tr B0 hb1⟩
  have Q1 := Lib.hid (HF.out _ h1)
  cases h2 : isS t
  · have HE := Lib.hid (H7.out (by rw [h1, h2]; rfl))
    have Q2 := Lib.hid (HT.out _ h2)
    clear h1 h2 HF HT HS HTh H7
    go_enter Tryd.func30, Tryd.ntmps30
    go_wp2_with fail
    refine (Q1.out _).mono ?_
    rintro e w1 ⟨rfl, hb1⟩
    have y1 := x1.below hb1 x1.lt
    have p0 := y1.cell 0
    have p1 := y1.cell 1
    simp only [List.getElem?_toArray, List.getElem?_cons_zero, List.getElem?_cons_succ] at p0 p1
    go_wp2_with fail
    refine (Q2.out _).mono ?_
    rintro e w2 ⟨rfl, hb2⟩
    go_wp2
    go_ret2
    exact ⟨0, 7, rfl, HE.out, below_tr (below_tr B0 hb1) hb2⟩
  have Q2 := Lib.hid (HT.out _ h2)
  cases h3 : (wn r 1 20000 && wn 0 0 1000)
  · have HE := Lib.hid (H7.out (by rw [h1, h2, h3]; rfl))
    have Q3 := Lib.hid (HS.out _ h3)
    clear h1 h2 h3 HF HT HS HTh H7
    go_enter Tryd.func30, Tryd.ntmps30
    go_wp2_with fail
    refine (Q1.out _).mono ?_
    rintro e w1 ⟨rfl, hb1⟩
    have y1 := x1.below hb1 x1.lt
    have p0 := y1.cell 0
    have p1 := y1.cell 1
    simp only [List.getElem?_toArray, List.getElem?_cons_zero, List.getElem?_cons_succ] at p0 p1
    go_wp2_with fail
    refine (Q2.out _).mono ?_
    rintro e w2 ⟨rfl, hb2⟩
    go_wp2_with (go_at_call 58; ((with_reducible refine (Q3.out _).mono ?_); rintro e w' ⟨rfl, rfl⟩))
    go_ret2
    exact ⟨0, 7, rfl, HE.out, below_tr (below_tr B0 hb1) hb2⟩
  have Q3 := Lib.hid (HS.out _ h3)
  cases h4 : thB l
  · have HE := Lib.hid (H7.out (by rw [h1, h2, h3, h4]; rfl))
    rw [h4] at HTh
    clear h1 h2 h3 h4 HF HT HS H7
    go_enter Tryd.func30, Tryd.ntmps30
    go_wp2_with fail
    refine (Q1.out _).mono ?_
    rintro e w1 ⟨rfl, hb1⟩
    have y1 := x1.below hb1 x1.lt
    have p0 := y1.cell 0
    have p1 := y1.cell 1
    simp only [List.getElem?_toArray, List.getElem?_cons_zero, List.getElem?_cons_succ] at p0 p1
    go_wp2_with fail
    refine (Q2.out _).mono ?_
    rintro e w2 ⟨rfl, hb2⟩
    have B2 := below_tr (below_tr B0 hb1) hb2
    go_wp2_with (go_at_call 58; ((with_reducible refine (Q3.out _).mono ?_); rintro e w' ⟨rfl, rfl⟩))
    refine (HTh.out _ B2).mono ?_
    rintro e w3 ⟨rfl, hb3⟩
    go_wp2
    go_ret2
    exact ⟨0, 7, rfl, HE.out, below_tr B2 hb3⟩
  obtain ⟨a, b⟩ := f
  obtain ⟨a', b'⟩ := t
  rw [h4] at HTh
  have HBD := Lib.hid (thB_bd h4)
  have Q0 := Lib.hid (show (isS ⟨a, b⟩ && (isS ⟨a', b'⟩ && ((wn r 1 20000 && wn 0 0 1000) && thB l))) = true by rw [h1, h2, h3, h4]; rfl)
  have h3' := h3
  rw [Bool.and_eq_true, wn_iff] at h3'
  have hZB : ZB ⟨⟨a, b⟩, ⟨a', b'⟩, r, 0⟩ := ⟨isS_bd h1, isS_bd h2, by have := h3'.1.1; dsimp only; omega, h3'.1.2⟩
  have HZB := Lib.hid hZB
  have HA := Lib.hid (fun x (hx : Bd 10000 x) W => p_ahead ⟨⟨a, b⟩, ⟨a', b'⟩, r, 0⟩ x W hZB hx)
  clear HF HT HS H7 hZB h1 h2 h3 h4 h3'
  rcases (by by_cases x : a = a' <;> by_cases y : b = b' <;> simp [x, y] : (a = a' ∧ b = b') ∨ (a ≠ a') ∨ (a = a' ∧ b ≠ b')) with ⟨rfl, rfl⟩ | hne | ⟨rfl, hne⟩
  · have HE := Lib.hid (wiP_err (show wdE ⟨a, b⟩ ⟨a, b⟩ r l = 10 by unfold wdE; rw [if_pos Q0.out, if_pos ⟨rfl, rfl⟩]) (by omega))
    go_enter Tryd.func30, Tryd.ntmps30
    go_wp2_with fail
    refine (Q1.out _).mono ?_
    rintro e w1 ⟨rfl, hb1⟩
    have y0 := x0.below hb1 x0.lt
    have y1 := x1.below hb1 x1.lt
    have p0 := y1.cell 0
    have p1 := y1.cell 1
    simp only [List.getElem?_toArray, List.getElem?_cons_zero, List.getElem?_cons_succ] at p0 p1
    go_wp2_with fail
    refine (Q2.out _).mono ?_
    rintro e w2 ⟨rfl, hb2⟩
    have B2 := below_tr (below_tr B0 hb1) hb2
    go_wp2_with (go_at_call 58; ((with_reducible refine (Q3.out _).mono ?_); rintro e w' ⟨rfl, rfl⟩))
    refine (HTh.out _ B2).mono ?_
    rintro e w3 ⟨rfl, hb3⟩
    have B3 := below_tr B2 hb3
    have u0 := (y0.below hb2 y0.lt).below hb3 (y0.below hb2 y0.lt).lt
    have u1 := (y1.below hb2 y1.lt).below hb3 (y1.below hb2 y1.lt).lt
    clear x0 x1 B0 hb1 hb2 hb3 y0 y1 p0 p1 B2 HTh Q1 Q2 Q3
    have p0 := u0.cell 0
    have p1 := u0.cell 1
    have q0 := u1.cell 0
    have q1 := u1.cell 1
    simp only [List.getElem?_toArray, List.getElem?_cons_zero, List.getElem?_cons_succ] at p0 p1 q0 q1
    have zu0 := u0.lt
    have zu1 := u1.lt
    go_wp2
    go_ret2
    exact ⟨0, 10, rfl, HE.out, B3⟩
  · have HW := Lib.hid (show wdE ⟨a, b⟩ ⟨a', b'⟩ r l = 0 by unfold wdE; rw [if_pos Q0.out, if_neg (fun h => by first | exact hne h.1 | exact hne h.2)])
    clear Q0
    go_enter Tryd.func30, Tryd.ntmps30
    go_wp2_with fail
    refine (Q1.out _).mono ?_
    rintro e w1 ⟨rfl, hb1⟩
    have y0 := x0.below hb1 x0.lt
    have y1 := x1.below hb1 x1.lt
    have p0 := y1.cell 0
    have p1 := y1.cell 1
    simp only [List.getElem?_toArray, List.getElem?_cons_zero, List.getElem?_cons_succ] at p0 p1
    go_wp2_with fail
    refine (Q2.out _).mono ?_
    rintro e w2 ⟨rfl, hb2⟩
    have B2 := below_tr (below_tr B0 hb1) hb2
    go_wp2_with (go_at_call 58; ((with_reducible refine (Q3.out _).mono ?_); rintro e w' ⟨rfl, rfl⟩))
    refine (HTh.out _ B2).mono ?_
    rintro e w3 ⟨rfl, hb3⟩
    have B3 := below_tr B2 hb3
    have u0 := (y0.below hb2 y0.lt).below hb3 (y0.below hb2 y0.lt).lt
    have u1 := (y1.below hb2 y1.lt).below hb3 (y1.below hb2 y1.lt).lt
    clear x0 x1 B0 hb1 hb2 hb3 y0 y1 p0 p1 B2 HTh Q1 Q2 Q3
    have p0 := u0.cell 0
    have p1 := u0.cell 1
    have q0 := u1.cell 0
    have q1 := u1.cell 1
    simp only [List.getElem?_toArray, List.getElem?_cons_zero, List.getElem?_cons_succ] at p0 p1 q0 q1
    have zu0 := u0.lt
    have zu1 := u1.lt
    have zz := Blk.new w3 48 (znC ⟨⟨a, b⟩, ⟨a', b'⟩, r, 0⟩)
    have BZ := bl_alloc B3 (.cells (znC ⟨⟨a, b⟩, ⟨a', b'⟩, r, 0⟩) 48)
    have HSTART := Lib.hid (le_start ⟨a, b⟩ ⟨a', b'⟩ r l)
    have HIZ := Lib.hid (fun n x => (show inZ ⟨⟨a, b⟩, ⟨a', b'⟩, r, n⟩ x = (okz (⟨⟨a, b⟩, ⟨a', b'⟩, r, 0⟩ : Zn) x && decide (1000 * bez (⟨⟨a, b⟩, ⟨a', b'⟩, r, 0⟩ : Zn) x ≤ n * alz (⟨⟨a, b⟩, ⟨a', b'⟩, r, 0⟩ : Zn) x)) from rfl))
    have HAB := Lib.hid (fun x (hx : Bd 10000 x) => ahead_bd HZB.out hx)
    go_wp2_with fail
    clear u0 u1 p0 p1 q0 q1 zu0 zu1 hne
    generalize w3.alloc (.cells #[.int .i64 a, .int .i64 b, .int .i64 a', .int .i64 b', .int .i64 r, .int .i64 0] 48) = W3 at *
    generalize w3.heap.size = b2 at *
    go_loopw [11, 45] (fun m i wr => ∃ (k : Nat) (q : Int), k ≤ l.length ∧ m = .int .i64 q ∧ i = .int .i64 k ∧ Below w.heap.size w wr ∧ Blk wr b2 48 (znC (⟨⟨a, b⟩, ⟨a', b'⟩, r, 0⟩ : Zn)) ∧ -1 ≤ q ∧ q ≤ 1000 ∧ Hid (LeP ⟨a, b⟩ ⟨a', b'⟩ r l k q)) (fun _ i _ => l.length - (intOf i).toNat)
    case atStart => exact ⟨0, 1000, by omega, rfl, rfl, BZ, zz, by omega, by omega, HSTART⟩
    case round =>
      clear BZ zz HSTART B3
      obtain ⟨k, q, hk, rfl, rfl, hbw, xb, qa, qb, HI⟩ := hrel
      have k0 : (0 : Int) ≤ (k : Int) := Int.natCast_nonneg _
      by_cases hlt : k < l.length
      · have k1 : (k : Int) < (l.length : Int) := by omega
        obtain ⟨x, bb, off, hx, rfl, hb, c0, c1⟩ := rdS (hR.on hbw) hlt
        have hxb := HBD.out x (List.mem_of_getElem? hx)
        have HXM := Lib.hid (List.mem_of_getElem? hx)
        have HXK := Lib.hid hx
        have Q := Lib.hid (HA.out x hxb)
        have HIX := Lib.hid (fun n => HIZ.out n x)
        have HOK := Lib.hid (fun (h : okz (⟨⟨a, b⟩, ⟨a', b'⟩, r, 0⟩ : Zn) x = true) => okz_al h)
        obtain ⟨a1, a2, b1', b2'⟩ := HAB.out x hxb
        clear hx hxb
        generalize alz (⟨⟨a, b⟩, ⟨a', b'⟩, r, 0⟩ : Zn) x = AL at *
        generalize bez (⟨⟨a, b⟩, ⟨a', b'⟩, r, 0⟩ : Zn) x = BE at *
        generalize okz (⟨⟨a, b⟩, ⟨a', b'⟩, r, 0⟩ : Zn) x = OK at *
        have hbw2 := bl_alloc hbw (.cells (spA x) 24)
        have xb2 := xb.alloc (.cells (spA x) 24)
        have e0 := xb.cell 0
        have e1 := xb.cell 1
        have e2 := xb.cell 2
        have e3 := xb.cell 3
        have e4 := xb.cell 4
        have e5 := xb.cell 5
        simp only [List.getElem?_toArray, List.getElem?_cons_zero, List.getElem?_cons_succ] at e0 e1 e2 e3 e4 e5
        have zl := xb.lt
        cases OK
        · have HN := Lib.hid (le_never HXK.out HI.out (fun n => by rw [HIX.out]; rfl))
          go_wp2_with fail
          refine (Q.out _).mono ?_
          rintro e w5 ⟨rfl, hb2⟩
          go_wp2
          go_roundw
          case rel => exact ⟨k + 1, q, by omega, rfl, by go_num, below_tr hbw2 hb2, xb2.below hb2 xb2.lt, qa, qb, HN⟩
          case measure => simp [intOf]; omega
        · have h0 := HOK.out rfl
          by_cases hz : AL = 0
          · subst hz
            by_cases hB : 0 < BE
            · have hdB : decide (0 < BE) = true := decide_eq_true hB
              have HN := Lib.hid (le_never HXK.out HI.out (fun n => by rw [HIX.out, Bool.true_and, decide_eq_false (by rw [Int.mul_zero]; omega)]))
              go_wp2_with fail
              refine (Q.out _).mono ?_
              rintro e w5 ⟨rfl, hb2⟩
              go_wp2
              go_roundw
              case rel => exact ⟨k + 1, q, by omega, rfl, by go_num, below_tr hbw2 hb2, xb2.below hb2 xb2.lt, qa, qb, HN⟩
              case measure => simp [intOf]; omega
            · have hdB : decide (0 < BE) = false := decide_eq_false hB
              have HE := Lib.hid (always_none (l := l) HXM.out (show inZ ⟨⟨a, b⟩, ⟨a', b'⟩, r, 0⟩ x = true by rw [HIX.out, Bool.true_and, decide_eq_true (by rw [Int.mul_zero]; omega)]))
              go_wp2_with fail
              refine (Q.out _).mono ?_
              rintro e w5 ⟨rfl, hb2⟩
              go_wp2
              go_ret2
              exact ⟨0, 8, rfl, .inr ⟨HW.out, HE.out⟩, below_tr hbw2 hb2⟩
          · have hz' : (AL == 0) = false := by simpa using hz
            have hpos : 0 < AL := by omega
            obtain ⟨d, hd⟩ : ∃ d : Int, d = (1000 * BE + AL - 1) / AL := ⟨_, rfl⟩
            have hd0 : 0 ≤ d := by rw [hd]; exact Int.ediv_nonneg (by omega) (by omega)
            have hd1 : d ≤ 1000 * BE + AL - 1 := by rw [hd]; exact Int.ediv_le_self _ (by omega)
            have HF2 := Lib.hid (le_from (d := d) HXK.out HI.out hd0 (fun n => by rw [HIX.out, Bool.true_and, least_is hpos, hd]))
            have hq1 : (1000 * BE + AL - 1) / AL = d := hd.symm
            have hq2 : (1000 * BE + AL - 1).tdiv AL = d := by rw [Int.tdiv_eq_ediv_of_nonneg (by omega)]; exact hq1
            have w1' : IntKind.i64.wrap (1000 * BE) = 1000 * BE := fits_wrap (by omega)
            have w2' : IntKind.i64.wrap (1000 * BE + AL) = 1000 * BE + AL := fits_wrap (by omega)
            have w3' : IntKind.i64.wrap (1000 * BE + AL - 1) = 1000 * BE + AL - 1 := fits_wrap (by omega)
            have w4' : IntKind.i64.wrap d = d := fits_wrap (by omega)
            have w5' : IntKind.i64.wrap (d - 1) = d - 1 := fits_wrap (by omega)
            obtain ⟨q', hq'⟩ : ∃ q' : Int, q' = min q (d - 1) := ⟨_, rfl⟩
            have HN := Lib.hid (hq'.symm ▸ HF2.out)
            have hm : min q (d - 1) = q' := hq'.symm
            have qa' : -1 ≤ q' := by omega
            have qb' : q' ≤ 1000 := by omega
            clear HF2 hd hq'
            go_wp2_with fail
            refine (Q.out _).mono ?_
            rintro e w5 ⟨rfl, hb2⟩
            go_wp2
            go_roundw
            case rel => exact ⟨k + 1, q', by omega, by first | rfl | rw [hm], by go_num, below_tr hbw2 hb2, xb2.below hb2 xb2.lt, qa', qb', HN⟩
            case measure => simp [intOf]; omega
      · obtain rfl : k = l.length := by omega
        have HE := Lib.hid (le_end HI.out)
        by_cases hq : q < 0
        · have hE := HE.out.2 hq
          go_wp2
          go_ret2
          exact ⟨0, 8, rfl, .inr ⟨HW.out, hE⟩, hbw⟩
        · have hE := HE.out.1 (by omega)
          have hq9 : 0 ≤ q := by omega
          go_wp2
          go_ret2
          exact ⟨q, 0, rfl, .inr ⟨HW.out, hE⟩, hbw⟩
  · have HW := Lib.hid (show wdE ⟨a, b⟩ ⟨a, b'⟩ r l = 0 by unfold wdE; rw [if_pos Q0.out, if_neg (fun h => by first | exact hne h.1 | exact hne h.2)])
    clear Q0
    go_enter Tryd.func30, Tryd.ntmps30
    go_wp2_with fail
    refine (Q1.out _).mono ?_
    rintro e w1 ⟨rfl, hb1⟩
    have y0 := x0.below hb1 x0.lt
    have y1 := x1.below hb1 x1.lt
    have p0 := y1.cell 0
    have p1 := y1.cell 1
    simp only [List.getElem?_toArray, List.getElem?_cons_zero, List.getElem?_cons_succ] at p0 p1
    go_wp2_with fail
    refine (Q2.out _).mono ?_
    rintro e w2 ⟨rfl, hb2⟩
    have B2 := below_tr (below_tr B0 hb1) hb2
    go_wp2_with (go_at_call 58; ((with_reducible refine (Q3.out _).mono ?_); rintro e w' ⟨rfl, rfl⟩))
    refine (HTh.out _ B2).mono ?_
    rintro e w3 ⟨rfl, hb3⟩
    have B3 := below_tr B2 hb3
    have u0 := (y0.below hb2 y0.lt).below hb3 (y0.below hb2 y0.lt).lt
    have u1 := (y1.below hb2 y1.lt).below hb3 (y1.below hb2 y1.lt).lt
    clear x0 x1 B0 hb1 hb2 hb3 y0 y1 p0 p1 B2 HTh Q1 Q2 Q3
    have p0 := u0.cell 0
    have p1 := u0.cell 1
    have q0 := u1.cell 0
    have q1 := u1.cell 1
    simp only [List.getElem?_toArray, List.getElem?_cons_zero, List.getElem?_cons_succ] at p0 p1 q0 q1
    have zu0 := u0.lt
    have zu1 := u1.lt
    have zz := Blk.new w3 48 (znC ⟨⟨a, b⟩, ⟨a, b'⟩, r, 0⟩)
    have BZ := bl_alloc B3 (.cells (znC ⟨⟨a, b⟩, ⟨a, b'⟩, r, 0⟩) 48)
    have HSTART := Lib.hid (le_start ⟨a, b⟩ ⟨a, b'⟩ r l)
    have HIZ := Lib.hid (fun n x => (show inZ ⟨⟨a, b⟩, ⟨a, b'⟩, r, n⟩ x = (okz (⟨⟨a, b⟩, ⟨a, b'⟩, r, 0⟩ : Zn) x && decide (1000 * bez (⟨⟨a, b⟩, ⟨a, b'⟩, r, 0⟩ : Zn) x ≤ n * alz (⟨⟨a, b⟩, ⟨a, b'⟩, r, 0⟩ : Zn) x)) from rfl))
    have HAB := Lib.hid (fun x (hx : Bd 10000 x) => ahead_bd HZB.out hx)
    go_wp2_with fail
    clear u0 u1 p0 p1 q0 q1 zu0 zu1 hne
    generalize w3.alloc (.cells #[.int .i64 a, .int .i64 b, .int .i64 a, .int .i64 b', .int .i64 r, .int .i64 0] 48) = W3 at *
    generalize w3.heap.size = b2 at *
    go_loopw [11, 45] (fun m i wr => ∃ (k : Nat) (q : Int), k ≤ l.length ∧ m = .int .i64 q ∧ i = .int .i64 k ∧ Below w.heap.size w wr ∧ Blk wr b2 48 (znC (⟨⟨a, b⟩, ⟨a, b'⟩, r, 0⟩ : Zn)) ∧ -1 ≤ q ∧ q ≤ 1000 ∧ Hid (LeP ⟨a, b⟩ ⟨a, b'⟩ r l k q)) (fun _ i _ => l.length - (intOf i).toNat)
    case atStart => exact ⟨0, 1000, by omega, rfl, rfl, BZ, zz, by omega, by omega, HSTART⟩
    case round =>
      clear BZ zz HSTART B3
      obtain ⟨k, q, hk, rfl, rfl, hbw, xb, qa, qb, HI⟩ := hrel
      have k0 : (0 : Int) ≤ (k : Int) := Int.natCast_nonneg _
      by_cases hlt : k < l.length
      · have k1 : (k : Int) < (l.length : Int) := by omega
        obtain ⟨x, bb, off, hx, rfl, hb, c0, c1⟩ := rdS (hR.on hbw) hlt
        have hxb := HBD.out x (List.mem_of_getElem? hx)
        have HXM := Lib.hid (List.mem_of_getElem? hx)
        have HXK := Lib.hid hx
        have Q := Lib.hid (HA.out x hxb)
        have HIX := Lib.hid (fun n => HIZ.out n x)
        have HOK := Lib.hid (fun (h : okz (⟨⟨a, b⟩, ⟨a, b'⟩, r, 0⟩ : Zn) x = true) => okz_al h)
        obtain ⟨a1, a2, b1', b2'⟩ := HAB.out x hxb
        clear hx hxb
        generalize alz (⟨⟨a, b⟩, ⟨a, b'⟩, r, 0⟩ : Zn) x = AL at *
        generalize bez (⟨⟨a, b⟩, ⟨a, b'⟩, r, 0⟩ : Zn) x = BE at *
        generalize okz (⟨⟨a, b⟩, ⟨a, b'⟩, r, 0⟩ : Zn) x = OK at *
        have hbw2 := bl_alloc hbw (.cells (spA x) 24)
        have xb2 := xb.alloc (.cells (spA x) 24)
        have e0 := xb.cell 0
        have e1 := xb.cell 1
        have e2 := xb.cell 2
        have e3 := xb.cell 3
        have e4 := xb.cell 4
        have e5 := xb.cell 5
        simp only [List.getElem?_toArray, List.getElem?_cons_zero, List.getElem?_cons_succ] at e0 e1 e2 e3 e4 e5
        have zl := xb.lt
        cases OK
        · have HN := Lib.hid (le_never HXK.out HI.out (fun n => by rw [HIX.out]; rfl))
          go_wp2_with fail
          refine (Q.out _).mono ?_
          rintro e w5 ⟨rfl, hb2⟩
          go_wp2
          go_roundw
          case rel => exact ⟨k + 1, q, by omega, rfl, by go_num, below_tr hbw2 hb2, xb2.below hb2 xb2.lt, qa, qb, HN⟩
          case measure => simp [intOf]; omega
        · have h0 := HOK.out rfl
          by_cases hz : AL = 0
          · subst hz
            by_cases hB : 0 < BE
            · have hdB : decide (0 < BE) = true := decide_eq_true hB
              have HN := Lib.hid (le_never HXK.out HI.out (fun n => by rw [HIX.out, Bool.true_and, decide_eq_false (by rw [Int.mul_zero]; omega)]))
              go_wp2_with fail
              refine (Q.out _).mono ?_
              rintro e w5 ⟨rfl, hb2⟩
              go_wp2
              go_roundw
              case rel => exact ⟨k + 1, q, by omega, rfl, by go_num, below_tr hbw2 hb2, xb2.below hb2 xb2.lt, qa, qb, HN⟩
              case measure => simp [intOf]; omega
            · have hdB : decide (0 < BE) = false := decide_eq_false hB
              have HE := Lib.hid (always_none (l := l) HXM.out (show inZ ⟨⟨a, b⟩, ⟨a, b'⟩, r, 0⟩ x = true by rw [HIX.out, Bool.true_and, decide_eq_true (by rw [Int.mul_zero]; omega)]))
              go_wp2_with fail
              refine (Q.out _).mono ?_
              rintro e w5 ⟨rfl, hb2⟩
              go_wp2
              go_ret2
              exact ⟨0, 8, rfl, .inr ⟨HW.out, HE.out⟩, below_tr hbw2 hb2⟩
          · have hz' : (AL == 0) = false := by simpa using hz
            have hpos : 0 < AL := by omega
            obtain ⟨d, hd⟩ : ∃ d : Int, d = (1000 * BE + AL - 1) / AL := ⟨_, rfl⟩
            have hd0 : 0 ≤ d := by rw [hd]; exact Int.ediv_nonneg (by omega) (by omega)
            have hd1 : d ≤ 1000 * BE + AL - 1 := by rw [hd]; exact Int.ediv_le_self _ (by omega)
            have HF2 := Lib.hid (le_from (d := d) HXK.out HI.out hd0 (fun n => by rw [HIX.out, Bool.true_and, least_is hpos, hd]))
            have hq1 : (1000 * BE + AL - 1) / AL = d := hd.symm
            have hq2 : (1000 * BE + AL - 1).tdiv AL = d := by rw [Int.tdiv_eq_ediv_of_nonneg (by omega)]; exact hq1
            have w1' : IntKind.i64.wrap (1000 * BE) = 1000 * BE := fits_wrap (by omega)
            have w2' : IntKind.i64.wrap (1000 * BE + AL) = 1000 * BE + AL := fits_wrap (by omega)
            have w3' : IntKind.i64.wrap (1000 * BE + AL - 1) = 1000 * BE + AL - 1 := fits_wrap (by omega)
            have w4' : IntKind.i64.wrap d = d := fits_wrap (by omega)
            have w5' : IntKind.i64.wrap (d - 1) = d - 1 := fits_wrap (by omega)
            obtain ⟨q', hq'⟩ : ∃ q' : Int, q' = min q (d - 1) := ⟨_, rfl⟩
            have HN := Lib.hid (hq'.symm ▸ HF2.out)
            have hm : min q (d - 1) = q' := hq'.symm
            have qa' : -1 ≤ q' := by omega
            have qb' : q' ≤ 1000 := by omega
            clear HF2 hd hq'
            go_wp2_with fail
            refine (Q.out _).mono ?_
            rintro e w5 ⟨rfl, hb2⟩
            go_wp2
            go_roundw
            case rel => exact ⟨k + 1, q', by omega, by first | rfl | rw [hm], by go_num, below_tr hbw2 hb2, xb2.below hb2 xb2.lt, qa', qb', HN⟩
            case measure => simp [intOf]; omega
      · obtain rfl : k = l.length := by omega
        have HE := Lib.hid (le_end HI.out)
        by_cases hq : q < 0
        · have hE := HE.out.2 hq
          go_wp2
          go_ret2
          exact ⟨0, 8, rfl, .inr ⟨HW.out, hE⟩, hbw⟩
        · have hE := HE.out.1 (by omega)
          have hq9 : 0 ≤ q := by omega
          go_wp2
          go_ret2
          exact ⟨q, 0, rfl, .inr ⟨HW.out, hE⟩, hbw⟩
end Go.Proofs.YtkeojokbpjdhpaaDoor
