/- Fell: Widest by the reference. -/
import Derived.Test.YtkeojokbpjdhpaaFzd
set_option linter.unusedSimpArgs false
set_option linter.unusedVariables false
namespace Go.Proofs.Ytkeojokbpjdhpaa
open Go.RowKit

theorem nh_len {f t : Sp} {r n : Int} {l : List Sp} : (fN (htP ⟨f, t, r, n⟩ l) l.length).length = 0 ↔ NH f t r l n := by
  rw [List.length_eq_zero_iff]
  unfold fN NH
  rw [List.filter_eq_nil_iff]
  constructor
  · intro h x hx
    obtain ⟨i, hi⟩ := List.getElem?_of_mem hx
    have := h i (by simpa using (List.getElem?_eq_some_iff.1 hi).1)
    unfold htP at this
    rw [gl_of hi] at this
    simpa using this
  · intro h i hi
    have hi' : i < l.length := by simpa using hi
    obtain ⟨x, hx⟩ := get_lt hi'
    unfold htP
    rw [gl_of hx, h x (List.mem_of_getElem? hx)]
    simp
set_option maxHeartbeats 4000000 in
set_option maxRecDepth 20000 in
theorem r_Widest (f t : Sp) (r : Int) (A : Option Addr) (l : List Sp) (c : Nat) (w : World) (hl : l.length ≤ 100000) (hR : Rd Sp.cs 2 w A l) :
    Calls Try.prog 32 #[spV f, spV t, .int .i64 r, .slice A l.length c] w (WdC f t r l w) := by
  have HF := Lib.hid (fun b (h : isS f = b) W => r_IsSpotV h W)
  have HT := Lib.hid (fun b (h : isS t = b) W => r_IsSpotV h W)
  have HS := Lib.hid (fun b (h : wn r 1 20000 = b) W => r_withinV h W)
  have HTh := Lib.hid (fun W (hb : Below w.heap.size w W) => r_listed A l c W hl (hR.on hb))
  have H7 := Lib.hid (fun h => wiP_err (wdE_seven (f := f) (t := t) (r := r) (l := l) h) (by omega))
  have x0 := (Blk.new w 24 (spA f)).alloc (.cells (spA t) 24)
  have x1 := Blk.new (w.alloc (.cells (spA f) 24)) 24 (spA t)
  rw [World.size_alloc] at x1
  have B0 := bl_alloc (bl_alloc (below_refl w) (.cells (spA f) 24)) (.cells (spA t) 24)
  unfold WdC
  cases h1 : isS f
  · have HE := Lib.hid (H7.out (by rw [h1]; rfl))
    have Q1 := Lib.hid (HF.out _ h1)
    clear h1 HF HT HS HTh H7 x0 x1
    go_enter Try.func32, Try.ntmps32
    go_wp2_with fail
    refine (Q1.out _).mono ?_
    rintro e w1 ⟨rfl, hb1⟩
    go_wp2
    go_ret2
    exact ⟨0, 7, rfl, HE.out, below_tr B0 hb1⟩
  have Q1 := Lib.hid (HF.out _ h1)
  cases h2 : isS t
  · have HE := Lib.hid (H7.out (by rw [h1, h2]; rfl))
    have Q2 := Lib.hid (HT.out _ h2)
    clear h1 h2 HF HT HS HTh H7
    go_enter Try.func32, Try.ntmps32
    go_wp2_with fail
    refine (Q1.out _).mono ?_
    rintro e w1 ⟨rfl, hb1⟩
    have y1 := x1.below hb1 x1.lt
    have p0 := y1.cell 0
    have p1 := y1.cell 1
    simp only [List.getElem?_toArray, List.getElem?_cons_zero, List.getElem?_cons_succ] at p0 p1
    go_wp2_with fail
    refine (Q2.out _).mono ?_
    rintro e w2 ⟨rfl, hb2⟩
    go_wp2
    go_ret2
    exact ⟨0, 7, rfl, HE.out, below_tr (below_tr B0 hb1) hb2⟩
  have Q2 := Lib.hid (HT.out _ h2)
  cases h3 : wn r 1 20000
  · have HE := Lib.hid (H7.out (by rw [h1, h2, h3]; rfl))
    have Q3 := Lib.hid (HS.out _ h3)
    clear h1 h2 h3 HF HT HS HTh H7
    go_enter Try.func32, Try.ntmps32
    go_wp2_with fail
    refine (Q1.out _).mono ?_
    rintro e w1 ⟨rfl, hb1⟩
    have y1 := x1.below hb1 x1.lt
    have p0 := y1.cell 0
    have p1 := y1.cell 1
    simp only [List.getElem?_toArray, List.getElem?_cons_zero, List.getElem?_cons_succ] at p0 p1
    go_wp2_with fail
    refine (Q2.out _).mono ?_
    rintro e w2 ⟨rfl, hb2⟩
    go_wp2_with (go_at_call 54; ((with_reducible refine (Q3.out _).mono ?_); rintro e w' ⟨rfl, rfl⟩))
    go_ret2
    exact ⟨0, 7, rfl, HE.out, below_tr (below_tr B0 hb1) hb2⟩
  have Q3 := Lib.hid (HS.out _ h3)
  cases h4 : thB l
  · have HE := Lib.hid (H7.out (by rw [h1, h2, h3, h4]; rfl))
    rw [h4] at HTh
    clear h1 h2 h3 h4 HF HT HS H7
    go_enter Try.func32, Try.ntmps32
    go_wp2_with fail
    refine (Q1.out _).mono ?_
    rintro e w1 ⟨rfl, hb1⟩
    have y1 := x1.below hb1 x1.lt
    have p0 := y1.cell 0
    have p1 := y1.cell 1
    simp only [List.getElem?_toArray, List.getElem?_cons_zero, List.getElem?_cons_succ] at p0 p1
    go_wp2_with fail
    refine (Q2.out _).mono ?_
    rintro e w2 ⟨rfl, hb2⟩
    have B2 := below_tr (below_tr B0 hb1) hb2
    go_wp2_with (go_at_call 54; ((with_reducible refine (Q3.out _).mono ?_); rintro e w' ⟨rfl, rfl⟩))
    refine (HTh.out _ B2).mono ?_
    rintro e w3 ⟨rfl, hb3⟩
    go_wp2
    go_ret2
    exact ⟨0, 7, rfl, HE.out, below_tr B2 hb3⟩
  obtain ⟨a, b⟩ := f
  obtain ⟨a', b'⟩ := t
  rw [h4] at HTh
  have HBD := Lib.hid (thB_bd h4)
  have Q0 := Lib.hid (show (isS ⟨a, b⟩ && (isS ⟨a', b'⟩ && ((wn r 1 20000 && wn 0 0 1000) && thB l))) = true by rw [h1, h2, h3, h4]; rfl)
  have h3' := h3
  rw [wn_iff] at h3'
  have HHIT := Lib.hid (fun n (n0 : 0 ≤ n) (n1 : n ≤ 1000) (W : World) (hb : Below w.heap.size w W) => r_hit ⟨⟨a, b⟩, ⟨a', b'⟩, r, n⟩ A l c W ⟨isS_bd h1, isS_bd h2, by have := h3'.1; dsimp only; omega, h3'.2⟩ n0 n1 hl HBD.out (hR.on hb))
  clear HF HT HS H7 h1 h2 h3 h4 h3'
  rcases (by by_cases x : a = a' <;> by_cases y : b = b' <;> simp [x, y] : (a = a' ∧ b = b') ∨ (a ≠ a') ∨ (a = a' ∧ b ≠ b')) with ⟨rfl, rfl⟩ | hne | ⟨rfl, hne⟩
  · have HE := Lib.hid (wiP_err (show wdE ⟨a, b⟩ ⟨a, b⟩ r l = 10 by unfold wdE; rw [if_pos Q0.out, if_pos ⟨rfl, rfl⟩]) (by omega))
    go_enter Try.func32, Try.ntmps32
    go_wp2_with fail
    refine (Q1.out _).mono ?_
    rintro e w1 ⟨rfl, hb1⟩
    have y0 := x0.below hb1 x0.lt
    have y1 := x1.below hb1 x1.lt
    have p0 := y1.cell 0
    have p1 := y1.cell 1
    simp only [List.getElem?_toArray, List.getElem?_cons_zero, List.getElem?_cons_succ] at p0 p1
    go_wp2_with fail
    refine (Q2.out _).mono ?_
    rintro e w2 ⟨rfl, hb2⟩
    have B2 := below_tr (below_tr B0 hb1) hb2
    go_wp2_with (go_at_call 54; ((with_reducible refine (Q3.out _).mono ?_); rintro e w' ⟨rfl, rfl⟩))
    refine (HTh.out _ B2).mono ?_
    rintro e w3 ⟨rfl, hb3⟩
    have B3 := below_tr B2 hb3
    have u0 := (y0.below hb2 y0.lt).below hb3 (y0.below hb2 y0.lt).lt
    have u1 := (y1.below hb2 y1.lt).below hb3 (y1.below hb2 y1.lt).lt
    clear x0 x1 B0 hb1 hb2 hb3 y0 y1 p0 p1 B2 HTh Q1 Q2 Q3
    have p0 := u0.cell 0
    have p1 := u0.cell 1
    have q0 := u1.cell 0
    have q1 := u1.cell 1
    simp only [List.getElem?_toArray, List.getElem?_cons_zero, List.getElem?_cons_succ] at p0 p1 q0 q1
    have zu0 := u0.lt
    have zu1 := u1.lt
    go_wp2
    go_ret2
    exact ⟨0, 10, rfl, HE.out, B3⟩
  · have HW := Lib.hid (show wdE ⟨a, b⟩ ⟨a', b'⟩ r l = 0 by unfold wdE; rw [if_pos Q0.out, if_neg (fun h => by first | exact hne h.1 | exact hne h.2)])
    clear Q0
    go_enter Try.func32, Try.ntmps32
    go_wp2_with fail
    refine (Q1.out _).mono ?_
    rintro e w1 ⟨rfl, hb1⟩
    have y0 := x0.below hb1 x0.lt
    have y1 := x1.below hb1 x1.lt
    have p0 := y1.cell 0
    have p1 := y1.cell 1
    simp only [List.getElem?_toArray, List.getElem?_cons_zero, List.getElem?_cons_succ] at p0 p1
    go_wp2_with fail
    refine (Q2.out _).mono ?_
    rintro e w2 ⟨rfl, hb2⟩
    have B2 := below_tr (below_tr B0 hb1) hb2
    go_wp2_with (go_at_call 54; ((with_reducible refine (Q3.out _).mono ?_); rintro e w' ⟨rfl, rfl⟩))
    refine (HTh.out _ B2).mono ?_
    rintro e w3 ⟨rfl, hb3⟩
    have B3 := below_tr B2 hb3
    have u0 := (y0.below hb2 y0.lt).below hb3 (y0.below hb2 y0.lt).lt
    have u1 := (y1.below hb2 y1.lt).below hb3 (y1.below hb2 y1.lt).lt
    clear x0 x1 B0 hb1 hb2 hb3 y0 y1 p0 p1 B2 HTh Q1 Q2 Q3
    have p0 := u0.cell 0
    have p1 := u0.cell 1
    have q0 := u1.cell 0
    have q1 := u1.cell 1
    simp only [List.getElem?_toArray, List.getElem?_cons_zero, List.getElem?_cons_succ] at p0 p1 q0 q1
    have zu0 := u0.lt
    have zu1 := u1.lt
    go_wp2_with fail
    clear hne p0 p1 q0 q1 zu0 zu1
    go_loopw [10] (fun v wr => ∃ n : Int, v = .int .i64 n ∧ -1 ≤ n ∧ n ≤ 1000 ∧ Below w.heap.size w wr ∧ Blk wr w.heap.size 24 (spA ⟨a, b⟩) ∧ Blk wr (w.heap.size + 1) 24 (spA ⟨a', b'⟩) ∧ Hid (∀ m, n < m → m ≤ 1000 → ¬ NH ⟨a, b⟩ ⟨a', b'⟩ r l m)) (fun v _ => (intOf v + 1).toNat)
    case atStart => exact ⟨1000, rfl, by omega, by omega, B3, u0, u1, Lib.hid (fun m h1 h2 => absurd h1 (by omega))⟩
    case round =>
      clear u0 u1 B3
      obtain ⟨n, rfl, na, nb, hbw, xb, yb, HI⟩ := hrel
      by_cases hn : 0 ≤ n
      · have Q := Lib.hid (HHIT.out n hn nb wr hbw)
        have HL := Lib.hid (nh_len (f := ⟨a, b⟩) (t := ⟨a', b'⟩) (r := r) (l := l) (n := n))
        unfold HitP at Q
        generalize fN (htP ⟨⟨a, b⟩, ⟨a', b'⟩, r, n⟩ l) l.length = L at *
        have e0 := xb.cell 0
        have e1 := xb.cell 1
        have f0 := yb.cell 0
        have f1 := yb.cell 1
        simp only [List.getElem?_toArray, List.getElem?_cons_zero, List.getElem?_cons_succ] at e0 e1 f0 f1
        have zl := xb.lt
        have zl2 := yb.lt
        by_cases hL : L.length = 0
        · have hL' : (L.length : Int) = 0 := by omega
          have hq : ((L.length : Int) == 0) = true := by simpa using hL
          have HE := Lib.hid (show WdP ⟨a, b⟩ ⟨a', b'⟩ r l n 0 from .inl ⟨rfl, hn, nb, HL.out.1 hL, by
            rcases (by omega : n = 1000 ∨ n + 1 ≤ 1000) with e | e
            · exact .inl e
            · exact .inr (HI.out (n + 1) (by omega) e)⟩)
          clear HL HI
          go_wp2_with fail
          refine Q.out.mono ?_
          rintro e w5 ⟨A5, c5, rfl, _, hb2⟩
          go_wp2
          go_ret2
          exact ⟨n, 0, rfl, .inr ⟨HW.out, HE.out⟩, below_tr hbw hb2⟩
        · have hL' : ¬ (L.length : Int) = 0 := by omega
          have hq : ((L.length : Int) == 0) = false := by simpa using hL
          have HN := Lib.hid (show ∀ m, n - 1 < m → m ≤ 1000 → ¬ NH ⟨a, b⟩ ⟨a', b'⟩ r l m from fun m m1 m2 => by
            by_cases e : m = n
            · subst e; exact fun h => hL (HL.out.2 h)
            · exact HI.out m (by omega) m2)
          have hwn : IntKind.i64.wrap (n - 1) = n - 1 := fits_wrap (by omega)
          clear HL HI
          go_wp2_with fail
          refine Q.out.mono ?_
          rintro e w5 ⟨A5, c5, rfl, _, hb2⟩
          go_wp2
          go_roundw
          case rel => exact ⟨n - 1, rfl, by omega, by omega, below_tr hbw hb2, xb.below hb2 xb.lt, yb.below hb2 yb.lt, HN⟩
          case measure => simp [intOf]; omega
      · obtain rfl : n = -1 := by omega
        have HE := Lib.hid (show WdP ⟨a, b⟩ ⟨a', b'⟩ r l 0 8 from .inr ⟨rfl, rfl, HI.out 0 (by omega) (by omega)⟩)
        go_wp2
        go_ret2
        exact ⟨0, 8, rfl, .inr ⟨HW.out, HE.out⟩, hbw⟩
  · have HW := Lib.hid (show wdE ⟨a, b⟩ ⟨a, b'⟩ r l = 0 by unfold wdE; rw [if_pos Q0.out, if_neg (fun h => by first | exact hne h.1 | exact hne h.2)])
    clear Q0
    go_enter Try.func32, Try.ntmps32
    go_wp2_with fail
    refine (Q1.out _).mono ?_
    rintro e w1 ⟨rfl, hb1⟩
    have y0 := x0.below hb1 x0.lt
    have y1 := x1.below hb1 x1.lt
    have p0 := y1.cell 0
    have p1 := y1.cell 1
    simp only [List.getElem?_toArray, List.getElem?_cons_zero, List.getElem?_cons_succ] at p0 p1
    go_wp2_with fail
    refine (Q2.out _).mono ?_
    rintro e w2 ⟨rfl, hb2⟩
    have B2 := below_tr (below_tr B0 hb1) hb2
    go_wp2_with (go_at_call 54; ((with_reducible refine (Q3.out _).mono ?_); rintro e w' ⟨rfl, rfl⟩))
    refine (HTh.out _ B2).mono ?_
    rintro e w3 ⟨rfl, hb3⟩
    have B3 := below_tr B2 hb3
    have u0 := (y0.below hb2 y0.lt).below hb3 (y0.below hb2 y0.lt).lt
    have u1 := (y1.below hb2 y1.lt).below hb3 (y1.below hb2 y1.lt).lt
    clear x0 x1 B0 hb1 hb2 hb3 y0 y1 p0 p1 B2 HTh Q1 Q2 Q3
    have p0 := u0.cell 0
    have p1 := u0.cell 1
    have q0 := u1.cell 0
    have q1 := u1.cell 1
    simp only [List.getElem?_toArray, List.getElem?_cons_zero, List.getElem?_cons_succ] at p0 p1 q0 q1
    have zu0 := u0.lt
    have zu1 := u1.lt
    go_wp2_with fail
    clear hne p0 p1 q0 q1 zu0 zu1
    go_loopw [10] (fun v wr => ∃ n : Int, v = .int .i64 n ∧ -1 ≤ n ∧ n ≤ 1000 ∧ Below w.heap.size w wr ∧ Blk wr w.heap.size 24 (spA ⟨a, b⟩) ∧ Blk wr (w.heap.size + 1) 24 (spA ⟨a, b'⟩) ∧ Hid (∀ m, n < m → m ≤ 1000 → ¬ NH ⟨a, b⟩ ⟨a, b'⟩ r l m)) (fun v _ => (intOf v + 1).toNat)
    case atStart => exact ⟨1000, rfl, by omega, by omega, B3, u0, u1, Lib.hid (fun m h1 h2 => absurd h1 (by omega))⟩
    case round =>
      clear u0 u1 B3
      obtain ⟨n, rfl, na, nb, hbw, xb, yb, HI⟩ := hrel
      by_cases hn : 0 ≤ n
      · have Q := Lib.hid (HHIT.out n hn nb wr hbw)
        have HL := Lib.hid (nh_len (f := ⟨a, b⟩) (t := ⟨a, b'⟩) (r := r) (l := l) (n := n))
        unfold HitP at Q
        generalize fN (htP ⟨⟨a, b⟩, ⟨a, b'⟩, r, n⟩ l) l.length = L at *
        have e0 := xb.cell 0
        have e1 := xb.cell 1
        have f0 := yb.cell 0
        have f1 := yb.cell 1
        simp only [List.getElem?_toArray, List.getElem?_cons_zero, List.getElem?_cons_succ] at e0 e1 f0 f1
        have zl := xb.lt
        have zl2 := yb.lt
        by_cases hL : L.length = 0
        · have hL' : (L.length : Int) = 0 := by omega
          have hq : ((L.length : Int) == 0) = true := by simpa using hL
          have HE := Lib.hid (show WdP ⟨a, b⟩ ⟨a, b'⟩ r l n 0 from .inl ⟨rfl, hn, nb, HL.out.1 hL, by
            rcases (by omega : n = 1000 ∨ n + 1 ≤ 1000) with e | e
            · exact .inl e
            · exact .inr (HI.out (n + 1) (by omega) e)⟩)
          clear HL HI
          go_wp2_with fail
          refine Q.out.mono ?_
          rintro e w5 ⟨A5, c5, rfl, _, hb2⟩
          go_wp2
          go_ret2
          exact ⟨n, 0, rfl, .inr ⟨HW.out, HE.out⟩, below_tr hbw hb2⟩
        · have hL' : ¬ (L.length : Int) = 0 := by omega
          have hq : ((L.length : Int) == 0) = false := by simpa using hL
          have HN := Lib.hid (show ∀ m, n - 1 < m → m ≤ 1000 → ¬ NH ⟨a, b⟩ ⟨a, b'⟩ r l m from fun m m1 m2 => by
            by_cases e : m = n
            · subst e; exact fun h => hL (HL.out.2 h)
            · exact HI.out m (by omega) m2)
          have hwn : IntKind.i64.wrap (n - 1) = n - 1 := fits_wrap (by omega)
          clear HL HI
          go_wp2_with fail
          refine Q.out.mono ?_
          rintro e w5 ⟨A5, c5, rfl, _, hb2⟩
          go_wp2
          go_roundw
          case rel => exact ⟨n - 1, rfl, by omega, by omega, below_tr hbw hb2, xb.below hb2 xb.lt, yb.below hb2 yb.lt, HN⟩
          case measure => simp [intOf]; omega
      · obtain rfl : n = -1 := by omega
        have HE := Lib.hid (show WdP ⟨a, b⟩ ⟨a, b'⟩ r l 0 8 from .inr ⟨rfl, rfl, HI.out 0 (by omega) (by omega)⟩)
        go_wp2
        go_ret2
        exact ⟨0, 8, rfl, .inr ⟨HW.out, HE.out⟩, hbw⟩
end Go.Proofs.Ytkeojokbpjdhpaa
