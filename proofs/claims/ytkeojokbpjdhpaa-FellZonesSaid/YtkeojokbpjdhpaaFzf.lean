/- Fell: FellWidest. -/
import Derived.Test.YtkeojokbpjdhpaaFze
import Derived.Test.YtkeojokbpjdhpaaFaw
set_option linter.unusedSimpArgs false
set_option linter.unusedVariables false
namespace Go.Proofs.Ytkeojokbpjdhpaa
open Go.RowKit

set_option maxHeartbeats 2000000 in
theorem p_HitOK (z : Zn) (A : Option Addr) (l : List Sp) (c : Nat) (w : World) (hl : l.length ≤ 100000) (hv : vZn z = true) (ht : thB l = true) (hR : Rd Sp.cs 2 w A l) :
    Calls Try.prog 22 #[znV z, .slice A l.length c] w fun e w' => ∃ A' c', e = .returned (.tuple #[.slice A' (fN (htP z l) l.length).length c', .int .i64 0]) ∧ GotW w' (.slice A' (fN (htP z l) l.length).length c') (fZ (htP z l) l.length) ∧ Below w.heap.size w w' := by
  have HV := Lib.hid (fun W => hv ▸ p_ValidZone z W)
  have HT := Lib.hid (fun W (hb : Below w.heap.size w W) => p_thingsV (d := c) ht hl (hR.on hb))
  have hvv := vzn hv
  have HH := Lib.hid (fun W (hb : Below w.heap.size w W) => p_hit z A l c W (vzn_bd hv) hvv.2.2.2.2.2.1 hvv.2.2.2.2.2.2 hl (thB_bd ht) (hR.on hb))
  have x0 := Blk.new w 44 (znC z)
  have B0 := bl_alloc (below_refl w) (.cells (znC z) 44)
  clear hv ht hvv
  unfold HitP at HH
  generalize fZ (htP z l) l.length = L2 at *
  generalize fN (htP z l) l.length = L at *
  go_enter Try.func22, Try.ntmps22
  go_wp2_with fail
  refine (HV.out _).mono ?_
  rintro e w1 ⟨rfl, hb1⟩
  have B1 := below_tr B0 hb1
  go_wp2_with fail
  refine (HT.out _ B1).mono ?_
  rintro e w2 ⟨rfl, hb2⟩
  have B2 := below_tr B1 hb2
  have x2 := (x0.below hb1 x0.lt).below hb2 (x0.below hb1 x0.lt).lt
  have q0 := x2.cell 0
  have q1 := x2.cell 1
  have q2 := x2.cell 2
  have q3 := x2.cell 3
  have q4 := x2.cell 4
  have q5 := x2.cell 5
  simp only [List.getElem?_toArray, List.getElem?_cons_zero, List.getElem?_cons_succ] at q0 q1 q2 q3 q4 q5
  have zl := x2.lt
  go_wp2_with fail
  refine (HH.out _ B2).mono ?_
  rintro e w3 ⟨A3, c3, rfl, hg, hb3⟩
  go_wp2
  go_ret2
  exact ⟨A3, c3, rfl, hg, below_tr B2 hb3⟩
theorem wdE_zero {f t : Sp} {r : Int} {l : List Sp} (h : wdE f t r l = 0) : isS f = true ∧ isS t = true ∧ wn r 1 20000 = true ∧ thB l = true ∧ ¬ (f.x = t.x ∧ f.y = t.y) := by
  unfold wdE at h
  split at h
  · next hb =>
    simp only [Bool.and_eq_true] at hb
    split at h
    · omega
    · next hn => exact ⟨hb.1, hb.2.1, hb.2.2.1.1, hb.2.2.2, hn⟩
  · omega
theorem vzn_of {f t : Sp} {r n : Int} {l : List Sp} (h : wdE f t r l = 0) (n0 : 0 ≤ n) (n1 : n ≤ 1000) : vZn ⟨f, t, r, n⟩ = true := by
  obtain ⟨h1, h2, h3, _, h5⟩ := wdE_zero h
  unfold vZn
  rw [h1, h2, h3, decide_eq_true h5, wn_iff.2 ⟨n0, n1⟩]
  rfl
set_option maxHeartbeats 2000000 in
set_option maxRecDepth 20000 in
theorem l_FellWidest (f t : Sp) (r : Int) (A : Option Addr) (l : List Sp) (c : Nat) (w : World) (hl : l.length ≤ maxLen) (hR : Rd Sp.cs 2 w A l) :
    Calls Try.prog 7 #[spV f, spV t, .int .i64 r, .slice A l.length c] w fun e w' => e = .returned (.bool true) ∧ Below w.heap.size w w' := by
  unfold maxLen at hl
  have HAW := Lib.hid l_awake
  have x0 := (Blk.new w 24 (spA f)).alloc (.cells (spA t) 24)
  have x1 := Blk.new (w.alloc (.cells (spA f) 24)) 24 (spA t)
  rw [World.size_alloc] at x1
  have B0 := bl_alloc (bl_alloc (below_refl w) (.cells (spA f) 24)) (.cells (spA t) 24)
  by_cases h60 : 60 < l.length
  · have h60' : 60 < (l.length : Int) := by omega
    clear x0 x1
    go_enter Try.func7, Try.ntmps7
    go_wp2_with fail
    refine (HAW.out _).mono ?_
    rintro e w1 ⟨rfl, hb1⟩
    go_wp2
    go_ret
    exact ⟨rfl, below_tr B0 hb1⟩
  have h60' : ¬ 60 < (l.length : Int) := by omega
  have HP := Lib.hid (fun W (hb : Below w.heap.size w W) => p_Widest f t r A l c W (by omega) (hR.on hb))
  have HRf := Lib.hid (fun W (hb : Below w.heap.size w W) => r_Widest f t r A l c W (by omega) (hR.on hb))
  have HHIT := Lib.hid (fun n (hw : wdE f t r l = 0) (n0 : 0 ≤ n) (n1 : n ≤ 1000) W (hb : Below w.heap.size w W) => p_HitOK ⟨f, t, r, n⟩ A l c W (by omega) (vzn_of hw n0 n1) (wdE_zero hw).2.2.2.1 (hR.on hb))
  have HNH := Lib.hid (fun n => nh_len (f := f) (t := t) (r := r) (l := l) (n := n))
  unfold WdC at HP HRf
  clear h60
  go_enter Try.func7, Try.ntmps7
  go_wp2_with fail
  refine (HAW.out _).mono ?_
  rintro e w1 ⟨rfl, hb1⟩
  have B1 := below_tr B0 hb1
  have y0 := x0.below hb1 x0.lt
  have y1 := x1.below hb1 x1.lt
  have p0 := y0.cell 0
  have p1 := y0.cell 1
  have q0 := y1.cell 0
  have q1 := y1.cell 1
  simp only [List.getElem?_toArray, List.getElem?_cons_zero, List.getElem?_cons_succ] at p0 p1 q0 q1
  have z0 := y0.lt
  have z1 := y1.lt
  clear x0 x1 B0 hb1 HAW
  go_wp2_with fail
  refine (HP.out _ B1).mono ?_
  rintro e w2 ⟨n, E, rfl, hwi, hb2⟩
  have B2 := below_tr B1 hb2
  have u0 := y0.below hb2 y0.lt
  have u1 := y1.below hb2 y1.lt
  clear p0 p1 q0 q1 z0 z1 y0 y1
  have p0 := u0.cell 0
  have p1 := u0.cell 1
  have q0 := u1.cell 0
  have q1 := u1.cell 1
  simp only [List.getElem?_toArray, List.getElem?_cons_zero, List.getElem?_cons_succ] at p0 p1 q0 q1
  have z0 := u0.lt
  have z1 := u1.lt
  go_wp2_with fail
  refine (HRf.out _ B2).mono ?_
  rintro e w3 ⟨n', E', rfl, hwi', hb3⟩
  obtain ⟨rfl, rfl⟩ := wiP_uniq hwi hwi'
  have B3 := below_tr B2 hb3
  have v0 := u0.below hb3 u0.lt
  have v1 := u1.below hb3 u1.lt
  clear p0 p1 q0 q1 z0 z1 u0 u1 hwi' HP HRf
  have p0 := v0.cell 0
  have p1 := v0.cell 1
  have q0 := v1.cell 0
  have q1 := v1.cell 1
  simp only [List.getElem?_toArray, List.getElem?_cons_zero, List.getElem?_cons_succ] at p0 p1 q0 q1
  have z0 := v0.lt
  have z1 := v1.lt
  by_cases hE : E = 0
  · subst hE
    have hw0 : wdE f t r l = 0 := by
      rcases hwi with ⟨a, _, b⟩ | ⟨a, _⟩
      · omega
      · exact a
    obtain ⟨n0, n1, hnh, hnx⟩ : 0 ≤ n ∧ n ≤ 1000 ∧ NH f t r l n ∧ (n = 1000 ∨ ¬ NH f t r l (n + 1)) := by
      rcases hwi with ⟨a, _, b⟩ | ⟨_, ⟨_, b1, b2, b3, b4⟩ | ⟨b, _⟩⟩
      · omega
      · exact ⟨b1, b2, b3, b4⟩
      · omega
    have Q1 := Lib.hid (HHIT.out n hw0 n0 n1 w3 B3)
    rw [(HNH.out n).2 hnh] at Q1
    go_wp2_with fail
    refine Q1.out.mono ?_
    rintro e w4 ⟨A4, c4, rfl, _, hb4⟩
    have B4 := below_tr B3 hb4
    by_cases hn : n = 1000
    · subst hn
      go_wp2
      go_ret
      exact ⟨rfl, B4⟩
    · have hn' : (n == 1000) = false := by simpa using hn
      have hlen : 0 < (fN (htP ⟨f, t, r, n + 1⟩ l) l.length).length := by
        rcases Nat.eq_zero_or_pos (fN (htP ⟨f, t, r, n + 1⟩ l) l.length).length with e | e
        · rcases hnx with b | b
          · exact absurd b hn
          · exact absurd ((HNH.out (n + 1)).1 e) b
        · exact e
      have Q2 := Lib.hid (HHIT.out (n + 1) hw0 (by omega) (by omega) w4 B4)
      have o0 := v0.below hb4 v0.lt
      have o1 := v1.below hb4 v1.lt
      clear p0 p1 q0 q1 z0 z1 v0 v1 hnh hnx hwi HHIT HNH Q1
      generalize fZ (htP ⟨f, t, r, n + 1⟩ l) l.length = L2 at *
      generalize fN (htP ⟨f, t, r, n + 1⟩ l) l.length = L at *
      have p0 := o0.cell 0
      have p1 := o0.cell 1
      have q0 := o1.cell 0
      have q1 := o1.cell 1
      simp only [List.getElem?_toArray, List.getElem?_cons_zero, List.getElem?_cons_succ] at p0 p1 q0 q1
      have z0 := o0.lt
      have z1 := o1.lt
      have hwn : IntKind.i64.wrap (n + 1) = n + 1 := fits_wrap (by omega)
      go_wp2_with fail
      refine Q2.out.mono ?_
      rintro e w5 ⟨A5, c5, rfl, _, hb5⟩
      have hL : 0 < (L.length : Int) := by omega
      go_wp2
      go_ret
      exact ⟨by first | rfl | simp [hL], below_tr B4 hb5⟩
  · have hE' : (E == 0) = false := by simpa using hE
    go_wp2
    go_ret
    exact ⟨rfl, B3⟩
end Go.Proofs.Ytkeojokbpjdhpaa
