/- Fell: Hit by both; lists of numbers compared. -/
import Derived.Test.YtkeojokbpjdhpaaFzf
set_option linter.unusedSimpArgs false
set_option linter.unusedVariables false
namespace Go.Proofs.Ytkeojokbpjdhpaa
open Go.RowKit

def hiE (z : Zn) (l : List Sp) : Int := if vZn z = true then (if thB l = true then 0 else 7) else 1
def hiL (z : Zn) (l : List Sp) : List Int := if hiE z l = 0 then fZ (htP z l) l.length else []
def HiP (z : Zn) (l : List Sp) (w : World) (e : Ending) (w' : World) : Prop := ∃ A c, e = .returned (.tuple #[.slice A (hiL z l).length c, .int .i64 (hiE z l)]) ∧ Rd zC 1 w' A (hiL z l) ∧ Below w.heap.size w w'
theorem hiL_len (z : Zn) (l : List Sp) : (hiL z l).length ≤ l.length := by
  unfold hiL; split
  · exact fZ_len _ _
  · simp
theorem got_hi {z : Zn} {l : List Sp} {w : World} {A : Option Addr} {c : Nat} (he : hiE z l = 0) (h : GotW w (.slice A (fN (htP z l) l.length).length c) (fZ (htP z l) l.length)) : (fN (htP z l) l.length).length = (hiL z l).length ∧ Rd zC 1 w A (hiL z l) := by
  obtain ⟨A', c', e, hr⟩ := h
  injection e with e1 e2 e3
  subst e1
  have hL : hiL z l = fZ (htP z l) l.length := by unfold hiL; rw [if_pos he]
  rw [hL]
  exact ⟨e2, hr⟩
set_option maxHeartbeats 2000000 in
theorem p_Hit (z : Zn) (A : Option Addr) (l : List Sp) (c : Nat) (w : World) (hl : l.length ≤ 100000) (hR : Rd Sp.cs 2 w A l) :
    Calls Try.prog 22 #[znV z, .slice A l.length c] w (HiP z l w) := by
  have HV := Lib.hid (fun W => p_ValidZone z W)
  have HT := Lib.hid (fun W (hb : Below w.heap.size w W) => p_things A l c W hl (hR.on hb))
  have x0 := Blk.new w 44 (znC z)
  have B0 := bl_alloc (below_refl w) (.cells (znC z) 44)
  unfold HiP
  cases hv : vZn z
  · have HE := Lib.hid (show hiE z l = 1 by unfold hiE; rw [hv]; rfl)
    have HL := Lib.hid (show hiL z l = [] by unfold hiL; rw [HE.out]; rfl)
    rw [hv] at HV
    clear hv
    go_enter Try.func22, Try.ntmps22
    go_wp2_with fail
    refine (HV.out _).mono ?_
    rintro e w1 ⟨rfl, hb1⟩
    go_wp2
    go_ret2
    exact ⟨none, 0, by rw [HE.out, HL.out]; rfl, by rw [HL.out]; exact fun h => absurd rfl h, below_tr B0 hb1⟩
  rw [hv] at HV
  cases ht : thB l
  · have HE := Lib.hid (show hiE z l = 7 by unfold hiE; rw [hv, ht]; rfl)
    have HL := Lib.hid (show hiL z l = [] by unfold hiL; rw [HE.out]; rfl)
    rw [ht] at HT
    clear hv ht
    go_enter Try.func22, Try.ntmps22
    go_wp2_with fail
    refine (HV.out _).mono ?_
    rintro e w1 ⟨rfl, hb1⟩
    have B1 := below_tr B0 hb1
    go_wp2_with fail
    refine (HT.out _ B1).mono ?_
    rintro e w2 ⟨rfl, hb2⟩
    go_wp2
    go_ret2
    exact ⟨none, 0, by rw [HE.out, HL.out]; rfl, by rw [HL.out]; exact fun h => absurd rfl h, below_tr B1 hb2⟩
  have hvv := vzn hv
  have HH := Lib.hid (fun W (hb : Below w.heap.size w W) => p_hit z A l c W (vzn_bd hv) hvv.2.2.2.2.2.1 hvv.2.2.2.2.2.2 hl (thB_bd ht) (hR.on hb))
  have hE : hiE z l = 0 := by unfold hiE; rw [hv, ht]; rfl
  have HE := Lib.hid hE
  have HG := Lib.hid (fun W A' c' (h : GotW W (.slice A' (fN (htP z l) l.length).length c') (fZ (htP z l) l.length)) => got_hi hE h)
  rw [ht] at HT
  clear hv ht hvv hE
  unfold HitP at HH
  generalize fZ (htP z l) l.length = L2 at *
  generalize fN (htP z l) l.length = L at *
  go_enter Try.func22, Try.ntmps22
  go_wp2_with fail
  refine (HV.out _).mono ?_
  rintro e w1 ⟨rfl, hb1⟩
  have B1 := below_tr B0 hb1
  go_wp2_with fail
  refine (HT.out _ B1).mono ?_
  rintro e w2 ⟨rfl, hb2⟩
  have B2 := below_tr B1 hb2
  have x2 := (x0.below hb1 x0.lt).below hb2 (x0.below hb1 x0.lt).lt
  have q0 := x2.cell 0
  have q1 := x2.cell 1
  have q2 := x2.cell 2
  have q3 := x2.cell 3
  have q4 := x2.cell 4
  have q5 := x2.cell 5
  simp only [List.getElem?_toArray, List.getElem?_cons_zero, List.getElem?_cons_succ] at q0 q1 q2 q3 q4 q5
  have zl := x2.lt
  go_wp2_with fail
  refine (HH.out _ B2).mono ?_
  rintro e w3 ⟨A3, c3, rfl, hg, hb3⟩
  obtain ⟨g1, g2⟩ := HG.out _ _ _ hg
  go_wp2
  go_ret2
  exact ⟨A3, c3, by rw [HE.out, ← g1]; rfl, g2, below_tr B2 hb3⟩
set_option maxHeartbeats 2000000 in
theorem r_Hit (z : Zn) (A : Option Addr) (l : List Sp) (c : Nat) (w : World) (hl : l.length ≤ 100000) (hR : Rd Sp.cs 2 w A l) :
    Calls Try.prog 23 #[znV z, .slice A l.length c] w (HiP z l w) := by
  have HV := Lib.hid (fun W => r_ValidZone z W)
  have HT := Lib.hid (fun W (hb : Below w.heap.size w W) => r_listed A l c W hl (hR.on hb))
  have x0 := Blk.new w 44 (znC z)
  have B0 := bl_alloc (below_refl w) (.cells (znC z) 44)
  unfold HiP
  cases hv : vZn z
  · have HE := Lib.hid (show hiE z l = 1 by unfold hiE; rw [hv]; rfl)
    have HL := Lib.hid (show hiL z l = [] by unfold hiL; rw [HE.out]; rfl)
    rw [hv] at HV
    clear hv
    go_enter Try.func23, Try.ntmps23
    go_wp2_with fail
    refine (HV.out _).mono ?_
    rintro e w1 ⟨rfl, hb1⟩
    go_wp2
    go_ret2
    exact ⟨none, 0, by rw [HE.out, HL.out]; rfl, by rw [HL.out]; exact fun h => absurd rfl h, below_tr B0 hb1⟩
  rw [hv] at HV
  cases ht : thB l
  · have HE := Lib.hid (show hiE z l = 7 by unfold hiE; rw [hv, ht]; rfl)
    have HL := Lib.hid (show hiL z l = [] by unfold hiL; rw [HE.out]; rfl)
    rw [ht] at HT
    clear hv ht
    go_enter Try.func23, Try.ntmps23
    go_wp2_with fail
    refine (HV.out _).mono ?_
    rintro e w1 ⟨rfl, hb1⟩
    have B1 := below_tr B0 hb1
    go_wp2_with fail
    refine (HT.out _ B1).mono ?_
    rintro e w2 ⟨rfl, hb2⟩
    go_wp2
    go_ret2
    exact ⟨none, 0, by rw [HE.out, HL.out]; rfl, by rw [HL.out]; exact fun h => absurd rfl h, below_tr B1 hb2⟩
  have hvv := vzn hv
  have HH := Lib.hid (fun W (hb : Below w.heap.size w W) => r_hit z A l c W (vzn_bd hv) hvv.2.2.2.2.2.1 hvv.2.2.2.2.2.2 hl (thB_bd ht) (hR.on hb))
  have hE : hiE z l = 0 := by unfold hiE; rw [hv, ht]; rfl
  have HE := Lib.hid hE
  have HG := Lib.hid (fun W A' c' (h : GotW W (.slice A' (fN (htP z l) l.length).length c') (fZ (htP z l) l.length)) => got_hi hE h)
  rw [ht] at HT
  clear hv ht hvv hE
  unfold HitP at HH
  generalize fZ (htP z l) l.length = L2 at *
  generalize fN (htP z l) l.length = L at *
  go_enter Try.func23, Try.ntmps23
  go_wp2_with fail
  refine (HV.out _).mono ?_
  rintro e w1 ⟨rfl, hb1⟩
  have B1 := below_tr B0 hb1
  go_wp2_with fail
  refine (HT.out _ B1).mono ?_
  rintro e w2 ⟨rfl, hb2⟩
  have B2 := below_tr B1 hb2
  have x2 := (x0.below hb1 x0.lt).below hb2 (x0.below hb1 x0.lt).lt
  have q0 := x2.cell 0
  have q1 := x2.cell 1
  have q2 := x2.cell 2
  have q3 := x2.cell 3
  have q4 := x2.cell 4
  have q5 := x2.cell 5
  simp only [List.getElem?_toArray, List.getElem?_cons_zero, List.getElem?_cons_succ] at q0 q1 q2 q3 q4 q5
  have zl := x2.lt
  go_wp2_with fail
  refine (HH.out _ B2).mono ?_
  rintro e w3 ⟨A3, c3, rfl, hg, hb3⟩
  obtain ⟨g1, g2⟩ := HG.out _ _ _ hg
  go_wp2
  go_ret2
  exact ⟨A3, c3, by rw [HE.out, ← g1]; rfl, g2, below_tr B2 hb3⟩
set_option maxHeartbeats 1000000 in
set_option maxRecDepth 20000 in
theorem r_sameInts (A B : Option Addr) (l : List Int) (c d : Nat) (w : World) (hl : l.length ≤ 100000) (hA : Rd zC 1 w A l) (hB : Rd zC 1 w B l) :
    Calls Try.prog 26 #[.slice A l.length c, .slice B l.length d] w fun e w' => e = .returned (.bool true) ∧ Below w.heap.size w w' := by
  go_enter Try.func26, Try.ntmps26
  go_wp2
  go_loopw [5] (fun i wr => ∃ k : Nat, k ≤ l.length ∧ i = .int .i64 k ∧ Below w.heap.size w wr) (fun i _ => l.length - (intOf i).toNat)
  case atStart => exact ⟨0, by omega, rfl, below_refl _⟩
  case round =>
    obtain ⟨k, hk, rfl, hbw⟩ := hrel
    by_cases hlt : k < l.length
    · obtain ⟨x, b, off, hx, rfl, hb, c0⟩ := rd_int (hA.on hbw) hlt
      obtain ⟨y, b', off', hy, rfl, hb', d0⟩ := rd_int (hB.on hbw) hlt
      obtain rfl : x = y := by rw [hx] at hy; exact Option.some.inj hy
      have k0 : (0 : Int) ≤ (k : Int) := Int.natCast_nonneg _
      have k1 : (k : Int) < (l.length : Int) := by omega
      clear hx hy
      go_wp2
      go_quiet (fail)
      go_wp2
      go_roundw
      case rel => exact ⟨k + 1, by omega, by go_num, below_drewN hbw _⟩
      case measure => simp [intOf]; omega
    · obtain rfl : k = l.length := by omega
      go_wp2
      go_ret
      exact ⟨rfl, hbw⟩

end Go.Proofs.Ytkeojokbpjdhpaa
