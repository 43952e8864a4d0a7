/- Fell: Clear by the program. -/
import Derived.Test.YtkeojokbpjdhpaaFzh
set_option linter.unusedSimpArgs false
set_option linter.unusedVariables false
namespace Go.Proofs.Ytkeojokbpjdhpaa
open Go.RowKit

/-- nothing is in the zone that this way makes -/
def cwP (f : Sp) (r d : Int) (l : List Sp) (x : Sp) : Bool := vZn ⟨f, x, r, d⟩ && decide ((fN (htP ⟨f, x, r, d⟩ l) l.length).length = 0)
theorem blk_int {w : World} {b : Nat} {r : Int} (h : Blk w b 3 #[.int .i64 r]) : w.cell? ⟨b, 0, none⟩ = some (.int .i64 r) := by
  have := h.cell 0
  simpa using this
set_option maxHeartbeats 2000000 in
theorem p_Clear1 (f x : Sp) (r d : Int) (A : Option Addr) (l : List Sp) (c b5 b6 b7 b8 : Nat) (w : World) (hl : l.length ≤ 100000) (hth : thB l = true)
    (h5 : Blk w b5 24 (spA f)) (h6 : Blk w b6 3 #[.int .i64 r]) (h7 : Blk w b7 3 #[.int .i64 d]) (h8 : Blk w b8 31 #[.slice A l.length c]) (hR : Rd Sp.cs 2 w A l) :
    Calls Try.prog 56 #[spV x, .pointer (some ⟨b5, 0, none⟩), .pointer (some ⟨b6, 0, none⟩), .pointer (some ⟨b7, 0, none⟩), .pointer (some ⟨b8, 0, none⟩)] w fun e w' => e = .returned (.bool (cwP f r d l x)) ∧ Below w.heap.size w w' := by
  have HV := Lib.hid (fun W => p_ValidZone ⟨f, x, r, d⟩ W)
  have HC := Lib.hid (show cwP f r d l x = (vZn ⟨f, x, r, d⟩ && decide ((fN (htP ⟨f, x, r, d⟩ l) l.length).length = 0)) from rfl)
  have B0 := bl_alloc (below_refl w) (.cells (spA x) 24)
  have x0 := Blk.new w 24 (spA x)
  have y5 := h5.alloc (.cells (spA x) 24)
  have y6 := h6.alloc (.cells (spA x) 24)
  have y7 := h7.alloc (.cells (spA x) 24)
  have y8 := h8.alloc (.cells (spA x) 24)
  have e0 := y5.cell 0
  have e1 := y5.cell 1
  have e6 := y6.cell 0
  have e7 := y7.cell 0
  have e2 := x0.cell 0
  have e3 := x0.cell 1
  simp only [List.getElem?_toArray, List.getElem?_cons_zero, List.getElem?_cons_succ] at e0 e1 e2 e3 e6 e7
  cases hv : vZn ⟨f, x, r, d⟩
  · have HE := Lib.hid (show cwP f r d l x = false by rw [HC.out, hv]; rfl)
    rw [hv] at HV
    clear hv HC
    go_enter Try.func56, Try.ntmps56
    go_wp2_with fail
    refine (HV.out _).mono ?_
    rintro e w1 ⟨rfl, hb1⟩
    go_wp2
    go_ret
    exact ⟨ret_bool HE.out.symm, below_tr (bl_alloc B0 _) hb1⟩
  · have hvv := vzn hv
    have HH := Lib.hid (fun W (hb : Below w.heap.size w W) => p_hit ⟨f, x, r, d⟩ A l c W (vzn_bd hv) hvv.2.2.2.2.2.1 hvv.2.2.2.2.2.2 hl (thB_bd hth) (hR.on hb))
    rw [hv] at HV
    have HC2 := Lib.hid (show cwP f r d l x = decide ((fN (htP ⟨f, x, r, d⟩ l) l.length).length = 0) by rw [HC.out, hv]; rfl)
    clear hv HC hvv
    unfold HitP at HH
    generalize fZ (htP ⟨f, x, r, d⟩ l) l.length = L2 at *
    generalize fN (htP ⟨f, x, r, d⟩ l) l.length = L at *
    have z0 := Blk.new (w.alloc (.cells (spA x) 24)) 44 (znC ⟨f, x, r, d⟩)
    rw [World.size_alloc] at z0
    have B1 := bl_alloc B0 (.cells (znC ⟨f, x, r, d⟩) 44)
    have u8 := y8.alloc (.cells (znC ⟨f, x, r, d⟩) 44)
    go_enter Try.func56, Try.ntmps56
    go_wp2_with fail
    refine (HV.out _).mono ?_
    rintro e w1 ⟨rfl, hb1⟩
    have B2 := below_tr B1 hb1
    have z1 := z0.below hb1 z0.lt
    have v8 := u8.below hb1 u8.lt
    clear e0 e1 e2 e3 e6 e7 y5 y6 y7 y8 x0
    have q0 := z1.cell 0
    have q1 := z1.cell 1
    have q2 := z1.cell 2
    have q3 := z1.cell 3
    have q4 := z1.cell 4
    have q5 := z1.cell 5
    have s0 := v8.cell 0
    simp only [List.getElem?_toArray, List.getElem?_cons_zero, List.getElem?_cons_succ] at q0 q1 q2 q3 q4 q5 s0
    have zl := z1.lt
    have zl8 := v8.lt
    go_wp2_with fail
    refine (HH.out _ B2).mono ?_
    rintro e w2 ⟨A3, c3, rfl, _, hb2⟩
    by_cases hL : L.length = 0
    · have hL' : (L.length : Int) = 0 := by omega
      have hq : ((L.length : Int) == 0) = true := by simpa using hL
      go_wp2
      go_ret
      exact ⟨ret_bool (by rw [HC2.out]; simp [hL]), below_tr B2 hb2⟩
    · have hL' : ¬ (L.length : Int) = 0 := by omega
      have hq : ((L.length : Int) == 0) = false := by simpa using hL
      go_wp2
      go_ret
      exact ⟨ret_bool (by rw [HC2.out]; simp [hL]), below_tr B2 hb2⟩
/-- Clear: the way and the error -/
def ckB (f : Sp) (r d : Int) (l ways : List Sp) : Bool := isS f && ((wn r 1 20000 && wn d 0 1000) && (thB l && thB ways))
def clE (f : Sp) (r d : Int) (l ways : List Sp) : Int := if ckB f r d l ways = true then (if idxOf (cwP f r d l) ways 0 < 0 then 8 else 0) else 7
def clN (f : Sp) (r d : Int) (l ways : List Sp) : Int := if clE f r d l ways = 0 then idxOf (cwP f r d l) ways 0 else 0
def ClP (f : Sp) (r d : Int) (l ways : List Sp) (w : World) (e : Ending) (w' : World) : Prop := e = .returned (.tuple #[.int .i64 (clN f r d l ways), .int .i64 (clE f r d l ways)]) ∧ Below w.heap.size w w'
theorem cl_seven {f : Sp} {r d : Int} {l ways : List Sp} (h : ckB f r d l ways = false) : clE f r d l ways = 7 ∧ clN f r d l ways = 0 := by
  have : clE f r d l ways = 7 := by unfold clE; rw [h]; rfl
  exact ⟨this, by unfold clN; rw [this]; rfl⟩
theorem cl_none {f : Sp} {r d : Int} {l ways : List Sp} (h : ckB f r d l ways = true) (hi : idxOf (cwP f r d l) ways 0 < 0) : clE f r d l ways = 8 ∧ clN f r d l ways = 0 := by
  have : clE f r d l ways = 8 := by unfold clE; rw [if_pos h, if_pos hi]
  exact ⟨this, by unfold clN; rw [this]; rfl⟩
theorem cl_some {f : Sp} {r d : Int} {l ways : List Sp} (h : ckB f r d l ways = true) (hi : ¬ idxOf (cwP f r d l) ways 0 < 0) : clE f r d l ways = 0 ∧ clN f r d l ways = idxOf (cwP f r d l) ways 0 := by
  have : clE f r d l ways = 0 := by unfold clE; rw [if_pos h, if_neg hi]
  exact ⟨this, by unfold clN; rw [if_pos this]⟩
end Go.Proofs.Ytkeojokbpjdhpaa
