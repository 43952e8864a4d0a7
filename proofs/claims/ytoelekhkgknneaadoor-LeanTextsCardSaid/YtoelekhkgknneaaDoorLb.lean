/- Lean: points and lines: sound, ValidLine, off, through; by both. -/
import Derived.Test.YtoelekhkgknneaaDoorLa
namespace Go.Proofs.YtoelekhkgknneaaDoor
open Go.RowKit

set_option maxHeartbeats 400000 in
theorem p_divisorQ (a b : Int) (w : World) (ha : Fits a) (hb : Fits b) :
    Calls Tryd.prog 157 #[.int .i64 a, .int .i64 b] w fun e w' => e = .returned (.int .i64 (Int.gcd a b)) ∧ ∃ m, w' = w.drewN m := by
  go_enter Tryd.func157, Tryd.ntmps157
  go_wp2
  go_loopw [0, 1] (fun x y wr => ∃ (a' b' : Int) (n : Nat), x = .int .i64 a' ∧ y = .int .i64 b' ∧ Fits a' ∧ Fits b' ∧ Hid (Int.gcd a' b' = Int.gcd a b) ∧ wr = w.drewN n) (fun x y _ => (intOf y).natAbs)
  case atStart => exact ⟨a, b, 0, rfl, rfl, ha, hb, rfl, rfl⟩
  case round =>
    obtain ⟨a', b', n, rfl, rfl, ha', hb', HG, rfl⟩ := hrel
    by_cases hz : b' = 0
    · subst hz
      have hg : ((a.gcd b : Nat) : Int) = (a'.natAbs : Int) := by rw [← HG.out, gcd_zero_r]
      have HH := Lib.hid hg
      clear hg
      have e1 : IntKind.i64.wrap (-a') = -a' := fits_wrap (by unfold Fits at *; omega)
      rcases (by omega : (a' < -a' ∧ (a'.natAbs : Int) = -a') ∨ (-a' ≤ a' ∧ (a'.natAbs : Int) = a')) with ⟨hs, he⟩ | ⟨hs, he⟩
      all_goals
        have HE := Lib.hid he
        clear he
        go_wp2
        go_ret
        exact ⟨ret_int (by rw [HH.out, HE.out]), n, rfl⟩
    · have t1 : (b' == 0) = false := by simpa using hz
      have t2 : (b' != 0) = true := by simpa using hz
      have e1 := fits_wrap (fits_mod (b := b') ha')
      go_wp2
      go_quiet (fail)
      go_wp2
      go_roundw
      case rel => exact ⟨b', a'.tmod b', _, rfl, rfl, hb', fits_mod ha', by show _ = _; rw [gcd_tmod_]; exact HG.out, by rw [World.drewN_drewN]⟩
      case measure => simp only [intOf]; exact natAbs_tmod_lt _ _ hz
structure Pt where
  h : Int
  x : Int
def Pt.cs (p : Pt) : List Value := [.int .i64 p.h, .int .i64 p.x]
def sndP (p : Pt) : Bool := wn p.h 0 200000 && wn p.x (-10000) 10000
structure SP (p : Pt) : Prop where
  h0 : 0 ≤ p.h
  h1 : p.h ≤ 200000
  x0 : -10000 ≤ p.x
  x1 : p.x ≤ 10000
theorem sp_of {p : Pt} (h : sndP p = true) : SP p := by
  simp only [sndP, Bool.and_eq_true, wn_iff] at h
  exact ⟨h.1.1, h.1.2, h.2.1, h.2.2⟩
theorem p_sound (p : Pt) (w : World) :
    Calls Tryd.prog 134 #[.agg #[.int .i64 p.h, .int .i64 p.x]] w fun e w' => e = .returned (.bool (sndP p)) ∧ Below w.heap.size w w' := by
  go_enter Tryd.func134, Tryd.ntmps134
  go_wp2_with (go_at_call 109; refine (p_within _ _ _ _).mono ?_; rintro e w' ⟨rfl, rfl⟩)
  all_goals
    go_ret
    exact ⟨ret_bool (by simp [sndP, *]), below_alloc _ _⟩
def inB (a b d : Int) : Bool := wn a (-100000000000000000) 100000000000000000 && (wn b (-1000000000000) 1000000000000 && wn d 1 1000000000000)
def vldL (a b d : Int) : Bool := inB a b d && decide (g3 a b d = 1)
structure LB (a b d : Int) : Prop where
  a0 : -100000000000000000 ≤ a
  a1 : a ≤ 100000000000000000
  b0 : -1000000000000 ≤ b
  b1 : b ≤ 1000000000000
  d0 : 1 ≤ d
  d1 : d ≤ 1000000000000
theorem lb_of {a b d : Int} (h : inB a b d = true) : LB a b d := by
  simp only [inB, Bool.and_eq_true, wn_iff] at h
  exact ⟨h.1.1, h.1.2, h.2.1.1, h.2.1.2, h.2.2.1, h.2.2.2⟩
end Go.Proofs.YtoelekhkgknneaaDoor
