/- Lean: marks. -/
import Derived.Test.YtoelekhkgknneaaDoorLm
namespace Go.Proofs.YtoelekhkgknneaaDoor
open Go.RowKit

/-- a mark -/
structure Mk where
  h : Int
  e : Int
  n : Int
def Mk.cs (a : Mk) : List Value := [.int .i64 a.h, .int .i64 a.e, .int .i64 a.n]
def mkd (a : Mk) : Bool := wn a.h 0 200000 && wn a.e (-10000) 10000 && wn a.n (-10000) 10000
structure SM (a : Mk) : Prop where
  h0 : 0 ≤ a.h
  h1 : a.h ≤ 200000
  e0 : -10000 ≤ a.e
  e1 : a.e ≤ 10000
  n0 : -10000 ≤ a.n
  n1 : a.n ≤ 10000
theorem sm_of {a : Mk} (h : mkd a = true) : SM a := by
  simp only [mkd, Bool.and_eq_true, wn_iff] at h
  exact ⟨h.1.1.1, h.1.1.2, h.1.2.1, h.1.2.2, h.2.1, h.2.2⟩
theorem p_marked (a : Mk) (w : World) :
    Calls Tryd.prog 108 #[.agg #[.int .i64 a.h, .int .i64 a.e, .int .i64 a.n]] w fun e w' => e = .returned (.bool (mkd a)) ∧ Below w.heap.size w w' := by
  go_enter Tryd.func108, Tryd.ntmps108
  go_wp2_with (go_at_call 109; refine (p_within _ _ _ _).mono ?_; rintro e w' ⟨rfl, rfl⟩)
  all_goals
    go_ret
    exact ⟨ret_bool (by simp [mkd, *]), below_alloc _ _⟩
theorem r_validMark (a : Mk) (w : World) :
    Calls Tryd.prog 110 #[.agg #[.int .i64 a.h, .int .i64 a.e, .int .i64 a.n]] w fun e w' => e = .returned (.bool (mkd a)) ∧ Below w.heap.size w w' := by
  go_enter Tryd.func110, Tryd.ntmps110
  go_wp2_with (go_at_call 111; refine (r_within _ _ _ _).mono ?_; rintro e w' ⟨rfl, rfl⟩)
  all_goals
    go_ret
    exact ⟨ret_bool (by simp [mkd, *]), below_alloc _ _⟩
end Go.Proofs.YtoelekhkgknneaaDoor
