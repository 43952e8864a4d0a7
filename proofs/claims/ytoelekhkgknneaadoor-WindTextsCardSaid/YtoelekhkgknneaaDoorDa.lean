/- Wind cards: Stops of the program, SameSpans, Format at few gusts, awake, many. -/
import Derived.Test.YtoelekhkgknneaaDoorVi
import Derived.Test.YtoelekhkgknneaaDoorShelf
import Derived.Laws.StructEq
set_option linter.unusedSimpArgs false
set_option linter.unusedVariables false
namespace Go.Proofs.YtoelekhkgknneaaDoor
open Go.RowKit

/-- what stops, and the spans of it -/
def stP (r : Ru) (l : List Int) (k : Nat) : Bool := !gA r l k
def stL (r : Ru) (l : List Int) : List Sp := if aE r l = 0 then spS (stP r l) l.length else []
theorem p_Stops1 (A : Option Addr) (r : Ru) (l : List Int) (c b t : Nat) (w : World) (ht : t < l.length) (hR : Rd bC 1 w A (goL r l)) (hb : b < w.heap.size) (hc : w.cell? ⟨b, 0, none⟩ = some (.slice A (goL r l).length c)) :
    Calls Tryd.prog 89 #[.int .i64 (t : Nat), .pointer (some ⟨b, 0, none⟩)] w fun e w' => e = .returned (.bool (stP r l t)) ∧ Below w.heap.size w w' := by
  obtain ⟨x, xb, xo, hx, rfl, hxb, c0⟩ := rdB hR (show t < (goL r l).length by rw [goL_len]; exact ht)
  have HM := Lib.hid (show stP r l t = !x by unfold stP; rw [gA_at ht] at hx; rw [Option.some.inj hx])
  have t0 : (0 : Int) ≤ (t : Int) := Int.natCast_nonneg _
  have t1 : (t : Int) < ((goL r l).length : Int) := by rw [goL_len]; omega
  clear hx hR
  generalize (goL r l).length = n at *
  go_enter Tryd.func89, Tryd.ntmps89
  go_wp2
  go_ret
  exact ⟨ret_bool (by rw [HM.out]), below_refl _⟩
set_option maxHeartbeats 1000000 in
theorem p_Stops (A : Option Addr) (r : Ru) (l : List Int) (c : Nat) (w : World) (hl : l.length ≤ 100000) (hR : Rd zC 1 w A l) :
    Calls Tryd.prog 51 #[ruV r, .slice A l.length c] w fun e w' => ∃ v, e = .returned (.tuple #[v, .int .i64 (aE r l)]) ∧ GotP w' v (stL r l) ∧ Below w.heap.size w w' := by
  have H1 := Lib.hid (fun W (h : Below w.heap.size w W) => p_asked A r l c W hl (hR.on h))
  by_cases h1 : aE r l = 0
  rotate_left
  · have HL := Lib.hid (show stL r l = [] by unfold stL; rw [if_neg h1])
    have HE := Lib.hid (aE_one h1)
    rw [aE_one h1] at H1
    clear h1
    go_enter Tryd.func51, Tryd.ntmps51
    go_wp2_with (go_at_call 86; ((with_reducible refine (H1.out _ (bl_alloc (below_refl _) _)).mono ?_); rintro e w1 ⟨rfl, hb1⟩; obtain ⟨hc1, hf1⟩ := bcell hb1; have hz1 := hb1.size; (try simp [sz_drew, sz_drewN] at hz1); (try simp only [sz_drew, sz_drewN] at hc1 hf1); have z1_0 : w.heap.size < w1.heap.size := (by omega)))
    go_ret2
    exact ⟨_, by rw [HE.out]; rfl, by rw [HL.out]; exact gotP_nil _, by (repeat' (first | assumption | exact below_refl _ | refine bl_alloc ?_ _ | refine Below.setCell ?_ ?_ _ | refine below_draw ?_ | refine below_drewN ?_ _ | refine below_tr ?_ (by assumption))) <;> (first | omega | (simp; done) | (simp; omega))⟩
  rw [h1] at H1
  obtain ⟨hv, hg⟩ := a_z h1
  have HE := Lib.hid h1
  have HL := Lib.hid (show stL r l = spS (stP r l) l.length by unfold stL; rw [if_pos h1])
  have H2 := Lib.hid (fun W (h : Below w.heap.size w W) => p_gone A r l c W hv hg (hR.on h))
  have H3 := Lib.hid (fun W D d q (hb : Below w.heap.size w W) (hD : Rd bC 1 W D (goL r l)) (k : Blk W q 126 #[.slice D (goL r l).length d]) => p_spans l.length (stP r l) 89 #[.pointer (some ⟨q, 0, none⟩)] W hl (enters_of Tryd.func89 (by kernel_rfl) rfl) (fun V t hV ht => p_Stops1 D r l d q t V ht (hD.on hV) (k.below hV k.lt).lt ((k.below hV k.lt).cell 0)))
  clear h1 hv hg
  go_enter Tryd.func51, Tryd.ntmps51
  go_wp2_with fail
  have x0 := Blk.new w 82 #[.int .i64 r.s, .int .i64 r.g, .int .i64 r.c]
  have B0 := bl_alloc (below_refl w) (.cells #[.int .i64 r.s, .int .i64 r.g, .int .i64 r.c] 82)
  generalize w.alloc (.cells #[.int .i64 r.s, .int .i64 r.g, .int .i64 r.c] 82) = W0 at *
  refine (H1.out _ B0).mono ?_
  rintro e w1 ⟨rfl, hb1⟩
  have B1 := below_tr B0 hb1
  have x1 := x0.below hb1 x0.lt
  have q0 := x1.cell 0
  have q1 := x1.cell 1
  have q2 := x1.cell 2
  simp only [List.getElem?_toArray, List.getElem?_cons_zero, List.getElem?_cons_succ] at q0 q1 q2
  clear hb1 x0 x1 B0
  go_wp2_with fail
  refine (H2.out _ B1).mono ?_
  rintro e w2 ⟨v, rfl, hv2, hb2⟩
  obtain ⟨A2, c2, rfl, hr2⟩ := own_bools hv2
  have B2 := below_tr B1 hb2
  have HL2 := Lib.hid (goL_len r l)
  clear q0 q1 q2 hb2 hv2 B1
  go_wp2_with fail
  have x3 := Blk.new w2 126 #[.slice A2 (goL r l).length c2]
  have B3 := bl_alloc B2 (.cells #[.slice A2 (goL r l).length c2] 126)
  have r3 := hr2.on (bl_alloc (below_refl w2) (.cells #[.slice A2 (goL r l).length c2] 126))
  generalize w2.alloc (.cells #[.slice A2 (goL r l).length c2] 126) = W3 at *
  refine (H3.out W3 A2 c2 _ B3 r3 x3).mono ?_
  rintro e w4 ⟨v, rfl, hv4, hb4⟩
  obtain ⟨A4, c4, rfl, hr4⟩ := own_rd pC_len hv4
  go_wp2
  go_ret2
  exact ⟨_, by rw [HE.out]; rfl, by rw [HL.out]; exact ⟨_, _, rfl, hr4⟩, below_tr B3 hb4⟩
end Go.Proofs.YtoelekhkgknneaaDoor
