/- Wind: a watch: what a minute does. -/
import Derived.Test.YtoelekhkgknneaaDoorVa
set_option linter.unusedSimpArgs false
set_option linter.unusedVariables false
namespace Go.Proofs.YtoelekhkgknneaaDoor
open Go.RowKit

/-- the state behind a minute with a gust (-1: work goes) -/
def nx (r : Ru) (st g : Int) : Int := if st < 0 then (if g < 0 ∨ r.s ≤ g then 0 else -1) else if g < 0 ∨ r.g ≤ g then 0 else if st + 1 = r.c then -1 else st + 1
/-- whether work goes in that minute -/
def gB (r : Ru) (st g : Int) : Bool := decide (st < 0) && (decide (0 ≤ g) && decide (g < r.s))
theorem nx_bd {r : Ru} (h : vRu r = true) {st : Int} (h0 : -1 ≤ st) (h1 : st < r.c) (g : Int) : -1 ≤ nx r st g ∧ nx r st g < r.c := by
  have := vru h
  unfold nx
  split
  · split <;> omega
  · split
    · omega
    · split <;> omega
def wfn (st : Int) : Nat := if st < 0 then 170 else 176
def wcs (b : Nat) (r : Ru) (st : Int) : Array Value := #[.int .i64 r.s, .int .i64 r.g, .int .i64 r.c, .int .i64 (if st < 0 then 0 else st), .func (.func (wfn st)) #[.pointer (some ⟨b, 0, none⟩)] #[]]
abbrev Wt (w : World) (b : Nat) (r : Ru) (st : Int) : Prop := Blk w b 195 (wcs b r st)
theorem wcs_neg {b : Nat} {r : Ru} {st : Int} (h : st < 0) : wcs b r st = #[.int .i64 r.s, .int .i64 r.g, .int .i64 r.c, .int .i64 0, .func (.func 170) #[.pointer (some ⟨b, 0, none⟩)] #[]] := by
  unfold wcs wfn; rw [if_pos h, if_pos h]
theorem wcs_pos {b : Nat} {r : Ru} {st : Int} (h : 0 ≤ st) : wcs b r st = #[.int .i64 r.s, .int .i64 r.g, .int .i64 r.c, .int .i64 st, .func (.func 176) #[.pointer (some ⟨b, 0, none⟩)] #[]] := by
  unfold wcs wfn; rw [if_neg (by omega), if_neg (by omega)]
set_option maxHeartbeats 1000000 in
theorem p_newWatch (r : Ru) (w : World) : Calls Tryd.prog 154 #[ruV r] w fun e w' => e = .returned (.pointer (some ⟨w.heap.size + 1, 0, none⟩)) ∧ Wt w' (w.heap.size + 1) r (-1) ∧ Below w.heap.size w w' ∧ w'.heap.size = w.heap.size + 2 := by
  have hW := Lib.hid (wcs_neg (b := w.heap.size + 1) (r := r) (st := -1) (by omega))
  go_enter Tryd.func154, Tryd.ntmps154
  go_wp2
  go_ret
  refine ⟨rfl, ?_, bl_alloc (bl_alloc (below_refl _) _) _, by simp⟩
  unfold Wt
  rw [hW.out]
  have := Blk.new (w.alloc (.cells #[.int .i64 r.s, .int .i64 r.g, .int .i64 r.c] 82)) 195 #[.int .i64 r.s, .int .i64 r.g, .int .i64 r.c, .int .i64 0, .func (.func 170) #[.pointer (some ⟨w.heap.size + 1, 0, none⟩)] #[]]
  simpa only [World.size_alloc] using this
theorem wt_to_stop {w : World} {b : Nat} {r : Ru} {u : Value} (h : Blk w b 195 #[.int .i64 r.s, .int .i64 r.g, .int .i64 r.c, u, .func (.func 170) #[.pointer (some ⟨b, 0, none⟩)] #[]]) :
    Wt ((w.setCell ⟨b, 3, none⟩ (.int .i64 0)).setCell ⟨b, 4, none⟩ (.func (.func 176) #[.pointer (some ⟨b, 0, none⟩)] #[])) b r 0 := by
  unfold Wt
  rw [wcs_pos (by omega)]
  exact (h.set_ 3 _).set_ 4 _
set_option maxHeartbeats 1000000 in
theorem p_going (b : Nat) (r : Ru) (st g : Int) (w : World) (h : Wt w b r st) (hst : st < 0) (hg : -1 ≤ g) : Calls Tryd.prog 170 #[.pointer (some ⟨b, 0, none⟩), .int .i64 g] w fun e w' => e = .returned (.bool (gB r st g)) ∧ Wt w' b r (nx r st g) ∧ Stp (fun x => x = b) w w' := by
  have h' := h
  unfold Wt at h'
  rw [wcs_neg hst] at h'
  have c0 := h'.cell 0
  have c3 := h'.cell 3
  have c4 := h'.cell 4
  simp only [List.getElem?_toArray, List.getElem?_cons_zero, List.getElem?_cons_succ] at c0 c3 c4
  have f3 := h'.frozen 3
  have f4 := h'.frozen 4
  have hN : nx r st g = if g < 0 ∨ r.s ≤ g then 0 else -1 := by unfold nx; rw [if_pos hst]
  have hG : gB r st g = (decide (0 ≤ g) && decide (g < r.s)) := by unfold gB; rw [decide_eq_true hst]; rfl
  have HH := Lib.hid (wt_to_stop h')
  have HH0 := Lib.hid (show Wt w b r (-1) by unfold Wt; rw [wcs_neg (by omega)]; exact h')
  have HS := Lib.hid (fun u v => ((Stp.refl (fun x => x = b) w).setCell (p := ⟨b, 3, none⟩) (.inl rfl) u).setCell (p := ⟨b, 4, none⟩) (.inl rfl) v)
  clear h h'
  by_cases h1 : g = -1
  · have HN := Lib.hid (show nx r st g = 0 by rw [hN, if_pos (by omega)])
    have HG := Lib.hid (show gB r st g = false by rw [hG, decide_eq_false (by omega)]; rfl)
    subst h1
    clear hN hG
    go_enter Tryd.func170, Tryd.ntmps170
    go_wp2
    go_ret
    exact ⟨ret_bool (by rw [HG.out]), by rw [HN.out]; exact HH.out, HS.out _ _⟩
  by_cases h2 : g < r.s
  · have HN := Lib.hid (show nx r st g = -1 by rw [hN, if_neg (by omega)])
    have HG := Lib.hid (show gB r st g = true by rw [hG, decide_eq_true (by omega), decide_eq_true h2]; rfl)
    clear hN hG
    go_enter Tryd.func170, Tryd.ntmps170
    go_wp2
    go_ret
    exact ⟨ret_bool (by rw [HG.out]), by rw [HN.out]; exact HH0.out, Stp.refl _ _⟩
  · have HN := Lib.hid (show nx r st g = 0 by rw [hN, if_pos (by omega)])
    have HG := Lib.hid (show gB r st g = false by rw [hG, decide_eq_false h2]; simp)
    clear hN hG
    go_enter Tryd.func170, Tryd.ntmps170
    go_wp2
    go_ret
    exact ⟨ret_bool (by rw [HG.out]), by rw [HN.out]; exact HH.out, HS.out _ _⟩
theorem wt_set {w : World} {b : Nat} {r : Ru} {u : Value} {x : Int} (hx : 0 ≤ x) (h : Blk w b 195 #[.int .i64 r.s, .int .i64 r.g, .int .i64 r.c, u, .func (.func 176) #[.pointer (some ⟨b, 0, none⟩)] #[]]) :
    Wt (w.setCell ⟨b, 3, none⟩ (.int .i64 x)) b r x := by
  unfold Wt
  rw [wcs_pos hx]
  exact h.set_ 3 _
set_option maxHeartbeats 1000000 in
theorem p_stopped (b : Nat) (r : Ru) (st g : Int) (w : World) (h : Wt w b r st) (hst : 0 ≤ st) (hsc : st < 1000) (hg : -1 ≤ g) : Calls Tryd.prog 176 #[.pointer (some ⟨b, 0, none⟩), .int .i64 g] w fun e w' => e = .returned (.bool (gB r st g)) ∧ Wt w' b r (nx r st g) ∧ Stp (fun x => x = b) w w' := by
  have h' := h
  unfold Wt at h'
  rw [wcs_pos hst] at h'
  have c1 := h'.cell 1
  have c2 := h'.cell 2
  have c3 := h'.cell 3
  have c4 := h'.cell 4
  simp only [List.getElem?_toArray, List.getElem?_cons_zero, List.getElem?_cons_succ] at c1 c2 c3 c4
  have f3 := h'.frozen 3
  have f4 := h'.frozen 4
  have hN : nx r st g = if g < 0 ∨ r.g ≤ g then 0 else if st + 1 = r.c then -1 else st + 1 := by unfold nx; rw [if_neg (by omega)]
  have HG := Lib.hid (show gB r st g = false by unfold gB; rw [decide_eq_false (by omega)]; rfl)
  have HH := Lib.hid h'
  have HS1 := Lib.hid (fun u => (Stp.refl (fun x => x = b) w).setCell (p := ⟨b, 3, none⟩) (.inl rfl) u)
  clear h h'
  by_cases h1 : g = -1
  · have HN := Lib.hid (show nx r st g = 0 by rw [hN, if_pos (by omega)])
    subst h1
    clear hN
    go_enter Tryd.func176, Tryd.ntmps176
    go_wp2
    go_ret
    exact ⟨ret_bool (by rw [HG.out]), by rw [HN.out]; exact wt_set (by omega) HH.out, HS1.out _⟩
  by_cases h2 : r.g ≤ g
  · have HN := Lib.hid (show nx r st g = 0 by rw [hN, if_pos (by omega)])
    clear hN
    go_enter Tryd.func176, Tryd.ntmps176
    go_wp2
    go_ret
    exact ⟨ret_bool (by rw [HG.out]), by rw [HN.out]; exact wt_set (by omega) HH.out, HS1.out _⟩
  have h3 : ¬ (g < 0 ∨ r.g ≤ g) := by omega
  by_cases h4 : st + 1 = r.c
  · have HN := Lib.hid (show nx r st g = -1 by rw [hN, if_neg h3, if_pos h4])
    have HC := Lib.hid h4
    have h5 : (st + 1 == r.c) = true := by simpa using h4
    clear hN h3 h4
    go_enter Tryd.func176, Tryd.ntmps176
    go_wp2
    go_quiet (fail)
    go_wp2
    go_ret
    exact ⟨ret_bool (by rw [HG.out]), by rw [HN.out]; unfold Wt; rw [wcs_neg (by omega)]; exact (((HH.out.set_ 3 _).drewN nq).set_ 3 _).set_ 4 _, (((HS1.out _).drewN nq).setCell (.inl rfl) _).setCell (.inl rfl) _⟩
  · have HN := Lib.hid (show nx r st g = st + 1 by rw [hN, if_neg h3, if_neg h4])
    have h5 : (st + 1 == r.c) = false := by simpa using h4
    clear hN h3 h4
    go_enter Tryd.func176, Tryd.ntmps176
    go_wp2
    go_quiet (fail)
    go_wp2
    go_ret
    exact ⟨ret_bool (by rw [HG.out]), by rw [HN.out]; exact (wt_set (by omega) HH.out).drewN nq, (HS1.out _).drewN nq⟩
end Go.Proofs.YtoelekhkgknneaaDoor
