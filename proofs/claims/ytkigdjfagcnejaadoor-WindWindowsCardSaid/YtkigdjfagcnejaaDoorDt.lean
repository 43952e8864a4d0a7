/- Wind cards: windows by the program and by the reference. -/
import Derived.Test.YtkigdjfagcnejaaDoorDs
set_option linter.unusedSimpArgs false
set_option linter.unusedVariables false
namespace Go.Proofs.YtkigdjfagcnejaaDoor
open Go.RowKit

/-- a minute that may be below a mark -/
def maQ (mk : Int) (o : Option Ca) : Bool := match o with | some x => decide (x.lo < mk) | none => true
theorem p_Maybe1 (o : Option Ca) (mk : Int) (b : Nat) (w : World) (hb : b < w.heap.size) (hc : w.cell? ⟨b, 0, none⟩ = some (.int .i64 mk)) :
    Calls Tryd.prog 64 #[caV (o.getD caZ0), .bool o.isSome, .pointer (some ⟨b, 0, none⟩)] w fun e w' => e = .returned (.bool (maQ mk o)) ∧ Below w.heap.size w w' := by
  cases o with
  | none =>
    dsimp only [Option.getD_none, Option.isSome_none, maQ]
    go_enter Tryd.func64, Tryd.ntmps64
    go_wp2
    go_ret
    exact ⟨rfl, by (repeat' (first | assumption | exact below_refl _ | refine bl_alloc ?_ _ | refine Below.setCell ?_ ?_ _ | refine below_draw ?_ | refine below_drewN ?_ _ | refine below_tr ?_ (by assumption))) <;> (first | omega | (simp; done) | (simp; omega))⟩
  | some x =>
    dsimp only [Option.getD_some, Option.isSome_some, maQ]
    go_enter Tryd.func64, Tryd.ntmps64
    go_wp2
    go_ret
    exact ⟨rfl, by (repeat' (first | assumption | exact below_refl _ | refine bl_alloc ?_ _ | refine Below.setCell ?_ ?_ _ | refine below_draw ?_ | refine below_drewN ?_ _ | refine below_tr ?_ (by assumption))) <;> (first | omega | (simp; done) | (simp; omega))⟩
set_option maxHeartbeats 1000000 in
theorem p_Maybe (A : Option Addr) (l : List Ca) (c : Nat) (mk n fr tu : Int) (w : World) (hl : l.length ≤ 100000) (hR : Rd Ca.cs 4 w A l) :
    Calls Tryd.prog 23 #[.slice A l.length c, .int .i64 mk, .int .i64 n, .int .i64 fr, .int .i64 tu] w fun e w' => e = .returned (.tuple #[.int .i64 (sfI (maQ mk) l mk n fr tu), .int .i64 (sfE (maQ mk) l mk n fr tu)]) ∧ Below w.heap.size w w' := by
  have H1 := Lib.hid (fun W (h : Below w.heap.size w W) => p_windowed A l c mk n fr tu W hl (hR.on h))
  by_cases h : wdE l mk n fr tu = 0
  rotate_left
  · have HE := Lib.hid (show sfE (maQ mk) l mk n fr tu = wdE l mk n fr tu by unfold sfE; rw [if_neg h])
    have HI := Lib.hid (show sfI (maQ mk) l mk n fr tu = 0 by unfold sfI; rw [if_neg h])
    have h5 : (wdE l mk n fr tu != 0) = true := by simpa using h
    generalize wdE l mk n fr tu = X at *
    clear h
    go_enter Tryd.func23, Tryd.ntmps23
    go_wp2_with (go_at_call 60; ((with_reducible refine (H1.out _ (bl_alloc (below_refl _) _)).mono ?_); rintro e w1 ⟨rfl, hb1⟩; obtain ⟨hc1, hf1⟩ := bcell hb1; have hz1 := hb1.size; (try simp [sz_drew, sz_drewN] at hz1); (try simp only [sz_drew, sz_drewN] at hc1 hf1); have z1_0 : w.heap.size < w1.heap.size := (by omega)))
    go_ret2
    exact ⟨by rw [HE.out, HI.out]; rfl, by (repeat' (first | assumption | exact below_refl _ | refine bl_alloc ?_ _ | refine Below.setCell ?_ ?_ _ | refine below_draw ?_ | refine below_drewN ?_ _ | refine below_tr ?_ (by assumption))) <;> (first | omega | (simp; done) | (simp; omega))⟩
  · have HE := Lib.hid (show sfE (maQ mk) l mk n fr tu = winE (fun t => maQ mk (ctO l t)) n fr tu by unfold sfE; rw [if_pos h])
    have HI := Lib.hid (show sfI (maQ mk) l mk n fr tu = winI (fun t => maQ mk (ctO l t)) n fr tu by unfold sfI; rw [if_pos h])
    obtain ⟨_, _, hn, hf, ht⟩ := wdE_z h
    rw [h] at H1
    have H2 := Lib.hid (fun W (hb : Below w.heap.size w W) (k : Blk W w.heap.size 3 #[.int .i64 mk]) => p_first A l c n fr tu (maQ mk) 64 #[.pointer (some ⟨w.heap.size, 0, none⟩)] W hl hf.1 hf.2 ht (by omega) (by omega) (hR.on hb) (enters_of Tryd.func64 (by kernel_rfl) rfl) (fun V o hV => p_Maybe1 o mk w.heap.size V (k.below hV k.lt).lt ((k.below hV k.lt).cell 0)))
    clear h
    go_enter Tryd.func23, Tryd.ntmps23
    go_wp2_with fail
    have k0 := Blk.new w 3 #[.int .i64 mk]
    have B0 := bl_alloc (below_refl w) (.cells #[.int .i64 mk] 3)
    generalize w.alloc (.cells #[.int .i64 mk] 3) = W0 at *
    refine (H1.out _ B0).mono ?_
    rintro e w1 ⟨rfl, hb1⟩
    have B1 := below_tr B0 hb1
    have k1 := k0.below hb1 k0.lt
    have HC := Lib.hid (H2.out _ B1 k1)
    clear hb1 k0 k1
    go_wp2_with (go_at_call 61; ((with_reducible refine HC.out.mono ?_); rintro e w2 ⟨rfl, hb2⟩))
    go_ret2
    exact ⟨by rw [HE.out, HI.out]; rfl, below_tr B1 hb2⟩
def qS (b : Bool) (mk : Int) (o : Option Ca) : Bool := if b = true then suQ mk o else maQ mk o
set_option maxHeartbeats 1000000 in
theorem r_fine (A : Option Addr) (l : List Ca) (c : Nat) (t mk : Int) (b : Bool) (w : World) (hl : l.length ≤ 100000) (hv : vCa l = true) (hR : Rd Ca.cs 4 w A l) :
    Calls Tryd.prog 85 #[.slice A l.length c, .int .i64 t, .int .i64 mk, .bool b] w fun e w' => e = .returned (.bool (qS b mk (ctO l t))) ∧ Below w.heap.size w w' := by
  have HC := Lib.hid (r_castAt A l c t w hl hv hR)
  clear hR hv
  cases ho : ctO l t with
  | none =>
    rw [ho] at HC
    clear ho
    cases b
    · have HQ := Lib.hid (show qS false mk none = true from rfl)
      go_enter Tryd.func85, Tryd.ntmps85
      go_wp2_with (go_at_call 59; ((with_reducible refine (HC.out).mono ?_); rintro e w1 ⟨rfl, hb1⟩; obtain ⟨hc1, hf1⟩ := bcell hb1; have hz1 := hb1.size; (try simp [sz_drew, sz_drewN] at hz1); (try simp only [sz_drew, sz_drewN] at hc1 hf1)))
      go_ret
      exact ⟨ret_bool (by rw [HQ.out]), by (repeat' (first | assumption | exact below_refl _ | refine bl_alloc ?_ _ | refine Below.setCell ?_ ?_ _ | refine below_draw ?_ | refine below_drewN ?_ _ | refine below_tr ?_ (by assumption))) <;> (first | omega | (simp; done) | (simp; omega))⟩
    · have HQ := Lib.hid (show qS true mk none = false from rfl)
      go_enter Tryd.func85, Tryd.ntmps85
      go_wp2_with (go_at_call 59; ((with_reducible refine (HC.out).mono ?_); rintro e w1 ⟨rfl, hb1⟩; obtain ⟨hc1, hf1⟩ := bcell hb1; have hz1 := hb1.size; (try simp [sz_drew, sz_drewN] at hz1); (try simp only [sz_drew, sz_drewN] at hc1 hf1)))
      go_ret
      exact ⟨ret_bool (by rw [HQ.out]), by (repeat' (first | assumption | exact below_refl _ | refine bl_alloc ?_ _ | refine Below.setCell ?_ ?_ _ | refine below_draw ?_ | refine below_drewN ?_ _ | refine below_tr ?_ (by assumption))) <;> (first | omega | (simp; done) | (simp; omega))⟩
  | some x =>
    rw [ho] at HC
    clear ho
    cases b
    · have HQ := Lib.hid (show qS false mk (some x) = decide (x.lo < mk) from rfl)
      go_enter Tryd.func85, Tryd.ntmps85
      go_wp2_with (go_at_call 59; ((with_reducible refine (HC.out).mono ?_); rintro e w1 ⟨rfl, hb1⟩; obtain ⟨hc1, hf1⟩ := bcell hb1; have hz1 := hb1.size; (try simp [sz_drew, sz_drewN] at hz1); (try simp only [sz_drew, sz_drewN] at hc1 hf1)))
      go_ret
      exact ⟨ret_bool (by rw [HQ.out]), by (repeat' (first | assumption | exact below_refl _ | refine bl_alloc ?_ _ | refine Below.setCell ?_ ?_ _ | refine below_draw ?_ | refine below_drewN ?_ _ | refine below_tr ?_ (by assumption))) <;> (first | omega | (simp; done) | (simp; omega))⟩
    · have HQ := Lib.hid (show qS true mk (some x) = decide (x.hi < mk) from rfl)
      go_enter Tryd.func85, Tryd.ntmps85
      go_wp2_with (go_at_call 59; ((with_reducible refine (HC.out).mono ?_); rintro e w1 ⟨rfl, hb1⟩; obtain ⟨hc1, hf1⟩ := bcell hb1; have hz1 := hb1.size; (try simp [sz_drew, sz_drewN] at hz1); (try simp only [sz_drew, sz_drewN] at hc1 hf1)))
      go_ret
      exact ⟨ret_bool (by rw [HQ.out]), by (repeat' (first | assumption | exact below_refl _ | refine bl_alloc ?_ _ | refine Below.setCell ?_ ?_ _ | refine below_draw ?_ | refine below_drewN ?_ _ | refine below_tr ?_ (by assumption))) <;> (first | omega | (simp; done) | (simp; omega))⟩
end Go.Proofs.YtkigdjfagcnejaaDoor
