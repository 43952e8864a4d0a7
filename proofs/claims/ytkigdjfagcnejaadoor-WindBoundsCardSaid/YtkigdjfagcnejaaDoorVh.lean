/- Wind: windowed, Sure, Missing, Kept by the program. -/
import Derived.Test.YtkigdjfagcnejaaDoorVg
set_option linter.unusedSimpArgs false
set_option linter.unusedVariables false
namespace Go.Proofs.YtkigdjfagcnejaaDoor
open Go.RowKit

def wdE (c : List Ca) (mk n fr to : Int) : Int := if vCa c = true then (if wn mk 1 200 = true ∧ wn n 1 10000 = true ∧ wn fr 0 to = true ∧ to ≤ 100000 then 0 else 7) else 1
theorem wdE_z {c : List Ca} {mk n fr to : Int} (h : wdE c mk n fr to = 0) : vCa c = true ∧ (1 ≤ mk ∧ mk ≤ 200) ∧ (1 ≤ n ∧ n ≤ 10000) ∧ (0 ≤ fr ∧ fr ≤ to) ∧ to ≤ 100000 := by
  unfold wdE at h
  split at h
  · split at h
    · rename_i h1 h2
      exact ⟨h1, wn_iff.1 h2.1, wn_iff.1 h2.2.1, wn_iff.1 h2.2.2.1, h2.2.2.2⟩
    · omega
  · omega
set_option maxHeartbeats 1000000 in
theorem p_windowed (A : Option Addr) (l : List Ca) (c : Nat) (mk n fr to : Int) (w : World) (hl : l.length ≤ 100000) (hR : Rd Ca.cs 4 w A l) :
    Calls Tryd.prog 60 #[.slice A l.length c, .int .i64 mk, .int .i64 n, .int .i64 fr, .int .i64 to] w fun e w' => e = .returned (.int .i64 (wdE l mk n fr to)) ∧ Below w.heap.size w w' := by
  have H1 := Lib.hid (fun b (h : vCa l = b) => p_ValidCastsV (c := c) h hl hR)
  have HE := Lib.hid (show wdE l mk n fr to = if vCa l = true then (if wn mk 1 200 = true ∧ wn n 1 10000 = true ∧ wn fr 0 to = true ∧ to ≤ 100000 then 0 else 7) else 1 from rfl)
  clear hR
  cases h : vCa l
  · go_enter Tryd.func60, Tryd.ntmps60
    go_wp2_with (go_at_call 21; ((with_reducible refine (H1.out _ h).mono ?_); rintro e w1 ⟨rfl, hb1⟩; obtain ⟨hc1, hf1⟩ := bcell hb1; have hz1 := hb1.size; (try simp [sz_drew, sz_drewN] at hz1); (try simp only [sz_drew, sz_drewN] at hc1 hf1)))
    go_ret
    exact ⟨ret_int (by rw [HE.out, if_neg (by simp [h])]), hb1⟩
  cases h1 : wn mk 1 200
  · go_enter Tryd.func60, Tryd.ntmps60
    go_wp2_with (first | (go_at_call 21; ((with_reducible refine (H1.out _ h).mono ?_); rintro e w1 ⟨rfl, hb1⟩; obtain ⟨hc1, hf1⟩ := bcell hb1; have hz1 := hb1.size; (try simp [sz_drew, sz_drewN] at hz1); (try simp only [sz_drew, sz_drewN] at hc1 hf1))) | (go_at_call 55; ((with_reducible refine (p_withinV h1 _).mono ?_); rintro e w' ⟨rfl, rfl⟩)))
    go_ret
    exact ⟨ret_int (by rw [HE.out, if_pos h, if_neg (by simp [h1])]), hb1⟩
  cases h2 : wn n 1 10000
  · go_enter Tryd.func60, Tryd.ntmps60
    go_wp2_with (first | (go_at_call 21; ((with_reducible refine (H1.out _ h).mono ?_); rintro e w1 ⟨rfl, hb1⟩; obtain ⟨hc1, hf1⟩ := bcell hb1; have hz1 := hb1.size; (try simp [sz_drew, sz_drewN] at hz1); (try simp only [sz_drew, sz_drewN] at hc1 hf1))) | (go_at_call 55; ((with_reducible refine (p_withinV h1 _).mono ?_); rintro e w' ⟨rfl, rfl⟩)) | (go_at_call 55; ((with_reducible refine (p_withinV h2 _).mono ?_); rintro e w' ⟨rfl, rfl⟩)))
    go_ret
    exact ⟨ret_int (by rw [HE.out, if_pos h, if_neg (by simp [h2])]), hb1⟩
  cases h3 : wn fr 0 to
  · go_enter Tryd.func60, Tryd.ntmps60
    go_wp2_with (first | (go_at_call 21; ((with_reducible refine (H1.out _ h).mono ?_); rintro e w1 ⟨rfl, hb1⟩; obtain ⟨hc1, hf1⟩ := bcell hb1; have hz1 := hb1.size; (try simp [sz_drew, sz_drewN] at hz1); (try simp only [sz_drew, sz_drewN] at hc1 hf1))) | (go_at_call 55; ((with_reducible refine (p_withinV h1 _).mono ?_); rintro e w' ⟨rfl, rfl⟩)) | (go_at_call 55; ((with_reducible refine (p_withinV h2 _).mono ?_); rintro e w' ⟨rfl, rfl⟩)) | (go_at_call 55; ((with_reducible refine (p_withinV h3 _).mono ?_); rintro e w' ⟨rfl, rfl⟩)))
    go_ret
    exact ⟨ret_int (by rw [HE.out, if_pos h, if_neg (by simp [h3])]), hb1⟩
  by_cases h4 : 100000 < to
  · go_enter Tryd.func60, Tryd.ntmps60
    go_wp2_with (first | (go_at_call 21; ((with_reducible refine (H1.out _ h).mono ?_); rintro e w1 ⟨rfl, hb1⟩; obtain ⟨hc1, hf1⟩ := bcell hb1; have hz1 := hb1.size; (try simp [sz_drew, sz_drewN] at hz1); (try simp only [sz_drew, sz_drewN] at hc1 hf1))) | (go_at_call 55; ((with_reducible refine (p_withinV h1 _).mono ?_); rintro e w' ⟨rfl, rfl⟩)) | (go_at_call 55; ((with_reducible refine (p_withinV h2 _).mono ?_); rintro e w' ⟨rfl, rfl⟩)) | (go_at_call 55; ((with_reducible refine (p_withinV h3 _).mono ?_); rintro e w' ⟨rfl, rfl⟩)))
    go_ret
    exact ⟨ret_int (by rw [HE.out, if_pos h, if_neg (by omega)]), hb1⟩
  · go_enter Tryd.func60, Tryd.ntmps60
    go_wp2_with (first | (go_at_call 21; ((with_reducible refine (H1.out _ h).mono ?_); rintro e w1 ⟨rfl, hb1⟩; obtain ⟨hc1, hf1⟩ := bcell hb1; have hz1 := hb1.size; (try simp [sz_drew, sz_drewN] at hz1); (try simp only [sz_drew, sz_drewN] at hc1 hf1))) | (go_at_call 55; ((with_reducible refine (p_withinV h1 _).mono ?_); rintro e w' ⟨rfl, rfl⟩)) | (go_at_call 55; ((with_reducible refine (p_withinV h2 _).mono ?_); rintro e w' ⟨rfl, rfl⟩)) | (go_at_call 55; ((with_reducible refine (p_withinV h3 _).mono ?_); rintro e w' ⟨rfl, rfl⟩)))
    go_ret
    exact ⟨ret_int (by rw [HE.out, if_pos h, if_pos ⟨h1, h2, h3, by omega⟩]), hb1⟩
/-- a minute that is surely below a mark -/
def suQ (mk : Int) (o : Option Ca) : Bool := match o with | some x => decide (x.hi < mk) | none => false
theorem p_Sure1 (o : Option Ca) (mk : Int) (b : Nat) (w : World) (hb : b < w.heap.size) (hc : w.cell? ⟨b, 0, none⟩ = some (.int .i64 mk)) :
    Calls Tryd.prog 62 #[caV (o.getD caZ0), .bool o.isSome, .pointer (some ⟨b, 0, none⟩)] w fun e w' => e = .returned (.bool (suQ mk o)) ∧ Below w.heap.size w w' := by
  cases o with
  | none =>
    dsimp only [Option.getD_none, Option.isSome_none, suQ]
    go_enter Tryd.func62, Tryd.ntmps62
    go_wp2
    go_ret
    exact ⟨rfl, by (repeat' (first | assumption | exact below_refl _ | refine bl_alloc ?_ _ | refine Below.setCell ?_ ?_ _ | refine below_draw ?_ | refine below_drewN ?_ _ | refine below_tr ?_ (by assumption))) <;> (first | omega | (simp; done) | (simp; omega))⟩
  | some x =>
    dsimp only [Option.getD_some, Option.isSome_some, suQ]
    go_enter Tryd.func62, Tryd.ntmps62
    go_wp2
    go_ret
    exact ⟨rfl, by (repeat' (first | assumption | exact below_refl _ | refine bl_alloc ?_ _ | refine Below.setCell ?_ ?_ _ | refine below_draw ?_ | refine below_drewN ?_ _ | refine below_tr ?_ (by assumption))) <;> (first | omega | (simp; done) | (simp; omega))⟩
def sfI (q : Option Ca → Bool) (c : List Ca) (mk n fr to : Int) : Int := if wdE c mk n fr to = 0 then winI (fun t => q (ctO c t)) n fr to else 0
def sfE (q : Option Ca → Bool) (c : List Ca) (mk n fr to : Int) : Int := if wdE c mk n fr to = 0 then winE (fun t => q (ctO c t)) n fr to else wdE c mk n fr to
set_option maxHeartbeats 1000000 in
theorem p_Sure (A : Option Addr) (l : List Ca) (c : Nat) (mk n fr to : Int) (w : World) (hl : l.length ≤ 100000) (hR : Rd Ca.cs 4 w A l) :
    Calls Tryd.prog 19 #[.slice A l.length c, .int .i64 mk, .int .i64 n, .int .i64 fr, .int .i64 to] w fun e w' => e = .returned (.tuple #[.int .i64 (sfI (suQ mk) l mk n fr to), .int .i64 (sfE (suQ mk) l mk n fr to)]) ∧ Below w.heap.size w w' := by
  have H1 := Lib.hid (fun W (h : Below w.heap.size w W) => p_windowed A l c mk n fr to W hl (hR.on h))
  by_cases h : wdE l mk n fr to = 0
  rotate_left
  · have HE := Lib.hid (show sfE (suQ mk) l mk n fr to = wdE l mk n fr to by unfold sfE; rw [if_neg h])
    have HI := Lib.hid (show sfI (suQ mk) l mk n fr to = 0 by unfold sfI; rw [if_neg h])
    have h5 : (wdE l mk n fr to != 0) = true := by simpa using h
    generalize wdE l mk n fr to = X at *
    clear h
    go_enter Tryd.func19, Tryd.ntmps19
    go_wp2_with (go_at_call 60; ((with_reducible refine (H1.out _ (bl_alloc (below_refl _) _)).mono ?_); rintro e w1 ⟨rfl, hb1⟩; obtain ⟨hc1, hf1⟩ := bcell hb1; have hz1 := hb1.size; (try simp [sz_drew, sz_drewN] at hz1); (try simp only [sz_drew, sz_drewN] at hc1 hf1); have z1_0 : w.heap.size < w1.heap.size := (by omega)))
    go_ret2
    exact ⟨by rw [HE.out, HI.out]; rfl, by (repeat' (first | assumption | exact below_refl _ | refine bl_alloc ?_ _ | refine Below.setCell ?_ ?_ _ | refine below_draw ?_ | refine below_drewN ?_ _ | refine below_tr ?_ (by assumption))) <;> (first | omega | (simp; done) | (simp; omega))⟩
  · have HE := Lib.hid (show sfE (suQ mk) l mk n fr to = winE (fun t => suQ mk (ctO l t)) n fr to by unfold sfE; rw [if_pos h])
    have HI := Lib.hid (show sfI (suQ mk) l mk n fr to = winI (fun t => suQ mk (ctO l t)) n fr to by unfold sfI; rw [if_pos h])
    obtain ⟨_, _, hn, hf, ht⟩ := wdE_z h
    rw [h] at H1
    have H2 := Lib.hid (fun W (hb : Below w.heap.size w W) (k : Blk W w.heap.size 3 #[.int .i64 mk]) => p_first A l c n fr to (suQ mk) 62 #[.pointer (some ⟨w.heap.size, 0, none⟩)] W hl hf.1 hf.2 ht (by omega) (by omega) (hR.on hb) (enters_of Tryd.func62 (by kernel_rfl) rfl) (fun V o hV => p_Sure1 o mk w.heap.size V (k.below hV k.lt).lt ((k.below hV k.lt).cell 0)))
    clear h
    go_enter Tryd.func19, Tryd.ntmps19
    go_wp2_with fail
    have k0 := Blk.new w 3 #[.int .i64 mk]
    have B0 := bl_alloc (below_refl w) (.cells #[.int .i64 mk] 3)
    generalize w.alloc (.cells #[.int .i64 mk] 3) = W0 at *
    refine (H1.out _ B0).mono ?_
    rintro e w1 ⟨rfl, hb1⟩
    have B1 := below_tr B0 hb1
    have k1 := k0.below hb1 k0.lt
    have HC := Lib.hid (H2.out _ B1 k1)
    clear hb1 k0 k1
    go_wp2_with (go_at_call 61; ((with_reducible refine HC.out.mono ?_); rintro e w2 ⟨rfl, hb2⟩))
    go_ret2
    exact ⟨by rw [HE.out, HI.out]; rfl, below_tr B1 hb2⟩
/-- Missing -/
def msP (l : List Int) (k : Nat) : Bool := l.getD k 0 == -1
def msE (l : List Int) : Int := if vGu l = true then 0 else 1
def msL (l : List Int) : List Sp := if msE l = 0 then spS (msP l) l.length else []
theorem p_Missing1 (A : Option Addr) (l : List Int) (c b t : Nat) (w : World) (ht : t < l.length) (hR : Rd zC 1 w A l) (hb : b < w.heap.size) (hc : w.cell? ⟨b, 0, none⟩ = some (.slice A l.length c)) :
    Calls Tryd.prog 75 #[.int .i64 (t : Nat), .pointer (some ⟨b, 0, none⟩)] w fun e w' => e = .returned (.bool (msP l t)) ∧ Below w.heap.size w w' := by
  obtain ⟨x, xb, xo, hx, rfl, hxb, c0⟩ := rd_int hR ht
  have HM := Lib.hid (show msP l t = (x == -1) by unfold msP; rw [getD_of hx])
  have t0 : (0 : Int) ≤ (t : Int) := Int.natCast_nonneg _
  have t1 : (t : Int) < (l.length : Int) := by omega
  clear hx hR
  go_enter Tryd.func75, Tryd.ntmps75
  go_wp2
  go_ret
  exact ⟨ret_bool (by rw [HM.out]), below_refl _⟩
def GotP (w' : World) (v : Value) (l : List Sp) : Prop := ∃ A c, v = .slice A l.length c ∧ Rd pC 2 w' A l
theorem gotP_nil (w' : World) : GotP w' (.slice none 0 0) [] := ⟨none, 0, rfl, fun h => absurd rfl h⟩
set_option maxHeartbeats 1000000 in
theorem p_Missing (A : Option Addr) (l : List Int) (c : Nat) (w : World) (hl : l.length ≤ 100000) (hR : Rd zC 1 w A l) :
    Calls Tryd.prog 43 #[.slice A l.length c] w fun e w' => ∃ v, e = .returned (.tuple #[v, .int .i64 (msE l)]) ∧ GotP w' v (msL l) ∧ Below w.heap.size w w' := by
  have H1 := Lib.hid (fun b (h : vGu l = b) W (hb : Below w.heap.size w W) => p_ValidGustsV (c := c) h hl (hR.on hb))
  have H2 := Lib.hid (fun W (hb : Below w.heap.size w W) (k : Blk W w.heap.size 24 #[.slice A l.length c]) => p_spans l.length (msP l) 75 #[.pointer (some ⟨w.heap.size, 0, none⟩)] W hl (enters_of Tryd.func75 (by kernel_rfl) rfl) (fun V t hV ht => p_Missing1 A l c w.heap.size t V ht ((hR.on hb).on hV) (k.below hV k.lt).lt ((k.below hV k.lt).cell 0)))
  clear hR
  go_enter Tryd.func43, Tryd.ntmps43
  go_wp2_with fail
  have k0 := Blk.new w 24 #[.slice A l.length c]
  have B0 := bl_alloc (below_refl w) (.cells #[.slice A l.length c] 24)
  generalize w.alloc (.cells #[.slice A l.length c] 24) = W0 at *
  refine (H1.out _ rfl _ B0).mono ?_
  rintro e w1 ⟨rfl, hb1⟩
  have B1 := below_tr B0 hb1
  have k1 := k0.below hb1 k0.lt
  have HC := Lib.hid (H2.out _ B1 k1)
  have q0 : w1.cell? ⟨w.heap.size, 0, none⟩ = some (.slice A l.length c) := k1.cell 0
  clear hb1 k0 k1
  cases h : vGu l
  · have HE := Lib.hid (show msE l = 1 by unfold msE; rw [if_neg (by simp [h])])
    go_wp2
    go_ret2
    exact ⟨_, by rw [HE.out]; rfl, by unfold msL; rw [HE.out]; exact gotP_nil _, B1⟩
  · have HE := Lib.hid (show msE l = 0 by unfold msE; rw [if_pos h])
    have HL := Lib.hid (show msL l = spS (msP l) l.length by unfold msL; rw [if_pos HE.out])
    go_wp2_with (go_at_call 52; ((with_reducible refine HC.out.mono ?_); rintro e w2 ⟨v, rfl, hv, hb2⟩; obtain ⟨A2, c2, rfl, hr2⟩ := own_rd pC_len hv))
    go_ret2
    exact ⟨_, by rw [HE.out]; rfl, by rw [HL.out]; exact ⟨_, _, rfl, hr2⟩, below_tr B1 hb2⟩
end Go.Proofs.YtkigdjfagcnejaaDoor
