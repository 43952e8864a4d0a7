/- Fell: FellDeeds. -/
import Derived.Test.YtkeojokbpjdhpaaDoorFgy
import Derived.Test.YtkeojokbpjdhpaaDoorFaw
import Derived.Test.YtkeojokbpjdhpaaDoorFdec
set_option linter.unusedSimpArgs false
set_option linter.unusedVariables false
namespace Go.Proofs.YtkeojokbpjdhpaaDoor
open Go.RowKit Go.Shelf

set_option maxHeartbeats 1000000 in
set_option maxRecDepth 20000 in
theorem r_sameIntsD (A B : Option Addr) (l : List Int) (c d : Nat) (w : World) (hl : l.length ≤ 100000) (hA : Rd zC 1 w A l) (hB : Rd zC 1 w B l) :
    Calls Tryd.prog 10 #[.slice A l.length c, .slice B l.length d] w fun e w' => e = .returned (.bool true) ∧ Below w.heap.size w w' := by
  go_enter Tryd.func10, Tryd.ntmps10
  go_wp2
  go_loopw [5] (fun i wr => ∃ k : Nat, k ≤ l.length ∧ i = .int .i64 k ∧ Below w.heap.size w wr) (fun i _ => l.length - (intOf i).toNat)
  case atStart => exact ⟨0, by omega, rfl, below_refl _⟩
  case round =>
    obtain ⟨k, hk, rfl, hbw⟩ := hrel
    by_cases hlt : k < l.length
    · obtain ⟨x, b, off, hx, rfl, hb, c0⟩ := rd_int (hA.on hbw) hlt
      obtain ⟨y, b', off', hy, rfl, hb', d0⟩ := rd_int (hB.on hbw) hlt
      obtain rfl : x = y := by rw [hx] at hy; exact Option.some.inj hy
      have k0 : (0 : Int) ≤ (k : Int) := Int.natCast_nonneg _
      have k1 : (k : Int) < (l.length : Int) := by omega
      clear hx hy
      go_wp2
      go_quiet (fail)
      go_wp2
      go_roundw
      case rel => exact ⟨k + 1, by omega, by go_num, below_drewN hbw _⟩
      case measure => simp [intOf]; omega
    · obtain rfl : k = l.length := by omega
      go_wp2
      go_ret
      exact ⟨rfl, hbw⟩

set_option maxHeartbeats 2000000 in
set_option maxRecDepth 20000 in
theorem r_Fells (A B : Option Addr) (l : List Pr) (s : Sp) (ds : List Int) (c d : Nat) (w : World) (hl : l.length ≤ 100) (hd : ds.length ≤ 100000) (hdc : ds.length ≤ d) (hdm : d ≤ maxLen) (hR : Rd Pr.cs 3 w A l) (hB : Rd zC 1 w B ds) :
    Calls Tryd.prog 14 #[.slice A l.length c, spV s, .slice B ds.length d] w fun e w' => e = .returned (.bool (feB l s ds)) ∧ Below w.heap.size w w' := by
  have x0 := Blk.new w 24 (spA s)
  have B0 := bl_alloc (below_refl w) (.cells (spA s) 24)
  have HC := Lib.hid (r_Right A B l s ds c d _ hl hd hdc hdm (hR.on B0) (hB.on B0))
  have p0 := x0.cell 0
  have p1 := x0.cell 1
  simp only [List.getElem?_toArray, List.getElem?_cons_zero, List.getElem?_cons_succ] at p0 p1
  have lx := x0.lt
  cases hr : riA l s ds
  · rw [hr] at HC
    rw [feB_no hr]
    clear hr
    go_enter Tryd.func14, Tryd.ntmps14
    go_wp2_with fail
    refine HC.out.mono ?_
    rintro e w1 ⟨rfl, hb1⟩
    go_wp2
    go_ret
    exact ⟨rfl, below_tr B0 hb1⟩
  · obtain ⟨m, hm⟩ := riA_some hr
    obtain ⟨hv, hs, hls⟩ := riA_vs hr
    rw [hr] at HC
    rw [feB_yes hr hm]
    obtain ⟨_, hmem⟩ := lsB_mem hls
    have HS := Lib.hid (fun (W : World) (hb : Below w.heap.size w W) => r_stood A B l s ds c d W hv hs hd hmem (hR.on hb) (hB.on hb))
    rw [hm] at HS
    dsimp only [soV] at HS
    clear hr hm hv hs hls hmem hR hB
    generalize heldB (lfS l m) s = V at *
    by_cases h0 : ds.length = 0
    · have h0' : (ds.length : Int) = 0 := by omega
      have hq : ((ds.length : Int) == 0) = true := by simpa using h0
      rw [show decide (0 < ds.length) = false from decide_eq_false (by omega), Bool.false_and]
      clear h0 HS hdc hdm
      go_enter Tryd.func14, Tryd.ntmps14
      go_wp2_with fail
      refine HC.out.mono ?_
      rintro e w1 ⟨rfl, hb1⟩
      clear HC
      go_wp2
      go_ret
      exact ⟨rfl, below_tr B0 hb1⟩
    · have h0' : ¬ (ds.length : Int) = 0 := by omega
      have hq : ((ds.length : Int) == 0) = false := by simpa using h0
      rw [show decide (0 < ds.length) = true from decide_eq_true (by omega), Bool.true_and]
      go_enter Tryd.func14, Tryd.ntmps14
      go_wp2_with fail
      refine HC.out.mono ?_
      rintro e w1 ⟨rfl, hb1⟩
      have B1 := below_tr B0 hb1
      have x1 := x0.below hb1 x0.lt
      have p0 := x1.cell 0
      have p1 := x1.cell 1
      simp only [List.getElem?_toArray, List.getElem?_cons_zero, List.getElem?_cons_succ] at p0 p1
      have lx1 := x1.lt
      go_wp2_with fail
      refine (HS.out _ B1).mono ?_
      rintro e w2 ⟨rfl, hb2⟩
      go_wp2
      go_ret
      exact ⟨rfl, below_tr B1 hb2⟩
def skB (n m : Nat) : Bool := manyB n || ((decide (30 < m) && decide (m ≤ 100)) || decide (120 < m))
theorem fe_ri {l : List Pr} {s : Sp} {ds : List Int} (h : feB l s ds = true) : riA l s ds = true := by
  unfold feB at h; rw [Bool.and_eq_true] at h; exact h.1
set_option maxHeartbeats 4000000 in
set_option maxRecDepth 20000 in
theorem l_FellDeeds (A B : Option Addr) (l : List Pr) (s : Sp) (ds : List Int) (c d : Nat) (w : World) (hl : l.length ≤ maxLen) (hd : ds.length ≤ maxLen) (hdc : ds.length ≤ d) (hdm : d ≤ maxLen) (hT : Tab w) (hR : Rd Pr.cs 3 w A l) (hB : Rd zC 1 w B ds) :
    Calls Tryd.prog 3 #[.slice A l.length c, spV s, .slice B ds.length d] w fun e w' => e = .returned (.bool true) ∧ Below w.heap.size w w' := by
  have x0 := Blk.new w 24 (spA s)
  have B0 := bl_alloc (below_refl w) (.cells (spA s) 24)
  have HAW := Lib.hid l_awake
  have HM := Lib.hid (fun W => p_many A l.length c W hl)
  have hdm' := hdm
  unfold maxLen at hl hd hdm'
  cases hm : manyB l.length
  rotate_left
  · rw [hm] at HM
    go_enter Tryd.func3, Tryd.ntmps3
    go_wp2_with fail
    refine (HAW.out _).mono ?_
    rintro e w1 ⟨rfl, hb1⟩
    go_wp2_with (go_at_call 7; ((with_reducible refine (HM.out _).mono ?_); rintro e w' ⟨rfl, rfl⟩))
    go_ret
    exact ⟨rfl, below_tr B0 hb1⟩
  rw [hm] at HM
  have h30 : l.length ≤ 30 := by unfold manyB at hm; simp at hm; omega
  clear hm
  rcases (by omega : (30 < ds.length ∧ ds.length ≤ 100) ∨ 120 < ds.length ∨ (ds.length ≤ 30) ∨ (100 < ds.length ∧ ds.length ≤ 120)) with ⟨h1, h2⟩ | h1 | h1 | ⟨h1, h2⟩
  · have d1 : decide (30 < (ds.length : Int)) = true := decide_eq_true (by omega)
    have d2 : decide ((ds.length : Int) ≤ 100) = true := decide_eq_true (by omega)
    go_enter Tryd.func3, Tryd.ntmps3
    go_wp2_with fail
    refine (HAW.out _).mono ?_
    rintro e w1 ⟨rfl, hb1⟩
    go_wp2_with (go_at_call 7; ((with_reducible refine (HM.out _).mono ?_); rintro e w' ⟨rfl, rfl⟩))
    go_ret
    exact ⟨rfl, below_tr B0 hb1⟩
  · have d1 : decide (30 < (ds.length : Int)) = true := decide_eq_true (by omega)
    have d2 : decide ((ds.length : Int) ≤ 100) = false := decide_eq_false (by omega)
    have d3 : decide (120 < (ds.length : Int)) = true := decide_eq_true (by omega)
    go_enter Tryd.func3, Tryd.ntmps3
    go_wp2_with fail
    refine (HAW.out _).mono ?_
    rintro e w1 ⟨rfl, hb1⟩
    go_wp2_with (go_at_call 7; ((with_reducible refine (HM.out _).mono ?_); rintro e w' ⟨rfl, rfl⟩))
    go_ret
    exact ⟨rfl, below_tr B0 hb1⟩
  all_goals
    have hd120 : ds.length ≤ 120 := by omega
    have d3 : decide (120 < (ds.length : Int)) = false := decide_eq_false (by omega)
    have HA1 := Lib.hid (fun (W : World) (hb : Below w.heap.size w W) => p_After A B l ds c d W (by omega) (by omega) (TabAt.on hT hb) (hR.on hb) (hB.on hb))
    have HA2 := Lib.hid (fun (W : World) (hb : Below w.heap.size w W) => r_After A B l ds c d W (by omega) (by omega) (hR.on hb) (hB.on hb))
    have HR1 := Lib.hid (fun (W : World) (hb : Below w.heap.size w W) => p_Right A B l s ds c d W (by omega) (by omega) (TabAt.on hT hb) (hR.on hb) (hB.on hb))
    have HF1 := Lib.hid (fun (W : World) (hb : Below w.heap.size w W) => p_Fells A B l s ds c d W (by omega) (by omega) (TabAt.on hT hb) (hR.on hb) (hB.on hb))
    have HR2 := Lib.hid (fun (W : World) (hb : Below w.heap.size w W) => r_Right A B l s ds c d W (by omega) (by omega) hdc hdm (hR.on hb) (hB.on hb))
    have HF2 := Lib.hid (fun (W : World) (hb : Below w.heap.size w W) => r_Fells A B l s ds c d W (by omega) (by omega) hdc hdm (hR.on hb) (hB.on hb))
    have HRF := Lib.hid (fun h => (fe_ri h : riA l s ds = true))
    have HSM := Lib.hid (fun (A1 A2 : Option Addr) (c1 c2 : Nat) (W : World) (ha : Rd zC 1 W A1 (aftL l ds)) (hb : Rd zC 1 W A2 (aftL l ds)) (hn : (aftL l ds).length ≤ 100000) => r_sameIntsD A1 A2 (aftL l ds) c1 c2 W hn ha hb)
    have hLL : (aftL l ds).length ≤ 100000 := by
      unfold aftL
      split
      · rename_i h
        unfold nZ
        rw [List.length_map]
        have h2 := mM_len (afM l ds)
        have h3 : (afM l ds).length ≤ l.length := by
          unfold afM
          cases ht : thM (List.replicate l.length true) ds with
          | none => simp
          | some m => have := thM_len' ht; simp; omega
        omega
      · simp
    unfold AftP at HA1 HA2
    clear hR hB hT
    generalize aftL l ds = LL at *
    generalize aftE l ds = E at *
    generalize riA l s ds = RI at *
    generalize feB l s ds = FE at *
    have HCS : (RI = false ∧ FE = false) ∨ (RI = true ∧ FE = false) ∨ (RI = true ∧ FE = true) := by
      cases RI <;> cases FE
      · exact .inl ⟨rfl, rfl⟩
      · exact absurd (HRF.out rfl) (by simp)
      · exact .inr (.inl ⟨rfl, rfl⟩)
      · exact .inr (.inr ⟨rfl, rfl⟩)
    clear HRF
    first
      | (have d1 : decide (30 < (ds.length : Int)) = false := decide_eq_false (by omega))
      | (have d1 : decide (30 < (ds.length : Int)) = true := decide_eq_true (by omega); have d2 : decide ((ds.length : Int) ≤ 100) = false := decide_eq_false (by omega))
    rcases HCS with ⟨rfl, rfl⟩ | ⟨rfl, rfl⟩ | ⟨rfl, rfl⟩
  all_goals
    go_enter Tryd.func3, Tryd.ntmps3
    go_wp2_with fail
    refine (HAW.out _).mono ?_
    rintro e w1 ⟨rfl, hb1⟩
    have B1 := below_tr B0 hb1
    have x1 := x0.below hb1 x0.lt
    clear x0 B0 hb1 HAW
    go_wp2_with (go_at_call 7; ((with_reducible refine (HM.out _).mono ?_); rintro e w' ⟨rfl, rfl⟩))
    refine (HA1.out _ B1).mono ?_
    rintro e w2 ⟨v2, rfl, ho2, hb2⟩
    obtain ⟨A2, c2, rfl, hr2⟩ := own_rd zC_len ho2
    have B2 := below_tr B1 hb2
    have x2 := x1.below hb2 x1.lt
    clear ho2 x1 B1 hb2 HA1
    go_wp2_with fail
    refine (HA2.out _ B2).mono ?_
    rintro e w3 ⟨v3, rfl, ho3, hb3⟩
    obtain ⟨A3, c3, rfl, hr3⟩ := own_rd zC_len ho3
    have B3 := below_tr B2 hb3
    have x3 := x2.below hb3 x2.lt
    have HSM2 := Lib.hid (HSM.out A2 A3 c2 c3 w3 (hr2.on hb3) hr3 hLL)
    clear ho3 x2 B2 hb3 HA2 hr2 hr3 HSM
    go_wp2_with fail
    refine HSM2.out.mono ?_
    rintro e w4 ⟨rfl, hb4⟩
    have B4 := below_tr B3 hb4
    have x4 := x3.below hb4 x3.lt
    have p0 := x4.cell 0
    have p1 := x4.cell 1
    simp only [List.getElem?_toArray, List.getElem?_cons_zero, List.getElem?_cons_succ] at p0 p1
    have lx := x4.lt
    clear x3 B3 hb4 HSM2
    go_wp2_with fail
    go_region_held3 (fun w' => (∀ b o, b < w4.heap.size → w'.cell? ⟨b, o, none⟩ = w4.cell? ⟨b, o, none⟩) ∧ (∀ b o, b < w4.heap.size → w'.frozen? ⟨b, o, none⟩ = w4.frozen? ⟨b, o, none⟩) ∧ Below w4.heap.size w4 w') ((first | assumption | (refine kp_of ?_; (repeat' (first | assumption | exact below_refl _ | refine bl_alloc ?_ _ | refine Below.setCell ?_ ?_ _ | refine below_draw ?_ | refine below_drewN ?_ _ | refine below_tr ?_ (by assumption))) <;> (first | omega | (simp; done) | (simp; omega))))) ((first | (go_at_call 11; ((with_reducible refine (HR1.out _ (by (repeat' (first | assumption | exact below_refl _ | refine bl_alloc ?_ _ | refine Below.setCell ?_ ?_ _ | refine below_draw ?_ | refine below_drewN ?_ _ | refine below_tr ?_ (by assumption))) <;> (first | omega | (simp; done) | (simp; omega)))).mono ?_); rintro e w5 ⟨rfl, hb5⟩; obtain ⟨hc5, hf5⟩ := bcell hb5; have hz5 := hb5.size; (try simp [sz_drew, sz_drewN] at hz5); (try simp only [sz_drew, sz_drewN] at hc5 hf5))) | (go_at_call 12; ((with_reducible refine (HF1.out _ (by (repeat' (first | assumption | exact below_refl _ | refine bl_alloc ?_ _ | refine Below.setCell ?_ ?_ _ | refine below_draw ?_ | refine below_drewN ?_ _ | refine below_tr ?_ (by assumption))) <;> (first | omega | (simp; done) | (simp; omega)))).mono ?_); rintro e w6 ⟨rfl, hb6⟩; obtain ⟨hc6, hf6⟩ := bcell hb6; have hz6 := hb6.size; (try simp [sz_drew, sz_drewN] at hz6); (try simp only [sz_drew, sz_drewN] at hc6 hf6)))))
    all_goals
      go_wp2_with fail
      with_reducible refine (HR2.out _ (by (repeat' (first | assumption | exact below_refl _ | refine bl_alloc ?_ _ | refine Below.setCell ?_ ?_ _ | refine below_draw ?_ | refine below_drewN ?_ _ | refine below_tr ?_ (by assumption))) <;> (first | omega | (simp; done) | (simp; omega)))).mono ?_
      rintro e w7 ⟨rfl, hb7⟩
      have B7 : Below w4.heap.size w4 w7 := by (repeat' (first | assumption | exact below_refl _ | refine bl_alloc ?_ _ | refine Below.setCell ?_ ?_ _ | refine below_draw ?_ | refine below_drewN ?_ _ | refine below_tr ?_ (by assumption))) <;> (first | omega | (simp; done) | (simp; omega))
      have x7 := x4.below B7 x4.lt
      have p70 := x7.cell 0
      have p71 := x7.cell 1
      simp only [List.getElem?_toArray, List.getElem?_cons_zero, List.getElem?_cons_succ] at p70 p71
      have lx7 := x7.lt
      have B9 := below_tr B4 B7
      go_wp2_with (go_at_call 14; ((with_reducible refine (HF2.out _ B9).mono ?_); rintro e w8 ⟨rfl, hb8⟩))
      go_ret
      exact ⟨rfl, by first | exact below_tr B9 (by assumption) | exact B9⟩
end Go.Proofs.YtkeojokbpjdhpaaDoor
namespace Go.Proofs.YtkeojokbpjdhpaaDoor
open Go.ChangeShapes Go.WideShapes Go.ChangeAt Go.RowKit Go.Deep Go.Joins
section
variable {H : Type} {enc : TypeId × Value → H} {w : World} {base : Nat} {spare : Nat → Bool} {held : Bool}
theorem dec_int1 (n : Nat) (cs : List Value) (x) (h : DataW.trod enc Tryd.prog w base spare held n 3 cs = some x) : ∃ a : Int, cs = zC a ∧ True := by
  obtain ⟨a, e, _⟩ := dec_int Tryd.underlying3 _ _ _ h
  exact ⟨a, e, trivial⟩
end
theorem f_FellDeeds (A : Option Addr) (l : List Pr) (c : Nat) (s : Sp) (B : Option Addr) (ds : List Int) (d : Nat) (w : World) (hT : Tab w) (hl : l.length ≤ maxLen) (hR : Rd Pr.cs 3 w A l) (_ : ∀ x ∈ l, True) (_ : True) (hd : ds.length ≤ maxLen) (hB : Rd zC 1 w B ds) (_ : ∀ x ∈ ds, True) (hdc : ds.length ≤ d) (hdm : d ≤ maxLen) :
    Calls Tryd.prog 3 #[.slice A l.length c, .agg s.cs.toArray, .slice B ds.length d] w fun e w' => e = .returned (.bool true) ∧ Below w.heap.size w w' :=
  l_FellDeeds A B l s ds c d w hl hd hdc hdm hT hR hB
end Go.Proofs.YtkeojokbpjdhpaaDoor
