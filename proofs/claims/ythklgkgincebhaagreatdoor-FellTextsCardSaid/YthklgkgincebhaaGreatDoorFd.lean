/- Fell: props: Valid and asked by the reference; things by both. -/
import Derived.Test.YthklgkgincebhaaGreatDoorFc
import Derived.Deep.DeepCutAuto
set_option linter.unusedSimpArgs false
set_option linter.unusedVariables false
namespace Go.Proofs.YthklgkgincebhaaGreatDoor
open Go.RowKit

structure Pr where
  a : Sp
  wd : Bool
def Pr.cs (p : Pr) : List Value := [.int .i64 p.a.x, .int .i64 p.a.y, .bool p.wd]
theorem Pr.cs_len (p : Pr) : p.cs.length = 3 := rfl
abbrev prV (p : Pr) : Value := .agg #[.int .i64 p.a.x, .int .i64 p.a.y, .bool p.wd]
def prAt (l : List Pr) (i : Nat) : Pr := l[i]?.getD ⟨⟨0, 0⟩, false⟩
theorem prAt_of {l : List Pr} {i : Nat} {p : Pr} (h : l[i]? = some p) : prAt l i = p := by simp [prAt, h]
theorem rdP {w : World} {A : Option Addr} {l : List Pr} (h : Rd Pr.cs 3 w A l) {k : Nat} (hk : k < l.length) :
    ∃ x b off, l[k]? = some x ∧ A = some ⟨b, off, none⟩ ∧ b < w.heap.size ∧ w.cell? ⟨b, off + k * 3, none⟩ = some (.int .i64 x.a.x) ∧ w.cell? ⟨b, off + k * 3 + 1, none⟩ = some (.int .i64 x.a.y) ∧ w.cell? ⟨b, off + k * 3 + 2, none⟩ = some (.bool x.wd) := by
  obtain ⟨x, hx⟩ := get_lt hk
  obtain ⟨b, off, e, hb, hc⟩ := h.get hx
  exact ⟨x, b, off, hx, e, hb, hc 0 _ rfl, hc 1 _ rfl, hc 2 _ rfl⟩
def frP (l : List Pr) (i : Nat) (k : Nat) : Bool := decide ((prAt l k).a ≠ (prAt l i).a)
def okP (l : List Pr) (i : Nat) : Bool := isS (prAt l i).a && (List.range i).all (frP l i)
def vP (l : List Pr) : Bool := (List.range l.length).all (okP l) && decide (l.length ≤ 24)
theorem vP_no {l : List Pr} {k : Nat} (hk : k < l.length) (h : okP l k = false) : vP l = false := by
  unfold vP
  rw [Bool.and_eq_false_iff]; left
  rw [List.all_eq_false]
  exact ⟨k, by simpa using hk, by simp [h]⟩
theorem vP_yes {l : List Pr} (h : (List.range l.length).all (okP l) = true) : vP l = decide (l.length ≤ 24) := by unfold vP; rw [h, Bool.true_and]
theorem all_step {p : Nat → Bool} {k : Nat} (h : (List.range k).all p = true) (hk : p k = true) : (List.range (k + 1)).all p = true := by
  rw [List.range_succ, List.all_append, h]; simp [hk]
theorem okP_no1 {l : List Pr} {k : Nat} (h : isS (prAt l k).a = false) : okP l k = false := by unfold okP; rw [h]; rfl
theorem okP_no2 {l : List Pr} {k j : Nat} (hj : j < k) (h : (prAt l j).a = (prAt l k).a) : okP l k = false := by
  unfold okP
  rw [Bool.and_eq_false_iff]; right
  rw [List.all_eq_false]
  exact ⟨j, by simpa using hj, by unfold frP; simp [h]⟩
theorem okP_yes {l : List Pr} {k : Nat} (h : isS (prAt l k).a = true) (h2 : (List.range k).all (frP l k) = true) : okP l k = true := by unfold okP; rw [h, h2]; rfl
set_option maxHeartbeats 4000000 in
set_option maxRecDepth 20000 in
theorem r_Valid (A : Option Addr) (l : List Pr) (c : Nat) (w : World) (hl : l.length ≤ 100000) (hR : Rd Pr.cs 3 w A l) :
    Calls Tryz.prog 10 #[.slice A l.length c] w fun e w' => e = .returned (.bool (vP l)) ∧ Below w.heap.size w w' := by
  go_enter Tryz.func10, Tryz.ntmps10
  go_wp2
  go_loopw [3] (fun i wr => ∃ k : Nat, k ≤ l.length ∧ i = .int .i64 k ∧ Below w.heap.size w wr ∧ Hid ((List.range k).all (okP l) = true)) (fun i _ => l.length - (intOf i).toNat)
  case atStart => exact ⟨0, by omega, rfl, below_refl _, Lib.hid rfl⟩
  case round =>
    obtain ⟨k, hk, rfl, hbw, HI⟩ := hrel
    have k0 : (0 : Int) ≤ (k : Int) := Int.natCast_nonneg _
    by_cases hlt : k < l.length
    · have k1 : (k : Int) < (l.length : Int) := by omega
      obtain ⟨x, b, off, hx, rfl, hb, c0, c1, c2⟩ := rdP (hR.on hbw) hlt
      have HX := Lib.hid (prAt_of hx)
      clear hx c2
      cases h1 : isS x.a
      · have Q := Lib.hid (r_IsSpotV h1)
        have HE := Lib.hid (vP_no hlt (okP_no1 (by rw [HX.out]; exact h1)))
        clear h1
        go_wp2_with fail
        refine (Q.out _).mono ?_
        rintro e w1 ⟨rfl, hb1⟩
        go_wp2
        go_ret
        exact ⟨ret_bool HE.out.symm, below_tr hbw hb1⟩
      · have Q := Lib.hid (r_IsSpotV h1)
        have HS := Lib.hid (fun (h : (List.range k).all (frP l k) = true) => all_step HI.out (okP_yes (by rw [HX.out]; exact h1) h))
        have HN := Lib.hid (fun j (hj : j < k) (h : (prAt l j).a = x.a) => vP_no hlt (okP_no2 hj (by rw [HX.out]; exact h)))
        clear h1
        go_wp2_with fail
        refine (Q.out _).mono ?_
        rintro e w1 ⟨rfl, hb1⟩
        have hb1' := below_tr hbw hb1
        have c0' := (bcell hb1).1 _ (off + k * 3) hb
        rw [c0] at c0'
        have c1' := (bcell hb1).1 _ (off + k * 3 + 1) hb
        rw [c1] at c1'
        have hb' : b < w1.heap.size := Nat.lt_of_lt_of_le hb hb1.size
        clear Q c0 c1 hb
        rename World => wa
        clear hbw hb1
        go_wp2_with fail
        go_loopw [4] (fun i wr => ∃ j : Nat, j ≤ k ∧ i = .int .i64 j ∧ Below w.heap.size w wr ∧ Hid ((List.range j).all (frP l k) = true)) (fun i _ => k - (intOf i).toNat)
        case atStart => exact ⟨0, by omega, rfl, hb1', Lib.hid rfl⟩
        case round =>
          clear c0' c1' hb' hb1'
          obtain ⟨j, hj, rfl, hbw, HJ⟩ := hrel
          have j0 : (0 : Int) ≤ (j : Int) := Int.natCast_nonneg _
          by_cases hjk : j < k
          · obtain ⟨x2, b2, off2, hx2, e2, hb2, c0, c1, _⟩ := rdP (hR.on hbw) hlt
            cases e2
            obtain rfl : x2 = x := by rw [← HX.out]; exact (prAt_of hx2).symm
            obtain ⟨y, b3, off3, hy, e3, hb3, d0, d1, _⟩ := rdP (hR.on hbw) (show j < l.length by omega)
            cases e3
            have j1 : (j : Int) < (l.length : Int) := by omega
            have jk1 : (j : Int) < (k : Int) := by omega
            have HY := Lib.hid (prAt_of hy)
            clear hx2 hy
            by_cases he : y.a.x = x2.a.x ∧ y.a.y = x2.a.y
            · have HE := Lib.hid (HN.out j hjk (by rw [HY.out]; exact Sp.ext' he.1 he.2))
              obtain ⟨hea, heb⟩ := he
              rw [hea] at d0
              rw [heb] at d1
              clear hea heb HN HS HI HJ
              go_wp2_with fail
              go_quiet (fail)
              go_wp2
              go_ret
              exact ⟨ret_bool HE.out.symm, below_drewN hbw _⟩
            · have HT := Lib.hid (all_step HJ.out (show frP l k j = true by unfold frP; rw [HY.out, HX.out]; simp; intro e; exact he ⟨by rw [e], by rw [e]⟩))
              rcases (by by_cases q : y.a.x = x2.a.x <;> simp [q] at he ⊢; exact he : y.a.x ≠ x2.a.x ∨ (y.a.x = x2.a.x ∧ y.a.y ≠ x2.a.y)) with h5 | ⟨h5, h5'⟩
              · clear he HN HS HI HJ
                go_wp2_with fail
                go_quiet (fail)
                go_wp2
                go_roundw
                case rel => exact ⟨j + 1, by omega, by go_num, below_drewN hbw _, HT.out⟩
                case measure => simp [intOf]; omega
              · clear he HN HS HI HJ
                rw [h5] at d0
                clear h5
                go_wp2_with fail
                go_quiet (fail)
                go_wp2
                go_roundw
                case rel => exact ⟨j + 1, by omega, by go_num, below_drewN hbw _, HT.out⟩
                case measure => simp [intOf]; omega
          · obtain rfl : j = k := by omega
            have HT := Lib.hid (HS.out HJ.out)
            clear HS HN HI HJ
            go_wp2
            go_roundw
            case rel => exact ⟨j + 1, by omega, by go_num, hbw, HT.out⟩
            case measure => simp [intOf]; omega
    · obtain rfl : k = l.length := by omega
      have HE := Lib.hid (vP_yes HI.out)
      go_wp2
      go_ret
      exact ⟨ret_bool (by rw [HE.out]; simp; omega), hbw⟩
end Go.Proofs.YthklgkgincebhaaGreatDoor
