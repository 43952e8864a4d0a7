/- Fell: what is held, by the reference: the loops; spots of props. -/
import Derived.Test.YtkeojokbpjdhpaaGreatDoorFr
import Derived.Test.YtkeojokbpjdhpaaGreatDoorFj
set_option linter.unusedSimpArgs false
set_option linter.unusedVariables false
namespace Go.Proofs.YtkeojokbpjdhpaaGreatDoor
open Go.RowKit

theorem any_step {p : Nat → Bool} {k : Nat} (h : (List.range k).any p = false) (hk : p k = false) : (List.range (k + 1)).any p = false := by
  rw [List.range_succ, List.any_append, h]; simp [hk]
theorem any_hit {p : Nat → Bool} {n k : Nat} (hk : k < n) (h : p k = true) : (List.range n).any p = true := by
  rw [List.any_eq_true]; exact ⟨k, by simpa using hk, h⟩
set_option maxHeartbeats 4000000 in
set_option maxRecDepth 20000 in
theorem r_held (A : Option Addr) (l : List Sp) (c : Nat) (s : Sp) (w : World) (hl : l.length ≤ 100000) (hbd : ∀ x ∈ l, Bd 10000 x) (hs : Bd 10000 s) (hR : Rd Sp.cs 2 w A l) :
    Calls Tryz.prog 23 #[.slice A l.length c, spV s] w fun e w' => e = .returned (.bool (heldB l s)) ∧ Below w.heap.size w w' := by
  have HBW := Lib.hid (fun a b (ha : a ∈ l) (hb : b ∈ l) W => r_between a b s W (hbd a ha) (hbd b hb) hs)
  have HIN := Lib.hid (fun a b c (ha : a ∈ l) (hb : b ∈ l) (hc : c ∈ l) W => r_inside a b c s W (hbd a ha) (hbd b hb) (hbd c hc) hs)
  clear hbd hs
  go_enter Tryz.func23, Tryz.ntmps23
  go_wp2
  have x0 := Blk.new w 24 (spA s)
  have B0 := bl_alloc (below_refl w) (.cells (spA s) 24)
  go_loopw [5] (fun i wr => ∃ k : Nat, k ≤ l.length ∧ i = .int .i64 k ∧ Below w.heap.size w wr ∧ Blk wr w.heap.size 24 (spA s) ∧ Hid ((List.range k).any (pI l s) = false)) (fun i _ => l.length - (intOf i).toNat)
  case atStart => exact ⟨0, by omega, rfl, B0, x0, Lib.hid rfl⟩
  case round =>
    clear B0 x0
    obtain ⟨i, hi, rfl, hbw, xb, HI⟩ := hrel
    have i0 : (0 : Int) ≤ (i : Int) := Int.natCast_nonneg _
    by_cases hlt : i < l.length
    · have i1 : (i : Int) < (l.length : Int) := by omega
      obtain ⟨a, ha⟩ := get_lt hlt
      have HMa := Lib.hid (List.mem_of_getElem? ha)
      have HGa := Lib.hid (gl_of ha)
      have HHit := Lib.hid (fun (h : pI l s i = true) => show heldB l s = true from any_hit hlt h)
      have HNext := Lib.hid (fun (h : pI l s i = false) => any_step HI.out h)
      clear HI ha
      rename World => wa
      go_wp2_with fail
      go_loopw [6] (fun j wr => ∃ k : Nat, k ≤ i + 1 ∧ j = .int .i64 k ∧ Below w.heap.size w wr ∧ Blk wr w.heap.size 24 (spA s) ∧ Hid ((List.range k).any (pK l s i) = false)) (fun j _ => i + 1 - (intOf j).toNat)
      case atStart => exact ⟨0, by omega, rfl, hbw, xb, Lib.hid rfl⟩
      case round =>
        clear hbw xb
        obtain ⟨k, hk, rfl, hbw, xb, HK⟩ := hrel
        have k0 : (0 : Int) ≤ (k : Int) := Int.natCast_nonneg _
        by_cases hki : k ≤ i
        · have k1 : (k : Int) ≤ (i : Int) := by omega
          have k2 : (k : Int) < (l.length : Int) := by omega
          obtain ⟨a', b, off, ha, rfl, hb, c0, c1⟩ := rdS (hR.on hbw) hlt
          obtain ⟨y, b', off', hy, e, hb', d0, d1⟩ := rdS (hR.on hbw) (show k < l.length by omega)
          cases e
          have ea : gl l i = a' := gl_of ha
          have HMa' := Lib.hid (List.mem_of_getElem? ha)
          have HMy := Lib.hid (List.mem_of_getElem? hy)
          have HGa' := Lib.hid ea
          have HGy := Lib.hid (gl_of hy)
          have q0 := xb.cell 0
          have q1 := xb.cell 1
          simp only [List.getElem?_toArray, List.getElem?_cons_zero, List.getElem?_cons_succ] at q0 q1
          have zx := xb.lt
          have HB1 := Lib.hid (HBW.out a' y HMa'.out HMy.out)
          clear ha hy ea
          cases hbt : btwB a' y s
          · have HBT := Lib.hid hbt
            rw [hbt] at HB1
            clear hbt
            rename World => wk
            go_wp2_with fail
            go_region_held3 (fun w' => (∀ b o, b < wk.heap.size → w'.cell? ⟨b, o, none⟩ = wk.cell? ⟨b, o, none⟩) ∧ (∀ b o, b < wk.heap.size → w'.frozen? ⟨b, o, none⟩ = wk.frozen? ⟨b, o, none⟩) ∧ Below wk.heap.size wk w') ((first | assumption | (refine kp_of ?_; (repeat' (first | assumption | exact below_refl _ | refine bl_alloc ?_ _ | refine Below.setCell ?_ ?_ _ | refine below_draw ?_ | refine below_drewN ?_ _ | refine below_tr ?_ (by assumption))) <;> (first | omega | (simp; done) | (simp; omega))))) ((first | (go_at_call 46; ((with_reducible refine (HB1.out _).mono ?_); rintro e w3 ⟨rfl, hb3⟩; obtain ⟨hc3, hf3⟩ := bcell hb3; have hz3 := hb3.size; (try simp [sz_drew, sz_drewN] at hz3); (try simp only [sz_drew, sz_drewN] at hc3 hf3)))))
            go_wp2_with fail
            have B3 : Below wk.heap.size wk w3 := by (repeat' (first | assumption | exact below_refl _ | refine bl_alloc ?_ _ | refine Below.setCell ?_ ?_ _ | refine below_draw ?_ | refine below_drewN ?_ _ | refine below_tr ?_ (by assumption))) <;> (first | omega | (simp; done) | (simp; omega))
            have hbw3 := below_tr hbw B3
            have xb3 := xb.below B3 xb.lt
            clear hbw xb c0 c1 d0 d1 q0 q1 hb hb' zx hb3 hc3 hf3 hz3 B3 HB1
            go_loopw [7] (fun m wr => ∃ j : Nat, j ≤ k ∧ m = .int .i64 j ∧ Below w.heap.size w wr ∧ Blk wr w.heap.size 24 (spA s) ∧ Hid ((List.range j).any (pJ l s i k) = false)) (fun m _ => k - (intOf m).toNat)
            case atStart => exact ⟨0, by omega, rfl, hbw3, xb3, Lib.hid rfl⟩
            case round =>
              clear hbw3 xb3
              obtain ⟨j, hj, rfl, hbw, xb, HJ⟩ := hrel
              have j0 : (0 : Int) ≤ (j : Int) := Int.natCast_nonneg _
              by_cases hjk : j < k
              · have j1 : (j : Int) < (k : Int) := by omega
                have j2 : (j : Int) < (l.length : Int) := by omega
                obtain ⟨a2, b2, off2, ha2, e2, hb2, c0, c1⟩ := rdS (hR.on hbw) hlt
                cases e2
                obtain rfl : a2 = a' := by rw [← HGa'.out]; exact (gl_of ha2).symm
                obtain ⟨y2, b3, off3, hy2, e3, hb3, d0, d1⟩ := rdS (hR.on hbw) (show k < l.length by omega)
                cases e3
                obtain rfl : y2 = y := by rw [← HGy.out]; exact (gl_of hy2).symm
                obtain ⟨z, b4, off4, hz, e4, hb4, f0, f1⟩ := rdS (hR.on hbw) (show j < l.length by omega)
                cases e4
                have HMz := Lib.hid (List.mem_of_getElem? hz)
                have HGz := Lib.hid (gl_of hz)
                have q0 := xb.cell 0
                have q1 := xb.cell 1
                simp only [List.getElem?_toArray, List.getElem?_cons_zero, List.getElem?_cons_succ] at q0 q1
                have zx := xb.lt
                have HB2 := Lib.hid (HIN.out a2 y2 z HMa'.out HMy.out HMz.out)
                have HP := Lib.hid (show pJ l s i k j = insB a2 y2 z s by unfold pJ; rw [HGa'.out, HGy.out, HGz.out])
                clear ha2 hy2 hz
                cases hin : insB a2 y2 z s
                · rw [hin] at HB2 HP
                  have HJ2 := Lib.hid (any_step HJ.out HP.out)
                  clear hin
                  rename World => wj
                  go_wp2_with fail
                  go_region_held3 (fun w' => (∀ b o, b < wj.heap.size → w'.cell? ⟨b, o, none⟩ = wj.cell? ⟨b, o, none⟩) ∧ (∀ b o, b < wj.heap.size → w'.frozen? ⟨b, o, none⟩ = wj.frozen? ⟨b, o, none⟩) ∧ Below wj.heap.size wj w') ((first | assumption | (refine kp_of ?_; (repeat' (first | assumption | exact below_refl _ | refine bl_alloc ?_ _ | refine Below.setCell ?_ ?_ _ | refine below_draw ?_ | refine below_drewN ?_ _ | refine below_tr ?_ (by assumption))) <;> (first | omega | (simp; done) | (simp; omega))))) ((first | (go_at_call 47; ((with_reducible refine (HB2.out _).mono ?_); rintro e w5 ⟨rfl, hb5⟩; obtain ⟨hc5, hf5⟩ := bcell hb5; have hz5 := hb5.size; (try simp [sz_drew, sz_drewN] at hz5); (try simp only [sz_drew, sz_drewN] at hc5 hf5)))))
                  have B5 : Below wj.heap.size wj w5 := by (repeat' (first | assumption | exact below_refl _ | refine bl_alloc ?_ _ | refine Below.setCell ?_ ?_ _ | refine below_draw ?_ | refine below_drewN ?_ _ | refine below_tr ?_ (by assumption))) <;> (first | omega | (simp; done) | (simp; omega))
                  have hbw5 := below_tr hbw B5
                  have xb5 := xb.below B5 xb.lt
                  clear hbw xb c0 c1 d0 d1 f0 f1 q0 q1 zx hb5 hc5 hf5 hz5 B5 HB2
                  go_wp2
                  go_roundw
                  case rel => exact ⟨j + 1, by omega, by go_num, hbw5, xb5, HJ2.out⟩
                  case measure => simp [intOf]; omega
                · rw [hin] at HB2 HP
                  have HE := Lib.hid (HHit.out (any_hit (show k < i + 1 by omega) (show pK l s i k = true by unfold pK; rw [any_hit hjk HP.out, Bool.or_true])))
                  clear hin
                  rename World => wj
                  go_wp2_with fail
                  go_region_held3 (fun w' => (∀ b o, b < wj.heap.size → w'.cell? ⟨b, o, none⟩ = wj.cell? ⟨b, o, none⟩) ∧ (∀ b o, b < wj.heap.size → w'.frozen? ⟨b, o, none⟩ = wj.frozen? ⟨b, o, none⟩) ∧ Below wj.heap.size wj w') ((first | assumption | (refine kp_of ?_; (repeat' (first | assumption | exact below_refl _ | refine bl_alloc ?_ _ | refine Below.setCell ?_ ?_ _ | refine below_draw ?_ | refine below_drewN ?_ _ | refine below_tr ?_ (by assumption))) <;> (first | omega | (simp; done) | (simp; omega))))) ((first | (go_at_call 47; ((with_reducible refine (HB2.out _).mono ?_); rintro e w5 ⟨rfl, hb5⟩; obtain ⟨hc5, hf5⟩ := bcell hb5; have hz5 := hb5.size; (try simp [sz_drew, sz_drewN] at hz5); (try simp only [sz_drew, sz_drewN] at hc5 hf5)))))
                  go_wp2
                  go_ret
                  exact ⟨ret_bool HE.out.symm, below_tr hbw (by (repeat' (first | assumption | exact below_refl _ | refine bl_alloc ?_ _ | refine Below.setCell ?_ ?_ _ | refine below_draw ?_ | refine below_drewN ?_ _ | refine below_tr ?_ (by assumption))) <;> (first | omega | (simp; done) | (simp; omega)))⟩
              · obtain rfl : j = k := by omega
                have HK2 := Lib.hid (any_step HK.out (show pK l s i j = false by unfold pK; rw [HGa'.out, HGy.out, HBT.out, HJ.out]; rfl))
                go_wp2
                go_roundw
                case rel => exact ⟨j + 1, by omega, by go_num, hbw, xb, HK2.out⟩
                case measure => simp [intOf]; omega
          · have HE := Lib.hid (HHit.out (any_hit (show k < i + 1 by omega) (show pK l s i k = true by unfold pK; rw [HGa'.out, HGy.out, hbt, Bool.true_or])))
            rw [hbt] at HB1
            clear hbt
            rename World => wk
            go_wp2_with fail
            go_region_held3 (fun w' => (∀ b o, b < wk.heap.size → w'.cell? ⟨b, o, none⟩ = wk.cell? ⟨b, o, none⟩) ∧ (∀ b o, b < wk.heap.size → w'.frozen? ⟨b, o, none⟩ = wk.frozen? ⟨b, o, none⟩) ∧ Below wk.heap.size wk w') ((first | assumption | (refine kp_of ?_; (repeat' (first | assumption | exact below_refl _ | refine bl_alloc ?_ _ | refine Below.setCell ?_ ?_ _ | refine below_draw ?_ | refine below_drewN ?_ _ | refine below_tr ?_ (by assumption))) <;> (first | omega | (simp; done) | (simp; omega))))) ((first | (go_at_call 46; ((with_reducible refine (HB1.out _).mono ?_); rintro e w3 ⟨rfl, hb3⟩; obtain ⟨hc3, hf3⟩ := bcell hb3; have hz3 := hb3.size; (try simp [sz_drew, sz_drewN] at hz3); (try simp only [sz_drew, sz_drewN] at hc3 hf3)))))
            go_wp2
            go_ret
            exact ⟨ret_bool HE.out.symm, below_tr hbw (by (repeat' (first | assumption | exact below_refl _ | refine bl_alloc ?_ _ | refine Below.setCell ?_ ?_ _ | refine below_draw ?_ | refine below_drewN ?_ _ | refine below_tr ?_ (by assumption))) <;> (first | omega | (simp; done) | (simp; omega)))⟩
        · obtain rfl : k = i + 1 := by omega
          have HI2 := Lib.hid (HNext.out HK.out)
          have hni : ¬ (((i + 1 : Nat) : Int) ≤ (i : Int)) := by omega
          obtain ⟨q, hq⟩ : ∃ q : Nat, q = i + 1 := ⟨_, rfl⟩
          rw [← hq] at hni ⊢
          have hni2 : (i : Int) < (q : Int) := by omega
          clear hq
          go_wp2
          go_roundw
          case rel => exact ⟨i + 1, by omega, by go_num, hbw, xb, HI2.out⟩
          case measure => simp [intOf]; omega
    · obtain rfl : i = l.length := by omega
      have HE := Lib.hid (show heldB l s = false from HI.out)
      go_wp2
      go_ret
      exact ⟨ret_bool HE.out.symm, hbw⟩
end Go.Proofs.YtkeojokbpjdhpaaGreatDoor
