/- Wind cards: the reference's spans. -/
import Derived.Test.YtkigdjfagcnejaaDoorDj
set_option linter.unusedSimpArgs false
set_option linter.unusedVariables false
namespace Go.Proofs.YtkigdjfagcnejaaDoor
open Go.RowKit

set_option maxHeartbeats 4000000 in
set_option maxRecDepth 20000 in
theorem r_spans (A : Option Addr) (L : List Bool) (c : Nat) (mk : Bool) (p : Nat → Bool) (w : World) (hn : L.length ≤ 100000) (hR : Rd bC 1 w A L) (hpp : ∀ (k : Nat) (x : Bool), L[k]? = some x → p k = (x == mk)) :
    Calls Tryd.prog 67 #[.slice A L.length c, .bool mk] w fun e w' => ∃ v, e = .returned v ∧ w'.ownsRow w.heap.size 31 2 v (spS p L.length).length (fl pC (spS p L.length)) ∧ Below w.heap.size w w' := by
  have HPP := Lib.hid hpp
  have HLn := Lib.hid (spS_len p)
  have HBD := Lib.hid (spS_bd p)
  obtain ⟨i0, hi, hi1, hi2, hi3⟩ := info_span
  clear hpp
  go_enter Tryd.func67, Tryd.ntmps67
  go_wp2
  go_loopw [5, 6] (fun v i wr => ∃ k : Nat, k ≤ L.length ∧ i = .int .i64 k ∧ Below w.heap.size w wr ∧ wr.ownsRow w.heap.size 31 2 v (spS p k).length (fl pC (spS p k))) (fun _ i _ => L.length - (intOf i).toNat)
  case atStart => exact ⟨0, by omega, rfl, below_refl _, World.ownsRow_nil w _ _ _⟩
  case round =>
    obtain ⟨k, hk, rfl, hbw, hown⟩ := hrel
    obtain ⟨ad, cp, rfl⟩ := own_slice hown
    have k0 : (0 : Int) ≤ (k : Int) := Int.natCast_nonneg _
    have hlen := HLn.out k
    by_cases hlt : k < L.length
    · have k1 : (k : Int) < (L.length : Int) := by omega
      obtain ⟨x, xb, xo, hx, rfl, hxb, c0⟩ := rdB (hR.on hbw) hlt
      have hpx := HPP.out k x hx
      clear hx
      have hz : ∀ (w1 : World) (j : Nat) u, (pC (k, k + 1))[j]? = some u → (w1.alloc (.cells #[.int .i64 (k : Int), .int .i64 ((k : Int) + 1)] 31)).cell? ((⟨w1.heap.size, 0, none⟩ : Addr).add j) = some u := fun w1 j u hu => cells_new w1 (pC (k, k + 1)) 31 j u hu
      have HZ := Lib.hid hz
      clear hz
      have HIN : Hid (∀ s : List Sp, (s ++ [(k, k + 1)]).length = s.length + 1) := Lib.hid (fun s => by simp)
      cases hp : p k
      · obtain rfl : x = !mk := by rw [hp] at hpx; revert hpx; cases x <;> cases mk <;> simp
        have HST := Lib.hid (spS_no hp)
        generalize spS p k = S at *
        clear hp
        go_wp2
        go_roundw
        case rel => exact ⟨k + 1, by omega, by go_num, hbw, by rw [HST.out]; exact hown⟩
        case measure => simp [intOf]; omega
      · obtain rfl : x = mk := by rw [hp] at hpx; revert hpx; cases x <;> cases mk <;> simp
        rcases List.eq_nil_or_concat (spS p k) with hS | ⟨s, ⟨a, b⟩, hS⟩
        · have HST := Lib.hid (spS_new hp (by rw [hS]; simp))
          have hl0 : (spS p k).length = 0 := by rw [hS]; rfl
          rw [hl0] at hown ⊢
          rw [hS] at hown HST
          clear hp hS hl0
          have hb1 := below_refl wr
          have B1 := below_tr hbw hb1
          have o1 := own_on hown hb1
          go_wp2_with (at_builtin; go_loud (refine wpList_append_own _ rfl _ _ 26 rfl w.heap.size 31 i0 (.agg #[.int .i64 0, .int .i64 0]) 2 16 (by kernel_rfl) hi hi1 hi2 hi3 rfl (by omega) _ _ _ rfl (o1.alloc _) ⟨wr.heap.size, 0, none⟩ 1 1 (pC (k, k + 1)) rfl rfl (HZ.out wr) (fun u hu => by simp [pC] at hu; rcases hu with rfl | rfl <;> rfl) (by unfold maxLen; omega) (by omega) (by simp; have := B1.size; omega) ?_; intro v' w4 hown4 hgrow _))
          go_roundw
          case rel => exact ⟨k + 1, by omega, by go_num, bl_app B1 o1 hgrow (Nat.le_refl _) B1.size, by rw [HST.out]; exact hown4⟩
          case measure => simp [intOf]; omega
        · rw [List.concat_eq_append] at hS
          have hb : a < b ∧ b ≤ k := HBD.out k (a, b) (by rw [hS]; simp)
          have hsl : (spS p k).length = s.length + 1 := by rw [hS]; simp
          by_cases hbk : b = k
          · rw [hbk] at hS
            have HST := Lib.hid (spS_long hp hS)
            rw [hsl] at hown ⊢
            rw [hS] at hown
            obtain ⟨g, cp2, e1⟩ := ownsRow_succ hown
            cases e1
            have hfl : fl pC (s ++ [(a, k)]) = fl pC s ++ [.int .i64 (a : Int), .int .i64 (k : Int)] := by rw [fl_snoc]; rfl
            have hfl2 : (fl pC s).length = s.length * 2 := fl_length pC_len s
            rw [hfl] at hown
            have HROW := Lib.hid (fun (W : World) (o : W.ownsRow w.heap.size 31 2 (.slice (some ⟨g, 0, none⟩) (s.length + 1) cp) (s.length + 1) (fl pC s ++ [.int .i64 (a : Int), .int .i64 (k : Int)])) => own_cell o (j := s.length * 2 + 1) (u := .int .i64 (k : Int)) (by rw [List.getElem?_append_right (by omega), hfl2]; rw [show s.length * 2 + 1 - s.length * 2 = 1 by omega]; rfl))
            have HSET := Lib.hid (fun (W : World) (o : W.ownsRow w.heap.size 31 2 (.slice (some ⟨g, 0, none⟩) (s.length + 1) cp) (s.length + 1) (fl pC s ++ [.int .i64 (a : Int), .int .i64 (k : Int)])) => show (W.setCell ⟨g, s.length * 2 + 1, none⟩ (.int .i64 ((k : Int) + 1))).ownsRow w.heap.size 31 2 (.slice (some ⟨g, 0, none⟩) (s.length + 1) cp) (s ++ [(a, k + 1)]).length (fl pC (s ++ [(a, k + 1)])) by
              have h1 := own_put o (s.length * 2 + 1) (.int .i64 ((k : Int) + 1))
              rw [List.set_append_right _ _ (by omega), hfl2, show s.length * 2 + 1 - s.length * 2 = 1 by omega] at h1
              rw [fl_snoc, List.length_append]
              exact h1)
            have hgB := (own_ge hown g rfl).1
            have s0 : (0 : Int) ≤ (s.length : Int) := Int.natCast_nonneg _
            have s1 : (s.length : Int) < ((s.length + 1 : Nat) : Int) := by omega
            have hqk : s.length + 1 ≤ k := by omega
            clear hp hS hsl hfl hfl2
            generalize hq : s.length = q at *
            have HQ := Lib.hid hq
            clear hq
            have hb1 := below_refl wr
            have B1 := below_tr hbw hb1
            have o1 := own_on hown hb1
            obtain ⟨q0, f0⟩ := HROW.out wr o1
            go_wp2
            go_roundw
            case rel => exact ⟨k + 1, by omega, by go_num, B1.setCell (p := ⟨g, _, none⟩) hgB _, by rw [HST.out]; have := HSET.out wr o1; have h3 : (s ++ [(a, k + 1)]).length = q + 1 := (by rw [List.length_append, HQ.out]; rfl); rw [h3] at this ⊢; exact this⟩
            case measure => simp [intOf]; omega
          · have HST := Lib.hid (spS_new hp (by rw [hS]; simp; omega))
            have hneg : ((b : Int) == (k : Int)) = false := by simp; omega
            rw [hsl] at hown ⊢
            rw [hS] at hown
            obtain ⟨g, cp2, e1⟩ := ownsRow_succ hown
            cases e1
            have hfl : fl pC (s ++ [(a, b)]) = fl pC s ++ [.int .i64 (a : Int), .int .i64 (b : Int)] := by rw [fl_snoc]; rfl
            have hfl2 : (fl pC s).length = s.length * 2 := fl_length pC_len s
            have HROW := Lib.hid (fun (W : World) (o : W.ownsRow w.heap.size 31 2 (.slice (some ⟨g, 0, none⟩) (s.length + 1) cp) (s.length + 1) (fl pC (s ++ [(a, b)]))) => own_cell o (j := s.length * 2 + 1) (u := .int .i64 (b : Int)) (by rw [hfl, List.getElem?_append_right (by omega), hfl2]; rw [show s.length * 2 + 1 - s.length * 2 = 1 by omega]; rfl))
            have HLS := Lib.hid (show (spS p (k + 1)).length = s.length + 1 + 1 by rw [HST.out, List.length_append, hsl]; rfl)
            have HFS := Lib.hid (show fl pC (spS p (k + 1)) = fl pC (s ++ [(a, b)]) ++ pC (k, k + 1) by rw [HST.out, hS, fl_snoc])
            have s0 : (0 : Int) ≤ (s.length : Int) := Int.natCast_nonneg _
            have s1 : (s.length : Int) < ((s.length + 1 : Nat) : Int) := by omega
            have hqk : s.length + 1 ≤ k := by omega
            clear hp hS hsl hfl hfl2
            generalize s.length = q at *
            have hb1 := below_refl wr
            have B1 := below_tr hbw hb1
            have o1 := own_on hown hb1
            obtain ⟨q0, f0⟩ := HROW.out wr o1
            go_wp2_with (at_builtin; go_loud (refine wpList_append_own _ rfl _ _ 26 rfl w.heap.size 31 i0 (.agg #[.int .i64 0, .int .i64 0]) 2 16 (by kernel_rfl) hi hi1 hi2 hi3 rfl (by omega) _ _ _ rfl (o1.alloc _) ⟨wr.heap.size, 0, none⟩ 1 1 (pC (k, k + 1)) rfl rfl (HZ.out wr) (fun u hu => by simp [pC] at hu; rcases hu with rfl | rfl <;> rfl) (by unfold maxLen; omega) (by omega) (by simp; have := B1.size; omega) ?_; intro v' w4 hown4 hgrow _))
            go_roundw
            case rel => exact ⟨k + 1, by omega, by go_num, bl_app B1 o1 hgrow (Nat.le_refl _) B1.size, by rw [HLS.out, HFS.out]; exact hown4⟩
            case measure => simp [intOf]; omega
    · obtain rfl : k = L.length := by omega
      go_wp2
      go_ret
      exact ⟨_, rfl, hown, hbw⟩
end Go.Proofs.YtkigdjfagcnejaaDoor
