/- Gear: Taken by the reference; GearCalls walked. -/
import Derived.Test.YtijlglanpgcdiaaGcd
set_option linter.unusedSimpArgs false
set_option linter.unusedVariables false
namespace Go.Proofs.Ytijlglanpgcdiaa
open Go.RowKit Go.Maps Go.WideShapes Go.WideMaps

set_option maxHeartbeats 4000000 in
set_option maxRecDepth 20000 in
theorem r_Taken (A B : Option Addr) (g : List It) (R : List Rg) (c d : Nat) (w : World) (hl : g.length ≤ 100000) (hr : R.length ≤ 100000) (hR : Rd It.cs 4 w A g) (hW : ∀ x ∈ g, IW x) (hB : Rd Rg.cs 1 w B R) (hO : RgS w R) :
    Calls Try.prog 45 #[.slice A g.length c, .slice B R.length d] w fun e w' => ∃ v, e = .returned (.tuple #[v, .int .i64 (svE g R)]) ∧ GotW w' v (tkZ g R) ∧ Below w.heap.size w w' := by
  have H1 := Lib.hid (r_many A B g R c d w hl hr hR hW hB hO)
  have HZ0 := Lib.hid (show tkZ g R = if svE g R = 0 then fZ (tkB g R) g.length else [] from rfl)
  obtain ⟨i0, hi, hi1, hi2, hi3⟩ := info_int2
  by_cases hE : svE g R = 0
  rotate_left
  · have hE' : (svE g R != 0) = true := by simpa using hE
    have HZ := Lib.hid (show tkZ g R = [] by rw [HZ0.out, if_neg hE])
    clear hE
    go_enter Try.func45, Try.ntmps45
    go_wp2_with (go_at_call 81; ((with_reducible refine (H1.out).mono ?_); rintro e w1 ⟨rfl, hb1⟩; obtain ⟨hc1, hf1⟩ := bcell hb1; have hz1 := hb1.size; (try simp [sz_drew, sz_drewN] at hz1); (try simp only [sz_drew, sz_drewN] at hc1 hf1)))
    go_ret2
    exact ⟨_, rfl, by rw [HZ.out]; exact gotW_nil _, hb1⟩
  have HZ := Lib.hid (show tkZ g R = fZ (tkB g R) g.length by rw [HZ0.out, if_pos hE])
  obtain ⟨_, hR50, hvr⟩ := sv_z hE
  have HL32 := Lib.hid (show ∀ x ∈ R, x.l.length ≤ 32 from fun x hx => (hvr x hx).l1)
  have HNL := Lib.hid (nmR_len HL32.out)
  have HTB := Lib.hid (fun k => show tkB g R k = decide (1 < cL (nmR R R.length) (itAt g k).nm) from rfl)
  have HN := Lib.hid (fun k h => fN_no (p := tkB g R) (k := k) h)
  have HY := Lib.hid (fun k h => fN_yes (p := tkB g R) (k := k) h)
  have HLn := Lib.hid (fun k => fN_len (tkB g R) k)
  rw [hE] at H1 ⊢
  clear hE hvr
  go_enter Try.func45, Try.ntmps45
  go_wp2_with (go_at_call 81; ((with_reducible refine (H1.out).mono ?_); rintro e w1 ⟨rfl, hb1⟩; obtain ⟨hc1, hf1⟩ := bcell hb1; have hz1 := hb1.size; (try simp [sz_drew, sz_drewN] at hz1); (try simp only [sz_drew, sz_drewN] at hc1 hf1)))
  have B1s := hb1.size
  go_loopw [7, 8] (fun v i wr => ∃ k : Nat, k ≤ g.length ∧ i = .int .i64 k ∧ Below w.heap.size w wr ∧ Below w1.heap.size w1 wr ∧ wr.ownsRow w1.heap.size 3 1 v (fN (tkB g R) k).length (fl nC (fN (tkB g R) k))) (fun _ i _ => g.length - (intOf i).toNat)
  case atStart => exact ⟨0, by omega, rfl, hb1, below_refl _, World.ownsRow_nil w1 _ _ _⟩
  case round =>
    clear hb1 hc1 hf1 hz1
    obtain ⟨k, hk, rfl, hbw, hbv, hown⟩ := hrel
    obtain ⟨ad, cp, rfl⟩ := own_slice hown
    have hlen := HLn.out k
    rename World => wa
    by_cases hlt : k < g.length
    · have kk0 : (0 : Int) ≤ (k : Int) := Int.natCast_nonneg _
      have kk1 : (k : Int) < (g.length : Int) := by omega
      obtain ⟨it, gb, goff, hx, rfl, hgb, g0, _⟩ := rdI (hR.on hbw) hlt
      have hT : tkB g R k = decide (1 < cL (nmR R R.length) it.nm) := by rw [HTB.out, itAt_of hx]
      have HG0 := Lib.hid (fun W (h : Below wa.heap.size wa W) => show W.cell? ⟨gb, goff + k * 4, none⟩ = some (.string it.nm) from (h.cell (p := ⟨gb, _, none⟩) hgb).trans g0)
      have HTT := Lib.hid hT
      clear hx hT g0
      go_wp2
      go_loopw [9, 10] (fun n i wv => ∃ q : Nat, q ≤ R.length ∧ i = .int .i64 q ∧ n = .int .i64 (cL (nmR R q) it.nm) ∧ Below wa.heap.size wa wv) (fun _ i _ => R.length - (intOf i).toNat)
      case atStart => exact ⟨0, by omega, rfl, rfl, below_refl _⟩
      case round =>
        obtain ⟨q, hq, rfl, rfl, hbq⟩ := hrel
        rename World => wb
        have q0' : (0 : Int) ≤ (q : Int) := Int.natCast_nonneg _
        by_cases hql : q < R.length
        · have q1' : (q : Int) < (R.length : Int) := by omega
          obtain ⟨x, b, off, hx, rfl, hb, q0⟩ := rdG (hB.on hbw) hql
          have hm := List.mem_of_getElem? hx
          have HOK := Lib.hid (hO x hm).1
          have hxl := HL32.out x hm
          have HNS := Lib.hid (nmR_step hx)
          have HNK := HNL.out q
          have HQ0 := Lib.hid (fun W (h : Below wa.heap.size wa W) => show W.cell? ⟨b, off + q, none⟩ = some (.slice x.a x.l.length x.c) from (h.cell (p := ⟨b, _, none⟩) hb).trans q0)
          clear hx q0
          go_wp2
          go_loopw [9, 11] (fun n i wu => ∃ j : Nat, j ≤ x.l.length ∧ i = .int .i64 j ∧ n = .int .i64 (cL (nmR R q ++ (x.l.take j).map Lk.nm) it.nm) ∧ Below wa.heap.size wa wu) (fun _ i _ => x.l.length - (intOf i).toNat)
          case atStart => exact ⟨0, by omega, rfl, by simp, hbq⟩
          case round =>
            clear hbq
            obtain ⟨j, hj, rfl, rfl, hbq⟩ := hrel
            rename World => wc
            have j0 : (0 : Int) ≤ (j : Int) := Int.natCast_nonneg _
            have q0 := HQ0.out _ hbq
            have g0 := HG0.out _ hbq
            by_cases hjl : j < x.l.length
            · have j1 : (j : Int) < (x.l.length : Int) := by omega
              obtain ⟨y, yb, yo, hy, e5, hyb, r0, r1⟩ := rdL ((HOK.out.on (below_tr hbw hbq)).rd) hjl
              have HST := Lib.hid (show cL (nmR R q ++ (x.l.take (j + 1)).map Lk.nm) it.nm = cL (nmR R q ++ (x.l.take j).map Lk.nm) it.nm + if y.nm.toList = it.nm.toList then 1 else 0 by
                rw [List.take_add_one, hy, List.map_append, ← List.append_assoc]; exact cL_snoc _ _ _)
              have hcn := cL_nn (nmR R q ++ (x.l.take j).map Lk.nm) it.nm
              have hcl := cL_le (nmR R q ++ (x.l.take j).map Lk.nm) it.nm
              have hll : (nmR R q ++ (x.l.take j).map Lk.nm).length ≤ 100000 := by rw [List.length_append, List.length_map, List.length_take]; omega
              generalize nmR R q ++ (x.l.take j).map Lk.nm = M at *
              generalize cL M it.nm = N at *
              rw [e5] at q0
              clear hy
              cases he : (y.nm.toList == it.nm.toList)
              · have HE2 := Lib.hid (show ¬ y.nm.toList = it.nm.toList by simpa using he)
                go_wp2
                go_quiet (fail)
                go_wp2
                go_roundw
                case rel => exact ⟨j + 1, by omega, by go_num, by rw [HST.out, if_neg HE2.out, Int.add_zero], below_drewN hbq _⟩
                case measure => simp [intOf]; omega
              · have HE2 := Lib.hid (show y.nm.toList = it.nm.toList by simpa using he)
                go_wp2
                go_quiet (fail)
                go_wp2
                go_roundw
                case rel => exact ⟨j + 1, by omega, by go_num, by rw [HST.out, if_pos HE2.out], below_drewN hbq _⟩
                case measure => simp [intOf]; omega
            · obtain rfl : j = x.l.length := by omega
              rw [List.take_length, ← HNS.out]
              go_wp2
              go_roundw
              case rel => exact ⟨q + 1, by omega, by go_num, rfl, hbq⟩
              case measure => simp [intOf]; omega
        · obtain rfl : q = R.length := by omega
          have own2 := own_on hown hbq
          have b2 := below_tr hbw hbq
          have v2 := below_tr hbv hbq
          generalize cL (nmR R R.length) it.nm = N at *
          by_cases hN : 1 < N
          · have HST := Lib.hid (HY.out k (by rw [HTT.out]; exact decide_eq_true hN))
            go_wp2_with (at_builtin; refine wpList_append_own _ rfl _ _ 30 rfl w1.heap.size 3 i0 (.int .i64 0) 1 8 (by kernel_rfl) hi hi1 hi2 hi3 rfl (by omega) _ _ _ rfl (own2.alloc _) ⟨wb.heap.size, 0, none⟩ 1 1 [.int .i64 k] rfl rfl (cells_new wb [.int .i64 k] 3) (fun u hu => by simp at hu; subst hu; rfl) (by unfold maxLen; omega) (by omega) (by simp; have := v2.size; omega) ?_; intro v' w9 hown9 hgrow _)
            go_roundw
            case rel => exact ⟨k + 1, by omega, by go_num, bl_app b2 own2 hgrow B1s b2.size, bl_app v2 own2 hgrow (Nat.le_refl _) v2.size, by rw [HST.out, fl_snoc, List.length_append]; exact hown9⟩
            case measure => simp [intOf]; omega
          · have HST := Lib.hid (HN.out k (by rw [HTT.out]; exact decide_eq_false hN))
            go_wp2
            go_roundw
            case rel => exact ⟨k + 1, by omega, by go_num, b2, v2, by rw [HST.out]; exact own2⟩
            case measure => simp [intOf]; omega
    · obtain rfl : k = g.length := by omega
      go_wp2
      go_ret2
      exact ⟨_, rfl, by rw [HZ.out]; exact got_fN hown, hbw⟩
end Go.Proofs.Ytijlglanpgcdiaa
