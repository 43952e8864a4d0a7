/- Stack's texts: Format by both. -/
import Derived.Test.YtoelekhkgknneaaDoorQj
set_option linter.unusedSimpArgs false
set_option linter.unusedVariables false
namespace Go.Proofs.YtoelekhkgknneaaDoor.Tx
open Go.RowKit Go.Lib

theorem p_ValidS {g : List Course} {b : Bool} (h : validC g = b) {A : Option Addr} {c : Nat} {w : World} (hl : g.length ≤ 100000) (hR : Rd Course.cs 6 w A g) :
    Calls Tryd.prog 59 #[.slice A g.length c] w fun e w' => e = .returned (.bool b) ∧ Below w.heap.size w w' := h ▸ s_valid A g c w hl hR
theorem r_ValidS {g : List Course} {b : Bool} (h : validC g = b) {A : Option Addr} {c : Nat} {w : World} (hl : g.length ≤ 100000) (hR : Rd Course.cs 6 w A g) :
    Calls Tryd.prog 62 #[.slice A g.length c] w fun e w' => e = .returned (.bool b) ∧ Below w.heap.size w w' := h ▸ r_valid A g c w hl hR
set_option maxHeartbeats 2000000 in
set_option maxRecDepth 20000 in
theorem p_FormatS (A : Option Addr) (g : List Course) (c : Nat) (w : World) (hl : g.length ≤ 100000) (hL : LdW w) (hR : Rd Course.cs 6 w A g) :
    Calls Tryd.prog 27 #[.slice A g.length c] w fun e w' => e = .returned (.string (coX.fm g)) ∧ Below w.heap.size w w' := by
  cases hv : validC g
  · have H2 := Lib.hid (p_ValidS (c := c) hv hl hR)
    have HF := Lib.hid (show coX.fm g = ⟨#[]⟩ by unfold LayX.fm; rw [show coX.vld g = false from hv]; rfl)
    rw [HF.out]
    clear hv
    go_enter Tryd.func27, Tryd.ntmps27
    go_wp2_with (go_at_call 59; ((with_reducible refine (H2.out).mono ?_); rintro e w1 ⟨rfl, hb1⟩; obtain ⟨hc1, hf1⟩ := bcell hb1; have hz1 := hb1.size; (try simp [sz_drew, sz_drewN] at hz1); (try simp only [sz_drew, sz_drewN] at hc1 hf1)))
    go_ret
    exact ⟨rfl, hb1⟩
  · have HF := Lib.hid (show coX.fm g = bts (fmtZ coX.wr g) by unfold LayX.fm; rw [show coX.vld g = true from hv]; rfl)
    have H2 := Lib.hid (p_ValidS (c := c) hv hl hR)
    have HS := Lib.hid (coX.bd_mem (g := g) hv)
    have h60 := coX.most g hv
    rw [HF.out]
    clear hv HF
    go_enter Tryd.func27, Tryd.ntmps27
    go_wp2_with (go_at_call 59; ((with_reducible refine (H2.out).mono ?_); rintro e w1 ⟨rfl, hb1⟩; obtain ⟨hc1, hf1⟩ := bcell hb1; have hz1 := hb1.size; (try simp [sz_drew, sz_drewN] at hz1); (try simp only [sz_drew, sz_drewN] at hc1 hf1)))
    have hbs := hb1.size
    have HI := Lib.fresh_isBuilder 63 5 w1
    go_loopw [11] (fun i wr => ∃ k : Nat, k ≤ g.length ∧ i = .int .i64 k ∧ Lib.IsBuilder 63 5 w1.heap.size w1.heap.size (Lib.byteCells (fmtZ coX.wr (g.take k))) wr ∧ Below w1.heap.size w1 wr) (fun i _ => g.length - (RowKit.intOf i).toNat)
    case atStart => exact ⟨0, by omega, rfl, HI, bl_alloc (below_refl _) _⟩
    case round =>
      obtain ⟨k, hk, rfl, hbd, hbw⟩ := hrel
      have hbvs := hbw.size
      have hbw0 := below_tr hb1 hbw
      by_cases hlt : k < g.length
      · have k0 : (0 : Int) ≤ (k : Int) := Int.natCast_nonneg _
        have k1 : (k : Int) < (g.length : Int) := by omega
        obtain ⟨x, b, off, hx, rfl, hbl, c0, c1, c2, c3, c4, c5⟩ := rdC (hR.on hbw0) hlt
        have hsx := HS.out x (List.mem_of_getElem? hx)
        have HLN := Lib.hid (fun W (h : Below w.heap.size w W) => p_words x W (fun m hm => by have := hsx m hm; omega) (hL.on h).tab)
        have HST := Lib.hid (coX.fm_step hx)
        have hln := coX.wr_len hsx
        have hls : (bts (lnN (csZ x))).size ≤ 126 := by rw [bts_size]; exact hln
        have hlf : (fmtZ coX.wr (g.take k)).length ≤ 7620 := by
          have := coX.fm_len (g := g.take k) fun y hy => HS.out y (List.mem_of_mem_take hy)
          rw [List.length_take] at this
          have h3 : (21 * coX.n + 1) * min k g.length ≤ 127 * 60 := Nat.mul_le_mul (by show 21 * 6 + 1 ≤ 127; omega) (by omega)
          omega
        have z1 : ¬ 9223372036854775807 < (bts (lnN (csZ x))).size + 1 := by omega
        have HWS := Lib.hid (fun W (h : Below wr.heap.size wr W) => p_WriteString w1.heap.size w1.heap.size (Lib.byteCells (fmtZ coX.wr (g.take k))) (bts (lnN (csZ x)) ++ ⟨#[10]⟩) W (is_below hbd h) (by simp only [Lib.byteCells, List.length_map, ByteArray.size_append]; show _ + (_ + 1) ≤ _; omega) (Nat.le_trans hbvs h.size))
        have HSB := Lib.hid (show Lib.byteCells (fmtZ coX.wr (g.take (k + 1))) = Lib.byteCells (fmtZ coX.wr (g.take k)) ++ Lib.strCells (bts (lnN (csZ x)) ++ ⟨#[10]⟩) by
          rw [HST.out, Lib.byteCells_append]
          congr 1)
        clear hsx hx hbd hln hlf
        generalize bts (lnN (csZ x)) = SX at *
        go_wp2_with (first
          | (go_at_call 58; ((with_reducible refine (HLN.out _ (bl_alloc hbw0 _)).mono ?_); rintro e w3 ⟨rfl, hb3⟩; have hr3 := below_tr (bl_alloc (below_refl wr) _) hb3))
          | (go_at_call 39; ((with_reducible refine (HWS.out _ hr3).mono ?_); rintro e w4 ⟨rfl, hbd4, hb4⟩)))
        go_roundw
        case rel => exact ⟨k + 1, by omega, by go_num, HSB.out ▸ .inr hbd4, (hbw.trans (hr3.mono hbvs)).trans hb4⟩
        case measure => simp [RowKit.intOf]; omega
      · obtain rfl : k = g.length := by omega
        rw [List.take_length] at hbd
        have HSR := Lib.hid (Tryd.Builder_String_any w1.heap.size w1.heap.size (fmtZ coX.wr g) wr hbd hbw.size)
        go_wp2_with (go_at_call 41; ((with_reducible refine HSR.out.mono ?_); rintro e w3 ⟨rfl, hb3⟩))
        go_ret
        exact ⟨rfl, below_tr hb1 (hbw.trans hb3)⟩
theorem cells6 {w : World} (a b c d e f : Int) : Rd zC 1 (w.alloc (.cells #[.int .i64 a, .int .i64 b, .int .i64 c, .int .i64 d, .int .i64 e, .int .i64 f] 3)) (some ⟨w.heap.size, 0, none⟩) [a, b, c, d, e, f] := fun _ => by
  refine ⟨w.heap.size, 0, rfl, by simp, fun k x hx j v hv => ?_⟩
  have := cells_new w (fl zC [a, b, c, d, e, f]) 3 (k * 1 + j) v (fl_get zC_len hx hv)
  rw [Nat.zero_add]
  rw [show (⟨w.heap.size, 0, none⟩ : Addr).add (k * 1 + j) = ⟨w.heap.size, k * 1 + j, none⟩ by unfold Addr.add; split <;> simp_all] at this
  exact this
set_option maxHeartbeats 2000000 in
set_option maxRecDepth 20000 in
theorem r_FormatS (A : Option Addr) (g : List Course) (c : Nat) (w : World) (hl : g.length ≤ 100000) (hR : Rd Course.cs 6 w A g) :
    Calls Tryd.prog 28 #[.slice A g.length c] w fun e w' => e = .returned (.string (coX.fm g)) ∧ Below w.heap.size w w' := by
  cases hv : validC g
  · have H2 := Lib.hid (r_ValidS (c := c) hv hl hR)
    have HF := Lib.hid (show coX.fm g = ⟨#[]⟩ by unfold LayX.fm; rw [show coX.vld g = false from hv]; rfl)
    rw [HF.out]
    clear hv
    go_enter Tryd.func28, Tryd.ntmps28
    go_wp2_with (go_at_call 62; ((with_reducible refine (H2.out).mono ?_); rintro e w1 ⟨rfl, hb1⟩; obtain ⟨hc1, hf1⟩ := bcell hb1; have hz1 := hb1.size; (try simp [sz_drew, sz_drewN] at hz1); (try simp only [sz_drew, sz_drewN] at hc1 hf1)))
    go_ret
    exact ⟨rfl, hb1⟩
  · have HF := Lib.hid (show coX.fm g = bts (fmtZ coX.wr g) by unfold LayX.fm; rw [show coX.vld g = true from hv]; rfl)
    have H2 := Lib.hid (r_ValidS (c := c) hv hl hR)
    have HS := Lib.hid (coX.bd_mem (g := g) hv)
    have h60 := coX.most g hv
    rw [HF.out]
    clear hv HF
    go_enter Tryd.func28, Tryd.ntmps28
    go_wp2_with (go_at_call 62; ((with_reducible refine (H2.out).mono ?_); rintro e w1 ⟨rfl, hb1⟩; obtain ⟨hc1, hf1⟩ := bcell hb1; have hz1 := hb1.size; (try simp [sz_drew, sz_drewN] at hz1); (try simp only [sz_drew, sz_drewN] at hc1 hf1)))
    go_loopw [3, 4] (fun v i wr => ∃ k : Nat, k ≤ g.length ∧ i = .int .i64 k ∧ v = .string (bts (fmtZ coX.wr (g.take k))) ∧ Below w.heap.size w wr) (fun _ i _ => g.length - (RowKit.intOf i).toNat)
    case atStart => exact ⟨0, by omega, rfl, rfl, hb1⟩
    case round =>
      obtain ⟨k, hk, rfl, rfl, hbw⟩ := hrel
      rename World => wr
      clear hc1 hf1
      by_cases hlt : k < g.length
      · have k0 : (0 : Int) ≤ (k : Int) := Int.natCast_nonneg _
        have k1 : (k : Int) < (g.length : Int) := by omega
        obtain ⟨x, b, off, hx, rfl, hbl, c0, c1, c2, c3, c4, c5⟩ := rdC (hR.on hbw) hlt
        have hsx := HS.out x (List.mem_of_getElem? hx)
        have HLS := Lib.hid (fun W (h : Rd zC 1 W (some ⟨wr.heap.size + 1, 0, none⟩) (csZ x)) => r1_Listed (some ⟨wr.heap.size + 1, 0, none⟩) (csZ x) 6 W (by show 6 ≤ 1000; omega) h (fun m hm => by have := hsx m hm; omega))
        have HST := Lib.hid (show bts (fmtZ coX.wr (g.take (k + 1))) = bts (fmtZ coX.wr (g.take k)) ++ bts (lnN (csZ x)) ++ ⟨#[10]⟩ by
          have e2 : (⟨#[10]⟩ : ByteArray) = bts [10] := rfl
          rw [coX.fm_step hx, e2, ba_app, ba_app, List.append_assoc]; rfl)
        have HLZ := lstZ_ln (l := csZ x) (by simp [csZ])
        have hln := coX.wr_len hsx
        have hls : (bts (lnN (csZ x))).size ≤ 126 := by rw [bts_size]; exact hln
        have hlf : (bts (fmtZ coX.wr (g.take k))).size ≤ 7620 := by
          have := coX.fm_len (g := g.take k) fun y hy => HS.out y (List.mem_of_mem_take hy)
          rw [List.length_take] at this
          have h3 : (21 * coX.n + 1) * min k g.length ≤ 127 * 60 := Nat.mul_le_mul (by show 21 * 6 + 1 ≤ 127; omega) (by omega)
          rw [bts_size]; omega

        have HSL := Lib.hid (show (bts (lstZ (csZ x))).extract 1 (bts (lstZ (csZ x))).size = bts (lnN (csZ x)) by
          rw [extract_eq, bts_list, HLZ]
          show bts _ = _
          congr 1
          rw [bts_size]; simp)
        have hsl : 1 ≤ (bts (lstZ (csZ x))).size := by rw [bts_size, HLZ]; simp
        clear hsx hx HLZ hln HS
        have HRD := Lib.hid (fun W : World => cells6 (w := W) x.h x.o x.i x.wt x.e x.n)
        have HRD2 := Lib.hid (HRD.out (wr.alloc (.cells #[.int .i64 x.h, .int .i64 x.o, .int .i64 x.i, .int .i64 x.wt, .int .i64 x.e, .int .i64 x.n] 91)))
        rw [World.size_alloc] at HRD2
        have hS6 : (csZ x).length = 6 := rfl
        rw [hS6] at HLS
        have hB1 := bl_alloc (bl_alloc (below_refl wr) (.cells #[.int .i64 x.h, .int .i64 x.o, .int .i64 x.i, .int .i64 x.wt, .int .i64 x.e, .int .i64 x.n] 91)) (.cells #[.int .i64 x.h, .int .i64 x.o, .int .i64 x.i, .int .i64 x.wt, .int .i64 x.e, .int .i64 x.n] 3)
        generalize bts (lstZ (csZ x)) = SL at *
        generalize bts (lnN (csZ x)) = SX at *
        generalize bts (fmtZ coX.wr (g.take k)) = ST at *
        have hsl1 : (1 : Int) ≤ (SL.size : Int) := by omega
        have z1 : ¬ 9223372036854775807 < ST.size + SX.size := by omega
        have z2 : ¬ 9223372036854775807 < ST.size + SX.size + 1 := by omega
        have hsx1 := HSL.out
        clear hls hlf hS6 hsl
        go_wp2_with (go_at_call 63; ((with_reducible refine (HLS.out _ HRD2.out).mono ?_); rintro e w3 ⟨rfl, hb3⟩))
        go_roundw
        case rel => exact ⟨k + 1, by omega, by go_num, by rw [HST.out], below_tr hbw (below_tr hB1 hb3)⟩
        case measure => simp [RowKit.intOf]; omega
      · obtain rfl : k = g.length := by omega
        have HT := Lib.hid (show g.take g.length = g from List.take_length)
        go_wp2
        go_ret
        exact ⟨by rw [HT.out]; rfl, hbw⟩
end Go.Proofs.YtoelekhkgknneaaDoor.Tx
