/- Lean's texts: a mark as three numbers; words and Format by both. -/
import Derived.Test.YtoelekhkgknneaaDoorLvc
import Derived.Test.YtoelekhkgknneaaDoorQl
set_option linter.unusedSimpArgs false
set_option linter.unusedVariables false
namespace Go.Proofs.YtoelekhkgknneaaDoor.Tx
open Go.RowKit Go.Lib

def mkZ (c : Mk) : List Int := [c.h, c.e, c.n]
def ofM : List Int → Mk
  | [a, b, c] => ⟨a, b, c⟩
  | _ => ⟨0, 0, 0⟩
theorem mkd_bd {c : Mk} (h : mkd c = true) : ∀ m ∈ mkZ c, -1000000 ≤ m ∧ m ≤ 1000000 := fun m hm => by
  unfold mkd wn at h
  simp only [Bool.and_eq_true, decide_eq_true_eq] at h
  simp only [mkZ, List.mem_cons, List.not_mem_nil, or_false] at hm
  rcases hm with rfl | rfl | rfl <;> omega
theorem vldM_snoc {g : List Mk} {x : Mk} (h : vldM (g ++ [x]) = true) : mkd x = true := by
  unfold vldM at h
  rw [Bool.and_eq_true, List.all_eq_true] at h
  have := h.2 g.length (by simp)
  unfold okM at this
  rw [mkAt_of (p := x) (by simp), Bool.and_eq_true] at this
  exact this.1
def mkX : LayX Mk where
  n := 3
  of := ofM
  ns := mkZ
  bad := ⟨-1, 0, 0⟩
  vld := vldM
  n0 := by omega
  of_ns := fun _ => rfl
  ns_of := fun l h => by
    match l, h with
    | [a, b, c], _ => rfl
  ns_len := fun _ => rfl
  bd := fun g x h m hm => by have := mkd_bd (vldM_snoc h) m hm; omega
  nbad := fun g => by
    cases h : vldM (g ++ [(⟨-1, 0, 0⟩ : Mk)])
    · rfl
    · exact absurd (vldM_snoc h) (by decide)
  nnil := by decide
  pre := fun g k h hk => by
    unfold vldM at h ⊢
    rw [Bool.and_eq_true, List.all_eq_true] at h ⊢
    have h1 := h.1
    unfold wn at h1 ⊢
    simp only [Bool.and_eq_true, decide_eq_true_eq, List.length_take] at h1 ⊢
    refine ⟨by omega, fun i hi => ?_⟩
    rw [List.mem_range] at hi
    have h2 := h.2 i (List.mem_range.2 (by omega))
    have e : ∀ j, j < k → mkAt (g.take k) j = mkAt g j := fun j hj => by unfold mkAt; rw [List.getElem?_take, if_pos hj]
    unfold okM at h2 ⊢
    rw [e i (by omega), e (i - 1) (by omega)]
    exact h2
  most := fun g h => by
    unfold vldM wn at h
    simp only [Bool.and_eq_true, decide_eq_true_eq] at h
    omega
theorem rdMk {w : World} {A : Option Addr} {l : List Mk} (h : Rd Mk.cs 3 w A l) {k : Nat} (hk : k < l.length) :
    ∃ x b off, l[k]? = some x ∧ A = some ⟨b, off, none⟩ ∧ b < w.heap.size ∧ w.cell? ⟨b, off + k * 3, none⟩ = some (.int .i64 x.h) ∧ w.cell? ⟨b, off + k * 3 + 1, none⟩ = some (.int .i64 x.e) ∧ w.cell? ⟨b, off + k * 3 + 2, none⟩ = some (.int .i64 x.n) := by
  obtain ⟨x, hx⟩ := get_lt hk
  obtain ⟨b, off, e, hb, hc⟩ := h.get hx
  exact ⟨x, b, off, hx, e, hb, hc 0 _ rfl, hc 1 _ rfl, hc 2 _ rfl⟩
set_option maxHeartbeats 2000000 in
set_option maxRecDepth 20000 in
theorem p_wordsM (A : Option Addr) (Z : List Int) (c : Nat) (w : World) (hl : Z.length ≤ 100) (hc : ∀ m ∈ Z, -9223372036854775808 ≤ m ∧ m ≤ 9223372036854775807) (hR : Rd zC 1 w A Z) (hT : TabP w) : Calls Tryd.prog 65 #[.slice A Z.length c] w fun e w' => e = .returned (.string (bts (lnN Z))) ∧ Below w.heap.size w w' := by
  have HC := Lib.hid (fun (k : Nat) (x : Int) (h : Z[k]? = some x) => hc x (List.mem_of_getElem? h))
  obtain ⟨i0, hi, hi1, hi2, hi3⟩ := info_str1
  have HF := Lib.hid (show lnN Z = joinZ 32 (Z.map itoa) from rfl)
  rw [HF.out]
  clear hc
  go_enter Tryd.func65, Tryd.ntmps65
  go_wp2
  go_loopw [3, 8] (fun v i wr => ∃ k : Nat, k ≤ Z.length ∧ i = .int .i64 k ∧ Below w.heap.size w wr ∧ wr.ownsRow w.heap.size 9 1 v k (fl stG ((Z.take k).map itoa))) (fun _ i _ => Z.length - (RowKit.intOf i).toNat)
  case atStart => exact ⟨0, by omega, rfl, below_refl _, World.ownsRow_nil _ _ _ _⟩
  case round =>
    obtain ⟨k, hk, rfl, hbw, hown⟩ := hrel
    obtain ⟨ad, cp, rfl⟩ := own_slice hown
    rename World => wr
    have hbvs := hbw.size
    have k0 : (0 : Int) ≤ (k : Int) := Int.natCast_nonneg _
    by_cases hlt : k < Z.length
    · have k1 : (k : Int) < (Z.length : Int) := by omega
      obtain ⟨x, b, off, hx, rfl, hbl, c0⟩ := rd_int (hR.on hbw) hlt
      have hxb := HC.out k x hx
      have HI := Lib.hid (c_ItoaV x wr hxb.1 hxb.2 (tab_on hT hbw))
      have HS := Lib.hid (show (Z.take (k + 1)).map itoa = (Z.take k).map itoa ++ [itoa x] by rw [List.take_add_one, hx, List.map_append]; rfl)
      clear hx hxb HC
      generalize itoa x = SX at *
      go_wp2_with (first
        | (go_at_call 80; ((with_reducible refine HI.out.mono ?_); rintro e w3 ⟨rfl, hb3⟩; have hz3 := hb3.size))
        | (at_builtin; (refine wpList_append_own _ rfl _ _ 72 rfl w.heap.size 9 i0 (.string ByteArray.empty) 1 16 (by kernel_rfl) hi hi1 hi2 hi3 rfl (by omega) _ _ _ rfl ((own_on hown hb3).alloc _) ⟨w3.heap.size, 0, none⟩ 1 1 (stG SX) rfl rfl (cells_new w3 (stG SX) 9) (fun u hu => by simp [stG] at hu; rcases hu with rfl; rfl) (by unfold maxLen; omega) (by omega) (by simp; omega) ?_; intro v' w4 hown4 hgrow _)))
      go_roundw
      case rel => exact ⟨k + 1, by omega, by go_num, bl_app (below_tr hbw hb3) (own_on hown hb3) hgrow (Nat.le_refl _) (Nat.le_trans hbw.size hb3.size), by rw [HS.out, fl_snocG]; exact hown4⟩
      case measure => simp [RowKit.intOf]; omega
    · obtain rfl : k = Z.length := by omega
      have hP : (Z.map itoa).length = Z.length := by rw [List.length_map]
      rw [List.take_length] at hown
      have hown2 : wr.ownsRow w.heap.size 9 1 (.slice ad Z.length cp) (Z.map itoa).length (fl stG (Z.map itoa)) := by rw [hP]; exact hown
      obtain ⟨A3, c3', e3, hr3, hc3, _⟩ := own_rdc stG_len hown2
      rw [hP] at e3
      have HJ := Lib.hid (c_Join A3 (Z.map itoa) c3' wr (by omega) hc3 (fun p hp => by
        obtain ⟨m, hm, rfl⟩ := List.mem_map.1 hp
        obtain ⟨j, hj, rfl⟩ := List.getElem_of_mem hm
        have := HC.out j _ (List.getElem?_eq_getElem hj)
        have := itoa_len this.1 this.2
        omega) hr3)
      rw [hP] at HJ
      cases e3
      clear hown hown2 hP HC hr3
      go_wp2_with (go_at_call 55; ((with_reducible refine HJ.out.mono ?_); rintro e w3 ⟨rfl, hb3⟩))
      go_ret
      exact ⟨rfl, below_tr hbw hb3⟩
theorem p_ValidMV {g : List Mk} {b : Bool} (h : vldM g = b) {A : Option Addr} {c : Nat} {w : World} (hl : g.length ≤ 100000) (hR : Rd Mk.cs 3 w A g) :
    Calls Tryd.prog 66 #[.slice A g.length c] w fun e w' => e = .returned (.bool b) ∧ Below w.heap.size w w' := h ▸ p_validM A g c w hl hR
theorem r_ValidMV {g : List Mk} {b : Bool} (h : vldM g = b) {A : Option Addr} {c : Nat} {w : World} (hl : g.length ≤ 100000) (hR : Rd Mk.cs 3 w A g) :
    Calls Tryd.prog 67 #[.slice A g.length c] w fun e w' => e = .returned (.bool b) ∧ Below w.heap.size w w' := h ▸ r_validM A g c w hl hR
theorem cells3 {w : World} (a b c : Int) : Rd zC 1 (w.alloc (.cells #[.int .i64 a, .int .i64 b, .int .i64 c] 3)) (some ⟨w.heap.size, 0, none⟩) [a, b, c] := fun _ => by
  refine ⟨w.heap.size, 0, rfl, by simp, fun k x hx j v hv => ?_⟩
  have := cells_new w (fl zC [a, b, c]) 3 (k * 1 + j) v (fl_get zC_len hx hv)
  rw [Nat.zero_add]
  rw [show (⟨w.heap.size, 0, none⟩ : Addr).add (k * 1 + j) = ⟨w.heap.size, k * 1 + j, none⟩ by unfold Addr.add; split <;> simp_all] at this
  exact this
set_option maxHeartbeats 2000000 in
set_option maxRecDepth 20000 in
theorem p_FormatM (A : Option Addr) (g : List Mk) (c : Nat) (w : World) (hl : g.length ≤ 100000) (hL : LdW w) (hR : Rd Mk.cs 3 w A g) :
    Calls Tryd.prog 33 #[.slice A g.length c] w fun e w' => e = .returned (.string (mkX.fm g)) ∧ Below w.heap.size w w' := by
  cases hv : vldM g
  · have H2 := Lib.hid (p_ValidMV (c := c) hv hl hR)
    have HF := Lib.hid (show mkX.fm g = ⟨#[]⟩ by unfold LayX.fm; rw [show mkX.vld g = false from hv]; rfl)
    rw [HF.out]
    clear hv
    go_enter Tryd.func33, Tryd.ntmps33
    go_wp2_with (go_at_call 66; ((with_reducible refine (H2.out).mono ?_); rintro e w1 ⟨rfl, hb1⟩; obtain ⟨hc1, hf1⟩ := bcell hb1; have hz1 := hb1.size; (try simp [sz_drew, sz_drewN] at hz1); (try simp only [sz_drew, sz_drewN] at hc1 hf1)))
    go_ret
    exact ⟨rfl, hb1⟩
  · have HF := Lib.hid (show mkX.fm g = bts (fmtZ mkX.wr g) by unfold LayX.fm; rw [show mkX.vld g = true from hv]; rfl)
    have H2 := Lib.hid (p_ValidMV (c := c) hv hl hR)
    have HS := Lib.hid (mkX.bd_mem (g := g) hv)
    have h60 := mkX.most g hv
    rw [HF.out]
    clear hv HF
    go_enter Tryd.func33, Tryd.ntmps33
    go_wp2_with (go_at_call 66; ((with_reducible refine (H2.out).mono ?_); rintro e w1 ⟨rfl, hb1⟩; obtain ⟨hc1, hf1⟩ := bcell hb1; have hz1 := hb1.size; (try simp [sz_drew, sz_drewN] at hz1); (try simp only [sz_drew, sz_drewN] at hc1 hf1)))
    go_loopw [3, 11] (fun v i wr => ∃ k : Nat, k ≤ g.length ∧ i = .int .i64 k ∧ v = .string (bts (fmtZ mkX.wr (g.take k))) ∧ Below w.heap.size w wr) (fun _ i _ => g.length - (RowKit.intOf i).toNat)
    case atStart => exact ⟨0, by omega, rfl, rfl, hb1⟩
    case round =>
      obtain ⟨k, hk, rfl, rfl, hbw⟩ := hrel
      rename World => wr
      clear hc1 hf1
      by_cases hlt : k < g.length
      · have k0 : (0 : Int) ≤ (k : Int) := Int.natCast_nonneg _
        have k1 : (k : Int) < (g.length : Int) := by omega
        obtain ⟨x, b, off, hx, rfl, hbl, c0, c1, c2⟩ := rdMk (hR.on hbw) hlt
        have hsx := HS.out x (List.mem_of_getElem? hx)
        have HLS := Lib.hid (fun W (h : Rd zC 1 W (some ⟨wr.heap.size + 1, 0, none⟩) (mkZ x)) (hw : Below w.heap.size w W) => p_wordsM (some ⟨wr.heap.size + 1, 0, none⟩) (mkZ x) 3 W (by show 3 ≤ 100; omega) (fun m hm => by have := hsx m hm; omega) h (hL.on hw).tab)
        have HST := Lib.hid (show bts (fmtZ mkX.wr (g.take (k + 1))) = bts (fmtZ mkX.wr (g.take k)) ++ (bts (lnN (mkZ x)) ++ ⟨#[10]⟩) by
          have e2 : (⟨#[10]⟩ : ByteArray) = bts [10] := rfl
          rw [mkX.fm_step hx, e2, ba_app, ba_app]; rfl)
        have hln := mkX.wr_len hsx
        have hls : (bts (lnN (mkZ x))).size ≤ 63 := by rw [bts_size]; exact hln
        have hlf : (bts (fmtZ mkX.wr (g.take k))).size ≤ 7620 := by
          have := mkX.fm_len (g := g.take k) fun y hy => HS.out y (List.mem_of_mem_take hy)
          rw [List.length_take] at this
          have h3 : (21 * mkX.n + 1) * min k g.length ≤ 127 * 60 := Nat.mul_le_mul (by show 21 * 3 + 1 ≤ 127; omega) (by omega)
          rw [bts_size]; omega
        clear hsx hx hln HS
        have HRD := Lib.hid (fun W : World => cells3 (w := W) x.h x.e x.n)
        have HRD2 := Lib.hid (HRD.out (wr.alloc (.cells #[.int .i64 x.h, .int .i64 x.e, .int .i64 x.n] 110)))
        rw [World.size_alloc] at HRD2
        have hS6 : (mkZ x).length = 3 := rfl
        rw [hS6] at HLS
        have hB1 := bl_alloc (bl_alloc (below_refl wr) (.cells #[.int .i64 x.h, .int .i64 x.e, .int .i64 x.n] 110)) (.cells #[.int .i64 x.h, .int .i64 x.e, .int .i64 x.n] 3)
        generalize bts (lnN (mkZ x)) = SX at *
        generalize bts (fmtZ mkX.wr (g.take k)) = ST at *
        have z1 : ¬ 9223372036854775807 < SX.size + 1 := by omega
        have z2 : ¬ 9223372036854775807 < ST.size + (SX.size + 1) := by omega
        clear hls hlf hS6
        go_wp2_with (go_at_call 65; ((with_reducible refine (HLS.out _ HRD2.out (below_tr hbw hB1)).mono ?_); rintro e w3 ⟨rfl, hb3⟩))
        go_roundw
        case rel => exact ⟨k + 1, by omega, by go_num, by rw [HST.out], below_tr hbw (below_tr hB1 hb3)⟩
        case measure => simp [RowKit.intOf]; omega
      · obtain rfl : k = g.length := by omega
        have HT := Lib.hid (show g.take g.length = g from List.take_length)
        go_wp2
        go_ret
        exact ⟨by rw [HT.out]; rfl, hbw⟩
set_option maxHeartbeats 2000000 in
set_option maxRecDepth 20000 in
theorem r_FormatM (A : Option Addr) (g : List Mk) (c : Nat) (w : World) (hl : g.length ≤ 100000) (hR : Rd Mk.cs 3 w A g) :
    Calls Tryd.prog 34 #[.slice A g.length c] w fun e w' => e = .returned (.string (mkX.fm g)) ∧ Below w.heap.size w w' := by
  cases hv : vldM g
  · have H2 := Lib.hid (r_ValidMV (c := c) hv hl hR)
    have HF := Lib.hid (show mkX.fm g = ⟨#[]⟩ by unfold LayX.fm; rw [show mkX.vld g = false from hv]; rfl)
    rw [HF.out]
    clear hv
    go_enter Tryd.func34, Tryd.ntmps34
    go_wp2_with (go_at_call 67; ((with_reducible refine (H2.out).mono ?_); rintro e w1 ⟨rfl, hb1⟩; obtain ⟨hc1, hf1⟩ := bcell hb1; have hz1 := hb1.size; (try simp [sz_drew, sz_drewN] at hz1); (try simp only [sz_drew, sz_drewN] at hc1 hf1)))
    go_ret
    exact ⟨rfl, hb1⟩
  · have HF := Lib.hid (show mkX.fm g = bts (fmtZ mkX.wr g) by unfold LayX.fm; rw [show mkX.vld g = true from hv]; rfl)
    have H2 := Lib.hid (r_ValidMV (c := c) hv hl hR)
    have HS := Lib.hid (mkX.bd_mem (g := g) hv)
    have h60 := mkX.most g hv
    rw [HF.out]
    clear hv HF
    go_enter Tryd.func34, Tryd.ntmps34
    go_wp2_with (go_at_call 67; ((with_reducible refine (H2.out).mono ?_); rintro e w1 ⟨rfl, hb1⟩; obtain ⟨hc1, hf1⟩ := bcell hb1; have hz1 := hb1.size; (try simp [sz_drew, sz_drewN] at hz1); (try simp only [sz_drew, sz_drewN] at hc1 hf1)))
    go_loopw [3, 4] (fun v i wr => ∃ k : Nat, k ≤ g.length ∧ i = .int .i64 k ∧ v = .string (bts (fmtZ mkX.wr (g.take k))) ∧ Below w.heap.size w wr) (fun _ i _ => g.length - (RowKit.intOf i).toNat)
    case atStart => exact ⟨0, by omega, rfl, rfl, hb1⟩
    case round =>
      obtain ⟨k, hk, rfl, rfl, hbw⟩ := hrel
      rename World => wr
      clear hc1 hf1
      by_cases hlt : k < g.length
      · have k0 : (0 : Int) ≤ (k : Int) := Int.natCast_nonneg _
        have k1 : (k : Int) < (g.length : Int) := by omega
        obtain ⟨x, b, off, hx, rfl, hbl, c0, c1, c2⟩ := rdMk (hR.on hbw) hlt
        have hsx := HS.out x (List.mem_of_getElem? hx)
        have HLS := Lib.hid (fun W (h : Rd zC 1 W (some ⟨wr.heap.size, 0, none⟩) (mkZ x)) => r1_Listed (some ⟨wr.heap.size, 0, none⟩) (mkZ x) 3 W (by show 3 ≤ 1000; omega) h (fun m hm => by have := hsx m hm; omega))
        have HST := Lib.hid (show bts (fmtZ mkX.wr (g.take (k + 1))) = bts (fmtZ mkX.wr (g.take k)) ++ bts (lnN (mkZ x)) ++ ⟨#[10]⟩ by
          have e2 : (⟨#[10]⟩ : ByteArray) = bts [10] := rfl
          rw [mkX.fm_step hx, e2, ba_app, ba_app, List.append_assoc]; rfl)
        have HLZ := lstZ_ln (l := mkZ x) (by simp [mkZ])
        have hln := mkX.wr_len hsx
        have hls : (bts (lnN (mkZ x))).size ≤ 63 := by rw [bts_size]; exact hln
        have hlf : (bts (fmtZ mkX.wr (g.take k))).size ≤ 7620 := by
          have := mkX.fm_len (g := g.take k) fun y hy => HS.out y (List.mem_of_mem_take hy)
          rw [List.length_take] at this
          have h3 : (21 * mkX.n + 1) * min k g.length ≤ 127 * 60 := Nat.mul_le_mul (by show 21 * 3 + 1 ≤ 127; omega) (by omega)
          rw [bts_size]; omega
        have HSL := Lib.hid (show (bts (lstZ (mkZ x))).extract 1 (bts (lstZ (mkZ x))).size = bts (lnN (mkZ x)) by
          rw [extract_eq, bts_list, HLZ]
          show bts _ = _
          congr 1
          rw [bts_size]; simp)
        have hsl : 1 ≤ (bts (lstZ (mkZ x))).size := by rw [bts_size, HLZ]; simp
        clear hsx hx HLZ hln HS
        have HRD2 := Lib.hid (cells3 (w := wr) x.h x.e x.n)
        have hS6 : (mkZ x).length = 3 := rfl
        rw [hS6] at HLS
        have hB1 := bl_alloc (below_refl wr) (.cells #[.int .i64 x.h, .int .i64 x.e, .int .i64 x.n] 3)
        generalize bts (lstZ (mkZ x)) = SL at *
        generalize bts (lnN (mkZ x)) = SX at *
        generalize bts (fmtZ mkX.wr (g.take k)) = ST at *
        have hsl1 : (1 : Int) ≤ (SL.size : Int) := by omega
        have z1 : ¬ 9223372036854775807 < ST.size + SX.size := by omega
        have z2 : ¬ 9223372036854775807 < ST.size + SX.size + 1 := by omega
        have hsx1 := HSL.out
        clear hls hlf hS6 hsl
        go_wp2_with fail
        refine wp_region_noPanic ?_
        refine wp_region_held_drew (S := (fun w' => (∀ b o, b < wr.heap.size → w'.cell? ⟨b, o, none⟩ = wr.cell? ⟨b, o, none⟩) ∧ (∀ b o, b < wr.heap.size → w'.frozen? ⟨b, o, none⟩ = wr.frozen? ⟨b, o, none⟩) ∧ Below wr.heap.size wr w')) (by kernel_rfl) (kq_draw kq_refl) (fun hS0 => ?_)
        refine wpAnyH_take (i := 0) (oi := { dst := some 14, op := _, type := _, pos := _, after := _, guard := none }) (v := ?gv1) rfl (by kernel_rfl) (by kernel_rfl) (by kernel_rfl) (fun _ _ _ h => h) (Or.inl ⟨by rfl, ?gy1⟩) (by assumption) ?_
        case gy1 => (intro w' hSw; go_simp; try with_reducible rfl)
        try simp only [Act.put, List.setIfInBounds_toArray, List.set_cons_zero, List.set_cons_succ]
        refine wpAnyH_take (i := 1) (oi := { dst := some 15, op := _, type := _, pos := _, after := _, guard := none }) (v := ?gv2) rfl (by kernel_rfl) (by kernel_rfl) (by kernel_rfl) (fun _ _ _ h => h) (Or.inl ⟨by rfl, ?gy2⟩) (by assumption) ?_
        case gy2 => (intro w' hSw; go_simp; try with_reducible rfl)
        try simp only [Act.put, List.setIfInBounds_toArray, List.set_cons_zero, List.set_cons_succ]
        refine wpAnyH_take (i := 2) (oi := { dst := some 16, op := _, type := _, pos := _, after := _, guard := none }) (v := ?gv3) rfl (by kernel_rfl) (by kernel_rfl) (by kernel_rfl) (fun _ _ _ h => h) (Or.inl ⟨by rfl, ?gy3⟩) (by assumption) ?_
        case gy3 => (intro w' hSw; go_simp; try with_reducible rfl)
        try simp only [Act.put, List.setIfInBounds_toArray, List.set_cons_zero, List.set_cons_succ]
        refine wpAnyH_take (i := 3) (oi := { dst := some 17, op := _, type := _, pos := _, after := _, guard := none }) (v := ?gv4) rfl (by kernel_rfl) (by kernel_rfl) (by kernel_rfl) (fun _ _ _ h => h) (Or.inl ⟨by rfl, ?gy4⟩) (by assumption) ?_
        case gy4 => (intro w' hSw; go_simp; try with_reducible rfl)
        try simp only [Act.put, List.setIfInBounds_toArray, List.set_cons_zero, List.set_cons_succ]
        refine wpAnyH_take (i := 4) (oi := { dst := some 18, op := _, type := _, pos := _, after := _, guard := none }) (v := ?gv5) rfl (by kernel_rfl) (by kernel_rfl) (by kernel_rfl) (fun _ _ _ h => h) (Or.inl ⟨by rfl, ?gy5⟩) (by assumption) ?_
        case gy5 => (intro w' hSw; go_simp; try with_reducible rfl)
        try simp only [Act.put, List.setIfInBounds_toArray, List.set_cons_zero, List.set_cons_succ]
        refine wpAnyH_take (i := 5) (oi := { dst := some 19, op := _, type := _, pos := _, after := _, guard := none }) (v := ?gv6) rfl (by kernel_rfl) (by kernel_rfl) (by kernel_rfl) (fun _ _ _ h => h) (Or.inl ⟨by rfl, ?gy6⟩) (by assumption) ?_
        case gy6 => (intro w' hSw; go_simp; try with_reducible rfl)
        try simp only [Act.put, List.setIfInBounds_toArray, List.set_cons_zero, List.set_cons_succ]
        refine wpAnyH_take (i := 6) (oi := { dst := some 20, op := _, type := _, pos := _, after := _, guard := none }) (v := ?gv7) rfl (by kernel_rfl) (by kernel_rfl) (by kernel_rfl) (fun _ _ _ h => h) (Or.inl ⟨by rfl, ?gy7⟩) (by assumption) ?_
        case gy7 => (intro w' hSw; go_simp; try with_reducible rfl)
        try simp only [Act.put, List.setIfInBounds_toArray, List.set_cons_zero, List.set_cons_succ]
        refine wpAnyH_take (i := 7) (oi := { dst := some 21, op := _, type := _, pos := _, after := _, guard := none }) (v := ?gv8) rfl (by kernel_rfl) (by kernel_rfl) (by kernel_rfl) (fun _ _ _ h => h) (Or.inl ⟨by rfl, ?gy8⟩) (by assumption) ?_
        case gy8 => (intro w' hSw; go_simp; try with_reducible rfl)
        try simp only [Act.put, List.setIfInBounds_toArray, List.set_cons_zero, List.set_cons_succ]
        refine wpAnyH_take (i := 8) (oi := { dst := some 22, op := _, type := _, pos := _, after := _, guard := none }) (v := ?gv9) rfl (by kernel_rfl) (by kernel_rfl) (by kernel_rfl) (fun _ _ _ h => h) (Or.inl ⟨by rfl, ?gy9⟩) (by assumption) ?_
        case gy9 => (intro w' hSw; go_simp; try with_reducible rfl)
        try simp only [Act.put, List.setIfInBounds_toArray, List.set_cons_zero, List.set_cons_succ]
        refine wpAnyH_take (i := 9) (oi := { dst := some 23, op := _, type := _, pos := _, after := _, guard := none }) (v := ?gv10) rfl (by kernel_rfl) (by kernel_rfl) (by kernel_rfl) (fun _ _ _ h => h) (Or.inl ⟨by rfl, ?gy10⟩) (by assumption) ?_
        case gy10 => (intro w' hSw; go_simp; try with_reducible rfl)
        try simp only [Act.put, List.setIfInBounds_toArray, List.set_cons_zero, List.set_cons_succ]
        refine wpAnyH_take (i := 10) (oi := { dst := some 24, op := _, type := _, pos := _, after := _, guard := none }) (v := ?gv11) rfl (by kernel_rfl) (by kernel_rfl) (by kernel_rfl) (fun _ _ _ h => h) (Or.inl ⟨by rfl, ?gy11⟩) (by assumption) ?_
        case gy11 => (intro w' hSw; go_simp; try with_reducible rfl)
        try simp only [Act.put, List.setIfInBounds_toArray, List.set_cons_zero, List.set_cons_succ]
        refine wpAnyH_take (i := 11) (oi := { dst := some 25, op := _, type := _, pos := _, after := _, guard := none }) (v := ?gv12) rfl (by kernel_rfl) (by kernel_rfl) (by kernel_rfl) (fun _ _ _ h => h) (Or.inl ⟨by rfl, ?gy12⟩) (by assumption) ?_
        case gy12 => (intro w' hSw; go_simp; try with_reducible rfl)
        try simp only [Act.put, List.setIfInBounds_toArray, List.set_cons_zero, List.set_cons_succ]
        refine wpAnyH_take (i := 12) (oi := { dst := some 26, op := _, type := _, pos := _, after := _, guard := none }) (v := ?gv13) rfl (by kernel_rfl) (by kernel_rfl) (by kernel_rfl) (fun _ _ _ h => h) (Or.inl ⟨by rfl, ?gy13⟩) (by assumption) ?_
        case gy13 => (intro w' hSw; go_simp; try with_reducible rfl)
        try simp only [Act.put, List.setIfInBounds_toArray, List.set_cons_zero, List.set_cons_succ]
        refine wpAnyH_take (i := 13) (oi := { dst := some 27, op := _, type := _, pos := _, after := _, guard := none }) (v := ?gv14) rfl (by kernel_rfl) (by kernel_rfl) (by kernel_rfl) (fun _ _ _ h => h) (Or.inl ⟨by rfl, ?gy14⟩) (by assumption) ?_
        case gy14 => (intro w' hSw; go_simp; try with_reducible rfl)
        try simp only [Act.put, List.setIfInBounds_toArray, List.set_cons_zero, List.set_cons_succ]
        refine wpAnyH_take (i := 14) (oi := { dst := some 28, op := _, type := _, pos := _, after := _, guard := none }) (v := ?gv15) rfl (by kernel_rfl) (by kernel_rfl) (by kernel_rfl) (fun _ _ _ h => h) (Or.inl ⟨by rfl, ?gy15⟩) (by assumption) ?_
        case gy15 => (intro w' hSw; go_simp; try with_reducible rfl)
        try simp only [Act.put, List.setIfInBounds_toArray, List.set_cons_zero, List.set_cons_succ]
        refine wpAnyH_take (i := 15) (oi := { dst := some 29, op := _, type := _, pos := _, after := _, guard := none }) (v := ?gv16) rfl (by kernel_rfl) (by kernel_rfl) (by kernel_rfl) (fun _ _ _ h => h) (Or.inl ⟨by rfl, ?gy16⟩) (by assumption) ?_
        case gy16 => (intro w' hSw; go_simp; try with_reducible rfl)
        try simp only [Act.put, List.setIfInBounds_toArray, List.set_cons_zero, List.set_cons_succ]
        refine wpAnyH_ready (rs := [16]) (by kernel_rfl) (by simp) ?_
        refine AllReadyH.cons rfl (fun K hK => ?_) AllReadyH.nil
        go_simp
        refine hK.out _ _ (by ((show Kq wr _); (repeat' (first | assumption | exact kq_refl | refine kq_draw ?_ | refine kq_drewN ?_ | refine kq_alloc ?_ | refine kq_set ?_ ?_ | refine kq_step ?_ (by assumption))); (all_goals (first | omega | (simp; omega))))) (fun hS1 => ?_)
        clear hK K
        try simp only [Act.put, List.setIfInBounds_toArray, List.set_cons_zero, List.set_cons_succ]
        refine wpAnyH_ready (rs := [17]) (by kernel_rfl) (by simp) ?_
        refine AllReadyH.cons rfl (fun K hK => ?_) AllReadyH.nil
        go_simp
        (go_at_call 63; ((with_reducible refine (HLS.out _ (HRD2.out.on (below_draw (below_refl _)))).mono ?_); rintro e w3 ⟨rfl, hb3⟩; obtain ⟨hc3, hf3⟩ := bcell hb3; have hz3 := hb3.size; (try simp [sz_drew, sz_drewN] at hz3); (try simp only [sz_drew, sz_drewN] at hc3 hf3)))
        refine hK.out _ _ (by ((show Kq wr _); (repeat' (first | assumption | exact kq_refl | refine kq_draw ?_ | refine kq_drewN ?_ | refine kq_alloc ?_ | refine kq_set ?_ ?_ | refine kq_step ?_ (by assumption))); (all_goals (first | omega | (simp; omega))))) (fun hS2 => ?_)
        clear hK K
        try simp only [Act.put, List.setIfInBounds_toArray, List.set_cons_zero, List.set_cons_succ]
        refine wpAnyH_take (i := 18) (oi := { dst := some 32, op := _, type := _, pos := _, after := _, guard := none }) (v := ?gv17) rfl (by kernel_rfl) (by kernel_rfl) (by kernel_rfl) (fun _ _ _ h => h) (Or.inl ⟨by rfl, ?gy17⟩) (by assumption) ?_
        case gy17 => (intro w' hSw; go_simp; try with_reducible rfl)
        try simp only [Act.put, List.setIfInBounds_toArray, List.set_cons_zero, List.set_cons_succ]
        refine wpAnyH_take (i := 19) (oi := { dst := some 33, op := _, type := _, pos := _, after := _, guard := none }) (v := ?gv18) rfl (by kernel_rfl) (by kernel_rfl) (by kernel_rfl) (fun _ _ _ h => h) (Or.inl ⟨by rfl, ?gy18⟩) (by assumption) ?_
        case gy18 => (intro w' hSw; go_simp; try with_reducible rfl)
        try simp only [Act.put, List.setIfInBounds_toArray, List.set_cons_zero, List.set_cons_succ]
        refine wpAnyH_take (i := 20) (oi := { dst := some 34, op := _, type := _, pos := _, after := _, guard := none }) (v := ?gv19) rfl (by kernel_rfl) (by kernel_rfl) (by kernel_rfl) (fun _ _ _ h => h) (Or.inl ⟨by rfl, ?gy19⟩) (by assumption) ?_
        case gy19 => (intro w' hSw; go_simp; try with_reducible rfl)
        try simp only [Act.put, List.setIfInBounds_toArray, List.set_cons_zero, List.set_cons_succ]
        refine wpAnyH_take (i := 21) (oi := { dst := some 3, op := _, type := _, pos := _, after := _, guard := none }) (v := ?gv20) rfl (by kernel_rfl) (by kernel_rfl) (by kernel_rfl) (fun _ _ _ h => h) (Or.inl ⟨by rfl, ?gy20⟩) (by assumption) ?_
        case gy20 => (intro w' hSw; go_simp; try with_reducible rfl)
        try simp only [Act.put, List.setIfInBounds_toArray, List.set_cons_zero, List.set_cons_succ]
        refine wpAnyH_done (by kernel_rfl) (NoPanic.normal ?_) _
        rotate_left
        all_goals
          go_wp2
          go_roundw
          case rel => exact ⟨k + 1, by omega, by go_num, by rw [HST.out], below_tr hbw (by (repeat' (first | assumption | exact below_refl _ | refine bl_alloc ?_ _ | refine Below.setCell ?_ ?_ _ | refine below_draw ?_ | refine below_drewN ?_ _ | refine below_tr ?_ (by assumption))) <;> (first | omega | (simp; done) | (simp; omega)))⟩
          case measure => simp [RowKit.intOf]; omega
      · obtain rfl : k = g.length := by omega
        have HT := Lib.hid (show g.take g.length = g from List.take_length)
        go_wp2
        go_ret
        exact ⟨by rw [HT.out]; rfl, hbw⟩
end Go.Proofs.YtoelekhkgknneaaDoor.Tx
