/- Wind's texts: Parse of the program. -/
import Derived.Test.YtoelekhkgknneaaDoorTi
set_option linter.unusedSimpArgs false
set_option linter.unusedVariables false
namespace Go.Proofs.YtoelekhkgknneaaDoor
open Go.RowKit Go.Lib

theorem cut_sz (b : UInt8) : ∀ s, ∀ p ∈ cutZ b s, p.length ≤ s.length
  | [], p, hp => by simp [cutZ] at hp; subst hp; simp
  | x :: s, p, hp => by
    have ih := cut_sz b s
    unfold cutZ at hp
    split at hp
    · rcases List.mem_cons.1 hp with rfl | hp
      · simp
      · have := ih p hp; simp; omega
    · split at hp
      · simp at hp; subst hp; simp
      · rename_i h t e
        rw [e] at ih
        rcases List.mem_cons.1 hp with rfl | hp
        · have := ih h (List.mem_cons_self ..); simp; omega
        · have := ih p (List.mem_cons_of_mem _ hp); simp; omega
theorem row_rdG (w : World) (P : List (List UInt8)) : Rd stG 1 (w.alloc (.cells (fl stG P).toArray 9)) (some ⟨w.heap.size, 0, none⟩) P :=
  row_rd (Blk.new w 9 (fl stG P).toArray) (fun k x hx r u hu => by
    have := fl_get stG_len hx hu
    simpa using this)
theorem ba_list (p : List UInt8) : (⟨p.toArray⟩ : ByteArray).data.toList = p := by simp
theorem info_intT : ∃ i : TypeInfo, Tryd.prog.info? 3 = some i ∧ i.zero = some (.int .i64 0) ∧ i.size = 1 ∧ i.bytes = 8 := info_parts (by kernel_rfl)
theorem fl_snocZ (l : List Int) (x : Int) : fl zC (l ++ [x]) = fl zC l ++ zC x := by simp [fl]
set_option maxHeartbeats 4000000 in
set_option maxRecDepth 20000 in
theorem p_Parse (s : ByteArray) (w : World) (hs : s.size ≤ 60000) (hL : LdW w) :
    Calls Tryd.prog 18 #[.string s] w (PaP s.data.toList w) := by
  have hemp : s.toList.isEmpty = decide (s.data.toList = []) := by rw [ByteArray.toList_eq]; cases s.data.toList <;> simp
  have g65 : ¬ (65536 : Int) < (s.size : Int) := by omega
  by_cases h0 : s.data.toList = []
  · have hp : parZ s.data.toList = some [] := by unfold parZ; rw [if_pos h0]
    have HPG := Lib.hid (fun W (hb : Below w.heap.size w W) => @pa_good s.data.toList w W [] none 0 hp (fun q => absurd rfl q) hb)
    rw [decide_eq_true h0] at hemp
    clear h0 hp
    generalize s.data.toList = L at *
    go_enter Tryd.func18, Tryd.ntmps18
    go_wp2
    go_ret2
    exact HPG.out w (below_refl _)
  · have HSP := Lib.hid (c_Split s w (by omega) hL)
    have hLs0 : s.data.toList.length = s.size := by simp
    have HPS := Lib.hid (fun (k : Nat) (p : List UInt8) (hk : (cutZ 32 s.data.toList)[k]? = some p) => (show p.length ≤ 60000 from Nat.le_trans (cut_sz 32 _ p (List.mem_of_getElem? hk)) (by omega)))
    have hPN := cutZ_len 32 s.data.toList
    have hLs : s.data.toList.length = s.size := by simp
    have HBAD := Lib.hid (fun (k : Nat) (p : List UInt8) (hk : (cutZ 32 s.data.toList)[k]? = some p) (hu : unW p = none) => (show parZ s.data.toList = none by
      unfold parZ; rw [if_neg h0, take_rest hk, unWs_bad hu]))
    have HEND := Lib.hid (fun (l : List Int) (h : unWs (cutZ 32 s.data.toList) = some l) => (show parZ s.data.toList = if vGu l = true then some l else none by
      unfold parZ; rw [if_neg h0, h]))
    rw [decide_eq_false h0] at hemp
    generalize s.data.toList = L at *
    generalize cutZ 32 L = P at *
    have hPL : P.length ≤ 100000 := by omega
    have R1 : Rd stG 1 (w.alloc (.cells (fl stG P).toArray 9)) (some ⟨w.heap.size, 0, none⟩) P := row_rdG w P
    have B1 := bl_alloc (below_refl w) (.cells (fl stG P).toArray 9)
    obtain ⟨ii, hi, hi1, hi2, hi3⟩ := info_intT
    clear hPN hLs h0 hLs0
    go_enter Tryd.func18, Tryd.ntmps18
    go_wp2_with (go_at_call 43; ((with_reducible refine HSP.out.mono ?_); rintro e w' ⟨rfl, rfl⟩))
    generalize w.alloc (.cells (fl stG P).toArray 9) = W1 at *
    have hL1 := hL.on B1
    go_loopw [4, 17] (fun v i wr => ∃ (k : Nat) (l : List Int), k ≤ P.length ∧ i = .int .i64 k ∧ Below W1.heap.size W1 wr ∧ wr.ownsRow W1.heap.size 3 1 v k (fl zC l) ∧ Hid (unWs (P.take k) = some l ∧ l.length = k)) (fun _ i _ => P.length - (RowKit.intOf i).toNat)
    case atStart => exact ⟨0, [], by omega, rfl, below_refl _, World.ownsRow_nil W1 _ _ _, Lib.hid ⟨rfl, rfl⟩⟩
    case round =>
      obtain ⟨k, l, hk, rfl, hbw, hown, HU⟩ := hrel
      obtain ⟨ad, cp, rfl⟩ := own_slice hown
      rename World => wr
      have hbvs := hbw.size
      have BW := below_tr B1 hbw
      have k0 : (0 : Int) ≤ (k : Int) := Int.natCast_nonneg _
      by_cases hlt : k < P.length
      · have k1 : (k : Int) < (P.length : Int) := by omega
        obtain ⟨p, hp⟩ := get_lt hlt
        have c0 := rd_strG (R1.on hbw) hp
        simp only [Nat.zero_add] at c0
        have HAT := Lib.hid (c_Atoi ⟨p.toArray⟩ wr (by have := HPS.out k p hp; simpa [ByteArray.size] using (by omega : p.length ≤ 100000)) (hL1.on hbw))
        rw [ba_list] at HAT
        have HWD := Lib.hid (fun W (hb : Below wr.heap.size wr W) => p_wordV (gotI p) W (got_bd p).1 (got_bd p).2 (tab_on (hL1.on hbw).tab hb))
        have hcmp : ((wdS (gotI p)).toList == (⟨p.toArray⟩ : ByteArray).toList) = decide (wordL (gotI p) = p) := by rw [seq_eq, ba_list]; unfold wdS; rw [ba_list]
        have HST := Lib.hid (unWs_snoc (w := p) HU.out.1)
        rw [← take_snoc hp] at HST
        have HBD := Lib.hid (HBAD.out k p hp)
        have HUW := Lib.hid (show unW p = if wordL (gotI p) = p then some (gotI p) else none from rfl)
        have hgb := got_bd p
        have hlb : (⟨w.heap.size, 0, none⟩ : Addr).block < wr.heap.size := by have := R1.on hbw; obtain ⟨b, off, e, h, _⟩ := this (by intro h; rw [h] at hp; cases hp); cases e; exact h
        dsimp only at hlb
        clear hp
        generalize (⟨p.toArray⟩ : ByteArray) = PS at *
        generalize wdS (gotI p) = WS at *
        go_wp2_with fail
        refine HAT.out.mono ?_
        rintro e w3 ⟨hb3, h3⟩
        have hz3 := hb3.size
        have HW3 := Lib.hid (HWD.out w3 hb3)
        have own3 := own_on hown hb3
        have bw3 := below_tr hbw hb3
        clear HAT HWD hown
        rcases h3 with ⟨rfl, _, _⟩ | ⟨hgm, x, t, pp, rfl⟩
        · cases hd : decide (wordL (gotI p) = p)
          · rw [hd] at hcmp
            have HB := Lib.hid (HBD.out (by rw [HUW.out, if_neg (of_decide_eq_false hd)]))
            clear hd HUW HST own3
            go_wp2_with (go_at_call 54; ((with_reducible refine HW3.out.mono ?_); rintro e w4 ⟨rfl, hb4⟩))
            go_ret2
            exact pa_bad HB.out (below_tr (below_tr BW hb3) hb4)
          · rw [hd] at hcmp
            have HN := Lib.hid (show unWs (P.take (k + 1)) = some (l ++ [gotI p]) ∧ (l ++ [gotI p]).length = k + 1 from ⟨by rw [HST.out, HUW.out, if_pos (of_decide_eq_true hd)], by rw [List.length_append, HU.out.2]; rfl⟩)
            have HZ := Lib.hid (fun (w1 : World) (j : Nat) u (hu : (zC (gotI p))[j]? = some u) => cells_new w1 (zC (gotI p)) 3 j u hu)
            clear hd HUW HST
            go_wp2_with (first
              | (go_at_call 54; ((with_reducible refine HW3.out.mono ?_); rintro e w4 ⟨rfl, hb4⟩; have hz4 := hb4.size))
              | (at_builtin; (refine wpList_append_own _ rfl _ _ 32 rfl W1.heap.size 3 ii (.int .i64 0) 1 8 (by kernel_rfl) hi hi1 hi2 hi3 rfl (by omega) _ _ _ rfl ((own_on own3 hb4).alloc _) ⟨w4.heap.size, 0, none⟩ 1 1 (zC (gotI p)) rfl rfl (HZ.out w4) (fun u hu => by simp [zC] at hu; rcases hu with rfl; rfl) (by unfold maxLen; omega) (by omega) (by simp; omega) ?_; intro v' w5 hown5 hgrow _)))
            go_roundw
            case rel => exact ⟨k + 1, l ++ [gotI p], by omega, by go_num, bl_app (below_tr bw3 hb4) (own_on own3 hb4) hgrow (Nat.le_refl _) (Nat.le_trans bw3.size hb4.size), by rw [fl_snocZ]; exact hown5, Lib.hid HN.out⟩
            case measure => simp [RowKit.intOf]; omega
        · rw [hgm] at HW3 HUW hcmp
          have HGM := Lib.hid hgm
          clear hgb
          have hgb : (-9223372036854775808 : Int) ≤ -1 ∧ (-1 : Int) ≤ 9223372036854775807 := by omega
          cases hd : decide (wordL (-1) = p)
          · rw [hd] at hcmp
            have HB := Lib.hid (HBD.out (by rw [HUW.out, if_neg (of_decide_eq_false hd)]))
            clear hd HUW HST own3
            go_wp2_with (go_at_call 54; ((with_reducible refine HW3.out.mono ?_); rintro e w4 ⟨rfl, hb4⟩))
            go_ret2
            exact pa_bad HB.out (below_tr (below_tr BW hb3) hb4)
          · rw [hd] at hcmp
            have HN := Lib.hid (show unWs (P.take (k + 1)) = some (l ++ [-1]) ∧ (l ++ [-1]).length = k + 1 from ⟨by rw [HST.out, HUW.out, if_pos (of_decide_eq_true hd)], by rw [List.length_append, HU.out.2]; rfl⟩)
            have HZ := Lib.hid (fun (w1 : World) (j : Nat) u (hu : (zC (-1))[j]? = some u) => cells_new w1 (zC (-1)) 3 j u hu)
            clear hd HUW HST
            go_wp2_with (first
              | (go_at_call 54; ((with_reducible refine HW3.out.mono ?_); rintro e w4 ⟨rfl, hb4⟩; have hz4 := hb4.size))
              | (at_builtin; (refine wpList_append_own _ rfl _ _ 32 rfl W1.heap.size 3 ii (.int .i64 0) 1 8 (by kernel_rfl) hi hi1 hi2 hi3 rfl (by omega) _ _ _ rfl ((own_on own3 hb4).alloc _) ⟨w4.heap.size, 0, none⟩ 1 1 (zC (-1)) rfl rfl (HZ.out w4) (fun u hu => by simp [zC] at hu; rcases hu with rfl; rfl) (by unfold maxLen; omega) (by omega) (by simp; omega) ?_; intro v' w5 hown5 hgrow _)))
            go_roundw
            case rel => exact ⟨k + 1, l ++ [-1], by omega, by go_num, bl_app (below_tr bw3 hb4) (own_on own3 hb4) hgrow (Nat.le_refl _) (Nat.le_trans bw3.size hb4.size), by rw [fl_snocZ]; exact hown5, Lib.hid HN.out⟩
            case measure => simp [RowKit.intOf]; omega
      · obtain rfl : k = P.length := by omega
        have HTK := Lib.hid (show P.take P.length = P from List.take_length)
        rw [HTK.out] at HU
        have HE := Lib.hid (HEND.out l HU.out.1)
        have hlk := HU.out.2
        rw [← hlk] at hown
        have hrd := own_rd' zC_len hown
        have hll : l.length ≤ 100000 := by omega
        have HLK := Lib.hid hlk
        clear hown
        cases hv : vGu l
        · have HB := Lib.hid (show parZ L = none by rw [HE.out, hv]; rfl)
          have H2 := Lib.hid (p_ValidGustsV (c := cp) hv hll hrd)
          rw [hlk] at H2
          clear hv HE hlk
          go_wp2_with (go_at_call 53; ((with_reducible refine H2.out.mono ?_); rintro e w4 ⟨rfl, hb4⟩))
          go_ret2
          exact pa_bad HB.out (below_tr BW hb4)
        · have HG := Lib.hid (show parZ L = some l by rw [HE.out, hv]; rfl)
          have H2 := Lib.hid (p_ValidGustsV (c := cp) hv hll hrd)
          rw [hlk] at H2
          clear hv HE hlk
          go_wp2_with (go_at_call 53; ((with_reducible refine H2.out.mono ?_); rintro e w4 ⟨rfl, hb4⟩))
          go_ret2
          have := @pa_good L w w4 l ad cp HG.out (hrd.on hb4) (below_tr BW hb4)
          rw [HLK.out] at this
          exact this
end Go.Proofs.YtoelekhkgknneaaDoor
