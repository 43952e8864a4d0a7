/- Wind's texts: Parse of the reference. -/
import Derived.Test.YtoelekhkgknneaaDoorTj
set_option linter.unusedSimpArgs false
set_option linter.unusedVariables false
namespace Go.Proofs.YtoelekhkgknneaaDoor
open Go.RowKit Go.Lib

set_option maxHeartbeats 4000000 in
set_option maxRecDepth 20000 in
theorem r_Parse (s : ByteArray) (w : World) (hs : s.size ≤ 60000) :
    Calls Tryd.prog 19 #[.string s] w (PaP s.data.toList w) := by
  have hemp : s.toList.isEmpty = decide (s.data.toList = []) := by rw [ByteArray.toList_eq]; cases s.data.toList <;> simp
  have g65 : ¬ (65536 : Int) < (s.size : Int) := by omega
  by_cases h0 : s.data.toList = []
  · have hp : parZ s.data.toList = some [] := by unfold parZ; rw [if_pos h0]
    have HPG := Lib.hid (fun W (hb : Below w.heap.size w W) => @pa_good s.data.toList w W [] none 0 hp (fun q => absurd rfl q) hb)
    rw [decide_eq_true h0] at hemp
    clear h0 hp
    generalize s.data.toList = L at *
    go_enter Tryd.func19, Tryd.ntmps19
    go_wp2
    go_ret2
    exact HPG.out w (below_refl _)
  · have HSP := Lib.hid (r_Cut s 32 w (by omega))
    have hPN := cutZ_len 32 s.data.toList
    have hLs0 : s.data.toList.length = s.size := by simp
    have HPS := Lib.hid (fun (k : Nat) (p : List UInt8) (hk : (cutZ 32 s.data.toList)[k]? = some p) => (show p.length ≤ 60000 from Nat.le_trans (cut_sz 32 _ p (List.mem_of_getElem? hk)) (by omega)))
    have HBAD := Lib.hid (fun (k : Nat) (p : List UInt8) (hk : (cutZ 32 s.data.toList)[k]? = some p) (hu : reW p = none) => (show parZ s.data.toList = none by
      rw [par_re h0, take_rest hk, reWs_bad hu]))
    have HEND := Lib.hid (fun (l : List Int) (h : reWs (cutZ 32 s.data.toList) = some l) => (show parZ s.data.toList = if vGu l = true then some l else none by
      rw [par_re h0, h]))
    rw [decide_eq_false h0] at hemp
    generalize s.data.toList = L at *
    generalize cutZ 32 L = P at *
    have hPL : P.length ≤ 100000 := by omega
    obtain ⟨ii, hi, hi1, hi2, hi3⟩ := info_intT
    rw [show (((32 : UInt8).toNat : Nat) : Int) = 32 from rfl] at HSP
    clear hPN hLs0 h0
    go_enter Tryd.func19, Tryd.ntmps19
    go_wp2_with (go_at_call 45; ((with_reducible refine HSP.out.mono ?_); rintro e W1 ⟨v1, rfl, ho1, B1⟩; obtain ⟨A1, c1, rfl, R1⟩ := own_rd stG_len ho1))
    clear ho1
    go_loopw [5, 6] (fun v i wr => ∃ (k : Nat) (l : List Int), k ≤ P.length ∧ i = .int .i64 k ∧ Below W1.heap.size W1 wr ∧ wr.ownsRow W1.heap.size 3 1 v k (fl zC l) ∧ Hid (reWs (P.take k) = some l ∧ l.length = k)) (fun _ i _ => P.length - (RowKit.intOf i).toNat)
    case atStart => exact ⟨0, [], by omega, rfl, below_refl _, World.ownsRow_nil W1 _ _ _, Lib.hid ⟨rfl, rfl⟩⟩
    case round =>
      obtain ⟨k, l, hk, rfl, hbw, hown, HU⟩ := hrel
      obtain ⟨ad, cp, rfl⟩ := own_slice hown
      rename World => wr
      have hbvs := hbw.size
      have BW := below_tr B1 hbw
      have k0 : (0 : Int) ≤ (k : Int) := Int.natCast_nonneg _
      by_cases hlt : k < P.length
      · have k1 : (k : Int) < (P.length : Int) := by omega
        obtain ⟨p, hp⟩ := get_lt hlt
        obtain ⟨b1, off1, rfl, hlb, hcc⟩ := (R1.on hbw).get hp
        have c0 := hcc 0 _ (show (stG p)[0]? = some (.string ⟨p.toArray⟩) from rfl)
        simp only [Nat.mul_one, Nat.add_zero] at c0
        have HNM := Lib.hid (r_Number ⟨p.toArray⟩ wr (by have := HPS.out k p hp; simpa [ByteArray.size] using (by omega : p.length ≤ 100000)))
        rw [ba_list] at HNM
        have hcmp : ((⟨p.toArray⟩ : ByteArray).toList == [45]) = decide (p = [45]) := by
          have := seq_eq ⟨p.toArray⟩ ⟨#[45]⟩
          rw [ba_list] at this
          rw [show ([45] : List UInt8) = (⟨#[45]⟩ : ByteArray).toList by rw [ByteArray.toList_eq]]
          rw [this, ByteArray.toList_eq]
        have HST := Lib.hid (reWs_snoc (w := p) HU.out.1)
        rw [← take_snoc hp] at HST
        have HBD := Lib.hid (HBAD.out k p hp)
        have HUW := Lib.hid (ref_word p)
        clear hp hcc
        generalize (⟨p.toArray⟩ : ByteArray) = PS at *
        go_wp2_with fail
        refine HNM.out.mono ?_
        rintro e w3 ⟨n, rfl, hnv, hb3⟩
        have hz3 := hb3.size
        have own3 := own_on hown hb3
        have bw3 := below_tr hbw hb3
        have c3 := cell_on c0 hb3
        have hlb3 : b1 < w3.heap.size := by omega
        clear HNM hown
        cases h45 : decide (p = [45])
        · rw [h45] at hcmp
          have hne : ¬ p = [45] := of_decide_eq_false h45
          cases hnb : numB p
          · have HB := Lib.hid (HBD.out (by rw [HUW.out, if_neg hne, if_neg (by rw [hnb]; simp)]))
            clear HUW HST hnv h45 hne hnb
            by_cases hn0 : n < 0
            · go_wp2
              go_ret2
              exact pa_bad HB.out (below_tr BW hb3)
            · go_wp2
              go_ret2
              exact pa_bad HB.out (below_tr BW hb3)
          · have hnn := hnv hnb
            by_cases hn0 : n < 0
            · have HB := Lib.hid (HBD.out (by rw [HUW.out, if_neg hne, if_neg (by rw [← hnn]; omega)]))
              clear HUW HST hnv h45 hne hnb hnn
              go_wp2
              go_ret2
              exact pa_bad HB.out (below_tr BW hb3)
            · have HRW := Lib.hid (show reW p = some n by rw [HUW.out, if_neg hne, if_pos ⟨hnb, by omega⟩, hnn])
              clear HUW hnv h45 hne hnb hnn
              have HN := Lib.hid (show reWs (P.take (k + 1)) = some (l ++ [n]) ∧ (l ++ [n]).length = k + 1 from ⟨by rw [HST.out, HRW.out], by rw [List.length_append, HU.out.2]; rfl⟩)
              have HZ := Lib.hid (fun (w1 : World) (j : Nat) u (hu : (zC (n))[j]? = some u) => cells_new w1 (zC (n)) 3 j u hu)
              clear HST HRW
              go_wp2_with (at_builtin; (refine wpList_append_own _ rfl _ _ 32 rfl W1.heap.size 3 ii (.int .i64 0) 1 8 (by kernel_rfl) hi hi1 hi2 hi3 rfl (by omega) _ _ _ rfl (own3.alloc _) ⟨w3.heap.size, 0, none⟩ 1 1 (zC (n)) rfl rfl (HZ.out w3) (fun u hu => by simp [zC] at hu; rcases hu with rfl; rfl) (by unfold maxLen; omega) (by omega) (by simp; omega) ?_; intro v' w5 hown5 hgrow _))
              go_roundw
              case rel => exact ⟨k + 1, l ++ [n], by omega, by go_num, bl_app bw3 own3 hgrow (Nat.le_refl _) bw3.size, by rw [fl_snocZ]; exact hown5, Lib.hid HN.out⟩
              case measure => simp [RowKit.intOf]; omega
        · rw [h45] at hcmp
          have HRW := Lib.hid (show reW p = some (-1) by rw [HUW.out, if_pos (of_decide_eq_true h45)])
          clear HUW hnv h45
          have HN := Lib.hid (show reWs (P.take (k + 1)) = some (l ++ [-1]) ∧ (l ++ [-1]).length = k + 1 from ⟨by rw [HST.out, HRW.out], by rw [List.length_append, HU.out.2]; rfl⟩)
          have HZ := Lib.hid (fun (w1 : World) (j : Nat) u (hu : (zC (-1))[j]? = some u) => cells_new w1 (zC (-1)) 3 j u hu)
          clear HST HRW
          go_wp2_with (at_builtin; (refine wpList_append_own _ rfl _ _ 32 rfl W1.heap.size 3 ii (.int .i64 0) 1 8 (by kernel_rfl) hi hi1 hi2 hi3 rfl (by omega) _ _ _ rfl (own3.alloc _) ⟨w3.heap.size, 0, none⟩ 1 1 (zC (-1)) rfl rfl (HZ.out w3) (fun u hu => by simp [zC] at hu; rcases hu with rfl; rfl) (by unfold maxLen; omega) (by omega) (by simp; omega) ?_; intro v' w5 hown5 hgrow _))
          go_roundw
          case rel => exact ⟨k + 1, l ++ [-1], by omega, by go_num, bl_app bw3 own3 hgrow (Nat.le_refl _) bw3.size, by rw [fl_snocZ]; exact hown5, Lib.hid HN.out⟩
          case measure => simp [RowKit.intOf]; omega
      · obtain rfl : k = P.length := by omega
        have HTK := Lib.hid (show P.take P.length = P from List.take_length)
        rw [HTK.out] at HU
        have HE := Lib.hid (HEND.out l HU.out.1)
        have hlk := HU.out.2
        rw [← hlk] at hown
        have hrd := own_rd' zC_len hown
        have hll : l.length ≤ 100000 := by omega
        have HLK := Lib.hid hlk
        clear hown
        cases hv : vGu l
        · have HB := Lib.hid (show parZ L = none by rw [HE.out, hv]; rfl)
          have H2 := Lib.hid (r_ValidGustsV (c := cp) hv hll hrd)
          rw [hlk] at H2
          clear hv HE hlk
          go_wp2_with (go_at_call 22; ((with_reducible refine H2.out.mono ?_); rintro e w' ⟨rfl, rfl⟩))
          go_ret2
          exact pa_bad HB.out BW
        · have HG := Lib.hid (show parZ L = some l by rw [HE.out, hv]; rfl)
          have H2 := Lib.hid (r_ValidGustsV (c := cp) hv hll hrd)
          rw [hlk] at H2
          clear hv HE hlk
          go_wp2_with (go_at_call 22; ((with_reducible refine H2.out.mono ?_); rintro e w' ⟨rfl, rfl⟩))
          go_ret2
          have := @pa_good L w _ l ad cp HG.out hrd BW
          rw [HLK.out] at this
          exact this
end Go.Proofs.YtoelekhkgknneaaDoor
