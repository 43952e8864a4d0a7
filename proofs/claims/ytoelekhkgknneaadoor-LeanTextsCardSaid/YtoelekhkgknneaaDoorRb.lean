/- Lean's texts: Parse of the program. -/
import Derived.Test.YtoelekhkgknneaaDoorRa
import Derived.Deep.DeepCutAuto
set_option linter.unusedSimpArgs false
set_option linter.unusedVariables false
namespace Go.Proofs.YtoelekhkgknneaaDoor.Tx
open Go.RowKit Go.Lib

theorem info_mark : ∃ i : TypeInfo, Tryd.prog.info? 110 = some i ∧ i.zero = some (.agg #[.int .i64 0, .int .i64 0, .int .i64 0]) ∧ i.size = 3 ∧ i.bytes = 24 := info_parts (by kernel_rfl)
theorem cs_len3 (c : Mk) : c.cs.length = 3 := rfl
theorem rdi_skip {n : Nat} {E : Bool} {P : List (List UInt8)} {k : Nat} {L : List Int} (h : RdI n E P k false L) : RdI n E P (k + 1) false L := ⟨h.len, h.bd, fun q => (by cases q), h.no⟩
theorem blk_rd {w : World} {g : Nat} {t : TypeId} {L : List Int} (h : Blk w g t (aC L)) : Rd zC 1 w (some ⟨g, 0, none⟩) L := fun _ => by
  refine ⟨g, 0, rfl, h.lt, fun k x hx j v hv => ?_⟩
  have hj : j = 0 := by
    rcases Nat.lt_or_ge j 1 with q | q
    · omega
    · rw [List.getElem?_eq_none (by rw [zC_len]; exact q)] at hv; cases hv
  subst hj
  simp [zC] at hv
  subst hv
  rw [Nat.zero_add, Nat.mul_one, Nat.add_zero]
  exact blk_at h hx
theorem rd_far {α : Type} {enc : α → List Value} {sz : Nat} {w : World} {b o : Nat} {l : List α} {p : Addr} (h : Rd enc sz w (some ⟨b, o, none⟩) l) (hp : p.block ≠ b) (u : Value) : Rd enc sz (w.setCell p u) (some ⟨b, o, none⟩) l := fun hne => by
  obtain ⟨b', o', e, hlt, hc⟩ := h hne
  cases e
  exact ⟨b, o, rfl, by simpa [World.setCell] using hlt, fun k x hx j v hv => by
    have := hc k x hx j v hv
    rw [World.cell?_setCell_other _ _ _ _ (fun q => hp (by rw [q]))]; exact this⟩
theorem three_of {L : List Int} (h : L.length = 3) : ∃ a b c, L = [a, b, c] := by
  match L, h with
  | [a, b, c], _ => exact ⟨a, b, c, rfl⟩
set_option maxHeartbeats 4000000 in
set_option maxRecDepth 20000 in
theorem p_ParseM (s : ByteArray) (w : World) (hs : s.size ≤ maxLen) (hL : LdW w) :
    Calls Tryd.prog 30 #[.string s] w (ParP mkX Mk.cs 3 s.data.toList w) := by
  have hsl : s.data.toList.length = s.size := Array.length_toList
  by_cases h65 : 65536 < s.size
  · have z1 : (65536 : Int) < (s.size : Int) := by omega
    have HB := Lib.hid (fun W (hb : Below w.heap.size w W) => @par_long Mk mkX Mk.cs 3 s.data.toList w W (by omega) hb)
    clear hsl
    generalize s.data.toList = L at *
    go_enter Tryd.func30, Tryd.ntmps30
    go_wp2
    go_ret3
    exact HB.out _ (below_refl _)
  · have z1 : ¬ (65536 : Int) < (s.size : Int) := by omega
    have HBAD := Lib.hid (fun W k (h : mkX.pa s.data.toList = ([], k, false)) (hb : Below w.heap.size w W) => @par_bad Mk mkX Mk.cs 3 s.data.toList w W k (by omega) h hb)
    have HGD := Lib.hid (fun W g A c (h : mkX.pa s.data.toList = (g, 0, true)) (hr : Rd Mk.cs 3 W A g) (hb : Below w.heap.size w W) (hl : g.length ≤ 70000) => @par_good Mk mkX Mk.cs 3 s.data.toList w W g A c (by omega) h hr hb hl)
    have HP := Lib.hid (show mkX.pa s.data.toList = paN mkX s.size 0 [] s.data.toList by rw [← hsl]; exact pa_n mkX _)
    have hsb : s = bts s.data.toList := (list_bts s).symm
    clear hs
    have hsL : s.data.toList.length ≤ s.size := by omega
    clear hsl
    generalize s.data.toList = L0 at *
    subst hsb
    obtain ⟨ii, hi, hi1, hi2, hi3⟩ := info_mark
    go_enter Tryd.func30, Tryd.ntmps30
    go_wp2
    go_loopw [0, 2, 5] (fun v a i wr => ∃ (k n : Nat) (g : List Mk) (L : List UInt8), v = .string (bts L) ∧ i = .int .i64 k ∧ wr.ownsRow w.heap.size 110 3 a k (fl Mk.cs g) ∧ Below w.heap.size w wr ∧ L.length ≤ n ∧ n + k ≤ (bts L0).size + 1 ∧ Hid (mkX.pa L0 = paN mkX n k g L ∧ g.length = k)) (fun v _ i _ => (match v with | .string s => 2 * s.size | _ => 0) + (if (RowKit.intOf i).toNat = 0 then 1 else 0))
    case atStart => exact ⟨0, (bts L0).size, [], L0, rfl, rfl, World.ownsRow_nil w _ _ _, below_refl _, hsL, by omega, Lib.hid ⟨HP.out, rfl⟩⟩
    case round =>
      obtain ⟨k, n, g, L, rfl, rfl, hown, hbw, hLn, hnk, HH⟩ := hrel
      obtain ⟨ad, cp, rfl⟩ := own_slice hown
      rename World => wr
      have hbvs := hbw.size
      by_cases hend : k ≠ 0 ∧ L = []
      · obtain ⟨hk0, h0⟩ := hend
        have hemp : (bts L).toList.isEmpty = true := by subst h0; rw [ByteArray.toList_eq]; rfl
        have hk1 : ((k : Int) == 0) = false := by simp; omega
        have HE := Lib.hid (show mkX.pa L0 = (g, 0, true) by rw [HH.out.1, h0, paN_end hk0])
        have hkg := HH.out.2
        rw [← hkg] at hown
        have HRD := Lib.hid (own_rd' cs_len3 hown)
        have hkl : g.length ≤ 70000 := by omega
        clear h0 hown
        generalize bts L = SL at *
        go_wp2
        go_ret3
        rw [← hkg]
        exact HGD.out _ _ _ _ HE.out HRD.out hbw hkl
      · have hkL : k = 0 ∨ L ≠ [] := by
          rcases Nat.eq_zero_or_pos k with h | h
          · exact .inl h
          · exact .inr fun e => hend ⟨by omega, e⟩
        obtain ⟨hc1, hc2, hc3⟩ := cut_le L
        have hCUT := Lib.hid (fun W (h : Below w.heap.size w W) => c_CutNl (bts L) W (by rw [bts_size]; omega) (hL.on h))
        rw [bts_list] at hCUT
        have HBD2 := Lib.hid (fun h => paN_bad (Y := mkX) (n := n) (k := k) (g := g) hkL hLn h)
        have HGD2 := Lib.hid (fun (h0 : L ≠ []) m h => paN_good (Y := mkX) (m := m) (k := k) (g := g) h0 h)
        have HLE := Lib.hid (show (Lib.cut L [10]).2.2 = true → L ≠ [] by rintro h rfl; cases h)
        generalize hT : (Lib.cut L [10]).1 = T at *
        generalize hR2 : (Lib.cut L [10]).2.1 = R at *
        generalize hE2 : (Lib.cut L [10]).2.2 = E at *
        clear hT hR2 hE2
        have HSP := Lib.hid (fun W (h : Below w.heap.size w W) => c_Split (bts T) W (by rw [bts_size]; omega) (hL.on h))
        rw [bts_list] at HSP
        have HPL := Lib.hid (cutZ_len 32 T)
        have HQ := Lib.hid (cut_sz 32 T)
        obtain ⟨P, hP⟩ : ∃ P, cutZ 32 T = P := ⟨_, rfl⟩
        have HPP := Lib.hid hP
        rw [hP] at HSP HPL HQ
        clear hP
        have hPl := HPL.out
        have hPl2 : P.length ≤ 70000 := by omega
        have hkk : (((k : Int) == 0) = true) ∨ (((k : Int) == 0) = false ∧ (bts L).toList.isEmpty = false) := by
          rcases hkL with rfl | h
          · exact .inl rfl
          · cases hq : ((k : Int) == 0)
            · refine .inr ⟨rfl, ?_⟩
              rw [ByteArray.toList_eq, bts_list]; cases L; · exact absurd rfl h
              · rfl
            · exact .inl rfl
        go_upto_region 4 with fail
        go_cut [22] (fun v wx => v = .bool true ∧ wx = wr)
        case first =>
          rcases hkk with hk1 | ⟨hk1, hk2⟩
          · go_wp2
            go_meet
            case rel => exact ⟨rfl, rfl⟩
          · go_wp2
            go_meet
            case rel => exact ⟨rfl, rfl⟩
        case rest =>
          obtain ⟨rfl, rfl⟩ := hcut
          clear hkk hkL hend
          go_upto_region 9 with (first
            | (go_at_call 42; ((with_reducible refine (hCUT.out _ hbw).mono ?_); rintro e w1 ⟨rfl, hb1⟩; have hbw1 := below_tr hbw hb1; have own1 := own_on hown hb1; have hbvs1 := hbw1.size))
            | (go_at_call 43; ((with_reducible refine (HSP.out _ hbw1).mono ?_); rintro e w2 ⟨rfl, rfl⟩; have B12 := bl_alloc (bl_alloc (below_refl w1) (.cells (fl stG P).toArray 9)) (.cells #[.int .i64 0, .int .i64 0, .int .i64 0] 108); have RP := (own_rd' stG_len (own_full w1 P (by unfold maxLen; omega))).on (bl_alloc (below_refl (w1.alloc (.cells (fl stG P).toArray 9))) (.cells #[.int .i64 0, .int .i64 0, .int .i64 0] 108)); have kA2 := Blk.new (w1.alloc (.cells (fl stG P).toArray 9)) 108 (aC (List.replicate 3 0)); rw [World.size_alloc] at kA2)))
          change Blk ((w1.alloc (.cells (fl stG P).toArray 9)).alloc (.cells #[.int .i64 0, .int .i64 0, .int .i64 0] 108)) _ _ _ at kA2
          generalize (w1.alloc (.cells (fl stG P).toArray 9)).alloc (.cells #[.int .i64 0, .int .i64 0, .int .i64 0] 108) = W2 at *
          clear hCUT HSP
          go_cut [11] (fun v wx => v = .bool (E && decide (P.length = 3)) ∧ wx = W2)
          case first =>
            cases E
            · go_wp2
              go_meet
              case rel => exact ⟨rfl, rfl⟩
            · have hp6 : ((P.length : Int) == 3) = decide (P.length = 3) := by
                by_cases h : P.length = 3
                · rw [decide_eq_true h]; simp; omega
                · rw [decide_eq_false h]; simp; omega
              go_wp2
              go_meet
              case rel => exact ⟨rfl, rfl⟩
          case rest =>
            obtain ⟨rfl, rfl⟩ := hcut
            obtain ⟨b0, hb0⟩ : ∃ b0, b0 = (E && decide (P.length = 3)) := ⟨_, rfl⟩
            have HR0 := Lib.hid (rdi_zero 3 E P b0 hb0)
            rw [← hb0]
            clear hb0
            go_wp2
            go_loopw [11, 12, 13, 39] (fun ok _ _ i wx => ∃ (j : Nat) (b : Bool) (L6 : List Int), ok = .bool b ∧ i = .int .i64 j ∧ j ≤ 3 ∧ Blk wx (w1.heap.size + 1) 108 (aC L6) ∧ Hid (RdI 3 E P j b L6) ∧ Below w1.heap.size w1 wx ∧ Rd stG 1 wx (some ⟨w1.heap.size, 0, none⟩) P) (fun _ _ _ i _ => 3 - (RowKit.intOf i).toNat)
            case atStart => exact ⟨0, b0, List.replicate 3 0, rfl, rfl, by omega, kA2, HR0, B12, RP⟩
            case round =>
              obtain ⟨j, b, L6, rfl, rfl, hj, kA, HR, B1x, RPx⟩ := hrel
              rename World => wx
              have j0 : (0 : Int) ≤ (j : Int) := Int.natCast_nonneg _
              have hz1 := B1x.size
              have hgl := kA.lt
              by_cases hj6 : j < 3
              · have j1 : (j : Int) < 3 := by omega
                cases b
                · have HRN := Lib.hid (rdi_skip HR.out)
                  clear HR HPP HBD2 HGD2 HLE HH HGD HBAD HP HQ HPL
                  go_wp2
                  go_roundw
                  case rel => exact ⟨j + 1, false, L6, rfl, by go_num, by omega, kA, HRN, B1x, RPx⟩
                  case measure => simp [RowKit.intOf]; omega
                have hP6 : P.length = 3 := (HR.out.yes rfl).2.1
                have j2 : (j : Int) < (P.length : Int) := by omega
                obtain ⟨p, b2, off, hp, e2, hbl, c0⟩ := rd_txt RPx (k := j) (by omega)
                cases e2
                rw [Nat.zero_add] at c0
                have hpl := HQ.out p (List.mem_of_getElem? hp)
                have HAT := Lib.hid (c_AtoiB (bts p) wx (by rw [bts_size]; omega) (hL.on (below_tr hbw1 B1x)))
                rw [bts_list] at HAT
                have HRN := Lib.hid (rdi_step HR.out hj6 hp)
                have hLj : ∃ y, L6[j]? = some y := get_lt (by rw [HR.out.len]; exact hj6)
                obtain ⟨y, hy⟩ := hLj
                have cA := blk_at kA hy
                have fA := kA.frozen j
                clear hp hy HR HPP HBD2 HGD2 HLE HH HGD HBAD HP HQ HPL hpl hP6
                generalize bts p = SP at *
                generalize valA p = vp at *
                have rA : ∀ W, Below wx.heap.size wx W → Blk (W.setCell ⟨w1.heap.size + 1, j, none⟩ (.int .i64 vp)) (w1.heap.size + 1) 108 (aC (L6.set j vp)) := fun W h => blk_put (kA.below h hgl) j vp
                have rB : ∀ W, Below wx.heap.size wx W → Below w1.heap.size w1 (W.setCell ⟨w1.heap.size + 1, j, none⟩ (.int .i64 vp)) := fun W h => (below_tr B1x h).setCell (p := ⟨w1.heap.size + 1, j, none⟩) (Nat.le_succ _) _
                have rC : ∀ W, Below wx.heap.size wx W → Rd stG 1 (W.setCell ⟨w1.heap.size + 1, j, none⟩ (.int .i64 vp)) (some ⟨w1.heap.size, 0, none⟩) P := fun W h => rd_far (RPx.on h) (by simp) _
                cases hb : okA p
                · have HB := Lib.hid hb
                  rw [hb] at HRN
                  clear hb
                  go_wp2_with (go_at_call 44; ((with_reducible refine HAT.out.mono ?_); rintro e w3 ⟨⟨er, rfl, hok, hno⟩, hb3⟩; obtain ⟨te, pe, rfl⟩ := hno HB.out; obtain ⟨hc3, hf3⟩ := bcell hb3; have hz3 := hb3.size))
                  go_roundw
                  case rel => exact ⟨j + 1, false, L6.set j vp, rfl, by go_num, by omega, rA _ hb3, HRN, rB _ hb3, rC _ hb3⟩
                  case measure => simp [RowKit.intOf]; omega
                · have HB := Lib.hid hb
                  rw [hb] at HRN
                  clear hb
                  go_wp2_with (go_at_call 44; ((with_reducible refine HAT.out.mono ?_); rintro e w3 ⟨⟨er, rfl, hok, hno⟩, hb3⟩; obtain rfl := hok HB.out; obtain ⟨hc3, hf3⟩ := bcell hb3; have hz3 := hb3.size))
                  go_roundw
                  case rel => exact ⟨j + 1, true, L6.set j vp, rfl, by go_num, by omega, rA _ hb3, HRN, rB _ hb3, rC _ hb3⟩
                  case measure => simp [RowKit.intOf]; omega
              · obtain rfl : j = 3 := by omega
                obtain ⟨a0, a1, a2, hL6⟩ := three_of HR.out.len
                have HRR := Lib.hid HR.out
                rw [hL6] at HRR
                subst hL6
                have q0 := kA.cell 0
                have q1 := kA.cell 1
                have q2 := kA.cell 2
                simp only [aC, List.map_cons, List.map_nil, List.getElem?_toArray, List.getElem?_cons_zero, List.getElem?_cons_succ] at q0 q1 q2
                have ownx := own_on own1 B1x
                have hwx : Below w.heap.size w wx := below_tr hbw1 B1x
                have hfar : ∀ b, (Value.slice ad k cp).ownBlock = some b → b < w1.heap.size := fun b hb => (own_ge own1 b hb).2
                obtain ⟨X, hX⟩ : ∃ X : Mk, X = ⟨a0, a1, a2⟩ := ⟨_, rfl⟩
                have hcs : [Value.int .i64 a0, .int .i64 a1, .int .i64 a2] = Mk.cs X := by rw [hX]; rfl
                have hkg := HH.out.2
                have hgl2 : (g ++ [X]).length = k + 1 := by simp [hkg]
                have HFL := Lib.hid (show fl Mk.cs g ++ [Value.int .i64 a0, .int .i64 a1, .int .i64 a2] = fl Mk.cs (g ++ [X]) by rw [hcs, fl_snoc])
                have hkb : k ≤ 70000 := by omega
                cases b
                · have HB := Lib.hid (show mkX.pa L0 = ([], k, false) by
                    rw [HH.out.1]
                    refine HBD2.out fun q => ?_
                    obtain ⟨rfl, _, q3⟩ := q
                    have e : rdP 3 T = none := rdi_none HRR.out HPP.out
                    have e2 : mkX.rd T = mkX.bad := by unfold LayX.rd; rw [show mkX.n = 3 from rfl, e]
                    rw [e2, mkX.nbad] at q3; cases q3)
                  clear hj6 HBD2 HGD2 HLE HH HGD HRR HR HFL hX hcs HPP HP HQ HPL hgl2 hkg
                  go_wp2_with (at_builtin; (refine wpList_append_own _ rfl _ _ 45 rfl w.heap.size 110 ii (.agg #[.int .i64 0, .int .i64 0, .int .i64 0]) 3 24 (by kernel_rfl) hi hi1 hi2 hi3 rfl (by omega) _ _ _ rfl (ownx.alloc _) ⟨wx.heap.size, 0, none⟩ 1 1 [.int .i64 a0, .int .i64 a1, .int .i64 a2] rfl rfl (cells_new wx [.int .i64 a0, .int .i64 a1, .int .i64 a2] 110) (fun u hu => by simp at hu; rcases hu with rfl | rfl | rfl <;> rfl) (by unfold maxLen; omega) (by omega) (by simp; omega) ?_; intro v10 w10 hown10 hgrow10 _))
                  go_ret3
                  exact HBAD.out _ _ HB.out (bl_app hwx ownx hgrow10 (Nat.le_refl _) hwx.size)
                · have hE := (HRR.out.yes rfl).1
                  subst hE
                  have hL0 := HLE.out rfl
                  obtain ⟨m, rfl⟩ : ∃ m, n = m + 1 := ⟨n - 1, by have := List.length_pos_iff.2 hL0; omega⟩
                  have HRX := Lib.hid (show mkX.rd T = X by
                    have e : rdP 3 T = some [a0, a1, a2] := rdi_end HRR.out HPP.out
                    unfold LayX.rd
                    rw [show mkX.n = 3 from rfl, e, hX]; rfl)
                  have hcR : (bts R).size < (bts L).size := by rw [bts_size, bts_size]; exact hc3 hL0
                  have HG3 := Lib.hid (HGD2.out hL0 m)
                  rw [HRX.out] at HG3 HBD2
                  have hZX : mkZ X = [a0, a1, a2] := by rw [hX]; rfl
                  have HW := Lib.hid (fun W (h : Below w.heap.size w W) (hk : Blk W (w1.heap.size + 1) 108 (aC [a0, a1, a2])) => p_wordsM (some ⟨w1.heap.size + 1, 0, none⟩) [a0, a1, a2] 3 W (by simp) HRR.out.bd (blk_rd hk) (hL.on h).tab)
                  rw [← hZX] at HW
                  have hl3 : (mkZ X).length = 3 := by rw [hZX]; rfl
                  rw [hl3] at HW
                  have hcmp : ((bts (lnN (mkZ X))).toList == (bts T).toList) = decide (lnN (mkZ X) = T) := by rw [seq_eq, bts_list, bts_list]
                  have hRl : R.length ≤ m := by have := hc3 hL0; omega
                  clear hj6 HLE HGD2 HRX HRR HR hX hcs HPP HP HQ HPL hL0 hc1 hc2 hc3 RPx hl3
                  go_upto_region 19 with (at_builtin; (refine wpList_append_own _ rfl _ _ 45 rfl w.heap.size 110 ii (.agg #[.int .i64 0, .int .i64 0, .int .i64 0]) 3 24 (by kernel_rfl) hi hi1 hi2 hi3 rfl (by omega) _ _ _ rfl (ownx.alloc _) ⟨wx.heap.size, 0, none⟩ 1 1 [.int .i64 a0, .int .i64 a1, .int .i64 a2] rfl rfl (cells_new wx [.int .i64 a0, .int .i64 a1, .int .i64 a2] 110) (fun u hu => by simp at hu; rcases hu with rfl | rfl | rfl <;> rfl) (by unfold maxLen; omega) (by omega) (by simp; omega) ?_; intro v10 w10 hown10 hgrow10 _))
                  have bk10 := (kA.alloc (.cells #[.int .i64 a0, .int .i64 a1, .int .i64 a2] 110)).grown hgrow10 (fun h => by have := hfar _ h.symm; omega)
                  rw [← hZX] at bk10
                  have hB10 : Below w.heap.size w w10 := bl_app hwx ownx hgrow10 (Nat.le_refl _) hwx.size
                  rw [HFL.out, ← hgl2] at hown10
                  obtain ⟨A5, c5, rfl, rd5⟩ := own_rd cs_len3 hown10
                  have hown11 := hgl2 ▸ hown10
                  have HVD := Lib.hid (fun W v (hv : vldM (g ++ [X]) = v) (h : Below w10.heap.size w10 W) => (show Calls Tryd.prog 66 #[.slice A5 (k + 1) c5] W (fun e w' => e = .returned (.bool v) ∧ Below W.heap.size W w') by
                    have := p_ValidMV (c := c5) hv (by rw [hgl2]; omega) (rd5.on h)
                    rwa [hgl2] at this))
                  have HWW := Lib.hid (HW.out w10 hB10 bk10)
                  have bkl := bk10.lt
                  rw [hgl2]
                  clear hown10 HFL HW ownx hgrow10 rd5 hZX kA q0 q1 q2
                  rcases (by by_cases h1 : lnN (mkZ X) = T <;> cases vldM (g ++ [X]) <;> simp [h1] : (¬ lnN (mkZ X) = T) ∨ (lnN (mkZ X) = T ∧ vldM (g ++ [X]) = false) ∨ (lnN (mkZ X) = T ∧ vldM (g ++ [X]) = true)) with h1 | ⟨h1, h2⟩ | ⟨h1, h2⟩
                  · rw [decide_eq_false h1] at hcmp
                    have HB := Lib.hid (show mkX.pa L0 = ([], k, false) by rw [HH.out.1]; exact HBD2.out (fun q => h1 q.2.1))
                    clear HBD2 HG3 HH HGD HVD h1
                    go_wp2_with (go_at_call 65; ((with_reducible refine HWW.out.mono ?_); rintro e w11 ⟨rfl, hb11⟩))
                    go_ret3
                    exact HBAD.out _ _ HB.out (below_tr hB10 hb11)
                  · rw [decide_eq_true h1] at hcmp
                    have HB := Lib.hid (show mkX.pa L0 = ([], k, false) by rw [HH.out.1]; exact HBD2.out (fun q => by have q2 : vldM (g ++ [X]) = true := q.2.2; rw [h2] at q2; cases q2))
                    have HV := Lib.hid (fun W (h : Below w10.heap.size w10 W) => HVD.out W false h2 h)
                    clear HBD2 HG3 HH HGD HVD h1 h2
                    go_wp2_with (first
                      | (go_at_call 65; ((with_reducible refine HWW.out.mono ?_); rintro e w11 ⟨rfl, hb11⟩))
                      | (go_at_call 66; ((with_reducible refine (HV.out _ hb11).mono ?_); rintro e w12 ⟨rfl, hb12⟩)))
                    go_ret3
                    exact HBAD.out _ _ HB.out (below_tr (below_tr hB10 hb11) hb12)
                  · rw [decide_eq_true h1] at hcmp
                    have HN := Lib.hid (show mkX.pa L0 = paN mkX m (k + 1) (g ++ [X]) R ∧ (g ++ [X]).length = k + 1 from ⟨by rw [HH.out.1]; exact HG3.out ⟨rfl, h1, h2⟩, hgl2⟩)
                    have HV := Lib.hid (fun W (h : Below w10.heap.size w10 W) => HVD.out W true h2 h)
                    have HOW := Lib.hid (fun W (h : Below w10.heap.size w10 W) => own_on hown11 h)
                    clear HBD2 HG3 HH HGD HVD h1 h2
                    go_wp2_with (first
                      | (go_at_call 65; ((with_reducible refine HWW.out.mono ?_); rintro e w11 ⟨rfl, hb11⟩))
                      | (go_at_call 66; ((with_reducible refine (HV.out _ hb11).mono ?_); rintro e w12 ⟨rfl, hb12⟩)))
                    go_roundw
                    case rel => exact ⟨k + 1, m, g ++ [X], R, rfl, by go_num, HOW.out _ (below_tr hb11 hb12), below_tr (below_tr hB10 hb11) hb12, hRl, by omega, HN⟩
                    case measure => simp [RowKit.intOf]; omega
end Go.Proofs.YtoelekhkgknneaaDoor.Tx
