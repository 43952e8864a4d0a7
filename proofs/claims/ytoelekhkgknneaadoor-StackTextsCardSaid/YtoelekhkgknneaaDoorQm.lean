/- Stack's texts: Parse of the program. -/
import Derived.Test.YtoelekhkgknneaaDoorQk
import Derived.Deep.DeepCutAuto
set_option linter.unusedSimpArgs false
set_option linter.unusedVariables false
namespace Go.Proofs.YtoelekhkgknneaaDoor.Tx
open Go.RowKit Go.Lib

theorem info_course : ∃ i : TypeInfo, Tryd.prog.info? 91 = some i ∧ i.zero = some (.agg #[.int .i64 0, .int .i64 0, .int .i64 0, .int .i64 0, .int .i64 0, .int .i64 0]) ∧ i.size = 6 ∧ i.bytes = 48 := info_parts (by kernel_rfl)
theorem cs_len6 (c : Course) : c.cs.length = 6 := rfl
theorem rd_far {α : Type} {enc : α → List Value} {sz : Nat} {w : World} {b o : Nat} {l : List α} {p : Addr} (h : Rd enc sz w (some ⟨b, o, none⟩) l) (hp : p.block ≠ b) (u : Value) : Rd enc sz (w.setCell p u) (some ⟨b, o, none⟩) l := fun hne => by
  obtain ⟨b', o', e, hlt, hc⟩ := h hne
  cases e
  exact ⟨b, o, rfl, by simpa [World.setCell] using hlt, fun k x hx j v hv => by
    have := hc k x hx j v hv
    rw [World.cell?_setCell_other _ _ _ _ (fun q => hp (by rw [q]))]; exact this⟩
theorem six_of {L : List Int} (h : L.length = 6) : ∃ a b c d e f, L = [a, b, c, d, e, f] := by
  match L, h with
  | [a, b, c, d, e, f], _ => exact ⟨a, b, c, d, e, f, rfl⟩
set_option maxHeartbeats 4000000 in
set_option maxRecDepth 20000 in
theorem p_ParseS (s : ByteArray) (w : World) (hs : s.size ≤ maxLen) (hL : LdW w) :
    Calls Tryd.prog 24 #[.string s] w (ParP coX Course.cs 6 s.data.toList w) := by
  have hsl : s.data.toList.length = s.size := Array.length_toList
  by_cases h65 : 65536 < s.size
  · have z1 : (65536 : Int) < (s.size : Int) := by omega
    have HB := Lib.hid (fun W (hb : Below w.heap.size w W) => @par_long Course coX Course.cs 6 s.data.toList w W (by omega) hb)
    clear hsl
    generalize s.data.toList = L at *
    go_enter Tryd.func24, Tryd.ntmps24
    go_wp2
    go_ret3
    exact HB.out _ (below_refl _)
  · have z1 : ¬ (65536 : Int) < (s.size : Int) := by omega
    have HBAD := Lib.hid (fun W k (h : coX.pa s.data.toList = ([], k, false)) (hb : Below w.heap.size w W) => @par_bad Course coX Course.cs 6 s.data.toList w W k (by omega) h hb)
    have HGD := Lib.hid (fun W g A c (h : coX.pa s.data.toList = (g, 0, true)) (hr : Rd Course.cs 6 W A g) (hb : Below w.heap.size w W) (hl : g.length ≤ 70000) => @par_good Course coX Course.cs 6 s.data.toList w W g A c (by omega) h hr hb hl)
    have HP := Lib.hid (show coX.pa s.data.toList = paN coX s.size 0 [] s.data.toList by rw [← hsl]; exact pa_n coX _)
    have hsb : s = bts s.data.toList := (list_bts s).symm
    clear hs
    have hsL : s.data.toList.length ≤ s.size := by omega
    clear hsl
    generalize s.data.toList = L0 at *
    subst hsb
    obtain ⟨ii, hi, hi1, hi2, hi3⟩ := info_course
    go_enter Tryd.func24, Tryd.ntmps24
    go_wp2
    go_loopw [0, 2, 5] (fun v a i wr => ∃ (k n : Nat) (g : List Course) (L : List UInt8), v = .string (bts L) ∧ i = .int .i64 k ∧ wr.ownsRow w.heap.size 91 6 a k (fl Course.cs g) ∧ Below w.heap.size w wr ∧ L.length ≤ n ∧ n + k ≤ (bts L0).size + 1 ∧ Hid (coX.pa L0 = paN coX n k g L ∧ g.length = k)) (fun v _ i _ => (match v with | .string s => 2 * s.size | _ => 0) + (if (RowKit.intOf i).toNat = 0 then 1 else 0))
    case atStart => exact ⟨0, (bts L0).size, [], L0, rfl, rfl, World.ownsRow_nil w _ _ _, below_refl _, hsL, by omega, Lib.hid ⟨HP.out, rfl⟩⟩
    case round =>
      obtain ⟨k, n, g, L, rfl, rfl, hown, hbw, hLn, hnk, HH⟩ := hrel
      obtain ⟨ad, cp, rfl⟩ := own_slice hown
      rename World => wr
      have hbvs := hbw.size
      by_cases hend : k ≠ 0 ∧ L = []
      · obtain ⟨hk0, h0⟩ := hend
        have hemp : (bts L).toList.isEmpty = true := by subst h0; rw [ByteArray.toList_eq]; rfl
        have hk1 : ((k : Int) == 0) = false := by simp; omega
        have HE := Lib.hid (show coX.pa L0 = (g, 0, true) by rw [HH.out.1, h0, paN_end hk0])
        have hkg := HH.out.2
        rw [← hkg] at hown
        have HRD := Lib.hid (own_rd' cs_len6 hown)
        have hkl : g.length ≤ 70000 := by omega
        clear h0 hown
        generalize bts L = SL at *
        go_wp2
        go_ret3
        rw [← hkg]
        exact HGD.out _ _ _ _ HE.out HRD.out hbw hkl
      · have hkL : k = 0 ∨ L ≠ [] := by
          rcases Nat.eq_zero_or_pos k with h | h
          · exact .inl h
          · exact .inr fun e => hend ⟨by omega, e⟩
        obtain ⟨hc1, hc2, hc3⟩ := cut_le L
        have hCUT := Lib.hid (fun W (h : Below w.heap.size w W) => c_CutNl (bts L) W (by rw [bts_size]; omega) (hL.on h))
        rw [bts_list] at hCUT
        have HBD2 := Lib.hid (fun h => paN_bad (Y := coX) (n := n) (k := k) (g := g) hkL hLn h)
        have HGD2 := Lib.hid (fun (h0 : L ≠ []) m h => paN_good (Y := coX) (m := m) (k := k) (g := g) h0 h)
        have HLE := Lib.hid (show (Lib.cut L [10]).2.2 = true → L ≠ [] by rintro h rfl; cases h)
        generalize hT : (Lib.cut L [10]).1 = T at *
        generalize hR2 : (Lib.cut L [10]).2.1 = R at *
        generalize hE2 : (Lib.cut L [10]).2.2 = E at *
        clear hT hR2 hE2
        have HSP := Lib.hid (fun W (h : Below w.heap.size w W) => c_Split (bts T) W (by rw [bts_size]; omega) (hL.on h))
        rw [bts_list] at HSP
        have HPL := Lib.hid (cutZ_len 32 T)
        have HQ := Lib.hid (cut_sz 32 T)
        obtain ⟨P, hP⟩ : ∃ P, cutZ 32 T = P := ⟨_, rfl⟩
        have HPP := Lib.hid hP
        rw [hP] at HSP HPL HQ
        clear hP
        have hPl := HPL.out
        have hPl2 : P.length ≤ 70000 := by omega
        have hkk : (((k : Int) == 0) = true) ∨ (((k : Int) == 0) = false ∧ (bts L).toList.isEmpty = false) := by
          rcases hkL with rfl | h
          · exact .inl rfl
          · cases hq : ((k : Int) == 0)
            · refine .inr ⟨rfl, ?_⟩
              rw [ByteArray.toList_eq, bts_list]; cases L; · exact absurd rfl h
              · rfl
            · exact .inl rfl
        go_upto_region 4 with fail
        go_cut [23] (fun v wx => v = .bool true ∧ wx = wr)
        case first =>
          rcases hkk with hk1 | ⟨hk1, hk2⟩
          · go_wp2
            go_meet
            case rel => exact ⟨rfl, rfl⟩
          · go_wp2
            go_meet
            case rel => exact ⟨rfl, rfl⟩
        case rest =>
          obtain ⟨rfl, rfl⟩ := hcut
          clear hkk hkL hend
          go_upto_region 9 with (first
            | (go_at_call 42; ((with_reducible refine (hCUT.out _ hbw).mono ?_); rintro e w1 ⟨rfl, hb1⟩; have hbw1 := below_tr hbw hb1; have own1 := own_on hown hb1; have hbvs1 := hbw1.size; have hA1 := bl_alloc (below_refl w1) (.cells #[.int .i64 0, .int .i64 0, .int .i64 0, .int .i64 0, .int .i64 0, .int .i64 0] 96); have kA1 := Blk.new w1 96 (aC (List.replicate 6 0))))
            | (go_at_call 43; ((with_reducible refine (HSP.out _ (below_tr hbw1 hA1)).mono ?_); rintro e w2 ⟨rfl, rfl⟩; have B12 := bl_alloc hA1 (.cells (fl stG P).toArray 9); have RP := own_rd' stG_len (own_full (w1.alloc (.cells #[.int .i64 0, .int .i64 0, .int .i64 0, .int .i64 0, .int .i64 0, .int .i64 0] 96)) P (by unfold maxLen; omega)); have kA2 := Blk.alloc kA1 (.cells (fl stG P).toArray 9); rw [World.size_alloc] at RP)))
          change Blk ((w1.alloc (.cells #[.int .i64 0, .int .i64 0, .int .i64 0, .int .i64 0, .int .i64 0, .int .i64 0] 96)).alloc _) _ _ _ at kA2
          generalize (w1.alloc (.cells #[.int .i64 0, .int .i64 0, .int .i64 0, .int .i64 0, .int .i64 0, .int .i64 0] 96)).alloc (.cells (fl stG P).toArray 9) = W2 at *
          clear hCUT HSP kA1 hA1
          go_cut [11] (fun v wx => v = .bool (E && decide (P.length = 6)) ∧ wx = W2)
          case first =>
            cases E
            · go_wp2
              go_meet
              case rel => exact ⟨rfl, rfl⟩
            · have hp6 : ((P.length : Int) == 6) = decide (P.length = 6) := by
                by_cases h : P.length = 6
                · rw [decide_eq_true h]; simp; omega
                · rw [decide_eq_false h]; simp; omega
              go_wp2
              go_meet
              case rel => exact ⟨rfl, rfl⟩
          case rest =>
            obtain ⟨rfl, rfl⟩ := hcut
            obtain ⟨b0, hb0⟩ : ∃ b0, b0 = (E && decide (P.length = 6)) := ⟨_, rfl⟩
            have HR0 := Lib.hid (rdi_zero 6 E P b0 hb0)
            rw [← hb0]
            clear hb0
            go_wp2
            go_loopw [11, 12, 13] (fun ok i _ wx => ∃ (j : Nat) (b : Bool) (L6 : List Int), ok = .bool b ∧ i = .int .i64 j ∧ j ≤ 6 ∧ Blk wx w1.heap.size 96 (aC L6) ∧ Hid (RdI 6 E P j b L6) ∧ Below w1.heap.size w1 wx ∧ Rd stG 1 wx (some ⟨w1.heap.size + 1, 0, none⟩) P) (fun _ i _ _ => 6 - (RowKit.intOf i).toNat)
            case atStart => exact ⟨0, b0, List.replicate 6 0, rfl, rfl, by omega, kA2, HR0, B12, RP⟩
            case round =>
              obtain ⟨j, b, L6, rfl, rfl, hj, kA, HR, B1x, RPx⟩ := hrel
              rename World => wx
              have j0 : (0 : Int) ≤ (j : Int) := Int.natCast_nonneg _
              have hz1 := B1x.size
              have hgl := kA.lt
              by_cases hgo : b = true ∧ j < 6
              · obtain ⟨rfl, hj6⟩ := hgo
                have j1 : (j : Int) < 6 := by omega
                have hP6 : P.length = 6 := (HR.out.yes rfl).2.1
                have j2 : (j : Int) < (P.length : Int) := by omega
                obtain ⟨p, b2, off, hp, e2, hbl, c0⟩ := rd_txt RPx (k := j) (by omega)
                cases e2
                rw [Nat.zero_add] at c0
                have hpl := HQ.out p (List.mem_of_getElem? hp)
                have HAT := Lib.hid (c_AtoiB (bts p) wx (by rw [bts_size]; omega) (hL.on (below_tr hbw1 B1x)))
                rw [bts_list] at HAT
                have HRN := Lib.hid (rdi_step HR.out hj6 hp)
                have hLj : ∃ y, L6[j]? = some y := get_lt (by rw [HR.out.len]; exact hj6)
                obtain ⟨y, hy⟩ := hLj
                have cA := blk_at kA hy
                have fA := kA.frozen j
                clear hp hy HR HPP HBD2 HGD2 HLE HH HGD HBAD HP HQ HPL hpl hP6
                generalize bts p = SP at *
                generalize valA p = vp at *
                have rA : ∀ W, Below wx.heap.size wx W → Blk (W.setCell ⟨w1.heap.size, j, none⟩ (.int .i64 vp)) w1.heap.size 96 (aC (L6.set j vp)) := fun W h => blk_put (kA.below h hgl) j vp
                have rB : ∀ W, Below wx.heap.size wx W → Below w1.heap.size w1 (W.setCell ⟨w1.heap.size, j, none⟩ (.int .i64 vp)) := fun W h => (below_tr B1x h).setCell (p := ⟨w1.heap.size, j, none⟩) (Nat.le_refl _) _
                have rC : ∀ W, Below wx.heap.size wx W → Rd stG 1 (W.setCell ⟨w1.heap.size, j, none⟩ (.int .i64 vp)) (some ⟨w1.heap.size + 1, 0, none⟩) P := fun W h => rd_far (RPx.on h) (by simp) _
                cases hb : okA p
                · have HB := Lib.hid hb
                  rw [hb] at HRN
                  clear hb
                  go_wp2_with (go_at_call 44; ((with_reducible refine HAT.out.mono ?_); rintro e w3 ⟨⟨er, rfl, hok, hno⟩, hb3⟩; obtain ⟨te, pe, rfl⟩ := hno HB.out; obtain ⟨hc3, hf3⟩ := bcell hb3; have hz3 := hb3.size))
                  go_roundw
                  case rel => exact ⟨j + 1, false, L6.set j vp, rfl, by go_num, by omega, rA _ hb3, HRN, rB _ hb3, rC _ hb3⟩
                  case measure => simp [RowKit.intOf]; omega
                · have HB := Lib.hid hb
                  rw [hb] at HRN
                  clear hb
                  go_wp2_with (go_at_call 44; ((with_reducible refine HAT.out.mono ?_); rintro e w3 ⟨⟨er, rfl, hok, hno⟩, hb3⟩; obtain rfl := hok HB.out; obtain ⟨hc3, hf3⟩ := bcell hb3; have hz3 := hb3.size))
                  go_roundw
                  case rel => exact ⟨j + 1, true, L6.set j vp, rfl, by go_num, by omega, rA _ hb3, HRN, rB _ hb3, rC _ hb3⟩
                  case measure => simp [RowKit.intOf]; omega
              · obtain ⟨a0, a1, a2, a3, a4, a5, hL6⟩ := six_of HR.out.len
                have HRR := Lib.hid HR.out
                rw [hL6] at HRR
                subst hL6
                have q0 := kA.cell 0
                have q1 := kA.cell 1
                have q2 := kA.cell 2
                have q3 := kA.cell 3
                have q4 := kA.cell 4
                have q5 := kA.cell 5
                simp only [aC, List.map_cons, List.map_nil, List.getElem?_toArray, List.getElem?_cons_zero, List.getElem?_cons_succ] at q0 q1 q2 q3 q4 q5
                have ownx := own_on own1 B1x
                have hwx : Below w.heap.size w wx := below_tr hbw1 B1x
                have x0 := Blk.new wx 91 #[.int .i64 a0, .int .i64 a1, .int .i64 a2, .int .i64 a3, .int .i64 a4, .int .i64 a5]
                have hB9 := bl_alloc hwx (.cells #[.int .i64 a0, .int .i64 a1, .int .i64 a2, .int .i64 a3, .int .i64 a4, .int .i64 a5] 91)
                have own9 := own_on ownx (bl_alloc (below_refl wx) (.cells #[.int .i64 a0, .int .i64 a1, .int .i64 a2, .int .i64 a3, .int .i64 a4, .int .i64 a5] 91))
                have hfar : ∀ b, (Value.slice ad k cp).ownBlock = some b → b < wx.heap.size := fun b hb => (own_ge ownx b hb).2
                obtain ⟨X, hX⟩ : ∃ X : Course, X = ⟨a0, a1, a2, a3, a4, a5⟩ := ⟨_, rfl⟩
                have hcs : [Value.int .i64 a0, .int .i64 a1, .int .i64 a2, .int .i64 a3, .int .i64 a4, .int .i64 a5] = Course.cs X := by rw [hX]; rfl
                have hkg := HH.out.2
                have hgl2 : (g ++ [X]).length = k + 1 := by simp [hkg]
                have HFL := Lib.hid (show fl Course.cs g ++ [Value.int .i64 a0, .int .i64 a1, .int .i64 a2, .int .i64 a3, .int .i64 a4, .int .i64 a5] = fl Course.cs (g ++ [X]) by rw [hcs, fl_snoc])
                have hbX : B64 X := by
                  rw [hX]; exact HRR.out.bd
                have x9 := x0.lt
                have hkb : k ≤ 70000 := by omega
                have hgx := hfar
                by_cases hb : b = true
                · subst hb
                  obtain rfl : j = 6 := by
                    have : ¬ j < 6 := fun h => hgo ⟨rfl, h⟩
                    omega
                  have hE := (HRR.out.yes rfl).1
                  subst hE
                  have hL0 := HLE.out rfl
                  obtain ⟨m, rfl⟩ : ∃ m, n = m + 1 := ⟨n - 1, by have := List.length_pos_iff.2 hL0; omega⟩
                  have HRX := Lib.hid (show coX.rd T = X by
                    have e : rdP 6 T = some [a0, a1, a2, a3, a4, a5] := rdi_end HRR.out HPP.out
                    unfold LayX.rd
                    rw [show coX.n = 6 from rfl, e, hX]; rfl)
                  have hcR : (bts R).size < (bts L).size := by rw [bts_size, bts_size]; exact hc3 hL0
                  have HG3 := Lib.hid (HGD2.out hL0 m)
                  rw [HRX.out] at HG3 HBD2
                  have HW := Lib.hid (fun W (h : Below w.heap.size w W) => p_words X W hbX (hL.on h).tab)
                  rw [hX] at HW
                  change Hid (∀ W, Below w.heap.size w W → Calls Tryd.prog 58 #[.agg #[.int .i64 a0, .int .i64 a1, .int .i64 a2, .int .i64 a3, .int .i64 a4, .int .i64 a5]] W _) at HW
                  rw [← hX] at HW
                  have hcmp : ((bts (lnN (csZ X))).toList == (bts T).toList) = decide (lnN (csZ X) = T) := by rw [seq_eq, bts_list, bts_list]
                  have hRl : R.length ≤ m := by have := hc3 hL0; omega
                  clear hgo HLE HGD2 HRX HRR HR hbX hX hcs HPP HP HQ HPL hL0 hc1 hc2 hc3 RPx
                  go_upto_region 17 with fail
                  generalize wx.alloc (.cells #[.int .i64 a0, .int .i64 a1, .int .i64 a2, .int .i64 a3, .int .i64 a4, .int .i64 a5] 91) = w9 at *
                  have e0 := x0.cell 0
                  have e1 := x0.cell 1
                  have e2 := x0.cell 2
                  have e3 := x0.cell 3
                  have e4 := x0.cell 4
                  have e5 := x0.cell 5
                  simp only [List.getElem?_toArray, List.getElem?_cons_zero, List.getElem?_cons_succ] at e0 e1 e2 e3 e4 e5
                  go_upto_region 18 with (at_builtin; (refine wpList_append_own _ rfl _ _ 39 rfl w.heap.size 91 ii (.agg #[.int .i64 0, .int .i64 0, .int .i64 0, .int .i64 0, .int .i64 0, .int .i64 0]) 6 48 (by kernel_rfl) hi hi1 hi2 hi3 rfl (by omega) _ _ _ rfl (own9.alloc _) ⟨w9.heap.size, 0, none⟩ 1 1 [.int .i64 a0, .int .i64 a1, .int .i64 a2, .int .i64 a3, .int .i64 a4, .int .i64 a5] rfl rfl (cells_new w9 [.int .i64 a0, .int .i64 a1, .int .i64 a2, .int .i64 a3, .int .i64 a4, .int .i64 a5] 91) (fun u hu => by simp at hu; rcases hu with rfl | rfl | rfl | rfl | rfl | rfl <;> rfl) (by unfold maxLen; omega) (by omega) (by simp; omega) ?_; intro v10 w10 hown10 hgrow10 _))
                  have bk10 := (x0.alloc (.cells #[.int .i64 a0, .int .i64 a1, .int .i64 a2, .int .i64 a3, .int .i64 a4, .int .i64 a5] 91)).grown hgrow10 (fun h => by have := hfar _ h.symm; omega)
                  have hB10 : Below w.heap.size w w10 := bl_app hB9 own9 hgrow10 (Nat.le_refl _) hB9.size
                  have i0 := bk10.cell 0
                  have i1 := bk10.cell 1
                  have i2 := bk10.cell 2
                  have i3 := bk10.cell 3
                  have i4 := bk10.cell 4
                  have i5 := bk10.cell 5
                  simp only [List.getElem?_toArray, List.getElem?_cons_zero, List.getElem?_cons_succ] at i0 i1 i2 i3 i4 i5
                  rw [HFL.out, ← hgl2] at hown10
                  obtain ⟨A5, c5, rfl, rd5⟩ := own_rd cs_len6 hown10
                  have hown11 := hgl2 ▸ hown10
                  have HVD := Lib.hid (fun W v (hv : validC (g ++ [X]) = v) (h : Below w10.heap.size w10 W) => (show Calls Tryd.prog 59 #[.slice A5 (k + 1) c5] W (fun e w' => e = .returned (.bool v) ∧ Below W.heap.size W w') by
                    have := p_ValidS (c := c5) hv (by rw [hgl2]; omega) (rd5.on h)
                    rwa [hgl2] at this))
                  have HWW := Lib.hid (HW.out w10 hB10)
                  rw [hgl2]
                  clear hown10 HFL HW x0 own9 bk10 hgrow10 e0 e1 e2 e3 e4 e5 rd5
                  rcases (by by_cases h1 : lnN (csZ X) = T <;> cases validC (g ++ [X]) <;> simp [h1] : (¬ lnN (csZ X) = T) ∨ (lnN (csZ X) = T ∧ validC (g ++ [X]) = false) ∨ (lnN (csZ X) = T ∧ validC (g ++ [X]) = true)) with h1 | ⟨h1, h2⟩ | ⟨h1, h2⟩
                  · rw [decide_eq_false h1] at hcmp
                    have HB := Lib.hid (show coX.pa L0 = ([], k, false) by rw [HH.out.1]; exact HBD2.out (fun q => h1 q.2.1))
                    clear HBD2 HG3 HH HGD HVD h1
                    go_wp2_with (go_at_call 58; ((with_reducible refine HWW.out.mono ?_); rintro e w11 ⟨rfl, hb11⟩))
                    go_ret3
                    exact HBAD.out _ _ HB.out (below_tr hB10 hb11)
                  · rw [decide_eq_true h1] at hcmp
                    have HB := Lib.hid (show coX.pa L0 = ([], k, false) by rw [HH.out.1]; exact HBD2.out (fun q => by have q2 : validC (g ++ [X]) = true := q.2.2; rw [h2] at q2; cases q2))
                    have HV := Lib.hid (fun W (h : Below w10.heap.size w10 W) => HVD.out W false h2 h)
                    clear HBD2 HG3 HH HGD HVD h1 h2
                    go_wp2_with (first
                      | (go_at_call 58; ((with_reducible refine HWW.out.mono ?_); rintro e w11 ⟨rfl, hb11⟩))
                      | (go_at_call 59; ((with_reducible refine (HV.out _ hb11).mono ?_); rintro e w12 ⟨rfl, hb12⟩)))
                    go_ret3
                    exact HBAD.out _ _ HB.out (below_tr (below_tr hB10 hb11) hb12)
                  · rw [decide_eq_true h1] at hcmp
                    have HN := Lib.hid (show coX.pa L0 = paN coX m (k + 1) (g ++ [X]) R ∧ (g ++ [X]).length = k + 1 from ⟨by rw [HH.out.1]; exact HG3.out ⟨rfl, h1, h2⟩, hgl2⟩)
                    have HV := Lib.hid (fun W (h : Below w10.heap.size w10 W) => HVD.out W true h2 h)
                    have HOW := Lib.hid (fun W (h : Below w10.heap.size w10 W) => own_on hown11 h)
                    clear HBD2 HG3 HH HGD HVD h1 h2
                    go_wp2_with (first
                      | (go_at_call 58; ((with_reducible refine HWW.out.mono ?_); rintro e w11 ⟨rfl, hb11⟩))
                      | (go_at_call 59; ((with_reducible refine (HV.out _ hb11).mono ?_); rintro e w12 ⟨rfl, hb12⟩)))
                    go_roundw
                    case rel => exact ⟨k + 1, m, g ++ [X], R, rfl, by go_num, HOW.out _ (below_tr hb11 hb12), below_tr (below_tr hB10 hb11) hb12, hRl, by omega, HN⟩
                    case measure => simp [RowKit.intOf]; omega
                · obtain rfl : b = false := by simpa using hb
                  have HB := Lib.hid (show coX.pa L0 = ([], k, false) by
                    rw [HH.out.1]
                    refine HBD2.out fun q => ?_
                    obtain ⟨rfl, _, q3⟩ := q
                    have e : rdP 6 T = none := rdi_none HRR.out HPP.out
                    have e2 : coX.rd T = coX.bad := by unfold LayX.rd; rw [show coX.n = 6 from rfl, e]
                    rw [e2, coX.nbad] at q3; cases q3)
                  clear hgo hb HBD2 HGD2 HLE HH HGD HRR HR HFL hbX hX hcs HPP HP HQ HPL hgl2 hkg
                  go_upto_region 17 with fail
                  generalize wx.alloc (.cells #[.int .i64 a0, .int .i64 a1, .int .i64 a2, .int .i64 a3, .int .i64 a4, .int .i64 a5] 91) = w9 at *
                  have e0 := x0.cell 0
                  have e1 := x0.cell 1
                  have e2 := x0.cell 2
                  have e3 := x0.cell 3
                  have e4 := x0.cell 4
                  have e5 := x0.cell 5
                  simp only [List.getElem?_toArray, List.getElem?_cons_zero, List.getElem?_cons_succ] at e0 e1 e2 e3 e4 e5
                  go_wp2_with (at_builtin; (refine wpList_append_own _ rfl _ _ 39 rfl w.heap.size 91 ii (.agg #[.int .i64 0, .int .i64 0, .int .i64 0, .int .i64 0, .int .i64 0, .int .i64 0]) 6 48 (by kernel_rfl) hi hi1 hi2 hi3 rfl (by omega) _ _ _ rfl (own9.alloc _) ⟨w9.heap.size, 0, none⟩ 1 1 [.int .i64 a0, .int .i64 a1, .int .i64 a2, .int .i64 a3, .int .i64 a4, .int .i64 a5] rfl rfl (cells_new w9 [.int .i64 a0, .int .i64 a1, .int .i64 a2, .int .i64 a3, .int .i64 a4, .int .i64 a5] 91) (fun u hu => by simp at hu; rcases hu with rfl | rfl | rfl | rfl | rfl | rfl <;> rfl) (by unfold maxLen; omega) (by omega) (by simp; omega) ?_; intro v10 w10 hown10 hgrow10 _))
                  go_ret3
                  exact HBAD.out _ _ HB.out (bl_app hB9 own9 hgrow10 (Nat.le_refl _) hB9.size)
end Go.Proofs.YtoelekhkgknneaaDoor.Tx
