/- Fell's texts: Parse of the program. -/
import Derived.Test.YthklgkgincebhaaGreatDoorYf
set_option linter.unusedSimpArgs false
set_option linter.unusedVariables false
namespace Go.Proofs.YthklgkgincebhaaGreatDoor.T6
open Go.RowKit Go.Lib Tx

theorem cut_sz (b : UInt8) : ∀ s, ∀ p ∈ cutZ b s, p.length ≤ s.length
  | [], p, hp => by simp [cutZ] at hp; subst hp; simp
  | x :: s, p, hp => by
    have ih := cut_sz b s
    unfold cutZ at hp
    split at hp
    · rcases List.mem_cons.1 hp with rfl | hp
      · simp
      · have := ih p hp; simp; omega
    · split at hp
      · simp at hp; subst hp; simp
      · rename_i h t e
        rw [e] at ih
        rcases List.mem_cons.1 hp with rfl | hp
        · have := ih h (List.mem_cons_self ..); simp; omega
        · have := ih p (List.mem_cons_of_mem _ hp); simp; omega
def ParP (s : List UInt8) (w : World) (e : Ending) (w' : World) : Prop := ∃ A c, e = .returned (.tuple #[.slice A (paFE s).1.length c, .int .i64 ((paFE s).2.1 : Nat), .int .i64 (paFE s).2.2]) ∧ Rd Pr.cs 3 w' A (paFE s).1 ∧ Below w.heap.size w w' ∧ (paFE s).1.length ≤ 70000
theorem par_bad {s : List UInt8} {w w' : World} {k : Nat} (h0 : ¬ 65536 < s.length) (h : paF s = ([], k, false)) (hb : Below w.heap.size w w') : ParP s w (.returned (.tuple #[.slice none 0 0, .int .i64 (k : Int), .int .i64 2])) w' := by
  have e : paFE s = ([], k, 2) := by unfold paFE; rw [if_neg h0, h]; rfl
  unfold ParP
  rw [e]
  exact ⟨none, 0, rfl, fun q => absurd rfl q, hb, by simp⟩
theorem par_good {s : List UInt8} {w w' : World} {g : List Pr} {A : Option Addr} {c : Nat} (h0 : ¬ 65536 < s.length) (h : paF s = (g, 0, true)) (hr : Rd Pr.cs 3 w' A g) (hb : Below w.heap.size w w') (hl : g.length ≤ 70000) : ParP s w (.returned (.tuple #[.slice A g.length c, .int .i64 0, .int .i64 0])) w' := by
  have e : paFE s = (g, 0, 0) := by unfold paFE; rw [if_neg h0, h]; rfl
  unfold ParP
  rw [e]
  exact ⟨A, c, rfl, hr, hb, hl⟩
theorem par_long {s : List UInt8} {w w' : World} (h0 : 65536 < s.length) (hb : Below w.heap.size w w') : ParP s w (.returned (.tuple #[.slice none 0 0, .int .i64 0, .int .i64 3])) w' := by
  have e : paFE s = ([], 0, 3) := by unfold paFE; rw [if_pos h0]
  unfold ParP
  rw [e]
  exact ⟨none, 0, rfl, fun q => absurd rfl q, hb, by simp⟩
theorem info_strT : ∃ i : TypeInfo, Tryz.prog.info? 9 = some i ∧ i.zero = some (.string ByteArray.empty) ∧ i.size = 1 ∧ i.bytes = 16 := info_parts (by kernel_rfl)
theorem info_prop : ∃ i : TypeInfo, Tryz.prog.info? 34 = some i ∧ i.zero = some (.agg #[.int .i64 0, .int .i64 0, .bool false]) ∧ i.size = 3 ∧ i.bytes = 24 := info_parts (by kernel_rfl)
theorem own_full (w : World) (P : List (List UInt8)) (h : P.length ≤ maxLen) : (w.alloc (.cells (fl stG P).toArray 9)).ownsRow w.heap.size 9 1 (.slice (some ⟨w.heap.size, 0, none⟩) P.length P.length) P.length (fl stG P) := by
  have hl := fl_length stG_len P
  refine ⟨hl, .inr ⟨w.heap.size, P.length, (fl stG P).toArray, rfl, Nat.le_refl _, (Blk.new w _ _ : _), Nat.le_refl _, h, by simpa using hl, ?_⟩⟩
  rw [List.take_of_length_le (by simp [hl])]
theorem fl_app (P Q : List (List UInt8)) : fl stG (P ++ Q) = fl stG P ++ fl stG Q := by simp [fl]
/-- the four words that are read -/
theorem three_get (P : List (List UInt8)) {k : Nat} (h : k < 3) (h0 : P ≠ []) : (P ++ [[], []])[k]? = some ((P ++ [[], []]).getD k []) := by
  have : 0 < P.length := List.length_pos_iff.2 h0
  rw [List.getD_eq_getElem?_getD, List.getElem?_eq_getElem (by simp; omega)]; rfl
theorem three_len (P : List (List UInt8)) {k : Nat} {n : Nat} (h : ∀ p ∈ P, p.length ≤ n) : ((P ++ [[], []]).getD k []).length ≤ n := by
  rw [List.getD_eq_getElem?_getD]
  cases e : (P ++ [[], []])[k]? with
  | none => simp
  | some p =>
    have := List.mem_of_getElem? e
    rw [List.mem_append] at this
    rcases this with q | q
    · exact h p q
    · simp at q; subst q; simp
theorem wd_eq (T : List UInt8) : (T == [119, 111, 111, 100]) = decide (T = wdS) := by
  unfold wdS; rw [Bool.eq_iff_iff, beq_iff_eq, decide_eq_true_eq]
theorem cut_le (L : List UInt8) (h : L ≠ []) : (Lib.cut L [10]).1.length ≤ L.length ∧ (Lib.cut L [10]).2.1.length < L.length := by
  rcases first_or 10 L with hn | ⟨p, q, rfl, hp⟩
  · rw [cutL_no hn]
    exact ⟨Nat.le_refl _, List.length_pos_iff.2 h⟩
  · rw [cutL_at q hp]
    simp
    omega
set_option maxHeartbeats 4000000 in
set_option maxRecDepth 20000 in
theorem p_ParseF (s : ByteArray) (w : World) (hs : s.size ≤ maxLen) (hL : LdW w) :
    Calls Tryz.prog 6 #[.string s] w (ParP s.data.toList w) := by
  have hsl : s.data.toList.length = s.size := Array.length_toList
  by_cases h65 : 65536 < s.size
  · have z1 : (65536 : Int) < (s.size : Int) := by omega
    have HB := Lib.hid (fun W (hb : Below w.heap.size w W) => @par_long s.data.toList w W (by omega) hb)
    clear hsl
    generalize s.data.toList = L at *
    go_enter Tryz.func6, Tryz.ntmps6
    go_wp2
    go_ret3
    exact HB.out _ (below_refl _)
  · have z1 : ¬ (65536 : Int) < (s.size : Int) := by omega
    have HBAD := Lib.hid (fun W k (h : paF s.data.toList = ([], k, false)) (hb : Below w.heap.size w W) => @par_bad s.data.toList w W k (by omega) h hb)
    have HGD := Lib.hid (fun W g A c (h : paF s.data.toList = (g, 0, true)) (hr : Rd Pr.cs 3 W A g) (hb : Below w.heap.size w W) (hl : g.length ≤ 70000) => @par_good s.data.toList w W g A c (by omega) h hr hb hl)
    have HP := Lib.hid (show paF s.data.toList = lnGo rdP2 lnP vP s.size 0 [] s.data.toList by rw [← hsl]; rfl)
    have hsb : s = bts s.data.toList := (list_bts s).symm
    clear hs
    have hsL : s.data.toList.length ≤ s.size := by omega
    clear hsl
    generalize s.data.toList = L0 at *
    subst hsb
    obtain ⟨is, his, his1, his2, his3⟩ := info_strT
    obtain ⟨ii, hi, hi1, hi2, hi3⟩ := info_prop
    go_enter Tryz.func6, Tryz.ntmps6
    go_wp2
    go_loopw [0, 2, 5] (fun v a i wr => ∃ (k n : Nat) (g : List Pr) (L : List UInt8), v = .string (bts L) ∧ i = .int .i64 k ∧ wr.ownsRow w.heap.size 34 3 a k (fl Pr.cs g) ∧ Below w.heap.size w wr ∧ L.length ≤ n ∧ n + k = (bts L0).size ∧ Hid (paF L0 = lnGo rdP2 lnP vP n k g L ∧ g.length = k)) (fun v _ _ _ => match v with | .string s => s.size | _ => 0)
    case atStart => exact ⟨0, (bts L0).size, [], L0, rfl, rfl, World.ownsRow_nil w _ _ _, below_refl _, hsL, rfl, Lib.hid ⟨HP.out, rfl⟩⟩
    case round =>
      obtain ⟨k, n, g, L, rfl, rfl, hown, hbw, hLn, hnk, HH⟩ := hrel
      obtain ⟨ad, cp, rfl⟩ := own_slice hown
      rename World => wr
      have hbvs := hbw.size
      by_cases h0 : L = []
      · have hemp : (bts L).toList.isEmpty = true := by subst h0; rw [ByteArray.toList_eq]; rfl
        have HE := Lib.hid (show paF L0 = (g, 0, true) by
          rw [HH.out.1, h0]; cases n <;> rfl)
        have hkg := HH.out.2
        rw [← hkg] at hown
        have HRD := Lib.hid (own_rd' Pr.cs_len hown)
        have hkl : g.length ≤ 70000 := by omega
        clear h0 hown
        generalize bts L = SL at *
        go_wp2
        go_ret3
        rw [← hkg]
        exact HGD.out _ _ _ _ HE.out HRD.out hbw hkl
      · have hemp : (bts L).toList.isEmpty = false := by
          rw [ByteArray.toList_eq, bts_list]; cases L; · exact absurd rfl h0
          · rfl
        obtain ⟨m, rfl⟩ : ∃ m, n = m + 1 := ⟨n - 1, by have := List.length_pos_iff.2 h0; omega⟩
        obtain ⟨hc1, hc2⟩ := cut_le L h0
        have hCUT := Lib.hid (fun W (h : Below w.heap.size w W) => c_CutNl (bts L) W (by rw [bts_size]; omega) (hL.on h))
        rw [bts_list] at hCUT
        have HST := Lib.hid (show lnGo rdP2 lnP vP (m + 1) k g L = _ by rw [lnGo, if_neg h0])
        generalize hT : (Lib.cut L [10]).1 = T at *
        generalize hR2 : (Lib.cut L [10]).2.1 = R at *
        generalize hE2 : (Lib.cut L [10]).2.2 = E at *
        clear hT hR2 hE2
        have HSP := Lib.hid (fun W (h : Below w.heap.size w W) => c_Split (bts T) W (by rw [bts_size]; omega) (hL.on h))
        rw [bts_list] at HSP
        have HPL := Lib.hid (cutZ_len 32 T)
        have HQ := Lib.hid (cut_sz 32 T)
        have hRD := Lib.hid (show rdP2 T = ⟨⟨valA ((cutZ 32 T ++ [[], []]).getD 0 []), valA ((cutZ 32 T ++ [[], []]).getD 1 [])⟩, decide ((cutZ 32 T ++ [[], []]).getD 2 [] = wdS)⟩ from rfl)

        have hP0 := cutZ_ne 32 T
        generalize cutZ 32 T = P at *
        have hPl := HPL.out
        have hPl2 : P.length ≤ 70000 := by omega
        go_upto_region 8 with (first
          | (go_at_call 18; ((with_reducible refine (hCUT.out _ hbw).mono ?_); rintro e w1 ⟨rfl, hb1⟩; have hbw1 := below_tr hbw hb1; have hbvs1 := hbw1.size; have own1 := own_on hown hb1; have hz1 := hb1.size; have B2 := bl_alloc (below_refl w1) (.cells (fl stG P).toArray 9); have own2 := own_full w1 P (by unfold maxLen; omega); have hz2 : w1.heap.size < (w1.alloc (.cells (fl stG P).toArray 9)).heap.size := by simp))
          | (go_at_call 19; ((with_reducible refine (HSP.out _ hbw1).mono ?_); rintro e w2 ⟨rfl, rfl⟩; generalize w1.alloc (.cells (fl stG P).toArray 9) = W2 at *; have own3 := own_on own1 B2))
          | (at_builtin; (refine wpList_append_own _ rfl _ _ 54 rfl w1.heap.size 9 is (.string ByteArray.empty) 1 16 (by kernel_rfl) his his1 his2 his3 rfl (by omega) _ _ _ rfl (own2.alloc _) ⟨W2.heap.size, 0, none⟩ 2 2 (fl stG [[], []]) rfl rfl (cells_new W2 (fl stG [[], []]) 9) (fun u hu => by simp [fl, stG] at hu; subst hu; rfl) (by unfold maxLen; omega) (by omega) (by simp; omega) ?_; intro v4 w4 hown4 hgrow4 _)))
        have own4 : w4.ownsRow w1.heap.size 9 1 v4 (P ++ [[], []]).length (fl stG (P ++ [[], []])) := by rw [fl_app]; simpa using hown4
        have hB4 : Below w.heap.size w w4 := bl_app (below_tr hbw1 B2) own2 hgrow4 hbvs1 (by omega)
        have hB14 : Below w1.heap.size w1 w4 := bl_app B2 own2 hgrow4 (Nat.le_refl _) (by omega)
        obtain ⟨A4, c4, rfl, rd4⟩ := own_rd stG_len own4
        have hn0 : P ++ [[], []] ≠ [] := by simp
        have hq0 := three_get P (k := 0) (by omega) hP0
        have hq1 := three_get P (k := 1) (by omega) hP0
        have hq2 := three_get P (k := 2) (by omega) hP0
        have hs0 := three_len P (k := 0) HQ.out
        have hs1 := three_len P (k := 1) HQ.out
        have hs2 := three_len P (k := 2) HQ.out
        have h3P : 2 < (P ++ [[], []]).length := by have := List.length_pos_iff.2 hP0; simp; omega
        generalize hQ : P ++ [[], []] = Q at *
        obtain ⟨b4, o4, rfl, hlt4, hc4⟩ := rd4 hn0
        have q0 := hc4 0 _ hq0 0 _ rfl
        have q1 := hc4 1 _ hq1 0 _ rfl
        have q2 := hc4 2 _ hq2 0 _ rfl
        generalize Q.getD 0 [] = T0 at *
        generalize Q.getD 1 [] = T1 at *
        generalize Q.getD 2 [] = T2 at *
        clear hc4 hq0 hq1 hq2 hQ rd4 own4 hown4 own2
        simp only [Nat.zero_mul, Nat.one_mul, Nat.mul_one, Nat.add_zero] at q0 q1 q2
        have hwd : ((bts T2).toList == [119, 111, 111, 100]) = decide (T2 = wdS) := by rw [ByteArray.toList_eq, bts_list]; exact wd_eq T2
        generalize decide (T2 = wdS) = WB at *
        change w4.cell? _ = some (.string (bts T2)) at q2
        generalize bts T2 = ST2 at *
        have l0 : (0 : Int) < (Q.length : Int) := by omega
        have l1 : (1 : Int) < (Q.length : Int) := by omega
        have l2 : (2 : Int) < (Q.length : Int) := by omega
        have own5 := own_on own1 hB14
        clear own1 own3 hgrow4
        go_upto_region 9 with fail
        have hb5 := bl_alloc (below_refl w4) (.cells #[.int .i64 0, .int .i64 0, .bool WB] 34)
        have bk5 := Blk.new w4 34 #[.int .i64 0, .int .i64 0, .bool WB]
        generalize w4.alloc (.cells #[.int .i64 0, .int .i64 0, .bool WB] 34) = w5 at *
        have hB5 := below_tr hB4 hb5
        have hz5 := hb5.size
        have r1 := ((bcell hb5).1 b4 o4 hlt4).trans q0
        have r2 := ((bcell hb5).1 b4 (o4 + 1) hlt4).trans q1
        have own6 := own_on own5 hb5
        have hvb1 := valA_bd T0
        have hvb2 := valA_bd T1
        have HA1 := Lib.hid (fun W (h : Below w.heap.size w W) => c_AtoiB (bts T0) W (by rw [bts_size]; omega) (hL.on h))
        have HA2 := Lib.hid (fun W (h : Below w.heap.size w W) => c_AtoiB (bts T1) W (by rw [bts_size]; omega) (hL.on h))
        rw [bts_list] at HA1 HA2
        clear q0 q1 q2
        have hfar : ∀ b, (Value.slice ad k cp).ownBlock = some b → b ≠ w4.heap.size := fun b hb => by have := (own_ge own5 b hb).2; omega
        have hne4 : b4 ≠ w4.heap.size := by omega
        have lt5 := bk5.lt
        change w5.cell? _ = some (.string (bts T0)) at r1
        change w5.cell? _ = some (.string (bts T1)) at r2
        go_upto_region 11 with (first
          | (go_at_call 20; ((with_reducible refine (HA1.out _ hB5).mono ?_); rintro e w6 ⟨⟨er1, rfl, _, _⟩, hb6⟩; have hB6 := below_tr hB5 hb6; have bk6 := bk5.below hb6 lt5; have s2 := ((bcell hb6).1 b4 (o4 + 1) (by omega)).trans r2; have f6 := bk6.frozen 0; have c6 : w6.cell? ⟨w4.heap.size, 0, none⟩ = some (.int .i64 0) := bk6.cell 0; have own7 := own_far (p := ⟨w4.heap.size, 0, none⟩) (u := .int .i64 (valA T0)) (own_on own6 hb6) hfar; have bk7 := bk6.set_ 0 (.int .i64 (valA T0)); have hB7 := hB6.setCell (p := ⟨w4.heap.size, 0, none⟩) hB4.size (.int .i64 (valA T0)); have lt7 := bk7.lt))
          | (go_at_call 20; ((with_reducible refine (HA2.out _ hB7).mono ?_); rintro e w8 ⟨⟨er2, rfl, _, _⟩, hb8⟩; have hB8 := below_tr hB7 hb8; have bk8 := bk7.below hb8 lt7; have f8 := bk8.frozen 1; have c8 : w8.cell? ⟨w4.heap.size, 1, none⟩ = some (.int .i64 0) := bk8.cell 1; have own9 := own_far (p := ⟨w4.heap.size, 1, none⟩) (u := .int .i64 (valA T1)) (own_on own7 hb8) hfar; have bk9 := bk8.set_ 1 (.int .i64 (valA T1)); have hB9 := hB8.setCell (p := ⟨w4.heap.size, 1, none⟩) hB4.size (.int .i64 (valA T1)))))
        change Blk _ _ _ #[.int .i64 (valA T0), .int .i64 (valA T1), .bool WB] at bk9
        have hz9 : w4.heap.size ≤ (w8.setCell ⟨w4.heap.size, 1, none⟩ (.int .i64 (valA T1))).heap.size := Nat.le_of_lt bk9.lt
        generalize w8.setCell ⟨w4.heap.size, 1, none⟩ (.int .i64 (valA T1)) = w9 at *
        have hz4 := hB4.size
        have e0 := bk9.cell 0
        have e1 := bk9.cell 1
        have e2 := bk9.cell 2
        simp only [List.getElem?_toArray, List.getElem?_cons_zero, List.getElem?_cons_succ] at e0 e1 e2
        clear c6 c8 s2 f6 f8 bk6 bk7 bk8 own7 own6 own5 hb6 hb8 r1 r2 HA1 HA2
        go_upto_region 12 with (at_builtin; (refine wpList_append_own _ rfl _ _ 22 rfl w.heap.size 34 ii (.agg #[.int .i64 0, .int .i64 0, .bool false]) 3 24 (by kernel_rfl) hi hi1 hi2 hi3 rfl (by omega) _ _ _ rfl (own9.alloc _) ⟨w9.heap.size, 0, none⟩ 1 1 (Pr.cs ⟨⟨valA T0, valA T1⟩, WB⟩) rfl rfl (cells_new w9 (Pr.cs ⟨⟨valA T0, valA T1⟩, WB⟩) 34) (fun u hu => by simp [Pr.cs] at hu; rcases hu with rfl | rfl | rfl <;> rfl) (by unfold maxLen; omega) (by omega) (by simp; omega) ?_; intro v10 w10 hown10 hgrow10 _))
        have bk10 := (bk9.alloc (.cells (Pr.cs ⟨⟨valA T0, valA T1⟩, WB⟩).toArray 34)).grown hgrow10 (fun h => hfar _ h.symm rfl)
        have hB10 : Below w.heap.size w w10 := bl_app hB9 own9 hgrow10 (Nat.le_refl _) hB9.size
        have i0 := bk10.cell 0
        have i1 := bk10.cell 1
        have i2 := bk10.cell 2
        simp only [List.getElem?_toArray, List.getElem?_cons_zero, List.getElem?_cons_succ] at i0 i1 i2
        have hkg := HH.out.2
        obtain ⟨X, hX⟩ : ∃ X : Pr, X = ⟨⟨valA T0, valA T1⟩, WB⟩ := ⟨_, rfl⟩
        have hxb : -9223372036854775808 ≤ X.a.x ∧ X.a.x ≤ 9223372036854775807 ∧ -9223372036854775808 ≤ X.a.y ∧ X.a.y ≤ 9223372036854775807 := by rw [hX]; exact ⟨hvb1.1, hvb1.2, hvb2.1, hvb2.2⟩
        have HLN := Lib.hid (fun W (h : Below w.heap.size w W) => p_lineOf X W hxb.1 hxb.2.1 hxb.2.2.1 hxb.2.2.2 (hL.on h))
        have hgl : (g ++ [X]).length = k + 1 := by simp [hkg]
        rw [show fl Pr.cs g ++ Pr.cs ⟨⟨valA T0, valA T1⟩, WB⟩ = fl Pr.cs (g ++ [X]) by rw [fl_snoc, hX], ← hgl] at hown10
        obtain ⟨A5, c5, rfl, rd5⟩ := own_rd Pr.cs_len hown10
        have hown11 := hgl ▸ hown10
        have HVD := Lib.hid (fun W v (hv : vP (g ++ [X]) = v) (h : Below w10.heap.size w10 W) => (show Calls Tryz.prog 14 #[.slice A5 (k + 1) c5] W (fun e w' => e = .returned (.bool v) ∧ Below W.heap.size W w') by
          have := p_ValidV (c := c5) hv (by rw [hgl]; omega) (rd5.on h)
          rwa [hgl] at this))
        have hcmp : ((bts (lnP X)).toList == (bts T).toList) = decide (lnP X = T) := by rw [seq_eq, bts_list, bts_list]
        have HRX := Lib.hid (show rdP2 T = X from hRD.out.trans hX.symm)
        rw [HRX.out] at HST
        have HLI := Lib.hid (show Calls Tryz.prog 16 #[.agg #[.int .i64 (valA T0), .int .i64 (valA T1), .bool WB]] w10 (fun e w' => e = .returned (.string (bts (lnP X))) ∧ Below w10.heap.size w10 w') by have := HLN.out w10 hB10; rw [hX] at this ⊢; exact this)
        clear HLN hRD HRX own9 hown10 hX bk9 bk5 hgrow10 e0 e1 e2
        have hbR : (bts R).size < (bts L).size := by rw [bts_size, bts_size]; exact hc2
        rcases (by cases E <;> by_cases h1 : lnP X = T <;> cases vP (g ++ [X]) <;> simp [h1] : E = false ∨ (E = true ∧ ¬ lnP X = T) ∨ (E = true ∧ lnP X = T ∧ vP (g ++ [X]) = false) ∨ (E = true ∧ lnP X = T ∧ vP (g ++ [X]) = true)) with he | ⟨he, h1⟩ | ⟨he, h1, h2⟩ | ⟨he, h1, h2⟩
        · subst he
          have HB := Lib.hid (show paF L0 = ([], k, false) by rw [HH.out.1, HST.out, if_neg (fun q => Bool.noConfusion q.1)])
          clear HST HH HGD HVD hcmp HLI
          go_wp2
          go_ret3
          exact HBAD.out _ _ HB.out hB10
        · subst he
          rw [decide_eq_false h1] at hcmp
          have HB := Lib.hid (show paF L0 = ([], k, false) by rw [HH.out.1, HST.out, if_neg (fun q => h1 q.2.1)])
          clear HST HH HGD HVD h1
          go_wp2_with (go_at_call 16; ((with_reducible refine HLI.out.mono ?_); rintro e w11 ⟨rfl, hb11⟩))
          go_ret3
          exact HBAD.out _ _ HB.out (below_tr hB10 hb11)
        · subst he
          rw [decide_eq_true h1] at hcmp
          have HB := Lib.hid (show paF L0 = ([], k, false) by rw [HH.out.1, HST.out, if_neg (fun q => by rw [h2] at q; exact Bool.noConfusion q.2.2)])
          have HV := Lib.hid (fun W (h : Below w10.heap.size w10 W) => HVD.out W false h2 h)
          clear HST HH HGD HVD h1 h2
          go_wp2_with (first
            | (go_at_call 16; ((with_reducible refine HLI.out.mono ?_); rintro e w11 ⟨rfl, hb11⟩))
            | (go_at_call 14; ((with_reducible refine (HV.out _ hb11).mono ?_); rintro e w12 ⟨rfl, hb12⟩)))
          go_ret3
          exact HBAD.out _ _ HB.out (below_tr (below_tr hB10 hb11) hb12)
        · subst he
          rw [decide_eq_true h1] at hcmp
          have HN := Lib.hid (show paF L0 = lnGo rdP2 lnP vP m (k + 1) (g ++ [X]) R ∧ (g ++ [X]).length = k + 1 from ⟨by rw [HH.out.1, HST.out, if_pos ⟨rfl, h1, h2⟩], hgl⟩)
          have HV := Lib.hid (fun W (h : Below w10.heap.size w10 W) => HVD.out W true h2 h)
          have HOW := Lib.hid (fun W (h : Below w10.heap.size w10 W) => own_on hown11 h)
          clear HST HH HGD HVD h1 h2
          go_wp2_with (first
            | (go_at_call 16; ((with_reducible refine HLI.out.mono ?_); rintro e w11 ⟨rfl, hb11⟩))
            | (go_at_call 14; ((with_reducible refine (HV.out _ hb11).mono ?_); rintro e w12 ⟨rfl, hb12⟩)))
          go_roundw
          case rel => exact ⟨k + 1, m, g ++ [X], R, rfl, by go_num, HOW.out _ (below_tr hb11 hb12), below_tr (below_tr hB10 hb11) hb12, by omega, by omega, HN⟩
          case measure => exact hbR
end Go.Proofs.YthklgkgincebhaaGreatDoor.T6
