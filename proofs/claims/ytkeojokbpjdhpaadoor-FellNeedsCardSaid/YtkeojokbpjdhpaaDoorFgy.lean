/- Fell: After, Right and Fells of the reference. -/
import Derived.Test.YtkeojokbpjdhpaaDoorFgv
set_option linter.unusedSimpArgs false
set_option linter.unusedVariables false
namespace Go.Proofs.YtkeojokbpjdhpaaDoor
open Go.RowKit Go.Shelf

def mK (M : List Bool) (k : Nat) : List Int := nZ ((List.range k).filter fun i => M.getD i false)
theorem mK_yes {M : List Bool} {k : Nat} (h : M.getD k false = true) : mK M (k + 1) = mK M k ++ [(k : Int)] := by
  unfold mK nZ; rw [List.range_succ, List.filter_append, List.map_append, List.filter_cons_of_pos (by simpa using h), List.filter_nil, List.map_cons, List.map_nil]
theorem mK_no {M : List Bool} {k : Nat} (h : M.getD k false = false) : mK M (k + 1) = mK M k := by
  unfold mK nZ; rw [List.range_succ, List.filter_append, List.map_append, List.filter_cons_of_neg (by show ¬ M.getD k false = true; rw [h]; simp), List.filter_nil, List.map_nil, List.append_nil]
theorem mK_len (M : List Bool) (k : Nat) : (mK M k).length ≤ k := by
  unfold mK nZ; rw [List.length_map]
  have := List.length_filter_le (fun i => M.getD i false) (List.range k)
  simpa using this
theorem mK_all (M : List Bool) : mK M M.length = nZ (mM M) := rfl
set_option maxHeartbeats 4000000 in
set_option maxRecDepth 20000 in
theorem r_After (A B : Option Addr) (l : List Pr) (ds : List Int) (c d : Nat) (w : World) (hl : l.length ≤ 100) (hd : ds.length ≤ 100000) (hR : Rd Pr.cs 3 w A l) (hB : Rd zC 1 w B ds) :
    Calls Tryd.prog 9 #[.slice A l.length c, .slice B ds.length d] w (AftP l ds w) := by
  have HEE := Lib.hid (show aftE l ds = if vP l = true then (if lsB l.length ds = true then (match aftO l ds with | some _ => 0 | none => 10) else 7) else 1 from rfl)
  have HLL := Lib.hid (show aftL l ds = if aftE l ds = 0 then nZ (mM (afM l ds)) else [] from rfl)
  unfold AftP
  cases hv : vP l
  · have hE : aftE l ds = 1 := by rw [HEE.out, hv]; rfl
    have hL : aftL l ds = [] := by rw [HLL.out, hE]; rfl
    have HN := Lib.hid (r_numberedNo A B l ds c d w (by omega) hv hR)
    rw [hE, hL]
    clear hE hL hv
    go_enter Tryd.func9, Tryd.ntmps9
    go_wp2_with fail
    refine HN.out.mono ?_
    rintro e w1 ⟨rfl, hb1⟩
    go_wp2
    go_ret2
    exact ⟨_, rfl, ownZ_nil _ _, hb1⟩
  have HN := Lib.hid (r_numbered A B l ds c d w hl hd hv hR hB)
  cases hls : lsB l.length ds
  · have hE : aftE l ds = 7 := by rw [HEE.out, hv, hls]; rfl
    have hL : aftL l ds = [] := by rw [HLL.out, hE]; rfl
    rw [show numE l.length ds = 7 by unfold numE; rw [hls]; rfl] at HN
    rw [hE, hL]
    clear hE hL hv hls
    go_enter Tryd.func9, Tryd.ntmps9
    go_wp2_with fail
    refine HN.out.mono ?_
    rintro e w1 ⟨rfl, hb1⟩
    go_wp2
    go_ret2
    exact ⟨_, rfl, ownZ_nil _ _, hb1⟩
  rw [show numE l.length ds = 0 by unfold numE; rw [if_pos hls]] at HN
  obtain ⟨_, hmem⟩ := lsB_mem hls
  have HT := Lib.hid (fun (W : World) (hb : Below w.heap.size w W) => r_there A B l.length c d ds W hl hd hmem (hB.on hb))
  have hO0 : aftO l ds = thM (List.replicate l.length true) ds := rfl
  rw [← hO0] at HT
  cases hO : aftO l ds with
  | none =>
    have hE : aftE l ds = 10 := by rw [HEE.out, hv, hls, hO]; rfl
    have hL : aftL l ds = [] := by rw [HLL.out, hE]; rfl
    rw [hE, hL]
    rw [hO] at HT
    unfold TheP at HT
    dsimp only at HT
    clear hE hL hv hls hO hmem hO0
    go_enter Tryd.func9, Tryd.ntmps9
    go_wp2_with fail
    refine HN.out.mono ?_
    rintro e w1 ⟨rfl, hb1⟩
    go_wp2_with fail
    refine (HT.out _ hb1).mono ?_
    rintro e w2 ⟨rfl, hb2⟩
    go_wp2
    go_ret2
    exact ⟨_, rfl, ownZ_nil _ _, below_tr hb1 hb2⟩
  | some m =>
    have hE : aftE l ds = 0 := by rw [HEE.out, hv, hls, hO]; rfl
    have hml := thM_len' (hO0 ▸ hO)
    have hL : aftL l ds = mK m l.length := by rw [HLL.out, hE, if_pos rfl, ← hml, mK_all]; unfold afM; rw [← hO0, hO]; rfl
    rw [hE, hL]
    rw [hO] at HT
    unfold TheP at HT
    dsimp only at HT
    obtain ⟨i0, hi, hi1, hi2, hi3⟩ := info_int4
    have HLN := Lib.hid (mK_len m)
    clear hE hL hv hls hO hmem hO0
    go_enter Tryd.func9, Tryd.ntmps9
    go_wp2_with fail
    refine HN.out.mono ?_
    rintro e w1 ⟨rfl, hb1⟩
    go_wp2_with fail
    refine (HT.out _ hb1).mono ?_
    rintro e w2 ⟨g, rfl, hg, hgw, hb2⟩
    have B2 := below_tr hb1 hb2
    go_wp2_with fail
    go_loopw [9, 10] (fun v i wr => ∃ k : Nat, k ≤ l.length ∧ i = .int .i64 k ∧ Below w2.heap.size w2 wr ∧ wr.ownsRow w2.heap.size 3 1 v (mK m k).length (fl zC (mK m k))) (fun _ i _ => l.length - (intOf i).toNat)
    case atStart => exact ⟨0, by omega, rfl, below_refl _, World.ownsRow_nil w2 _ _ _⟩
    case round =>
      obtain ⟨k, hk, rfl, hbw, hown⟩ := hrel
      obtain ⟨ad, cp, rfl⟩ := own_slice hown
      have k0 : (0 : Int) ≤ (k : Int) := Int.natCast_nonneg _
      have hws := hbw.size
      by_cases hlt : k < l.length
      · have k1 : (k : Int) < (l.length : Int) := by omega
        have hgr := hg.below hbw hg.lt
        have q0 := blk_get hgr (show k < m.length by omega)
        have lg := hgr.lt
        have hln := HLN.out k
        rename World => wr
        cases hmk : m.getD k false
        · have HS := Lib.hid (mK_no hmk)
          rw [hmk] at q0
          clear hmk
          go_wp2
          go_roundw
          case rel => exact ⟨k + 1, by omega, by go_num, hbw, by rw [HS.out]; exact hown⟩
          case measure => simp [intOf]; omega
        · have HS := Lib.hid (mK_yes hmk)
          rw [hmk] at q0
          clear hmk
          go_wp2_with (at_builtin; refine wpList_append_own _ rfl _ _ 25 rfl w2.heap.size 3 i0 (.int .i64 0) 1 8 (by kernel_rfl) hi hi1 hi2 hi3 rfl (by omega) _ _ _ rfl (hown.alloc _) ⟨wr.heap.size, 0, none⟩ 1 1 (zC (k : Int)) rfl rfl (cells_new wr (zC (k : Int)) 3) (zC_oneI k) (by unfold maxLen; omega) (by omega) (by simp; omega) ?_; intro v' w9 hown9 hgrow _)
          go_roundw
          case rel => exact ⟨k + 1, by omega, by go_num, bl_app hbw hown hgrow (Nat.le_refl _) hbw.size, by rw [HS.out, fl_snocZ, List.length_append]; exact hown9⟩
          case measure => simp [intOf]; omega
      · obtain rfl : k = l.length := by omega
        go_wp2
        go_ret2
        exact ⟨_, rfl, own_base hown B2.size, below_tr B2 hbw⟩
theorem soV_cases (l : List Pr) (s : Sp) (o : Option (List Bool)) : (o = none ∧ soV l s o = .tuple #[.bool false, .bool false]) ∨ ∃ m, o = some m ∧ soV l s o = .tuple #[.bool true, .bool (heldB (lfS l m) s)] := by
  cases o with
  | none => exact .inl ⟨rfl, rfl⟩
  | some m => exact .inr ⟨m, rfl, rfl⟩
theorem take_rd {w : World} {B : Option Addr} {ds : List Int} (h : Rd zC 1 w B ds) (n : Nat) : Rd zC 1 w B (ds.take n) := rd_takeA h n
set_option maxHeartbeats 4000000 in
set_option maxRecDepth 20000 in
theorem r_Right (A B : Option Addr) (l : List Pr) (s : Sp) (ds : List Int) (c d : Nat) (w : World) (hl : l.length ≤ 100) (hd : ds.length ≤ 100000) (hdc : ds.length ≤ d) (hdm : d ≤ maxLen) (hR : Rd Pr.cs 3 w A l) (hB : Rd zC 1 w B ds) :
    Calls Tryd.prog 13 #[.slice A l.length c, spV s, .slice B ds.length d] w fun e w' => e = .returned (.bool (riA l s ds)) ∧ Below w.heap.size w w' := by
  have x0 := Blk.new w 24 (spA s)
  have B0 := bl_alloc (below_refl w) (.cells (spA s) 24)
  have p0 := x0.cell 0
  have p1 := x0.cell 1
  simp only [List.getElem?_toArray, List.getElem?_cons_zero, List.getElem?_cons_succ] at p0 p1
  have lx := x0.lt
  have HRI := Lib.hid (show riA l s ds = (vP l && (isS s && (lsB l.length ds && (List.range ds.length).all (riB l s ds)))) from rfl)
  unfold maxLen at hdm
  cases hv : vP l
  · have HN := Lib.hid (r_numberedNo A B l ds c d _ (by omega) hv (hR.on B0))
    rw [show riA l s ds = false by rw [HRI.out, hv]; rfl]
    clear hv HRI
    go_enter Tryd.func13, Tryd.ntmps13
    go_wp2_with fail
    refine HN.out.mono ?_
    rintro e w1 ⟨rfl, hb1⟩
    go_wp2
    go_ret
    exact ⟨rfl, below_tr B0 hb1⟩
  have HN := Lib.hid (r_numbered A B l ds c d _ hl hd hv (hR.on B0) (hB.on B0))
  cases hls : lsB l.length ds
  · rw [show riA l s ds = false by rw [HRI.out, hv, hls]; simp]
    rw [show numE l.length ds = 7 by unfold numE; rw [hls]; rfl] at HN
    clear hv hls HRI
    go_enter Tryd.func13, Tryd.ntmps13
    go_wp2_with fail
    refine HN.out.mono ?_
    rintro e w1 ⟨rfl, hb1⟩
    go_wp2
    go_ret
    exact ⟨rfl, below_tr B0 hb1⟩
  rw [show numE l.length ds = 0 by unfold numE; rw [if_pos hls]] at HN
  obtain ⟨_, hmem⟩ := lsB_mem hls
  cases hs : isS s
  · have Q := Lib.hid (r_IsSpotV hs)
    rw [show riA l s ds = false by rw [HRI.out, hv, hs]; rfl]
    clear hv hls hs HRI hmem
    go_enter Tryd.func13, Tryd.ntmps13
    go_wp2_with fail
    refine HN.out.mono ?_
    rintro e w1 ⟨rfl, hb1⟩
    have x1 := x0.below hb1 x0.lt
    have p0 := x1.cell 0
    have p1 := x1.cell 1
    simp only [List.getElem?_toArray, List.getElem?_cons_zero, List.getElem?_cons_succ] at p0 p1
    have lx1 := x1.lt
    go_wp2_with fail
    refine (Q.out _).mono ?_
    rintro e w2 ⟨rfl, hb2⟩
    go_wp2
    go_ret
    exact ⟨rfl, below_tr (below_tr B0 hb1) hb2⟩
  have Q := Lib.hid (r_IsSpotV hs)
  have hri : riA l s ds = (List.range ds.length).all (riB l s ds) := by rw [HRI.out, hv, hs, hls]; rfl
  have HST := Lib.hid (fun (W : World) (hb : Below w.heap.size w W) (k : Nat) (hk : k ≤ ds.length) => (show Calls Tryd.prog 43 #[.slice A l.length c, spV s, .slice B k d] W fun e w' => e = .returned (soV l s (thM (List.replicate l.length true) (ds.take k))) ∧ Below W.heap.size W w' from (by
    have hlk : (ds.take k).length = k := by rw [List.length_take]; omega
    have := r_stood A B l s (ds.take k) c d W hv hs (by omega) (fun x hx => hmem x (List.mem_of_mem_take hx)) (hR.on hb) (take_rd (hB.on hb) k)
    rwa [hlk] at this)))
  have HRB := Lib.hid (fun k => (show riB l s ds k = match thM (List.replicate l.length true) (ds.take (k + 1)) with
    | none => false
    | some m => decide (k + 1 = ds.length) || heldB (lfS l m) s from rfl))
  rw [hri]
  obtain ⟨R, hRR⟩ : ∃ R, R = (List.range ds.length).all (riB l s ds) := ⟨_, rfl⟩
  have HNO := Lib.hid (fun k (hk : k < ds.length) (h : riB l s ds k = false) => (show R = false by rw [hRR, List.all_eq_false]; exact ⟨k, by simpa using hk, by simp [h]⟩))
  have HYES := Lib.hid (fun (h : (List.range ds.length).all (riB l s ds) = true) => (hRR.trans h : R = true))
  rw [← hRR]
  clear hv hls hs HRI hmem hri hRR hR hB
  obtain ⟨N, hN⟩ : ∃ N, N = ds.length := ⟨_, rfl⟩
  go_enter Tryd.func13, Tryd.ntmps13
  go_wp2_with fail
  refine HN.out.mono ?_
  rintro e w1 ⟨rfl, hb1⟩
  have B1 := below_tr B0 hb1
  have x1 := x0.below hb1 x0.lt
  have p0 := x1.cell 0
  have p1 := x1.cell 1
  simp only [List.getElem?_toArray, List.getElem?_cons_zero, List.getElem?_cons_succ] at p0 p1
  have lx1 := x1.lt
  clear x0 B0 hb1 HN
  go_wp2_with fail
  refine (Q.out _).mono ?_
  rintro e w2 ⟨rfl, hb2⟩
  have B2 := below_tr B1 hb2
  have x2 := x1.below hb2 x1.lt
  clear x1 B1 hb2 Q p0 p1 lx lx1 hN
  clear N
  go_wp2_with fail
  go_loopw [7] (fun i wr => ∃ k : Nat, k ≤ ds.length ∧ i = .int .i64 ((k : Int) + 1) ∧ Below w.heap.size w wr ∧ Blk wr w.heap.size 24 (spA s) ∧ Hid ((List.range k).all (riB l s ds) = true)) (fun i _ => ds.length + 1 - (intOf i).toNat)
  case atStart => exact ⟨0, by omega, by simp, B2, x2, Lib.hid rfl⟩
  case round =>
    clear B2 x2
    obtain ⟨k, hk, rfl, hbw, xb, HI⟩ := hrel
    have k0 : (0 : Int) ≤ (k : Int) := Int.natCast_nonneg _
    by_cases hlt : k < ds.length
    · have k1 : (k : Int) + 1 ≤ (ds.length : Int) := by omega
      have k2 : (0 : Int) ≤ (k : Int) + 1 := by omega
      have k3 : (k : Int) + 1 ≤ (d : Int) := by omega
      have kt : ((k : Int) + 1).toNat = k + 1 := by omega
      have hST := HST.out
      have hC := fun W hb => HST.out W hb (k + 1) (by omega)
      have hrb := HRB.out k
      have p0 := xb.cell 0
      have p1 := xb.cell 1
      simp only [List.getElem?_toArray, List.getElem?_cons_zero, List.getElem?_cons_succ] at p0 p1
      have lx := xb.lt
      rename World => wr
      clear hST
      rcases soV_cases l s (thM (List.replicate l.length true) (ds.take (k + 1))) with ⟨ho, hv⟩ | ⟨m, ho, hv⟩
      · rw [ho] at hrb
        rw [hv] at hC
        have HC := Lib.hid hC
        have HE := Lib.hid (HNO.out k hlt hrb)
        clear hC hrb ho hv HI
        go_wp2_with fail
        go_region_held3 (fun w' => (∀ b o, b < wr.heap.size → w'.cell? ⟨b, o, none⟩ = wr.cell? ⟨b, o, none⟩) ∧ (∀ b o, b < wr.heap.size → w'.frozen? ⟨b, o, none⟩ = wr.frozen? ⟨b, o, none⟩) ∧ Below wr.heap.size wr w') ((first | assumption | (refine kp_of ?_; (repeat' (first | assumption | exact below_refl _ | refine bl_alloc ?_ _ | refine Below.setCell ?_ ?_ _ | refine below_draw ?_ | refine below_drewN ?_ _ | refine below_tr ?_ (by assumption))) <;> (first | omega | (simp; done) | (simp; omega))))) ((first | (go_at_call 43; ((with_reducible refine (HC.out _ (by (repeat' (first | assumption | exact below_refl _ | refine bl_alloc ?_ _ | refine Below.setCell ?_ ?_ _ | refine below_draw ?_ | refine below_drewN ?_ _ | refine below_tr ?_ (by assumption))) <;> (first | omega | (simp; done) | (simp; omega)))).mono ?_); rintro e w4 ⟨rfl, hb4⟩; obtain ⟨hc4, hf4⟩ := bcell hb4; have hz4 := hb4.size; (try simp [sz_drew, sz_drewN] at hz4); (try simp only [sz_drew, sz_drewN] at hc4 hf4)))))
        all_goals
          go_wp2
          go_ret
          exact ⟨ret_bool HE.out.symm, by (repeat' (first | assumption | exact below_refl _ | refine bl_alloc ?_ _ | refine Below.setCell ?_ ?_ _ | refine below_draw ?_ | refine below_drewN ?_ _ | refine below_tr ?_ (by assumption))) <;> (first | omega | (simp; done) | (simp; omega))⟩
      · rw [ho] at hrb
        rw [hv] at hC
        dsimp only at hrb
        have HC := Lib.hid hC
        generalize heldB (lfS l m) s = V at *
        have hn1 : (k : Int) + 1 < (ds.length : Int) ∨ (k + 1 = ds.length) := by omega
        rcases hn1 with hn1 | hn1
        · have d1 : decide ((k : Int) + 1 < (ds.length : Int)) = true := decide_eq_true hn1
          rw [show decide (k + 1 = ds.length) = false from decide_eq_false (by omega), Bool.false_or] at hrb
          cases V
          · have HE := Lib.hid (HNO.out k hlt hrb)
            clear hC hrb ho hv HI
            go_wp2_with fail
            go_region_held3 (fun w' => (∀ b o, b < wr.heap.size → w'.cell? ⟨b, o, none⟩ = wr.cell? ⟨b, o, none⟩) ∧ (∀ b o, b < wr.heap.size → w'.frozen? ⟨b, o, none⟩ = wr.frozen? ⟨b, o, none⟩) ∧ Below wr.heap.size wr w') ((first | assumption | (refine kp_of ?_; (repeat' (first | assumption | exact below_refl _ | refine bl_alloc ?_ _ | refine Below.setCell ?_ ?_ _ | refine below_draw ?_ | refine below_drewN ?_ _ | refine below_tr ?_ (by assumption))) <;> (first | omega | (simp; done) | (simp; omega))))) ((first | (go_at_call 43; ((with_reducible refine (HC.out _ (by (repeat' (first | assumption | exact below_refl _ | refine bl_alloc ?_ _ | refine Below.setCell ?_ ?_ _ | refine below_draw ?_ | refine below_drewN ?_ _ | refine below_tr ?_ (by assumption))) <;> (first | omega | (simp; done) | (simp; omega)))).mono ?_); rintro e w4 ⟨rfl, hb4⟩; obtain ⟨hc4, hf4⟩ := bcell hb4; have hz4 := hb4.size; (try simp [sz_drew, sz_drewN] at hz4); (try simp only [sz_drew, sz_drewN] at hc4 hf4)))))
            all_goals
              go_wp2
              go_ret
              exact ⟨ret_bool HE.out.symm, by (repeat' (first | assumption | exact below_refl _ | refine bl_alloc ?_ _ | refine Below.setCell ?_ ?_ _ | refine below_draw ?_ | refine below_drewN ?_ _ | refine below_tr ?_ (by assumption))) <;> (first | omega | (simp; done) | (simp; omega))⟩
          · have HN := Lib.hid (show (List.range (k + 1)).all (riB l s ds) = true by rw [List.range_succ, List.all_append, HI.out]; simp [hrb])
            clear hC hrb ho hv HI
            go_wp2_with fail
            go_region_held3 (fun w' => (∀ b o, b < wr.heap.size → w'.cell? ⟨b, o, none⟩ = wr.cell? ⟨b, o, none⟩) ∧ (∀ b o, b < wr.heap.size → w'.frozen? ⟨b, o, none⟩ = wr.frozen? ⟨b, o, none⟩) ∧ Below wr.heap.size wr w') ((first | assumption | (refine kp_of ?_; (repeat' (first | assumption | exact below_refl _ | refine bl_alloc ?_ _ | refine Below.setCell ?_ ?_ _ | refine below_draw ?_ | refine below_drewN ?_ _ | refine below_tr ?_ (by assumption))) <;> (first | omega | (simp; done) | (simp; omega))))) ((first | (go_at_call 43; ((with_reducible refine (HC.out _ (by (repeat' (first | assumption | exact below_refl _ | refine bl_alloc ?_ _ | refine Below.setCell ?_ ?_ _ | refine below_draw ?_ | refine below_drewN ?_ _ | refine below_tr ?_ (by assumption))) <;> (first | omega | (simp; done) | (simp; omega)))).mono ?_); rintro e w4 ⟨rfl, hb4⟩; obtain ⟨hc4, hf4⟩ := bcell hb4; have hz4 := hb4.size; (try simp [sz_drew, sz_drewN] at hz4); (try simp only [sz_drew, sz_drewN] at hc4 hf4)))))
            all_goals go_wp2
            all_goals (
              go_roundw
              case rel => exact ⟨k + 1, by omega, by go_num, below_tr hbw (by (repeat' (first | assumption | exact below_refl _ | refine bl_alloc ?_ _ | refine Below.setCell ?_ ?_ _ | refine below_draw ?_ | refine below_drewN ?_ _ | refine below_tr ?_ (by assumption))) <;> (first | omega | (simp; done) | (simp; omega))), xb.below (by (repeat' (first | assumption | exact below_refl _ | refine bl_alloc ?_ _ | refine Below.setCell ?_ ?_ _ | refine below_draw ?_ | refine below_drewN ?_ _ | refine below_tr ?_ (by assumption))) <;> (first | omega | (simp; done) | (simp; omega))) xb.lt, HN.out⟩
              case measure => simp [intOf]; omega)
        · have hn2 : (ds.length : Int) ≤ (k : Int) + 1 := by omega
          have d1 : decide ((k : Int) + 1 < (ds.length : Int)) = false := decide_eq_false (by omega)
          rw [show decide (k + 1 = ds.length) = true from decide_eq_true hn1, Bool.true_or] at hrb
          have HN := Lib.hid (show (List.range (k + 1)).all (riB l s ds) = true by rw [List.range_succ, List.all_append, HI.out]; simp [hrb])
          clear hC hrb ho hv HI hn1
          go_wp2_with fail
          go_region_held3 (fun w' => (∀ b o, b < wr.heap.size → w'.cell? ⟨b, o, none⟩ = wr.cell? ⟨b, o, none⟩) ∧ (∀ b o, b < wr.heap.size → w'.frozen? ⟨b, o, none⟩ = wr.frozen? ⟨b, o, none⟩) ∧ Below wr.heap.size wr w') ((first | assumption | (refine kp_of ?_; (repeat' (first | assumption | exact below_refl _ | refine bl_alloc ?_ _ | refine Below.setCell ?_ ?_ _ | refine below_draw ?_ | refine below_drewN ?_ _ | refine below_tr ?_ (by assumption))) <;> (first | omega | (simp; done) | (simp; omega))))) ((first | (go_at_call 43; ((with_reducible refine (HC.out _ (by (repeat' (first | assumption | exact below_refl _ | refine bl_alloc ?_ _ | refine Below.setCell ?_ ?_ _ | refine below_draw ?_ | refine below_drewN ?_ _ | refine below_tr ?_ (by assumption))) <;> (first | omega | (simp; done) | (simp; omega)))).mono ?_); rintro e w4 ⟨rfl, hb4⟩; obtain ⟨hc4, hf4⟩ := bcell hb4; have hz4 := hb4.size; (try simp [sz_drew, sz_drewN] at hz4); (try simp only [sz_drew, sz_drewN] at hc4 hf4)))))
          all_goals go_wp2
          all_goals (
            go_roundw
            case rel => exact ⟨k + 1, by omega, by go_num, below_tr hbw (by (repeat' (first | assumption | exact below_refl _ | refine bl_alloc ?_ _ | refine Below.setCell ?_ ?_ _ | refine below_draw ?_ | refine below_drewN ?_ _ | refine below_tr ?_ (by assumption))) <;> (first | omega | (simp; done) | (simp; omega))), xb.below (by (repeat' (first | assumption | exact below_refl _ | refine bl_alloc ?_ _ | refine Below.setCell ?_ ?_ _ | refine below_draw ?_ | refine below_drewN ?_ _ | refine below_tr ?_ (by assumption))) <;> (first | omega | (simp; done) | (simp; omega))) xb.lt, HN.out⟩
            case measure => simp [intOf]; omega)
    · obtain rfl : k = ds.length := by omega
      have HE := Lib.hid (HYES.out HI.out)
      go_wp2
      go_ret
      exact ⟨ret_bool HE.out.symm, hbw⟩
end Go.Proofs.YtkeojokbpjdhpaaDoor
