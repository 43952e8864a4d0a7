/- Fell: deeds by the reference: numbered, there, left, stood. -/
import Derived.Test.YtkeojokbpjdhpaaGreatDoorFgd
import Derived.Laws.MakeOwn
import Derived.Test.YtkeojokbpjdhpaaGreatDoorFz3
set_option linter.unusedSimpArgs false
set_option linter.unusedVariables false
namespace Go.Proofs.YtkeojokbpjdhpaaGreatDoor
open Go.RowKit Go.Shelf

def bA (M : List Bool) : Array Value := (M.map Value.bool).toArray
theorem bA_get {M : List Bool} {i : Nat} (h : i < M.length) : (bA M)[i]? = some (.bool (M.getD i false)) := by
  unfold bA; simp [List.getD, h]
theorem bA_set (M : List Bool) (i : Nat) (b : Bool) : (bA M).setIfInBounds i (.bool b) = bA (M.set i b) := by
  unfold bA; simp [List.map_set]
theorem bA_made (n : Nat) : madeCells (Value.bool false).cells (n * 1) = bA (List.replicate n false) := by
  have : (Value.bool false).cells = #[.bool false] := rfl
  rw [this, Nat.mul_one]
  apply Array.toList_inj.1
  rw [toList_madeCells_one]; unfold bA; simp
theorem info_bool3 : ∃ i : TypeInfo, Tryz.prog.info? 4 = some i ∧ i.zero = some (.bool false) ∧ i.size = 1 ∧ i.bytes = 1 := info_parts (by kernel_rfl)
theorem run_mkB (n : Nat) (hn : n ≤ 1000) (w : World) : (Instr.makeSlice 79 (.int .i64 (n : Int)) (.int .i64 (n : Int))).run Tryz.prog w = .ok (.slice (some ⟨w.heap.size, 0, none⟩) n n) (w.alloc (.cells (bA (List.replicate n false)) 4)) := by
  obtain ⟨i, h1, h2, h3, h4⟩ := info_bool3
  have := run_makeSlice (P := Tryz.prog) w 79 4 i (.bool false) (by kernel_rfl) h1 h2 .i64 .i64 n n (by omega) (by omega) (by rw [h3]; omega) (by rw [h4]; omega) (by omega)
  rw [this, h3, Int.toNat_natCast, bA_made]
theorem blk_get {w : World} {g : Nat} {t : TypeId} {M : List Bool} (h : Blk w g t (bA M)) {i : Nat} (hi : i < M.length) : w.cell? ⟨g, i, none⟩ = some (.bool (M.getD i false)) := by
  rw [h.cell, bA_get hi]
theorem blk_put {w : World} {g : Nat} {t : TypeId} {M : List Bool} (h : Blk w g t (bA M)) (i : Nat) (b : Bool) : Blk (w.setCell ⟨g, i, none⟩ (.bool b)) g t (bA (M.set i b)) := by
  have := h.set_ i (.bool b)
  rwa [bA_set] at this
theorem all_true {M : List Bool} {n : Nat} (h : M.length = n) (ht : ∀ i, i < n → M.getD i false = true) : M = List.replicate n true := by
  refine List.ext_getElem (by simpa using h) fun i h1 h2 => ?_
  have := ht i (by simpa using h2)
  simp [List.getD, h1] at this
  simp [this]
def numE (n : Nat) (ds : List Int) : Int := if lsB n ds = true then 0 else 7
def TheP (o : Option (List Bool)) (n : Nat) (w : World) (e : Ending) (w' : World) : Prop := match o with
  | some m => ∃ g, e = .returned (.tuple #[.slice (some ⟨g, 0, none⟩) n n, .bool true]) ∧ Blk w' g 4 (bA m) ∧ w.heap.size ≤ g ∧ Below w.heap.size w w'
  | none => e = .returned (.tuple #[.slice none 0 0, .bool false]) ∧ Below w.heap.size w w'
set_option maxHeartbeats 4000000 in
set_option maxRecDepth 20000 in
theorem r_there (A B : Option Addr) (n c d : Nat) (ds : List Int) (w : World) (hn : n ≤ 100) (hd : ds.length ≤ 100000) (hls : ∀ x ∈ ds, 0 ≤ x ∧ x < 2 * (n : Int)) (hB : Rd zC 1 w B ds) :
    Calls Tryz.prog 48 #[.slice A n c, .slice B ds.length d] w (TheP (thM (List.replicate n true) ds) n w) := by
  have HLS := Lib.hid hls
  have hmk := run_mkB n (by omega)
  obtain ⟨M0, hM0⟩ : ∃ M0, M0 = List.replicate n true := ⟨_, rfl⟩
  have HAT := Lib.hid (fun (M : List Bool) (h : M.length = n) ht => (all_true h ht).trans hM0.symm)
  have hM0l : M0.length = n := by rw [hM0]; simp
  rw [← hM0]
  clear hls hM0
  have HNO := Lib.hid (fun k (h : thM M0 (ds.take k) = none) => thM_none M0 k ds h)
  have HST := Lib.hid (fun k x (hx : ds[k]? = some x) m (h : thM M0 (ds.take k) = some m) => (show thM M0 (ds.take (k + 1)) = dsB m x by rw [thM_step hx, h]; rfl))
  have HLN := Lib.hid (fun k m (h : thM M0 (ds.take k) = some m) => (thM_len k h).trans hM0l)
  have HEN := Lib.hid (show thM M0 (ds.take ds.length) = thM M0 ds by rw [List.take_length])
  obtain ⟨R, hR⟩ : ∃ R, R = thM M0 ds := ⟨_, rfl⟩
  rw [← hR] at HNO HEN ⊢
  clear hR
  go_enter Tryz.func48, Tryz.ntmps48
  go_wp2
  have B1 := bl_alloc (below_refl w) (.cells (bA (List.replicate n false)) 4)
  have z1 := Blk.new w 4 (bA (List.replicate n false))
  have hlr : (List.replicate n false).length = n := by simp
  clear hmk
  generalize w.alloc (.cells (bA (List.replicate n false)) 4) = W1 at *
  generalize List.replicate n false = M1 at *
  go_loopw [7] (fun i wr => ∃ (k : Nat) (M : List Bool), k ≤ n ∧ i = .int .i64 k ∧ M.length = n ∧ Hid (∀ j, j < k → M.getD j false = true) ∧ Below w.heap.size w wr ∧ Blk wr w.heap.size 4 (bA M)) (fun i _ => n - (intOf i).toNat)
  case atStart => exact ⟨0, M1, by omega, rfl, hlr, Lib.hid (fun j hj => absurd hj (by omega)), B1, z1⟩
  case round =>
    clear B1 z1 hlr
    obtain ⟨k, M, hk, rfl, hlM, HI, hbw, zb⟩ := hrel
    have k0 : (0 : Int) ≤ (k : Int) := Int.natCast_nonneg _
    by_cases hlt : k < n
    · have k1 : (k : Int) < (n : Int) := by omega
      have f0 := zb.frozen k
      have q0 := blk_get zb (show k < M.length by omega)
      have lz := zb.lt
      have HN := Lib.hid (show ∀ j, j < k + 1 → (M.set k true).getD j false = true from fun j hj => by
        rw [getD_set (by omega)]
        by_cases e : j = k
        · rw [if_pos e]
        · rw [if_neg e]; exact HI.out j (by omega))
      have zb2 := blk_put zb k true
      go_wp2
      go_roundw
      case rel => exact ⟨k + 1, M.set k true, by omega, by go_num, by rw [List.length_set]; exact hlM, HN.out, by (repeat' (first | assumption | exact below_refl _ | refine bl_alloc ?_ _ | refine Below.setCell ?_ ?_ _ | refine below_draw ?_ | refine below_drewN ?_ _ | refine below_tr ?_ (by assumption))) <;> (first | omega | (simp; done) | (simp; omega)), zb2⟩
      case measure => simp [intOf]; omega
    · obtain rfl : k = n := by omega
      have HM := Lib.hid (HAT.out M hlM HI.out)
      rw [HM.out] at zb
      clear HI hlM HM
      clear M
      go_wp2
      go_loopw [8] (fun i wr => ∃ (j : Nat) (m : List Bool), j ≤ ds.length ∧ i = .int .i64 j ∧ Hid (thM M0 (ds.take j) = some m) ∧ Below w.heap.size w wr ∧ Blk wr w.heap.size 4 (bA m)) (fun i _ => ds.length - (intOf i).toNat)
      case atStart => exact ⟨0, M0, by omega, rfl, Lib.hid rfl, hbw, zb⟩
      case round =>
        clear hbw zb
        obtain ⟨j, m, hj, rfl, HD, hbw, zb⟩ := hrel
        have j0 : (0 : Int) ≤ (j : Int) := Int.natCast_nonneg _
        by_cases hjl : j < ds.length
        · have j1 : (j : Int) < (ds.length : Int) := by omega
          obtain ⟨x, b, off, hx, rfl, hb, c0⟩ := rd_int (hB.on hbw) hjl
          obtain ⟨x0, x1⟩ := HLS.out x (List.mem_of_getElem? hx)
          have hst := HST.out j x hx m HD.out
          have hml := HLN.out j m HD.out
          have HN := Lib.hid (HNO.out (j + 1))
          have hpar : (∃ i : Nat, x = 2 * (i : Int)) ∨ ∃ i : Nat, x = 2 * (i : Int) + 1 := by
            rcases Int.emod_two_eq x with h | h
            · exact .inl ⟨(x / 2).toNat, by omega⟩
            · exact .inr ⟨(x / 2).toNat, by omega⟩
          clear hx HD HNO HST
          rename World => wr
          rcases hpar with ⟨i, hxe⟩ | ⟨i, hxe⟩
          · have hi0 : (0 : Int) ≤ (i : Int) := Int.natCast_nonneg _
            have hil : i < k := by omega
            have hi1 : (i : Int) < (k : Int) := by omega
            have hq : x / 2 = (i : Int) := by omega
            have hr : x % 2 = 0 := by omega
            have hq2 : x.tdiv 2 = (i : Int) := by rw [Int.tdiv_eq_ediv_of_nonneg x0]; exact hq
            have hr2 : x.tmod 2 = 0 := by rw [Int.tmod_eq_emod_of_nonneg x0]; exact hr
            have hwi : IntKind.i64.wrap (i : Int) = i := fits_wrap (by omega)
            have q0 := blk_get zb (show i < m.length by omega)
            have f0 := zb.frozen i
            have lz := zb.lt
            cases hmi : m.getD i false
            · rw [hmi] at q0
              have HE := Lib.hid (HN.out (by rw [hst, hxe, dsB_even0 hmi]))
              clear hst hxe HN
              rw [HE.out]
              go_wp2_with fail
              go_region
              go_wp2
              go_ret2
              exact ⟨rfl, by (repeat' (first | assumption | exact below_refl _ | refine bl_alloc ?_ _ | refine Below.setCell ?_ ?_ _ | refine below_draw ?_ | refine below_drewN ?_ _ | refine below_tr ?_ (by assumption))) <;> (first | omega | (simp; done) | (simp; omega))⟩
            · rw [hmi] at q0
              have HD2 := Lib.hid (show thM M0 (ds.take (j + 1)) = some (m.set i false) by rw [hst, hxe, dsB_even hmi])
              have zb2 := blk_put zb i false
              clear hst hxe HN
              go_wp2_with fail
              go_region
              go_wp2
              go_roundw
              case rel => exact ⟨j + 1, m.set i false, by omega, by go_num, HD2.out, by (repeat' (first | assumption | exact below_refl _ | refine bl_alloc ?_ _ | refine Below.setCell ?_ ?_ _ | refine below_draw ?_ | refine below_drewN ?_ _ | refine below_tr ?_ (by assumption))) <;> (first | omega | (simp; done) | (simp; omega)), zb2⟩
              case measure => simp [intOf]; omega
          · have hi0 : (0 : Int) ≤ (i : Int) := Int.natCast_nonneg _
            have hil : i < k := by omega
            have hi1 : (i : Int) < (k : Int) := by omega
            have hq : x / 2 = (i : Int) := by omega
            have hr : x % 2 = 1 := by omega
            have hq2 : x.tdiv 2 = (i : Int) := by rw [Int.tdiv_eq_ediv_of_nonneg x0]; exact hq
            have hr2 : x.tmod 2 = 1 := by rw [Int.tmod_eq_emod_of_nonneg x0]; exact hr
            have hwi : IntKind.i64.wrap (i : Int) = i := fits_wrap (by omega)
            have q0 := blk_get zb (show i < m.length by omega)
            have f0 := zb.frozen i
            have lz := zb.lt
            cases hmi : m.getD i false
            · rw [hmi] at q0
              have HD2 := Lib.hid (show thM M0 (ds.take (j + 1)) = some (m.set i true) by rw [hst, hxe, dsB_odd hmi])
              have zb2 := blk_put zb i true
              clear hst hxe HN
              go_wp2_with fail
              go_region
              go_wp2
              go_roundw
              case rel => exact ⟨j + 1, m.set i true, by omega, by go_num, HD2.out, by (repeat' (first | assumption | exact below_refl _ | refine bl_alloc ?_ _ | refine Below.setCell ?_ ?_ _ | refine below_draw ?_ | refine below_drewN ?_ _ | refine below_tr ?_ (by assumption))) <;> (first | omega | (simp; done) | (simp; omega)), zb2⟩
              case measure => simp [intOf]; omega
            · rw [hmi] at q0
              have HE := Lib.hid (HN.out (by rw [hst, hxe, dsB_odd0 hmi]))
              clear hst hxe HN
              rw [HE.out]
              go_wp2_with fail
              go_region
              go_wp2
              go_ret2
              exact ⟨rfl, by (repeat' (first | assumption | exact below_refl _ | refine bl_alloc ?_ _ | refine Below.setCell ?_ ?_ _ | refine below_draw ?_ | refine below_drewN ?_ _ | refine below_tr ?_ (by assumption))) <;> (first | omega | (simp; done) | (simp; omega))⟩
        · obtain rfl : j = ds.length := by omega
          have HE := Lib.hid (HEN.out.symm.trans HD.out)
          go_wp2
          go_ret2
          rw [HE.out]
          exact ⟨_, rfl, zb, Nat.le_refl _, hbw⟩
end Go.Proofs.YtkeojokbpjdhpaaGreatDoor
namespace Go.Proofs.YtkeojokbpjdhpaaGreatDoor
open Go.RowKit Go.Shelf
attribute [local go_sem] Oper.semAt_some

theorem info_int4 : ∃ i : TypeInfo, Tryz.prog.info? 3 = some i ∧ i.zero = some (.int .i64 0) ∧ i.size = 1 ∧ i.bytes = 8 := info_parts (by kernel_rfl)
theorem zC_oneI (x : Int) : ∀ u ∈ zC x, u.oneCell' = true := fun u hu => by
  simp only [zC, List.mem_cons, List.not_mem_nil, or_false] at hu
  rcases hu with rfl; rfl
theorem fl_snocZ (l : List Int) (x : Int) : fl zC (l ++ [x]) = fl zC l ++ zC x := by simp [fl]
def nZ (l : List Nat) : List Int := l.map (fun i : Nat => (i : Int))
set_option maxHeartbeats 4000000 in
set_option maxRecDepth 20000 in
theorem c_AppendSeqI (b1 x : Nat) (M : List Bool) (w : World) (hx : SetOf x M) (hb1 : Blk w b1 47 #[.int .u32 x]) (hsz : w.heap.size = b1 + 1) (hT : Tab w) (h01 : b1 ≠ 0) :
    Calls Tryz.prog 79 #[.slice none 0 0, .func (.func 41) #[] #[.pointer (some ⟨b1, 0, none⟩)]] w fun e w' => ∃ v, e = .returned v ∧ w'.ownsRow (b1 + 1) 3 1 v (mM M).length (fl zC (nZ (mM M))) ∧ Below b1 w w' := by
  have hxs := set_mL hx
  have hx32 : x < 4294967296 := by have := hx.lt; omega
  have hM24 : (mM M).length ≤ 24 := Nat.le_trans (mM_len M) hx.1
  have hs1 : b1 < w.heap.size := by omega
  have hs2 : w.heap.size ≤ b1 + 1 := by omega
  clear hx hsz
  refine (callsIn_wide (n := 6)).1 ?_
  refine callsIn_of_wp_marks Tryz.func79 rfl trivial ?_ rfl
  simp only [Tryz.ntmps79, List.size_toArray, List.length_cons, List.length_nil, Nat.reduceAdd, Nat.reduceSub, Array.replicate_succ, Array.replicate_zero, List.push_toArray, List.append_toArray, List.nil_append, List.cons_append]
  gi_wp2
  have x1 := Blk.new w 25 #[.slice none 0 0]
  have BB := (below_refl w).mono (show b1 ≤ w.heap.size by omega)
  have BB := BB.alloc (show b1 ≤ w.heap.size by omega) (.cells #[.slice none 0 0] 25)
  have x3 := hb1.alloc (.cells #[.slice none 0 0] 25)
  have hT6 := TabAt.on hT (bl_alloc (below_refl w) (.cells #[.slice none 0 0] 25))
  have zz : (w.alloc (.cells #[.slice none 0 0] 25)).heap.size = w.heap.size + 1 := by simp
  clear hT hb1
  generalize w.alloc (.cells #[.slice none 0 0] 25) = w6 at *
  refine wp_rangeK (by omega) (gf := 41) (lb := #[.pointer (some ⟨b1, 0, none⟩)]) rfl enters_all (encs := inI) (xs := mL x) (R := fun b => b = 0 ∨ b = b1) (K := fun b => b = b1)
    (all_seq _ (by omega) _ x _ _ _ hx32 x3 hT6 (.inr rfl) (.inl rfl) rfl h01) (fun b h => .inr h) (Stp.refl _ _) (fun _ => rfl) (by rintro b (hb | hb) <;> omega)
    (fun pre N W => (Below b1 w W ∧ b1 ≤ W.heap.size) ∧ ∃ v, Blk W w.heap.size 25 #[v] ∧ W.ownsRow (w6.heap.size + 2) 3 1 v pre.length (fl zC (nZ pre)) ∧ ∀ b, v.ownBlock = some b → ¬ N b)
    (fun _ _ _ _ => False)
    ?h5 ?h6 ?h7 ?round ?done ?stop
  case h5 => exact (abideK_below (by omega) (fun b hb => by omega)).and (abideK_row _ _ (by omega) (fun b hb => by omega))
  case h6 => exact fun k => abideK_pure _
  case h7 => exact ⟨⟨BB, by omega⟩, _, x1, World.ownsRow_nil w6 _ _ _, fun _ h => by cases h⟩
  case stop => rintro k pre rest N W _ h; exact h.elim
  case done =>
    rintro N W ⟨⟨hB, hz⟩, v, hv, hr, _⟩ hK
    obtain ⟨ad, cp, rfl⟩ := ownsRow_slice hr
    have q := hv.cell 0
    simp only [List.getElem?_toArray, List.getElem?_cons_zero] at q
    gi_wp2
    refine ⟨by simp, .inl ⟨_, _, rfl, run_takeDeferred hK, ?_⟩⟩
    have hst := Stp.putObj (Stp.refl (fun b => b = w6.heap.size) W) (.inl rfl) (.deferred none)
    rw [hxs] at hr
    exact ⟨_, results_tmp rfl _ _ _, _, rfl, ownsRow_base (ownsRow_stp hr hst fun b hb => by have := (ownBlock_ge hr b hb).1; omega) (by omega), hB.trans (hst.toBelow hz (fun b hb => by omega))⟩
  case round =>
    rintro L pre i rest N W hpx ⟨⟨hB, hz⟩, v, hv, hr, hvm⟩ hM2 hsz2
    simp only [inI, setAll1, List.setIfInBounds_toArray, List.set_cons_zero, List.set_cons_succ]
    gi_wp2
    refine ⟨Stp.refl _ _, fun W2 hsz3 hst2 => ?_⟩
    have e1 := hst2.blk hv (by omega)
    have r2 := ownsRow_stp hr hst2 (fun b hb => by have := (ownBlock_ge hr b hb).1; omega)
    have hB2 : Below b1 w W2 := hB.trans (Stp.toBelow hst2 (by omega) (fun b hb => by omega))
    obtain ⟨ad, cp, rfl⟩ := ownsRow_slice hr
    have q1 := e1.cell 0
    have f1 := e1.frozen 0
    simp only [List.getElem?_toArray, List.getElem?_cons_zero] at q1
    have hlen : pre.length ≤ 2000 := by
      have h1 := congrArg List.length hpx
      rw [hxs] at h1
      simp only [List.length_append, List.length_cons] at h1
      omega
    have hrowne : ∀ b, (Value.slice ad pre.length cp).ownBlock = some b → w.heap.size ≠ b := fun b hb => by have := (ownBlock_ge hr b hb).1; omega
    obtain ⟨i0, hi, hi1, hi2, hi3⟩ := info_int4
    have hsa : W2.heap.size ≤ W.heap.size := by omega
    have hsb : W.heap.size ≤ W2.heap.size := by omega
    clear hsz3
    gi_wp2_with (gi_at_builtin; go_loud (refine wpListIn_append_own_at _ rfl _ _ 25 rfl (w6.heap.size + 2) 3 i0 (.int .i64 0) 1 8 (by kernel_rfl) hi hi1 hi2 hi3 rfl (by omega) _ _ _ rfl (ownsRow_stp r2 ((Stp.refl (fun _ => False) W2).alloc _) (fun _ _ h => h)) ⟨W2.heap.size, 0, none⟩ 1 1 (zC (i : Int)) rfl rfl (cells_new W2 (zC (i : Int)) 3) (zC_oneI i) (by unfold maxLen; omega) (by omega) (by simp; omega) ?_; intro v' U2 hown hgrow _ hat; obtain ⟨g, cap, rfl⟩ := ownsRow_succ hown; have e42 : Blk U2 w.heap.size 25 #[.slice ad pre.length cp] := (hgrow.block w.heap.size (e1.alloc _).lt (fun h => hrowne _ h.symm rfl)).trans (e1.alloc _); have q42 := e42.cell 0; have f42 := e42.frozen 0; simp only [List.getElem?_toArray, List.getElem?_cons_zero] at q42))
    have hmk : ∀ N : Nat → Prop, N w.heap.size → (∀ r, (Value.slice ad pre.length cp).ownBlock = some r → N r ∨ W2.heap.size ≤ r) → Stp N W2 (U2.setCell ⟨w.heap.size, 0, none⟩ (.slice (some ⟨g, 0, none⟩) (pre.length + 1) cap)) := fun N h1 h2 =>
      (((Stp.refl N W2).alloc _).grown hgrow h2).setCell (.inl h1) _
    have hst := hmk (fun b => b = w.heap.size ∨ w6.heap.size + 2 ≤ b) (.inl rfl) (fun r hr' => .inl (.inr (ownBlock_ge hr r hr').1))
    refine ⟨hmk _ ?_ ?_, ⟨hB2.trans (hst.toBelow (by omega) (fun b hb => by omega)), Nat.le_trans (Nat.le_trans (Nat.le_of_lt hs1) hB2.size) hst.size⟩, _, e42.set_ 0 _, ?_, ?_⟩
    · rintro (h | (h | h) | h | h)
      · have := (hM2 _ h).1; omega
      all_goals omega
    · intro r' hr'
      have := ownBlock_ge hr r' hr'
      refine .inl ?_
      rintro (h | (h | h) | h | h)
      · exact hvm r' hr' h
      all_goals omega
    · have := ownsRow_stp hown (Stp.setCell (p := ⟨w.heap.size, 0, none⟩) (Stp.refl (fun b => b = w.heap.size) U2) (.inl rfl) (.slice (some ⟨g, 0, none⟩) (pre.length + 1) cap)) (fun b hb => by have := (ownBlock_ge hown b hb).1; omega)
      rw [List.length_append]
      unfold nZ
      rw [List.map_append, List.map_cons, List.map_nil, fl_snocZ]
      exact this
    · intro b hb hm
      rcases hat with h | h
      · rw [h] at hb; exact hvm b hb hm
      · rw [h] at hb; cases hb
        have := (hM2 _ hm).2
        rw [World.size_alloc] at this
        omega
theorem c_CollectI (b1 x : Nat) (M : List Bool) (w : World) (hx : SetOf x M) (hb1 : Blk w b1 47 #[.int .u32 x]) (hsz : w.heap.size = b1 + 1) (hT : Tab w) (h01 : b1 ≠ 0) :
    Calls Tryz.prog 55 #[.func (.func 41) #[] #[.pointer (some ⟨b1, 0, none⟩)]] w fun e w' => ∃ v, e = .returned v ∧ w'.ownsRow (b1 + 1) 3 1 v (mM M).length (fl zC (nZ (mM M))) ∧ Below b1 w w' := by
  have HC := Lib.hid (c_AppendSeqI b1 x M w hx hb1 hsz hT h01)
  clear hx hb1 hsz hT h01
  go_enter Tryz.func55, Tryz.ntmps55
  go_wp2_with fail
  refine HC.out.mono ?_
  rintro e w1 ⟨v, rfl, ho, hb⟩
  go_wp2
  go_ret
  exact ⟨v, rfl, ho, hb⟩
theorem lsB_mem {n : Nat} {ds : List Int} (h : lsB n ds = true) : ds.length ≤ 100 ∧ ∀ x ∈ ds, 0 ≤ x ∧ x < 2 * (n : Int) := by
  unfold lsB at h
  rw [Bool.and_eq_true, decide_eq_true_eq, List.all_eq_true] at h
  exact ⟨h.1, fun x hx => by have := h.2 x hx; rw [wn_iff] at this; omega⟩
theorem doM_true (M : List Bool) (ds : List Int) : ∀ k, k ≤ ds.length → doM (fun _ _ => true) M ds k = thM M (ds.take k)
  | 0, _ => rfl
  | k + 1, h => by
    have hd : ds[k]? = some (ds.getD k 0) := by simp [List.getD, show k < ds.length by omega]
    rw [thM_step hd]
    simp only [doM, doM_true M ds k (by omega)]
    congr 1; funext m
    cases dsB m (ds.getD k 0) <;> simp
def M0 (l : List Pr) : List Bool := List.replicate l.length true
def aftO (l : List Pr) (ds : List Int) : Option (List Bool) := thM (List.replicate l.length true) ds
def aftE (l : List Pr) (ds : List Int) : Int := if vP l = true then (if lsB l.length ds = true then (match aftO l ds with | some _ => 0 | none => 10) else 7) else 1
def aftL (l : List Pr) (ds : List Int) : List Int := if aftE l ds = 0 then nZ (mM (afM l ds)) else []
def AftP (l : List Pr) (ds : List Int) (w : World) (e : Ending) (w' : World) : Prop := ∃ v, e = .returned (.tuple #[v, .int .i64 (aftE l ds)]) ∧ w'.ownsRow w.heap.size 3 1 v (aftL l ds).length (fl zC (aftL l ds)) ∧ Below w.heap.size w w'
theorem p_after1 (k y : Int) (w : World) : Calls Tryz.prog 54 #[.int .i64 k, .int .u32 y] w fun e w' => e = .returned (.bool true) ∧ Below w.heap.size w w' := by
  go_enter Tryz.func54, Tryz.ntmps54
  go_wp2
  go_ret
  exact ⟨rfl, below_refl _⟩
theorem ownZ_nil (w : World) (b : Nat) : w.ownsRow b 3 1 (.slice none 0 0) 0 (fl zC []) := World.ownsRow_nil w _ _ _
set_option maxHeartbeats 2000000 in
theorem p_After (A B : Option Addr) (l : List Pr) (ds : List Int) (c d : Nat) (w : World) (hl : l.length ≤ 100) (hd : ds.length ≤ 100000) (hT : Tab w) (hR : Rd Pr.cs 3 w A l) (hB : Rd zC 1 w B ds) :
    Calls Tryz.prog 27 #[.slice A l.length c, .slice B ds.length d] w (AftP l ds w) := by
  have HV := Lib.hid (p_Valid A l c w (by omega) hR)
  have HL := Lib.hid (fun (W : World) (hb : Below w.heap.size w W) => p_listed A B l.length c d ds W hl hd (hB.on hb))
  have HEE := Lib.hid (show aftE l ds = if vP l = true then (if lsB l.length ds = true then (match aftO l ds with | some _ => 0 | none => 10) else 7) else 1 from rfl)
  have HLL := Lib.hid (show aftL l ds = if aftE l ds = 0 then nZ (mM (afM l ds)) else [] from rfl)
  unfold AftP
  cases hv : vP l
  · have hE : aftE l ds = 1 := by rw [HEE.out, hv]; rfl
    have hL : aftL l ds = [] := by rw [HLL.out, hE]; rfl
    rw [hE, hL]
    rw [hv] at HV
    clear hE hL hv
    go_enter Tryz.func27, Tryz.ntmps27
    go_wp2_with fail
    refine HV.out.mono ?_
    rintro e w1 ⟨rfl, hb1⟩
    go_wp2
    go_ret2
    exact ⟨_, rfl, ownZ_nil _ _, hb1⟩
  rw [hv] at HV
  cases hls : lsB l.length ds
  · have hE : aftE l ds = 7 := by rw [HEE.out, hv, hls]; rfl
    have hL : aftL l ds = [] := by rw [HLL.out, hE]; rfl
    rw [hE, hL]
    rw [hls] at HL
    clear hE hL hv hls
    go_enter Tryz.func27, Tryz.ntmps27
    go_wp2_with fail
    refine HV.out.mono ?_
    rintro e w1 ⟨rfl, hb1⟩
    go_wp2_with fail
    refine (HL.out _ hb1).mono ?_
    rintro e w2 ⟨rfl, hb2⟩
    go_wp2
    go_ret2
    exact ⟨_, rfl, ownZ_nil _ _, below_tr hb1 hb2⟩
  rw [hls] at HL
  obtain ⟨h100, hmem⟩ := lsB_mem hls
  have HD := Lib.hid (fun (W : World) (hb : Below w.heap.size w W) => p_done A B l ds c d 54 #[] (fun _ _ => true) W (vP_len hv) hd hmem (hB.on hb) (enters_of Tryz.func54 (by kernel_rfl) rfl) (fun W' k m _ _ _ => p_after1 k _ W'))
  rw [doM_true _ _ _ (Nat.le_refl _), List.take_length] at HD
  have hOl : ∀ m, aftO l ds = some m → m.length = l.length := fun m h => by
    have := thM_len (M := List.replicate l.length true) (ds := ds) ds.length (by rw [List.take_length]; exact h)
    simpa using this
  have hO0 : aftO l ds = thM (List.replicate l.length true) ds := rfl
  rw [← hO0] at HD
  have hT0 := Tab.lt hT
  cases hO : aftO l ds with
  | none =>
    have hE : aftE l ds = 10 := by rw [HEE.out, hv, hls, hO]; rfl
    have hL : aftL l ds = [] := by rw [HLL.out, hE]; rfl
    rw [hE, hL]
    rw [hO] at HD
    dsimp only [doneV] at HD
    clear hE hL hv hls hO hmem hOl hO0
    go_enter Tryz.func27, Tryz.ntmps27
    go_wp2_with fail
    refine HV.out.mono ?_
    rintro e w1 ⟨rfl, hb1⟩
    go_wp2_with fail
    refine (HL.out _ hb1).mono ?_
    rintro e w2 ⟨rfl, hb2⟩
    have B2 := below_tr hb1 hb2
    go_wp2_with fail
    refine (HD.out _ B2).mono ?_
    rintro e w3 ⟨rfl, hb3⟩
    go_wp2
    go_ret2
    exact ⟨_, rfl, ownZ_nil _ _, below_tr B2 hb3⟩
  | some m =>
    have hE : aftE l ds = 0 := by rw [HEE.out, hv, hls, hO]; rfl
    have hL : aftL l ds = nZ (mM m) := by rw [HLL.out, hE, if_pos rfl]; unfold afM; rw [← hO0, hO]; rfl
    have hml := hOl m hO
    have hset := encM_set (show m.length ≤ 24 by have := vP_len hv; omega)
    rw [hE, hL]
    rw [hO] at HD
    dsimp only [doneV] at HD
    clear hE hL hv hls hO hmem hOl hO0
    go_enter Tryz.func27, Tryz.ntmps27
    go_wp2_with fail
    refine HV.out.mono ?_
    rintro e w1 ⟨rfl, hb1⟩
    go_wp2_with fail
    refine (HL.out _ hb1).mono ?_
    rintro e w2 ⟨rfl, hb2⟩
    have B2 := below_tr hb1 hb2
    go_wp2_with fail
    refine (HD.out _ B2).mono ?_
    rintro e w3 ⟨rfl, hb3⟩
    have B3 := below_tr B2 hb3
    have hT3 := TabAt.on hT B3
    go_wp2_with fail
    refine (p_all (encM m) w3).mono ?_
    rintro e w4 ⟨rfl, rfl⟩
    go_wp2_with fail
    have x4 := Blk.new w3 47 #[.int .u32 (encM m)]
    have hT4 := TabAt.on hT3 (bl_alloc (below_refl w3) (.cells #[.int .u32 (encM m)] 47))
    have hs3 := B3.size
    refine (c_CollectI w3.heap.size (encM m) m _ hset x4 (by simp) hT4 (by omega)).mono ?_
    rintro e w5 ⟨v5, rfl, ho5, hb5⟩
    go_wp2
    go_ret2
    exact ⟨_, rfl, by rw [show (nZ (mM m)).length = (mM m).length by unfold nZ; simp]; exact own_base ho5 (by omega), B3.trans (((below_refl w3).alloc (Nat.le_refl _) _).trans hb5 |>.mono (by omega))⟩
end Go.Proofs.YtkeojokbpjdhpaaGreatDoor
namespace Go.Proofs.YtkeojokbpjdhpaaGreatDoor
open Go.RowKit Go.Shelf

theorem spL_at (l : List Pr) : spL l = (List.range l.length).map (atS l) := by
  refine List.ext_getElem (by simp [spL]) fun i h1 h2 => ?_
  simp [spL] at h1
  simp [spL, atS, prAt, h1]
theorem lfS_sub {l : List Pr} {M : List Bool} (h : M.length = l.length) : (lfS l M).Sublist (spL l) := by
  rw [lfS_map, spL_at, ← h]
  exact (show (mM M).Sublist (List.range M.length) from List.filter_sublist).map (atS l)
theorem lfS_ok {l : List Pr} {M : List Bool} (hv : vP l = true) (h : M.length = l.length) : (lfS l M).length ≤ 24 ∧ (∀ x ∈ lfS l M, Bd 10000 x) ∧ (lfS l M).Nodup := by
  have hs := lfS_sub h
  refine ⟨?_, fun x hx => vP_bd hv x (hs.mem hx), hs.nodup (vP_nodup hv)⟩
  have := hs.length_le
  rw [spL_len] at this
  have := vP_len hv
  omega
def shR (l : List Pr) (s : Sp) (ds : List Int) (k : Nat) (m : List Bool) : Bool := decide (k + 1 = ds.length) || heldB (lfS l m) s
def rgO (l : List Pr) (s : Sp) (ds : List Int) : Option (List Bool) := if stE l s = 0 then (if lsB l.length ds = true then doM (shR l s ds) (List.replicate l.length true) ds ds.length else none) else none
theorem doM_ri (l : List Pr) (s : Sp) (ds : List Int) : ∀ k, k ≤ ds.length → doM (shR l s ds) (List.replicate l.length true) ds k = if (List.range k).all (riB l s ds) = true then thM (List.replicate l.length true) (ds.take k) else none
  | 0, _ => rfl
  | k + 1, h => by
    have hd : ds[k]? = some (ds.getD k 0) := by simp [List.getD, show k < ds.length by omega]
    have ih := doM_ri l s ds k (by omega)
    rw [List.range_succ, List.all_append]
    have hr : riB l s ds k = match thM (List.replicate l.length true) (ds.take (k + 1)) with
      | none => false
      | some m => shR l s ds k m := rfl
    simp only [doM, ih]
    have hst := thM_step (M := List.replicate l.length true) hd
    cases ha : (List.range k).all (riB l s ds)
    · simp
    · simp only [if_true, Bool.true_and, List.all_cons, List.all_nil, Bool.and_true]
      rw [hr, hst]
      cases h1 : thM (List.replicate l.length true) (ds.take k) with
      | none => simp
      | some m =>
        simp only [Option.bind_some]
        cases h2 : dsB m (ds.getD k 0) with
        | none => simp
        | some m2 => simp
theorem rgO_is (l : List Pr) (s : Sp) (ds : List Int) : rgO l s ds = if riA l s ds = true then thM (List.replicate l.length true) ds else none := by
  unfold rgO riA
  by_cases he : stE l s = 0
  · obtain ⟨hv, hs⟩ := stE_z he
    rw [if_pos he, hv, hs]
    cases hl : lsB l.length ds
    · simp
    · rw [if_pos rfl, doM_ri l s ds _ (Nat.le_refl _), List.take_length]; simp
  · rw [if_neg he]
    have : ¬ (vP l = true ∧ isS s = true) := fun ⟨h1, h2⟩ => he (askE_ok h1 (by simp [h2]))
    cases hv : vP l
    · simp
    · cases hs : isS s
      · simp
      · exact absurd ⟨hv, hs⟩ this
theorem riA_some {l : List Pr} {s : Sp} {ds : List Int} (h : riA l s ds = true) : ∃ m, thM (List.replicate l.length true) ds = some m := by
  unfold riA at h
  rw [Bool.and_eq_true, Bool.and_eq_true, Bool.and_eq_true, List.all_eq_true] at h
  obtain ⟨_, _, _, h⟩ := h
  cases hd : ds with
  | nil => exact ⟨_, rfl⟩
  | cons a t =>
    rw [← hd]
    have hn : 0 < ds.length := by rw [hd]; simp
    have := h (ds.length - 1) (by simp; omega)
    unfold riB at this
    rw [show ds.length - 1 + 1 = ds.length by omega, List.take_length] at this
    cases ht : thM (List.replicate l.length true) ds with
    | none => rw [ht] at this; cases this
    | some m => exact ⟨m, rfl⟩
set_option maxHeartbeats 2000000 in
theorem p_right1 (A : Option Addr) (l : List Pr) (s : Sp) (ds : List Int) (c d k bd bl bw : Nat) (B : Option Addr) (m : List Bool) (w : World) (hv : vP l = true) (hs : isS s = true) (hd : ds.length ≤ 100000) (hk : k < ds.length) (hm : m.length = l.length) (hT : Tab w) (hR : Rd Pr.cs 3 w A l)
    (xd : Blk w bd 25 #[.slice B ds.length d]) (xl : Blk w bl 22 #[.slice A l.length c]) (xw : Blk w bw 24 (spA s)) :
    Calls Tryz.prog 53 #[.int .i64 k, .int .u32 (encM m), .pointer (some ⟨bd, 0, none⟩), .pointer (some ⟨bl, 0, none⟩), .pointer (some ⟨bw, 0, none⟩)] w fun e w' => e = .returned (.bool (shR l s ds k m)) ∧ Below w.heap.size w w' := by
  obtain ⟨o1, o2, o3⟩ := lfS_ok hv hm
  have h24 := vP_len hv
  have hset := encM_set (show m.length ≤ 24 by omega)
  have HO := Lib.hid (fun (W : World) (hb : Below w.heap.size w W) => p_of A l c (encM m) m W hset hm (TabAt.on hT hb) (hR.on hb))
  have HS := Lib.hid (fun (W : World) (A : Option Addr) (c : Nat) (hR : Rd Sp.cs 2 W A (lfS l m)) => p_stands A (lfS l m) c s W o1 o2 o3 (isS_bd hs) hR)
  have HH := Lib.hid (show shR l s ds k m = (decide (k + 1 = ds.length) || heldB (lfS l m) s) from rfl)
  have q0 := xd.cell 0
  have q1 := xl.cell 0
  have q2 := xw.cell 0
  have q3 := xw.cell 1
  simp only [List.getElem?_toArray, List.getElem?_cons_zero, List.getElem?_cons_succ] at q0 q1 q2 q3
  have l0 := xd.lt
  have l1 := xl.lt
  have l2 := xw.lt
  have k0 : (0 : Int) ≤ (k : Int) := Int.natCast_nonneg _
  have k1 : (k : Int) < (ds.length : Int) := by omega
  have hw1 : IntKind.i64.wrap ((ds.length : Int) - 1) = (ds.length : Int) - 1 := fits_wrap (by omega)
  generalize lfS l m = L at *
  clear o1 o2 o3 h24 hset hv hs hT hR xd xl xw hm
  by_cases hq : k + 1 = ds.length
  · have d1 : ((k : Int) == (ds.length : Int) - 1) = true := by simp; omega
    have HE := Lib.hid (show shR l s ds k m = true by rw [HH.out]; simp [hq])
    rw [HE.out]
    have d2 : (k : Int) = (ds.length : Int) - 1 := by omega
    have d3 : decide ((k : Int) = (ds.length : Int) - 1) = true := decide_eq_true d2
    have HD2 := Lib.hid d2
    clear d2 hq
    go_enter Tryz.func53, Tryz.ntmps53
    go_wp2_with fail
    refine wp_region_noPanic ?_
    refine wp_region_held_drew (S := (fun w' => (∀ b o, b < w.heap.size → w'.cell? ⟨b, o, none⟩ = w.cell? ⟨b, o, none⟩) ∧ (∀ b o, b < w.heap.size → w'.frozen? ⟨b, o, none⟩ = w.frozen? ⟨b, o, none⟩) ∧ Below w.heap.size w w')) (by kernel_rfl) (kq_draw kq_refl) (fun hS0 => ?_)
    refine wpAnyH_take (i := 0) (oi := { dst := some 8, op := _, type := _, pos := _, after := _, guard := none }) (v := ?gv1) rfl (by kernel_rfl) (by kernel_rfl) (by kernel_rfl) (fun _ _ _ h => h) (Or.inl ⟨by rfl, ?gy1⟩) (by assumption) ?_
    case gy1 => (intro w' hSw; go_simp; try with_reducible rfl)
    try simp only [Act.put, List.setIfInBounds_toArray, List.set_cons_zero, List.set_cons_succ]
    refine wpAnyH_take (i := 1) (oi := { dst := some 9, op := _, type := _, pos := _, after := _, guard := none }) (v := ?gv2) rfl (by kernel_rfl) (by kernel_rfl) (by kernel_rfl) (fun _ _ _ h => h) (Or.inl ⟨by rfl, ?gy2⟩) (by assumption) ?_
    case gy2 => (intro w' hSw; go_simp; try with_reducible rfl)
    try simp only [Act.put, List.setIfInBounds_toArray, List.set_cons_zero, List.set_cons_succ]
    refine wpAnyH_take (i := 2) (oi := { dst := some 10, op := _, type := _, pos := _, after := _, guard := none }) (v := ?gv3) rfl (by kernel_rfl) (by kernel_rfl) (by kernel_rfl) (fun _ _ _ h => h) (Or.inl ⟨by rfl, ?gy3⟩) (by assumption) ?_
    case gy3 => (intro w' hSw; go_simp; try with_reducible rfl)
    try simp only [Act.put, List.setIfInBounds_toArray, List.set_cons_zero, List.set_cons_succ]
    refine wpAnyH_take (i := 3) (oi := { dst := some 11, op := _, type := _, pos := _, after := _, guard := none }) (v := ?gv4) rfl (by kernel_rfl) (by kernel_rfl) (by kernel_rfl) (fun _ _ _ h => h) (Or.inl ⟨by rfl, ?gy4⟩) (by assumption) ?_
    case gy4 => (intro w' hSw; go_simp; try with_reducible rfl)
    try simp only [Act.put, List.setIfInBounds_toArray, List.set_cons_zero, List.set_cons_succ]
    refine wpAnyH_take (i := 4) (oi := { dst := some 12, op := _, type := _, pos := _, after := _, guard := none }) (v := ?gv5) rfl (by kernel_rfl) (by kernel_rfl) (by kernel_rfl) (fun _ _ _ h => h) (Or.inl ⟨by rfl, ?gy5⟩) (by assumption) ?_
    case gy5 => (intro w' hSw; go_simp; try with_reducible rfl)
    try simp only [Act.put, List.setIfInBounds_toArray, List.set_cons_zero, List.set_cons_succ]
    refine wpAnyH_take (i := 5) (oi := { dst := some 13, op := _, type := _, pos := _, after := _, guard := none }) (v := ?gv6) rfl (by kernel_rfl) (by kernel_rfl) (by kernel_rfl) (fun _ _ _ h => h) (Or.inl ⟨by rfl, ?gy6⟩) (by assumption) ?_
    case gy6 => (intro w' hSw; go_simp; try with_reducible rfl)
    try simp only [Act.put, List.setIfInBounds_toArray, List.set_cons_zero, List.set_cons_succ]
    refine wpAnyH_take (i := 6) (oi := { dst := some 14, op := _, type := _, pos := _, after := _, guard := some (5, false) }) (v := undef) rfl (by kernel_rfl) (by kernel_rfl) (by kernel_rfl) (fun _ _ _ h => h) (Or.inr ⟨by rfl, rfl⟩) (by assumption) ?_
    try simp only [Act.put, List.setIfInBounds_toArray, List.set_cons_zero, List.set_cons_succ]
    refine wpAnyH_take (i := 7) (oi := { dst := some 15, op := _, type := _, pos := _, after := _, guard := some (5, false) }) (v := undef) rfl (by kernel_rfl) (by kernel_rfl) (by kernel_rfl) (fun _ _ _ h => h) (Or.inr ⟨by rfl, rfl⟩) (by assumption) ?_
    try simp only [Act.put, List.setIfInBounds_toArray, List.set_cons_zero, List.set_cons_succ]
    refine wpAnyH_take (i := 8) (oi := { dst := some 16, op := _, type := _, pos := _, after := _, guard := some (5, false) }) (v := undef) rfl (by kernel_rfl) (by kernel_rfl) (by kernel_rfl) (fun _ _ _ h => h) (Or.inr ⟨by rfl, rfl⟩) (by assumption) ?_
    try simp only [Act.put, List.setIfInBounds_toArray, List.set_cons_zero, List.set_cons_succ]
    refine wpAnyH_take (i := 9) (oi := { dst := some 17, op := _, type := _, pos := _, after := _, guard := some (5, false) }) (v := undef) rfl (by kernel_rfl) (by kernel_rfl) (by kernel_rfl) (fun _ _ _ h => h) (Or.inr ⟨by rfl, rfl⟩) (by assumption) ?_
    try simp only [Act.put, List.setIfInBounds_toArray, List.set_cons_zero, List.set_cons_succ]
    refine wpAnyH_take (i := 10) (oi := { dst := some 18, op := _, type := _, pos := _, after := _, guard := some (5, false) }) (v := undef) rfl (by kernel_rfl) (by kernel_rfl) (by kernel_rfl) (fun _ _ _ h => h) (Or.inr ⟨by rfl, rfl⟩) (by assumption) ?_
    try simp only [Act.put, List.setIfInBounds_toArray, List.set_cons_zero, List.set_cons_succ]
    refine wpAnyH_take (i := 11) (oi := { dst := some 19, op := _, type := _, pos := _, after := _, guard := none }) (v := ?gv7) rfl (by kernel_rfl) (by kernel_rfl) (by kernel_rfl) (fun _ _ _ h => h) (Or.inl ⟨by rfl, ?gy7⟩) (by assumption) ?_
    case gy7 => (intro w' hSw; go_simp; try with_reducible rfl)
    try simp only [Act.put, List.setIfInBounds_toArray, List.set_cons_zero, List.set_cons_succ]
    refine wpAnyH_take (i := 12) (oi := { dst := some 7, op := _, type := _, pos := _, after := _, guard := none }) (v := ?gv8) rfl (by kernel_rfl) (by kernel_rfl) (by kernel_rfl) (fun _ _ _ h => h) (Or.inl ⟨by rfl, ?gy8⟩) (by assumption) ?_
    case gy8 => (intro w' hSw; go_simp; try with_reducible rfl)
    try simp only [Act.put, List.setIfInBounds_toArray, List.set_cons_zero, List.set_cons_succ]
    refine wpAnyH_done (by kernel_rfl) (NoPanic.normal ?_) _
    go_wp2
    go_ret
    exact ⟨rfl, by (repeat' (first | assumption | exact below_refl _ | refine bl_alloc ?_ _ | refine Below.setCell ?_ ?_ _ | refine below_draw ?_ | refine below_drewN ?_ _ | refine below_tr ?_ (by assumption))) <;> (first | omega | (simp; done) | (simp; omega))⟩
  · have d1 : ((k : Int) == (ds.length : Int) - 1) = false := by simp; omega
    have d3 : decide ((k : Int) = (ds.length : Int) - 1) = false := by simp; omega
    have HE := Lib.hid (show shR l s ds k m = heldB L s by rw [HH.out]; simp [hq])
    rw [HE.out]
    clear hq HE HH
    generalize heldB L s = V at *
    go_enter Tryz.func53, Tryz.ntmps53
    go_wp2_with fail
    go_region_held3 (fun w' => (∀ b o, b < w.heap.size → w'.cell? ⟨b, o, none⟩ = w.cell? ⟨b, o, none⟩) ∧ (∀ b o, b < w.heap.size → w'.frozen? ⟨b, o, none⟩ = w.frozen? ⟨b, o, none⟩) ∧ Below w.heap.size w w') ((first | assumption | (refine kp_of ?_; (repeat' (first | assumption | exact below_refl _ | refine bl_alloc ?_ _ | refine Below.setCell ?_ ?_ _ | refine below_draw ?_ | refine below_drewN ?_ _ | refine below_tr ?_ (by assumption))) <;> (first | omega | (simp; done) | (simp; omega))))) ((first | (go_at_call 19; ((with_reducible refine (HO.out _ (by (repeat' (first | assumption | exact below_refl _ | refine bl_alloc ?_ _ | refine Below.setCell ?_ ?_ _ | refine below_draw ?_ | refine below_drewN ?_ _ | refine below_tr ?_ (by assumption))) <;> (first | omega | (simp; done) | (simp; omega)))).mono ?_); rintro e w3 ⟨v3, rfl, ho3, hb3⟩; obtain ⟨A3, c3, rfl, hR3⟩ := own_rd Sp.cs_len ho3; obtain ⟨hc3, hf3⟩ := bcell hb3; have hz3 := hb3.size; (try simp [sz_drew, sz_drewN] at hz3); (try simp only [sz_drew, sz_drewN] at hc3 hf3))) | (go_at_call 14; ((with_reducible refine (HS.out _ _ _ hR3).mono ?_); rintro e w4 ⟨rfl, hb4⟩; obtain ⟨hc4, hf4⟩ := bcell hb4; have hz4 := hb4.size; (try simp [sz_drew, sz_drewN] at hz4); (try simp only [sz_drew, sz_drewN] at hc4 hf4)))))
    all_goals
      go_wp2
      go_ret
      exact ⟨rfl, by (repeat' (first | assumption | exact below_refl _ | refine bl_alloc ?_ _ | refine Below.setCell ?_ ?_ _ | refine below_draw ?_ | refine below_drewN ?_ _ | refine below_tr ?_ (by assumption))) <;> (first | omega | (simp; done) | (simp; omega))⟩
set_option maxHeartbeats 4000000 in
set_option maxRecDepth 20000 in
theorem p_right (A B : Option Addr) (l : List Pr) (s : Sp) (ds : List Int) (c d : Nat) (w : World) (hl : l.length ≤ 100) (hd : ds.length ≤ 100000) (hT : Tab w) (hR : Rd Pr.cs 3 w A l) (hB : Rd zC 1 w B ds) :
    Calls Tryz.prog 26 #[.slice A l.length c, spV s, .slice B ds.length d] w fun e w' => e = .returned (doneV (rgO l s ds)) ∧ Below w.heap.size w w' := by
  obtain ⟨W1, hW1⟩ : ∃ W1, W1 = ((w.alloc (.cells #[.slice A l.length c] 22)).alloc (.cells (spA s) 24)).alloc (.cells #[.slice B ds.length d] 25) := ⟨_, rfl⟩
  have x0 : Blk W1 w.heap.size 22 #[.slice A l.length c] := by rw [hW1]; exact ((Blk.new w 22 #[.slice A l.length c]).alloc (.cells (spA s) 24)).alloc (.cells #[.slice B ds.length d] 25)
  have y0 : Blk W1 (w.heap.size + 1) 24 (spA s) := by
    have := (Blk.new (w.alloc (.cells #[.slice A l.length c] 22)) 24 (spA s)).alloc (.cells #[.slice B ds.length d] 25)
    rw [World.size_alloc] at this
    rw [hW1]; exact this
  have v0 : Blk W1 (w.heap.size + 1 + 1) 25 #[.slice B ds.length d] := by
    have := Blk.new ((w.alloc (.cells #[.slice A l.length c] 22)).alloc (.cells (spA s) 24)) 25 #[.slice B ds.length d]
    rw [World.size_alloc, World.size_alloc] at this
    rw [hW1]; exact this
  have B0 : Below w.heap.size w W1 := by rw [hW1]; exact bl_alloc (bl_alloc (bl_alloc (below_refl w) (.cells #[.slice A l.length c] 22)) (.cells (spA s) 24)) (.cells #[.slice B ds.length d] 25)
  have HA := Lib.hid (fun (W : World) (hb : Below w.heap.size w W) (b : Nat) (hS : Rd Sp.cs 2 W (some ⟨b, 0, none⟩) [s]) => p_askedOne A l s c b W (by omega) (hR.on hb) hS)
  have HL := Lib.hid (fun (W : World) (hb : Below w.heap.size w W) => p_listed A B l.length c d ds W hl hd (hB.on hb))
  have HO := Lib.hid (rd_one W1 s)
  have B1 := bl_alloc B0 (.cells (spA s) 24)
  have x1 := x0.alloc (.cells (spA s) 24)
  have y1 := y0.alloc (.cells (spA s) 24)
  have v1 := v0.alloc (.cells (spA s) 24)
  have HEE := Lib.hid (show rgO l s ds = if stE l s = 0 then (if lsB l.length ds = true then doM (shR l s ds) (List.replicate l.length true) ds ds.length else none) else none from rfl)
  have p0 := x0.cell 0
  have p1 := y0.cell 0
  have p2 := y0.cell 1
  have p3 := v0.cell 0
  simp only [List.getElem?_toArray, List.getElem?_cons_zero, List.getElem?_cons_succ] at p0 p1 p2 p3
  by_cases he : stE l s = 0
  · obtain ⟨hv, hs⟩ := stE_z he
    rw [he] at HA
    cases hls : lsB l.length ds
    · rw [show rgO l s ds = none by rw [HEE.out, if_pos he, hls]; rfl]
      rw [hls] at HL
      dsimp only [doneV]
      clear he hv hs hls HEE
      go_enter Tryz.func26, Tryz.ntmps26
      go_wp2_with fail
      have hz1 : W1.heap.size = w.heap.size + 1 + 1 + 1 := by rw [hW1]; simp
      have HO2 := Lib.hid (hz1 ▸ HO.out)
      have HZ := Lib.hid hz1
      clear hz1
      rw [show (((w.alloc (.cells #[.slice A l.length c] 22)).alloc (.cells #[.int .i64 s.x, .int .i64 s.y] 24)).alloc (.cells #[.slice B ds.length d] 25)) = W1 from hW1.symm]
      clear hW1
      refine (HA.out _ B1 _ HO2.out).mono ?_
      rintro e w1 ⟨rfl, hb1⟩
      have BX := below_tr B1 hb1
      have x2 := x1.below hb1 x1.lt
      have y2 := y1.below hb1 y1.lt
      have v2 := v1.below hb1 v1.lt
      have p0 := x2.cell 0
      have r0 := v2.cell 0
      simp only [List.getElem?_toArray, List.getElem?_cons_zero, List.getElem?_cons_succ] at p0 r0
      have lx := x2.lt
      have lv := v2.lt
      clear x0 y0 v0 x1 y1 v1 B0 B1 hb1 HO HO2 HA
      go_wp2_with fail
      refine (HL.out _ BX).mono ?_
      rintro e w2 ⟨rfl, hb2⟩
      go_wp2
      go_ret2
      exact ⟨rfl, below_tr BX hb2⟩
    · rw [show rgO l s ds = doM (shR l s ds) (List.replicate l.length true) ds ds.length by rw [HEE.out, if_pos he, hls]; rfl]
      rw [hls] at HL
      obtain ⟨_, hmem⟩ := lsB_mem hls
      have HD := Lib.hid (fun (W : World) (hb : Below w.heap.size w W) (xl : Blk W w.heap.size 22 #[.slice A l.length c]) (xw : Blk W (w.heap.size + 1) 24 (spA s)) (xd : Blk W (w.heap.size + 1 + 1) 25 #[.slice B ds.length d]) =>
        p_done A B l ds c d 53 #[.pointer (some ⟨w.heap.size + 1 + 1, 0, none⟩), .pointer (some ⟨w.heap.size, 0, none⟩), .pointer (some ⟨w.heap.size + 1, 0, none⟩)] (shR l s ds) W (vP_len hv) hd hmem (hB.on hb) (enters_of Tryz.func53 (by kernel_rfl) rfl)
          (fun W' k m hW' hk hm => p_right1 A l s ds c d k _ _ _ B m W' hv hs hd hk hm (TabAt.on (TabAt.on hT hb) hW') ((hR.on hb).on hW') (xd.below hW' xd.lt) (xl.below hW' xl.lt) (xw.below hW' xw.lt)))
      clear he hv hs hls HEE hmem
      generalize doM (shR l s ds) (List.replicate l.length true) ds ds.length = R at *
      go_enter Tryz.func26, Tryz.ntmps26
      go_wp2_with fail
      have hz1 : W1.heap.size = w.heap.size + 1 + 1 + 1 := by rw [hW1]; simp
      have HO2 := Lib.hid (hz1 ▸ HO.out)
      have HZ := Lib.hid hz1
      clear hz1
      rw [show (((w.alloc (.cells #[.slice A l.length c] 22)).alloc (.cells #[.int .i64 s.x, .int .i64 s.y] 24)).alloc (.cells #[.slice B ds.length d] 25)) = W1 from hW1.symm]
      clear hW1
      refine (HA.out _ B1 _ HO2.out).mono ?_
      rintro e w1 ⟨rfl, hb1⟩
      have BX := below_tr B1 hb1
      have x2 := x1.below hb1 x1.lt
      have y2 := y1.below hb1 y1.lt
      have v2 := v1.below hb1 v1.lt
      have p0 := x2.cell 0
      have r0 := v2.cell 0
      simp only [List.getElem?_toArray, List.getElem?_cons_zero, List.getElem?_cons_succ] at p0 r0
      have lx := x2.lt
      have lv := v2.lt
      clear x0 y0 v0 x1 y1 v1 B0 B1 hb1 HO HO2 HA
      go_wp2_with fail
      refine (HL.out _ BX).mono ?_
      rintro e w2 ⟨rfl, hb2⟩
      have BY := below_tr BX hb2
      have x3 := x2.below hb2 x2.lt
      have y3 := y2.below hb2 y2.lt
      have v3 := v2.below hb2 v2.lt
      have HD2 := Lib.hid (HD.out w2 BY x3 y3 v3)
      have p0 := x3.cell 0
      have r0 := v3.cell 0
      simp only [List.getElem?_toArray, List.getElem?_cons_zero, List.getElem?_cons_succ] at p0 r0
      have lx3 := x3.lt
      have lv3 := v3.lt
      clear HD
      cases R with
      | none =>
        dsimp only [doneV] at HD2 ⊢
        go_wp2_with fail
        refine HD2.out.mono ?_
        rintro e w3 ⟨rfl, hb3⟩
        go_wp2
        go_ret2
        exact ⟨rfl, below_tr BY hb3⟩
      | some m =>
        dsimp only [doneV] at HD2 ⊢
        go_wp2_with fail
        refine HD2.out.mono ?_
        rintro e w3 ⟨rfl, hb3⟩
        go_wp2
        go_ret2
        exact ⟨rfl, below_tr BY hb3⟩
  · rw [show rgO l s ds = none by rw [HEE.out, if_neg he]]
    dsimp only [doneV]
    have hn := he
    obtain ⟨E, hE⟩ : ∃ E, E = stE l s := ⟨_, rfl⟩
    rw [← hE] at HA hn
    clear he hE HEE
    go_enter Tryz.func26, Tryz.ntmps26
    go_wp2_with fail
    have hz1 : W1.heap.size = w.heap.size + 1 + 1 + 1 := by rw [hW1]; simp
    have HO2 := Lib.hid (hz1 ▸ HO.out)
    have HZ := Lib.hid hz1
    clear hz1
    rw [show (((w.alloc (.cells #[.slice A l.length c] 22)).alloc (.cells #[.int .i64 s.x, .int .i64 s.y] 24)).alloc (.cells #[.slice B ds.length d] 25)) = W1 from hW1.symm]
    clear hW1
    refine (HA.out _ B1 _ HO2.out).mono ?_
    rintro e w1 ⟨rfl, hb1⟩
    have BX := below_tr B1 hb1
    have x2 := x1.below hb1 x1.lt
    have y2 := y1.below hb1 y1.lt
    have v2 := v1.below hb1 v1.lt
    have p0 := x2.cell 0
    have r0 := v2.cell 0
    simp only [List.getElem?_toArray, List.getElem?_cons_zero, List.getElem?_cons_succ] at p0 r0
    have lx := x2.lt
    have lv := v2.lt
    clear x0 y0 v0 x1 y1 v1 B0 B1 hb1 HO HO2 HA
    go_wp2
    go_ret2
    exact ⟨rfl, BX⟩
end Go.Proofs.YtkeojokbpjdhpaaGreatDoor
namespace Go.Proofs.YtkeojokbpjdhpaaGreatDoor
open Go.RowKit Go.Shelf

theorem feB_no {l : List Pr} {s : Sp} {ds : List Int} (h : riA l s ds = false) : feB l s ds = false := by unfold feB; rw [h]; rfl
theorem feB_yes {l : List Pr} {s : Sp} {ds : List Int} {m : List Bool} (h : riA l s ds = true) (hm : thM (List.replicate l.length true) ds = some m) : feB l s ds = (decide (0 < ds.length) && !heldB (lfS l m) s) := by
  unfold feB afM; rw [h, hm]; rfl
theorem riA_vs {l : List Pr} {s : Sp} {ds : List Int} (h : riA l s ds = true) : vP l = true ∧ isS s = true ∧ lsB l.length ds = true := by
  unfold riA at h
  rw [Bool.and_eq_true, Bool.and_eq_true, Bool.and_eq_true] at h
  exact ⟨h.1, h.2.1, h.2.2.1⟩
theorem thM_len' {l : List Pr} {ds : List Int} {m : List Bool} (h : thM (List.replicate l.length true) ds = some m) : m.length = l.length := by
  have := thM_len (M := List.replicate l.length true) (ds := ds) ds.length (by rw [List.take_length]; exact h)
  simpa using this
set_option maxHeartbeats 4000000 in
theorem p_Fells (A B : Option Addr) (l : List Pr) (s : Sp) (ds : List Int) (c d : Nat) (w : World) (hl : l.length ≤ 100) (hd : ds.length ≤ 100000) (hT : Tab w) (hR : Rd Pr.cs 3 w A l) (hB : Rd zC 1 w B ds) :
    Calls Tryz.prog 8 #[.slice A l.length c, spV s, .slice B ds.length d] w fun e w' => e = .returned (.bool (feB l s ds)) ∧ Below w.heap.size w w' := by
  have B0 := bl_alloc (below_refl w) (.cells (spA s) 24)
  have x0 := Blk.new w 24 (spA s)
  have HC := Lib.hid (p_right A B l s ds c d _ hl hd (TabAt.on hT B0) (hR.on B0) (hB.on B0))
  rw [rgO_is] at HC
  cases hr : riA l s ds
  · rw [hr] at HC
    simp only [Bool.false_eq_true, if_false] at HC
    dsimp only [doneV] at HC
    rw [feB_no hr]
    clear hr
    go_enter Tryz.func8, Tryz.ntmps8
    go_wp2_with fail
    refine HC.out.mono ?_
    rintro e w1 ⟨rfl, hb1⟩
    go_wp2_with fail
    refine wp_region_noPanic ?_
    refine wp_region_held_drew (S := (fun w' => (∀ b o, b < w1.heap.size → w'.cell? ⟨b, o, none⟩ = w1.cell? ⟨b, o, none⟩) ∧ (∀ b o, b < w1.heap.size → w'.frozen? ⟨b, o, none⟩ = w1.frozen? ⟨b, o, none⟩) ∧ Below w1.heap.size w1 w')) (by kernel_rfl) (kq_draw kq_refl) (fun hS0 => ?_)
    refine wpAnyH_take (i := 0) (oi := { dst := some 16, op := _, type := _, pos := _, after := _, guard := none }) (v := ?gv9) rfl (by kernel_rfl) (by kernel_rfl) (by kernel_rfl) (fun _ _ _ h => h) (Or.inl ⟨by rfl, ?gy9⟩) (by assumption) ?_
    case gy9 => (intro w' hSw; go_simp; try with_reducible rfl)
    try simp only [Act.put, List.setIfInBounds_toArray, List.set_cons_zero, List.set_cons_succ]
    refine wpAnyH_take (i := 1) (oi := { dst := some 17, op := _, type := _, pos := _, after := _, guard := none }) (v := ?gv10) rfl (by kernel_rfl) (by kernel_rfl) (by kernel_rfl) (fun _ _ _ h => h) (Or.inl ⟨by rfl, ?gy10⟩) (by assumption) ?_
    case gy10 => (intro w' hSw; go_simp; try with_reducible rfl)
    try simp only [Act.put, List.setIfInBounds_toArray, List.set_cons_zero, List.set_cons_succ]
    refine wpAnyH_take (i := 2) (oi := { dst := some 18, op := _, type := _, pos := _, after := _, guard := some (1, true) }) (v := undef) rfl (by kernel_rfl) (by kernel_rfl) (by kernel_rfl) (fun _ _ _ h => h) (Or.inr ⟨by rfl, rfl⟩) (by assumption) ?_
    try simp only [Act.put, List.setIfInBounds_toArray, List.set_cons_zero, List.set_cons_succ]
    refine wpAnyH_take (i := 3) (oi := { dst := some 19, op := _, type := _, pos := _, after := _, guard := some (1, true) }) (v := undef) rfl (by kernel_rfl) (by kernel_rfl) (by kernel_rfl) (fun _ _ _ h => h) (Or.inr ⟨by rfl, rfl⟩) (by assumption) ?_
    try simp only [Act.put, List.setIfInBounds_toArray, List.set_cons_zero, List.set_cons_succ]
    refine wpAnyH_take (i := 4) (oi := { dst := some 20, op := _, type := _, pos := _, after := _, guard := some (1, true) }) (v := undef) rfl (by kernel_rfl) (by kernel_rfl) (by kernel_rfl) (fun _ _ _ h => h) (Or.inr ⟨by rfl, rfl⟩) (by assumption) ?_
    try simp only [Act.put, List.setIfInBounds_toArray, List.set_cons_zero, List.set_cons_succ]
    refine wpAnyH_take (i := 5) (oi := { dst := some 21, op := _, type := _, pos := _, after := _, guard := none }) (v := ?gv11) rfl (by kernel_rfl) (by kernel_rfl) (by kernel_rfl) (fun _ _ _ h => h) (Or.inl ⟨by rfl, ?gy11⟩) (by assumption) ?_
    case gy11 => (intro w' hSw; go_simp; try with_reducible rfl)
    try simp only [Act.put, List.setIfInBounds_toArray, List.set_cons_zero, List.set_cons_succ]
    refine wpAnyH_take (i := 6) (oi := { dst := some 22, op := _, type := _, pos := _, after := _, guard := none }) (v := ?gv12) rfl (by kernel_rfl) (by kernel_rfl) (by kernel_rfl) (fun _ _ _ h => h) (Or.inl ⟨by rfl, ?gy12⟩) (by assumption) ?_
    case gy12 => (intro w' hSw; go_simp; try with_reducible rfl)
    try simp only [Act.put, List.setIfInBounds_toArray, List.set_cons_zero, List.set_cons_succ]
    refine wpAnyH_take (i := 7) (oi := { dst := some 23, op := _, type := _, pos := _, after := _, guard := some (6, true) }) (v := undef) rfl (by kernel_rfl) (by kernel_rfl) (by kernel_rfl) (fun _ _ _ h => h) (Or.inr ⟨by rfl, rfl⟩) (by assumption) ?_
    try simp only [Act.put, List.setIfInBounds_toArray, List.set_cons_zero, List.set_cons_succ]
    refine wpAnyH_take (i := 8) (oi := { dst := some 24, op := _, type := _, pos := _, after := _, guard := some (6, true) }) (v := undef) rfl (by kernel_rfl) (by kernel_rfl) (by kernel_rfl) (fun _ _ _ h => h) (Or.inr ⟨by rfl, rfl⟩) (by assumption) ?_
    try simp only [Act.put, List.setIfInBounds_toArray, List.set_cons_zero, List.set_cons_succ]
    refine wpAnyH_take (i := 9) (oi := { dst := some 25, op := _, type := _, pos := _, after := _, guard := some (6, true) }) (v := undef) rfl (by kernel_rfl) (by kernel_rfl) (by kernel_rfl) (fun _ _ _ h => h) (Or.inr ⟨by rfl, rfl⟩) (by assumption) ?_
    try simp only [Act.put, List.setIfInBounds_toArray, List.set_cons_zero, List.set_cons_succ]
    refine wpAnyH_take (i := 10) (oi := { dst := some 26, op := _, type := _, pos := _, after := _, guard := some (6, true) }) (v := undef) rfl (by kernel_rfl) (by kernel_rfl) (by kernel_rfl) (fun _ _ _ h => h) (Or.inr ⟨by rfl, rfl⟩) (by assumption) ?_
    try simp only [Act.put, List.setIfInBounds_toArray, List.set_cons_zero, List.set_cons_succ]
    refine wpAnyH_take (i := 11) (oi := { dst := some 27, op := _, type := _, pos := _, after := _, guard := some (6, true) }) (v := undef) rfl (by kernel_rfl) (by kernel_rfl) (by kernel_rfl) (fun _ _ _ h => h) (Or.inr ⟨by rfl, rfl⟩) (by assumption) ?_
    try simp only [Act.put, List.setIfInBounds_toArray, List.set_cons_zero, List.set_cons_succ]
    refine wpAnyH_take (i := 12) (oi := { dst := some 28, op := _, type := _, pos := _, after := _, guard := some (6, true) }) (v := undef) rfl (by kernel_rfl) (by kernel_rfl) (by kernel_rfl) (fun _ _ _ h => h) (Or.inr ⟨by rfl, rfl⟩) (by assumption) ?_
    try simp only [Act.put, List.setIfInBounds_toArray, List.set_cons_zero, List.set_cons_succ]
    refine wpAnyH_take (i := 13) (oi := { dst := some 29, op := _, type := _, pos := _, after := _, guard := none }) (v := ?gv13) rfl (by kernel_rfl) (by kernel_rfl) (by kernel_rfl) (fun _ _ _ h => h) (Or.inl ⟨by rfl, ?gy13⟩) (by assumption) ?_
    case gy13 => (intro w' hSw; go_simp; try with_reducible rfl)
    try simp only [Act.put, List.setIfInBounds_toArray, List.set_cons_zero, List.set_cons_succ]
    refine wpAnyH_take (i := 14) (oi := { dst := some 6, op := _, type := _, pos := _, after := _, guard := none }) (v := ?gv14) rfl (by kernel_rfl) (by kernel_rfl) (by kernel_rfl) (fun _ _ _ h => h) (Or.inl ⟨by rfl, ?gy14⟩) (by assumption) ?_
    case gy14 => (intro w' hSw; go_simp; try with_reducible rfl)
    try simp only [Act.put, List.setIfInBounds_toArray, List.set_cons_zero, List.set_cons_succ]
    refine wpAnyH_done (by kernel_rfl) (NoPanic.normal ?_) _
    go_wp2
    go_ret
    exact ⟨rfl, below_tr B0 (by (repeat' (first | assumption | exact below_refl _ | refine bl_alloc ?_ _ | refine Below.setCell ?_ ?_ _ | refine below_draw ?_ | refine below_drewN ?_ _ | refine below_tr ?_ (by assumption))) <;> (first | omega | (simp; done) | (simp; omega)))⟩
  · obtain ⟨m, hm⟩ := riA_some hr
    obtain ⟨hv, hs, _⟩ := riA_vs hr
    have hml := thM_len' hm
    obtain ⟨o1, o2, o3⟩ := lfS_ok hv hml
    have hset := encM_set (show m.length ≤ 24 by have := vP_len hv; omega)
    rw [hr, hm] at HC
    simp only [if_true] at HC
    dsimp only [doneV] at HC
    rw [feB_yes hr hm]
    have HO := Lib.hid (fun (W : World) (hb : Below w.heap.size w W) => p_of A l c (encM m) m W hset hml (TabAt.on hT hb) (hR.on hb))
    have HS := Lib.hid (fun (W : World) (A : Option Addr) (c : Nat) (hR : Rd Sp.cs 2 W A (lfS l m)) => p_stands A (lfS l m) c s W o1 o2 o3 (isS_bd hs) hR)
    clear hr hm hv hs hml o1 o2 o3 hset hT hR hB
    generalize lfS l m = L at *
    by_cases h0 : 0 < ds.length
    · have h0' : 0 < (ds.length : Int) := by omega
      have d1 : decide (0 < (ds.length : Int)) = true := decide_eq_true h0'
      rw [show decide (0 < ds.length) = true from decide_eq_true h0, Bool.true_and]
      generalize heldB L s = V at *
      go_enter Tryz.func8, Tryz.ntmps8
      go_wp2_with fail
      refine HC.out.mono ?_
      rintro e w1 ⟨rfl, hb1⟩
      have BX := below_tr B0 hb1
      have x1 := x0.below hb1 x0.lt
      have q0 := x1.cell 0
      have q1 := x1.cell 1
      simp only [List.getElem?_toArray, List.getElem?_cons_zero, List.getElem?_cons_succ] at q0 q1
      have lx := x1.lt
      clear B0 x0 hb1 HC
      go_wp2_with fail
      go_region_held3 (fun w' => (∀ b o, b < w1.heap.size → w'.cell? ⟨b, o, none⟩ = w1.cell? ⟨b, o, none⟩) ∧ (∀ b o, b < w1.heap.size → w'.frozen? ⟨b, o, none⟩ = w1.frozen? ⟨b, o, none⟩) ∧ Below w1.heap.size w1 w') ((first | assumption | (refine kp_of ?_; (repeat' (first | assumption | exact below_refl _ | refine bl_alloc ?_ _ | refine Below.setCell ?_ ?_ _ | refine below_draw ?_ | refine below_drewN ?_ _ | refine below_tr ?_ (by assumption))) <;> (first | omega | (simp; done) | (simp; omega))))) ((first | (go_at_call 19; ((with_reducible refine (HO.out _ (by (repeat' (first | assumption | exact below_refl _ | refine bl_alloc ?_ _ | refine Below.setCell ?_ ?_ _ | refine below_draw ?_ | refine below_drewN ?_ _ | refine below_tr ?_ (by assumption))) <;> (first | omega | (simp; done) | (simp; omega)))).mono ?_); rintro e w3 ⟨v3, rfl, ho3, hb3⟩; obtain ⟨A3, c3, rfl, hR3⟩ := own_rd Sp.cs_len ho3; obtain ⟨hc3, hf3⟩ := bcell hb3; have hz3 := hb3.size; (try simp [sz_drew, sz_drewN] at hz3); (try simp only [sz_drew, sz_drewN] at hc3 hf3))) | (go_at_call 14; ((with_reducible refine (HS.out _ _ _ hR3).mono ?_); rintro e w4 ⟨rfl, hb4⟩; obtain ⟨hc4, hf4⟩ := bcell hb4; have hz4 := hb4.size; (try simp [sz_drew, sz_drewN] at hz4); (try simp only [sz_drew, sz_drewN] at hc4 hf4)))))
      all_goals
        go_wp2
        go_ret
        exact ⟨rfl, by (repeat' (first | assumption | exact below_refl _ | refine bl_alloc ?_ _ | refine Below.setCell ?_ ?_ _ | refine below_draw ?_ | refine below_drewN ?_ _ | refine below_tr ?_ (by assumption))) <;> (first | omega | (simp; done) | (simp; omega))⟩
    · have h0' : ¬ 0 < (ds.length : Int) := by omega
      have d1 : decide (0 < (ds.length : Int)) = false := decide_eq_false h0'
      rw [show decide (0 < ds.length) = false from decide_eq_false h0, Bool.false_and]
      go_enter Tryz.func8, Tryz.ntmps8
      go_wp2_with fail
      refine HC.out.mono ?_
      rintro e w1 ⟨rfl, hb1⟩
      go_wp2_with fail
      refine wp_region_noPanic ?_
      refine wp_region_held_drew (S := (fun w' => (∀ b o, b < w1.heap.size → w'.cell? ⟨b, o, none⟩ = w1.cell? ⟨b, o, none⟩) ∧ (∀ b o, b < w1.heap.size → w'.frozen? ⟨b, o, none⟩ = w1.frozen? ⟨b, o, none⟩) ∧ Below w1.heap.size w1 w')) (by kernel_rfl) (kq_draw kq_refl) (fun hS0 => ?_)
      refine wpAnyH_take (i := 0) (oi := { dst := some 16, op := _, type := _, pos := _, after := _, guard := none }) (v := ?gv15) rfl (by kernel_rfl) (by kernel_rfl) (by kernel_rfl) (fun _ _ _ h => h) (Or.inl ⟨by rfl, ?gy15⟩) (by assumption) ?_
      case gy15 => (intro w' hSw; go_simp; try with_reducible rfl)
      try simp only [Act.put, List.setIfInBounds_toArray, List.set_cons_zero, List.set_cons_succ]
      refine wpAnyH_take (i := 1) (oi := { dst := some 17, op := _, type := _, pos := _, after := _, guard := none }) (v := ?gv16) rfl (by kernel_rfl) (by kernel_rfl) (by kernel_rfl) (fun _ _ _ h => h) (Or.inl ⟨by rfl, ?gy16⟩) (by assumption) ?_
      case gy16 => (intro w' hSw; go_simp; try with_reducible rfl)
      try simp only [Act.put, List.setIfInBounds_toArray, List.set_cons_zero, List.set_cons_succ]
      refine wpAnyH_take (i := 2) (oi := { dst := some 18, op := _, type := _, pos := _, after := _, guard := some (1, true) }) (v := ?gv17) rfl (by kernel_rfl) (by kernel_rfl) (by kernel_rfl) (fun _ _ _ h => h) (Or.inl ⟨by rfl, ?gy17⟩) (by assumption) ?_
      case gy17 => (intro w' hSw; go_simp; try with_reducible rfl)
      try simp only [Act.put, List.setIfInBounds_toArray, List.set_cons_zero, List.set_cons_succ]
      refine wpAnyH_take (i := 3) (oi := { dst := some 19, op := _, type := _, pos := _, after := _, guard := some (1, true) }) (v := ?gv18) rfl (by kernel_rfl) (by kernel_rfl) (by kernel_rfl) (fun _ _ _ h => h) (Or.inl ⟨by rfl, ?gy18⟩) (by assumption) ?_
      case gy18 => (intro w' hSw; go_simp; try with_reducible rfl)
      try simp only [Act.put, List.setIfInBounds_toArray, List.set_cons_zero, List.set_cons_succ]
      refine wpAnyH_take (i := 4) (oi := { dst := some 20, op := _, type := _, pos := _, after := _, guard := some (1, true) }) (v := ?gv19) rfl (by kernel_rfl) (by kernel_rfl) (by kernel_rfl) (fun _ _ _ h => h) (Or.inl ⟨by rfl, ?gy19⟩) (by assumption) ?_
      case gy19 => (intro w' hSw; go_simp; try with_reducible rfl)
      try simp only [Act.put, List.setIfInBounds_toArray, List.set_cons_zero, List.set_cons_succ]
      refine wpAnyH_take (i := 5) (oi := { dst := some 21, op := _, type := _, pos := _, after := _, guard := none }) (v := ?gv20) rfl (by kernel_rfl) (by kernel_rfl) (by kernel_rfl) (fun _ _ _ h => h) (Or.inl ⟨by rfl, ?gy20⟩) (by assumption) ?_
      case gy20 => (intro w' hSw; go_simp; try with_reducible rfl)
      try simp only [Act.put, List.setIfInBounds_toArray, List.set_cons_zero, List.set_cons_succ]
      refine wpAnyH_take (i := 6) (oi := { dst := some 22, op := _, type := _, pos := _, after := _, guard := none }) (v := ?gv21) rfl (by kernel_rfl) (by kernel_rfl) (by kernel_rfl) (fun _ _ _ h => h) (Or.inl ⟨by rfl, ?gy21⟩) (by assumption) ?_
      case gy21 => (intro w' hSw; go_simp; try with_reducible rfl)
      try simp only [Act.put, List.setIfInBounds_toArray, List.set_cons_zero, List.set_cons_succ]
      refine wpAnyH_take (i := 7) (oi := { dst := some 23, op := _, type := _, pos := _, after := _, guard := some (6, true) }) (v := undef) rfl (by kernel_rfl) (by kernel_rfl) (by kernel_rfl) (fun _ _ _ h => h) (Or.inr ⟨by rfl, rfl⟩) (by assumption) ?_
      try simp only [Act.put, List.setIfInBounds_toArray, List.set_cons_zero, List.set_cons_succ]
      refine wpAnyH_take (i := 8) (oi := { dst := some 24, op := _, type := _, pos := _, after := _, guard := some (6, true) }) (v := undef) rfl (by kernel_rfl) (by kernel_rfl) (by kernel_rfl) (fun _ _ _ h => h) (Or.inr ⟨by rfl, rfl⟩) (by assumption) ?_
      try simp only [Act.put, List.setIfInBounds_toArray, List.set_cons_zero, List.set_cons_succ]
      refine wpAnyH_take (i := 9) (oi := { dst := some 25, op := _, type := _, pos := _, after := _, guard := some (6, true) }) (v := undef) rfl (by kernel_rfl) (by kernel_rfl) (by kernel_rfl) (fun _ _ _ h => h) (Or.inr ⟨by rfl, rfl⟩) (by assumption) ?_
      try simp only [Act.put, List.setIfInBounds_toArray, List.set_cons_zero, List.set_cons_succ]
      refine wpAnyH_take (i := 10) (oi := { dst := some 26, op := _, type := _, pos := _, after := _, guard := some (6, true) }) (v := undef) rfl (by kernel_rfl) (by kernel_rfl) (by kernel_rfl) (fun _ _ _ h => h) (Or.inr ⟨by rfl, rfl⟩) (by assumption) ?_
      try simp only [Act.put, List.setIfInBounds_toArray, List.set_cons_zero, List.set_cons_succ]
      refine wpAnyH_take (i := 11) (oi := { dst := some 27, op := _, type := _, pos := _, after := _, guard := some (6, true) }) (v := undef) rfl (by kernel_rfl) (by kernel_rfl) (by kernel_rfl) (fun _ _ _ h => h) (Or.inr ⟨by rfl, rfl⟩) (by assumption) ?_
      try simp only [Act.put, List.setIfInBounds_toArray, List.set_cons_zero, List.set_cons_succ]
      refine wpAnyH_take (i := 12) (oi := { dst := some 28, op := _, type := _, pos := _, after := _, guard := some (6, true) }) (v := undef) rfl (by kernel_rfl) (by kernel_rfl) (by kernel_rfl) (fun _ _ _ h => h) (Or.inr ⟨by rfl, rfl⟩) (by assumption) ?_
      try simp only [Act.put, List.setIfInBounds_toArray, List.set_cons_zero, List.set_cons_succ]
      refine wpAnyH_take (i := 13) (oi := { dst := some 29, op := _, type := _, pos := _, after := _, guard := none }) (v := ?gv22) rfl (by kernel_rfl) (by kernel_rfl) (by kernel_rfl) (fun _ _ _ h => h) (Or.inl ⟨by rfl, ?gy22⟩) (by assumption) ?_
      case gy22 => (intro w' hSw; go_simp; try with_reducible rfl)
      try simp only [Act.put, List.setIfInBounds_toArray, List.set_cons_zero, List.set_cons_succ]
      refine wpAnyH_take (i := 14) (oi := { dst := some 6, op := _, type := _, pos := _, after := _, guard := none }) (v := ?gv23) rfl (by kernel_rfl) (by kernel_rfl) (by kernel_rfl) (fun _ _ _ h => h) (Or.inl ⟨by rfl, ?gy23⟩) (by assumption) ?_
      case gy23 => (intro w' hSw; go_simp; try with_reducible rfl)
      try simp only [Act.put, List.setIfInBounds_toArray, List.set_cons_zero, List.set_cons_succ]
      refine wpAnyH_done (by kernel_rfl) (NoPanic.normal ?_) _
      go_wp2
      go_ret
      exact ⟨rfl, below_tr B0 (by (repeat' (first | assumption | exact below_refl _ | refine bl_alloc ?_ _ | refine Below.setCell ?_ ?_ _ | refine below_draw ?_ | refine below_drewN ?_ _ | refine below_tr ?_ (by assumption))) <;> (first | omega | (simp; done) | (simp; omega)))⟩
def lfK (l : List Pr) (M : List Bool) (k : Nat) : List Pr := ((List.range k).filter fun i => M.getD i false).map (prAt l)
theorem lfK_yes {l : List Pr} {M : List Bool} {k : Nat} {x : Pr} (hx : l[k]? = some x) (h : M.getD k false = true) : lfK l M (k + 1) = lfK l M k ++ [x] := by
  unfold lfK; rw [List.range_succ, List.filter_append, List.map_append, List.filter_cons_of_pos (by simpa using h), List.filter_nil, List.map_cons, List.map_nil, prAt_of hx]
theorem lfK_no {l : List Pr} {M : List Bool} {k : Nat} (h : M.getD k false = false) : lfK l M (k + 1) = lfK l M k := by
  unfold lfK; rw [List.range_succ, List.filter_append, List.map_append, List.filter_cons_of_neg (by show ¬ M.getD k false = true; rw [h]; simp), List.filter_nil, List.map_nil, List.append_nil]
theorem lfK_len (l : List Pr) (M : List Bool) (k : Nat) : (lfK l M k).length ≤ k := by
  unfold lfK; rw [List.length_map]
  have := List.length_filter_le (fun i => M.getD i false) (List.range k)
  simpa using this
theorem lfK_spots {l : List Pr} {M : List Bool} (h : M.length = l.length) : spL (lfK l M l.length) = lfS l M := by
  unfold spL lfK lfS mM
  rw [List.map_map, h]; rfl
theorem prC_oneP (x : Pr) : ∀ u ∈ x.cs, u.oneCell' = true := fun u hu => by
  simp only [Pr.cs, List.mem_cons, List.not_mem_nil, or_false] at hu
  rcases hu with rfl | rfl | rfl <;> rfl
theorem fl_snocPr (l : List Pr) (x : Pr) : fl Pr.cs (l ++ [x]) = fl Pr.cs l ++ Pr.cs x := by simp [fl]
set_option maxHeartbeats 2000000 in
theorem r_left (A : Option Addr) (l : List Pr) (M : List Bool) (c g : Nat) (w : World) (hl : l.length ≤ 100) (hM : M.length = l.length) (hR : Rd Pr.cs 3 w A l) (hg : Blk w g 4 (bA M)) :
    Calls Tryz.prog 49 #[.slice A l.length c, .slice (some ⟨g, 0, none⟩) l.length l.length] w fun e w' => ∃ v, e = .returned v ∧ w'.ownsRow w.heap.size 34 3 v (lfK l M l.length).length (fl Pr.cs (lfK l M l.length)) ∧ Below w.heap.size w w' := by
  obtain ⟨i0, hi, hi1, hi2, hi3⟩ := info_prop
  have HLN := Lib.hid (lfK_len l M)
  go_enter Tryz.func49, Tryz.ntmps49
  go_wp2
  go_loopw [5, 6] (fun v i wr => ∃ k : Nat, k ≤ l.length ∧ i = .int .i64 k ∧ Below w.heap.size w wr ∧ wr.ownsRow w.heap.size 34 3 v (lfK l M k).length (fl Pr.cs (lfK l M k))) (fun _ i _ => l.length - (intOf i).toNat)
  case atStart => exact ⟨0, by omega, rfl, below_refl _, World.ownsRow_nil w _ _ _⟩
  case round =>
    obtain ⟨k, hk, rfl, hbw, hown⟩ := hrel
    obtain ⟨ad, cp, rfl⟩ := own_slice hown
    have k0 : (0 : Int) ≤ (k : Int) := Int.natCast_nonneg _
    have hws := hbw.size
    by_cases hlt : k < l.length
    · have k1 : (k : Int) < (l.length : Int) := by omega
      have hgr := hg.below hbw hg.lt
      have q0 := blk_get hgr (show k < M.length by omega)
      have lg := hgr.lt
      obtain ⟨x, b, off, hx, rfl, hb, c0, c1, c2⟩ := rdP (hR.on hbw) hlt
      have hln := HLN.out k
      rename World => wr
      cases hmk : M.getD k false
      · have HS := Lib.hid (lfK_no (l := l) hmk)
        rw [hmk] at q0
        clear hmk hx
        go_wp2
        go_roundw
        case rel => exact ⟨k + 1, by omega, by go_num, hbw, by rw [HS.out]; exact hown⟩
        case measure => simp [intOf]; omega
      · have HS := Lib.hid (lfK_yes hx hmk)
        rw [hmk] at q0
        clear hmk hx
        go_wp2_with (at_builtin; refine wpList_append_own _ rfl _ _ 22 rfl w.heap.size 34 i0 (.agg #[.int .i64 0, .int .i64 0, .bool false]) 3 24 (by kernel_rfl) hi hi1 hi2 hi3 rfl (by omega) _ _ _ rfl (hown.alloc _) ⟨wr.heap.size, 0, none⟩ 1 1 (Pr.cs x) rfl rfl (cells_new wr (Pr.cs x) 34) (prC_oneP x) (by unfold maxLen; omega) (by omega) (by simp; omega) ?_; intro v' w9 hown9 hgrow _)
        go_roundw
        case rel => exact ⟨k + 1, by omega, by go_num, bl_app hbw hown hgrow (Nat.le_refl _) hbw.size, by rw [HS.out, fl_snocPr, List.length_append]; exact hown9⟩
        case measure => simp [intOf]; omega
    · obtain rfl : k = l.length := by omega
      go_wp2
      go_ret
      exact ⟨_, rfl, hown, hbw⟩
/-- can all be done, does it stand behind -/
def soV (l : List Pr) (s : Sp) (o : Option (List Bool)) : Value := match o with
  | some m => .tuple #[.bool true, .bool (heldB (lfS l m) s)]
  | none => .tuple #[.bool false, .bool false]
end Go.Proofs.YtkeojokbpjdhpaaGreatDoor
