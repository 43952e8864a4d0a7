/- Fell: deeds by the reference: numbered, there, left, stood. -/
import Derived.Test.YtkeojokbpjdhpaaDoorFgd
import Derived.Laws.MakeOwn
set_option linter.unusedSimpArgs false
set_option linter.unusedVariables false
namespace Go.Proofs.YtkeojokbpjdhpaaDoor
open Go.RowKit Go.Shelf

def bA (M : List Bool) : Array Value := (M.map Value.bool).toArray
theorem bA_get {M : List Bool} {i : Nat} (h : i < M.length) : (bA M)[i]? = some (.bool (M.getD i false)) := by
  unfold bA; simp [List.getD, h]
theorem bA_set (M : List Bool) (i : Nat) (b : Bool) : (bA M).setIfInBounds i (.bool b) = bA (M.set i b) := by
  unfold bA; simp [List.map_set]
theorem bA_made (n : Nat) : madeCells (Value.bool false).cells (n * 1) = bA (List.replicate n false) := by
  have : (Value.bool false).cells = #[.bool false] := rfl
  rw [this, Nat.mul_one]
  apply Array.toList_inj.1
  rw [toList_madeCells_one]; unfold bA; simp
theorem info_bool3 : ∃ i : TypeInfo, Tryd.prog.info? 4 = some i ∧ i.zero = some (.bool false) ∧ i.size = 1 ∧ i.bytes = 1 := info_parts (by kernel_rfl)
theorem run_mkB (n : Nat) (hn : n ≤ 1000) (w : World) : (Instr.makeSlice 67 (.int .i64 (n : Int)) (.int .i64 (n : Int))).run Tryd.prog w = .ok (.slice (some ⟨w.heap.size, 0, none⟩) n n) (w.alloc (.cells (bA (List.replicate n false)) 4)) := by
  obtain ⟨i, h1, h2, h3, h4⟩ := info_bool3
  have := run_makeSlice (P := Tryd.prog) w 67 4 i (.bool false) (by kernel_rfl) h1 h2 .i64 .i64 n n (by omega) (by omega) (by rw [h3]; omega) (by rw [h4]; omega) (by omega)
  rw [this, h3, Int.toNat_natCast, bA_made]
theorem blk_get {w : World} {g : Nat} {t : TypeId} {M : List Bool} (h : Blk w g t (bA M)) {i : Nat} (hi : i < M.length) : w.cell? ⟨g, i, none⟩ = some (.bool (M.getD i false)) := by
  rw [h.cell, bA_get hi]
theorem blk_put {w : World} {g : Nat} {t : TypeId} {M : List Bool} (h : Blk w g t (bA M)) (i : Nat) (b : Bool) : Blk (w.setCell ⟨g, i, none⟩ (.bool b)) g t (bA (M.set i b)) := by
  have := h.set_ i (.bool b)
  rwa [bA_set] at this
theorem all_true {M : List Bool} {n : Nat} (h : M.length = n) (ht : ∀ i, i < n → M.getD i false = true) : M = List.replicate n true := by
  refine List.ext_getElem (by simpa using h) fun i h1 h2 => ?_
  have := ht i (by simpa using h2)
  simp [List.getD, h1] at this
  simp [this]
def numE (n : Nat) (ds : List Int) : Int := if lsB n ds = true then 0 else 7
set_option maxHeartbeats 1000000 in
theorem r_numbered (A B : Option Addr) (l : List Pr) (ds : List Int) (c d : Nat) (w : World) (hl : l.length ≤ 100) (hd : ds.length ≤ 100000) (hv : vP l = true) (hR : Rd Pr.cs 3 w A l) (hB : Rd zC 1 w B ds) :
    Calls Tryd.prog 38 #[.slice A l.length c, .slice B ds.length d] w fun e w' => e = .returned (.int .i64 (numE l.length ds)) ∧ Below w.heap.size w w' := by
  have HV := Lib.hid (r_Valid A l c w (by omega) hR)
  rw [hv] at HV
  have HL := Lib.hid (show lsB l.length ds = (decide (ds.length ≤ 100) && ds.all fun d => wn d 0 (2 * (l.length : Int) - 1)) from rfl)
  have hw1 : IntKind.i64.wrap (2 * (l.length : Int)) = 2 * (l.length : Int) := fits_wrap (by omega)
  have hw2 : IntKind.i64.wrap (2 * (l.length : Int) - 1) = 2 * (l.length : Int) - 1 := fits_wrap (by omega)
  have HN0 := Lib.hid (fun (h : lsB l.length ds = true) => (show numE l.length ds = 0 by unfold numE; rw [if_pos h]))
  have HN7 := Lib.hid (fun (h : lsB l.length ds = false) => (show numE l.length ds = 7 by unfold numE; rw [h]; rfl))
  generalize lsB l.length ds = V at *
  generalize numE l.length ds = E at *
  clear hv hR
  by_cases h1 : ds.length ≤ 100
  · have h1' : ¬ 100 < (ds.length : Int) := by omega
    have d1 : decide (100 < (ds.length : Int)) = false := decide_eq_false h1'
    have HT := Lib.hid (show V = ds.all fun d => wn d 0 (2 * (l.length : Int) - 1) by rw [HL.out]; simp [h1])
    go_enter Tryd.func38, Tryd.ntmps38
    go_wp2_with fail
    refine HV.out.mono ?_
    rintro e w1 ⟨rfl, hb1⟩
    go_wp2_with fail
    go_loopw [5] (fun i wr => ∃ k : Nat, k ≤ ds.length ∧ i = .int .i64 k ∧ Below w.heap.size w wr ∧ Hid (((ds.take k).all fun d => wn d 0 (2 * (l.length : Int) - 1)) = true)) (fun i _ => ds.length - (intOf i).toNat)
    case atStart => exact ⟨0, by omega, rfl, hb1, Lib.hid rfl⟩
    case round =>
      clear hb1
      obtain ⟨k, hk, rfl, hbw, HI⟩ := hrel
      have k0 : (0 : Int) ≤ (k : Int) := Int.natCast_nonneg _
      by_cases hlt : k < ds.length
      · have k1 : (k : Int) < (ds.length : Int) := by omega
        obtain ⟨x, b, off, hx, rfl, hb, c0⟩ := rd_int (hB.on hbw) hlt
        cases h2 : wn x 0 (2 * (l.length : Int) - 1)
        · have Q := Lib.hid (r_withinV h2)
          have HE := Lib.hid (HN7.out (show V = false by rw [HT.out, List.all_eq_false]; exact ⟨x, List.mem_of_getElem? hx, by simp [h2]⟩))
          clear h2 hx HI
          go_wp2_with (go_at_call 51; ((with_reducible refine (Q.out _).mono ?_); rintro e w' ⟨rfl, rfl⟩))
          go_ret
          exact ⟨ret_int HE.out.symm, hbw⟩
        · have Q := Lib.hid (r_withinV h2)
          have HN := Lib.hid (show ((ds.take (k + 1)).all fun d => wn d 0 (2 * (l.length : Int) - 1)) = true by rw [List.take_add_one, hx, List.all_append, HI.out]; simp [h2])
          clear h2 hx HI
          go_wp2_with (go_at_call 51; ((with_reducible refine (Q.out _).mono ?_); rintro e w' ⟨rfl, rfl⟩))
          go_roundw
          case rel => exact ⟨k + 1, by omega, by go_num, hbw, HN.out⟩
          case measure => simp [intOf]; omega
      · obtain rfl : k = ds.length := by omega
        have HE := Lib.hid (HN0.out (show V = true by rw [HT.out]; have := HI.out; rwa [List.take_length] at this))
        go_wp2
        go_ret
        exact ⟨ret_int HE.out.symm, hbw⟩
  · have h1' : 100 < (ds.length : Int) := by omega
    have d1 : decide (100 < (ds.length : Int)) = true := decide_eq_true h1'
    have HE := Lib.hid (HN7.out (show V = false by rw [HL.out]; simp [h1]))
    go_enter Tryd.func38, Tryd.ntmps38
    go_wp2_with fail
    refine HV.out.mono ?_
    rintro e w1 ⟨rfl, hb1⟩
    go_wp2
    go_ret
    exact ⟨ret_int HE.out.symm, hb1⟩
theorem r_numberedNo (A B : Option Addr) (l : List Pr) (ds : List Int) (c d : Nat) (w : World) (hl : l.length ≤ 100000) (hv : vP l = false) (hR : Rd Pr.cs 3 w A l) :
    Calls Tryd.prog 38 #[.slice A l.length c, .slice B ds.length d] w fun e w' => e = .returned (.int .i64 1) ∧ Below w.heap.size w w' := by
  have HV := Lib.hid (r_Valid A l c w hl hR)
  rw [hv] at HV
  go_enter Tryd.func38, Tryd.ntmps38
  go_wp2_with fail
  refine HV.out.mono ?_
  rintro e w1 ⟨rfl, hb1⟩
  go_wp2
  go_ret
  exact ⟨rfl, hb1⟩
def TheP (o : Option (List Bool)) (n : Nat) (w : World) (e : Ending) (w' : World) : Prop := match o with
  | some m => ∃ g, e = .returned (.tuple #[.slice (some ⟨g, 0, none⟩) n n, .bool true]) ∧ Blk w' g 4 (bA m) ∧ w.heap.size ≤ g ∧ Below w.heap.size w w'
  | none => e = .returned (.tuple #[.slice none 0 0, .bool false]) ∧ Below w.heap.size w w'
set_option maxHeartbeats 4000000 in
set_option maxRecDepth 20000 in
theorem r_there (A B : Option Addr) (n c d : Nat) (ds : List Int) (w : World) (hn : n ≤ 100) (hd : ds.length ≤ 100000) (hls : ∀ x ∈ ds, 0 ≤ x ∧ x < 2 * (n : Int)) (hB : Rd zC 1 w B ds) :
    Calls Tryd.prog 39 #[.slice A n c, .slice B ds.length d] w (TheP (thM (List.replicate n true) ds) n w) := by
  have HLS := Lib.hid hls
  have hmk := run_mkB n (by omega)
  obtain ⟨M0, hM0⟩ : ∃ M0, M0 = List.replicate n true := ⟨_, rfl⟩
  have HAT := Lib.hid (fun (M : List Bool) (h : M.length = n) ht => (all_true h ht).trans hM0.symm)
  have hM0l : M0.length = n := by rw [hM0]; simp
  rw [← hM0]
  clear hls hM0
  have HNO := Lib.hid (fun k (h : thM M0 (ds.take k) = none) => thM_none M0 k ds h)
  have HST := Lib.hid (fun k x (hx : ds[k]? = some x) m (h : thM M0 (ds.take k) = some m) => (show thM M0 (ds.take (k + 1)) = dsB m x by rw [thM_step hx, h]; rfl))
  have HLN := Lib.hid (fun k m (h : thM M0 (ds.take k) = some m) => (thM_len k h).trans hM0l)
  have HEN := Lib.hid (show thM M0 (ds.take ds.length) = thM M0 ds by rw [List.take_length])
  obtain ⟨R, hR⟩ : ∃ R, R = thM M0 ds := ⟨_, rfl⟩
  rw [← hR] at HNO HEN ⊢
  clear hR
  go_enter Tryd.func39, Tryd.ntmps39
  go_wp2
  have B1 := bl_alloc (below_refl w) (.cells (bA (List.replicate n false)) 4)
  have z1 := Blk.new w 4 (bA (List.replicate n false))
  have hlr : (List.replicate n false).length = n := by simp
  clear hmk
  generalize w.alloc (.cells (bA (List.replicate n false)) 4) = W1 at *
  generalize List.replicate n false = M1 at *
  go_loopw [7] (fun i wr => ∃ (k : Nat) (M : List Bool), k ≤ n ∧ i = .int .i64 k ∧ M.length = n ∧ Hid (∀ j, j < k → M.getD j false = true) ∧ Below w.heap.size w wr ∧ Blk wr w.heap.size 4 (bA M)) (fun i _ => n - (intOf i).toNat)
  case atStart => exact ⟨0, M1, by omega, rfl, hlr, Lib.hid (fun j hj => absurd hj (by omega)), B1, z1⟩
  case round =>
    clear B1 z1 hlr
    obtain ⟨k, M, hk, rfl, hlM, HI, hbw, zb⟩ := hrel
    have k0 : (0 : Int) ≤ (k : Int) := Int.natCast_nonneg _
    by_cases hlt : k < n
    · have k1 : (k : Int) < (n : Int) := by omega
      have f0 := zb.frozen k
      have q0 := blk_get zb (show k < M.length by omega)
      have lz := zb.lt
      have HN := Lib.hid (show ∀ j, j < k + 1 → (M.set k true).getD j false = true from fun j hj => by
        rw [getD_set (by omega)]
        by_cases e : j = k
        · rw [if_pos e]
        · rw [if_neg e]; exact HI.out j (by omega))
      have zb2 := blk_put zb k true
      go_wp2
      go_roundw
      case rel => exact ⟨k + 1, M.set k true, by omega, by go_num, by rw [List.length_set]; exact hlM, HN.out, by (repeat' (first | assumption | exact below_refl _ | refine bl_alloc ?_ _ | refine Below.setCell ?_ ?_ _ | refine below_draw ?_ | refine below_drewN ?_ _ | refine below_tr ?_ (by assumption))) <;> (first | omega | (simp; done) | (simp; omega)), zb2⟩
      case measure => simp [intOf]; omega
    · obtain rfl : k = n := by omega
      have HM := Lib.hid (HAT.out M hlM HI.out)
      rw [HM.out] at zb
      clear HI hlM HM
      clear M
      go_wp2
      go_loopw [8] (fun i wr => ∃ (j : Nat) (m : List Bool), j ≤ ds.length ∧ i = .int .i64 j ∧ Hid (thM M0 (ds.take j) = some m) ∧ Below w.heap.size w wr ∧ Blk wr w.heap.size 4 (bA m)) (fun i _ => ds.length - (intOf i).toNat)
      case atStart => exact ⟨0, M0, by omega, rfl, Lib.hid rfl, hbw, zb⟩
      case round =>
        clear hbw zb
        obtain ⟨j, m, hj, rfl, HD, hbw, zb⟩ := hrel
        have j0 : (0 : Int) ≤ (j : Int) := Int.natCast_nonneg _
        by_cases hjl : j < ds.length
        · have j1 : (j : Int) < (ds.length : Int) := by omega
          obtain ⟨x, b, off, hx, rfl, hb, c0⟩ := rd_int (hB.on hbw) hjl
          obtain ⟨x0, x1⟩ := HLS.out x (List.mem_of_getElem? hx)
          have hst := HST.out j x hx m HD.out
          have hml := HLN.out j m HD.out
          have HN := Lib.hid (HNO.out (j + 1))
          have hpar : (∃ i : Nat, x = 2 * (i : Int)) ∨ ∃ i : Nat, x = 2 * (i : Int) + 1 := by
            rcases Int.emod_two_eq x with h | h
            · exact .inl ⟨(x / 2).toNat, by omega⟩
            · exact .inr ⟨(x / 2).toNat, by omega⟩
          clear hx HD HNO HST
          rename World => wr
          rcases hpar with ⟨i, hxe⟩ | ⟨i, hxe⟩
          · have hi0 : (0 : Int) ≤ (i : Int) := Int.natCast_nonneg _
            have hil : i < k := by omega
            have hi1 : (i : Int) < (k : Int) := by omega
            have hq : x / 2 = (i : Int) := by omega
            have hr : x % 2 = 0 := by omega
            have hq2 : x.tdiv 2 = (i : Int) := by rw [Int.tdiv_eq_ediv_of_nonneg x0]; exact hq
            have hr2 : x.tmod 2 = 0 := by rw [Int.tmod_eq_emod_of_nonneg x0]; exact hr
            have hwi : IntKind.i64.wrap (i : Int) = i := fits_wrap (by omega)
            have q0 := blk_get zb (show i < m.length by omega)
            have f0 := zb.frozen i
            have lz := zb.lt
            cases hmi : m.getD i false
            · rw [hmi] at q0
              have HE := Lib.hid (HN.out (by rw [hst, hxe, dsB_even0 hmi]))
              clear hst hxe HN
              rw [HE.out]
              go_wp2_with fail
              go_region
              go_wp2
              go_ret2
              exact ⟨rfl, by (repeat' (first | assumption | exact below_refl _ | refine bl_alloc ?_ _ | refine Below.setCell ?_ ?_ _ | refine below_draw ?_ | refine below_drewN ?_ _ | refine below_tr ?_ (by assumption))) <;> (first | omega | (simp; done) | (simp; omega))⟩
            · rw [hmi] at q0
              have HD2 := Lib.hid (show thM M0 (ds.take (j + 1)) = some (m.set i false) by rw [hst, hxe, dsB_even hmi])
              have zb2 := blk_put zb i false
              clear hst hxe HN
              go_wp2_with fail
              go_region
              go_wp2
              go_roundw
              case rel => exact ⟨j + 1, m.set i false, by omega, by go_num, HD2.out, by (repeat' (first | assumption | exact below_refl _ | refine bl_alloc ?_ _ | refine Below.setCell ?_ ?_ _ | refine below_draw ?_ | refine below_drewN ?_ _ | refine below_tr ?_ (by assumption))) <;> (first | omega | (simp; done) | (simp; omega)), zb2⟩
              case measure => simp [intOf]; omega
          · have hi0 : (0 : Int) ≤ (i : Int) := Int.natCast_nonneg _
            have hil : i < k := by omega
            have hi1 : (i : Int) < (k : Int) := by omega
            have hq : x / 2 = (i : Int) := by omega
            have hr : x % 2 = 1 := by omega
            have hq2 : x.tdiv 2 = (i : Int) := by rw [Int.tdiv_eq_ediv_of_nonneg x0]; exact hq
            have hr2 : x.tmod 2 = 1 := by rw [Int.tmod_eq_emod_of_nonneg x0]; exact hr
            have hwi : IntKind.i64.wrap (i : Int) = i := fits_wrap (by omega)
            have q0 := blk_get zb (show i < m.length by omega)
            have f0 := zb.frozen i
            have lz := zb.lt
            cases hmi : m.getD i false
            · rw [hmi] at q0
              have HD2 := Lib.hid (show thM M0 (ds.take (j + 1)) = some (m.set i true) by rw [hst, hxe, dsB_odd hmi])
              have zb2 := blk_put zb i true
              clear hst hxe HN
              go_wp2_with fail
              go_region
              go_wp2
              go_roundw
              case rel => exact ⟨j + 1, m.set i true, by omega, by go_num, HD2.out, by (repeat' (first | assumption | exact below_refl _ | refine bl_alloc ?_ _ | refine Below.setCell ?_ ?_ _ | refine below_draw ?_ | refine below_drewN ?_ _ | refine below_tr ?_ (by assumption))) <;> (first | omega | (simp; done) | (simp; omega)), zb2⟩
              case measure => simp [intOf]; omega
            · rw [hmi] at q0
              have HE := Lib.hid (HN.out (by rw [hst, hxe, dsB_odd0 hmi]))
              clear hst hxe HN
              rw [HE.out]
              go_wp2_with fail
              go_region
              go_wp2
              go_ret2
              exact ⟨rfl, by (repeat' (first | assumption | exact below_refl _ | refine bl_alloc ?_ _ | refine Below.setCell ?_ ?_ _ | refine below_draw ?_ | refine below_drewN ?_ _ | refine below_tr ?_ (by assumption))) <;> (first | omega | (simp; done) | (simp; omega))⟩
        · obtain rfl : j = ds.length := by omega
          have HE := Lib.hid (HEN.out.symm.trans HD.out)
          go_wp2
          go_ret2
          rw [HE.out]
          exact ⟨_, rfl, zb, Nat.le_refl _, hbw⟩
end Go.Proofs.YtkeojokbpjdhpaaDoor
namespace Go.Proofs.YtkeojokbpjdhpaaDoor
open Go.RowKit Go.Shelf
attribute [local go_sem] Oper.semAt_some

theorem info_int4 : ∃ i : TypeInfo, Tryd.prog.info? 3 = some i ∧ i.zero = some (.int .i64 0) ∧ i.size = 1 ∧ i.bytes = 8 := info_parts (by kernel_rfl)
theorem zC_oneI (x : Int) : ∀ u ∈ zC x, u.oneCell' = true := fun u hu => by
  simp only [zC, List.mem_cons, List.not_mem_nil, or_false] at hu
  rcases hu with rfl; rfl
theorem fl_snocZ (l : List Int) (x : Int) : fl zC (l ++ [x]) = fl zC l ++ zC x := by simp [fl]
def nZ (l : List Nat) : List Int := l.map (fun i : Nat => (i : Int))
set_option maxHeartbeats 4000000 in
set_option maxRecDepth 20000 in
theorem c_AppendSeqI (b1 x : Nat) (M : List Bool) (w : World) (hx : SetOf x M) (hb1 : Blk w b1 58 #[.int .u32 x]) (hsz : w.heap.size = b1 + 1) (hT : Tab w) (h01 : b1 ≠ 0) :
    Calls Tryd.prog 67 #[.slice none 0 0, .func (.func 68) #[] #[.pointer (some ⟨b1, 0, none⟩)]] w fun e w' => ∃ v, e = .returned v ∧ w'.ownsRow (b1 + 1) 3 1 v (mM M).length (fl zC (nZ (mM M))) ∧ Below b1 w w' := by
  have hxs := set_mL hx
  have hx32 : x < 4294967296 := by have := hx.lt; omega
  have hM24 : (mM M).length ≤ 24 := Nat.le_trans (mM_len M) hx.1
  have hs1 : b1 < w.heap.size := by omega
  have hs2 : w.heap.size ≤ b1 + 1 := by omega
  clear hx hsz
  refine (callsIn_wide (n := 6)).1 ?_
  refine callsIn_of_wp_marks Tryd.func67 rfl trivial ?_ rfl
  simp only [Tryd.ntmps67, List.size_toArray, List.length_cons, List.length_nil, Nat.reduceAdd, Nat.reduceSub, Array.replicate_succ, Array.replicate_zero, List.push_toArray, List.append_toArray, List.nil_append, List.cons_append]
  gi_wp2
  have x1 := Blk.new w 25 #[.slice none 0 0]
  have BB := (below_refl w).mono (show b1 ≤ w.heap.size by omega)
  have BB := BB.alloc (show b1 ≤ w.heap.size by omega) (.cells #[.slice none 0 0] 25)
  have x3 := hb1.alloc (.cells #[.slice none 0 0] 25)
  have hT6 := TabAt.on hT (bl_alloc (below_refl w) (.cells #[.slice none 0 0] 25))
  have zz : (w.alloc (.cells #[.slice none 0 0] 25)).heap.size = w.heap.size + 1 := by simp
  clear hT hb1
  generalize w.alloc (.cells #[.slice none 0 0] 25) = w6 at *
  refine wp_rangeK (by omega) (gf := 68) (lb := #[.pointer (some ⟨b1, 0, none⟩)]) rfl enters_all (encs := inI) (xs := mL x) (R := fun b => b = 0 ∨ b = b1) (K := fun b => b = b1)
    (all_seq _ (by omega) _ x _ _ _ hx32 x3 hT6 (.inr rfl) (.inl rfl) rfl h01) (fun b h => .inr h) (Stp.refl _ _) (fun _ => rfl) (by rintro b (hb | hb) <;> omega)
    (fun pre N W => (Below b1 w W ∧ b1 ≤ W.heap.size) ∧ ∃ v, Blk W w.heap.size 25 #[v] ∧ W.ownsRow (w6.heap.size + 2) 3 1 v pre.length (fl zC (nZ pre)) ∧ ∀ b, v.ownBlock = some b → ¬ N b)
    (fun _ _ _ _ => False)
    ?h5 ?h6 ?h7 ?round ?done ?stop
  case h5 => exact (abideK_below (by omega) (fun b hb => by omega)).and (abideK_row _ _ (by omega) (fun b hb => by omega))
  case h6 => exact fun k => abideK_pure _
  case h7 => exact ⟨⟨BB, by omega⟩, _, x1, World.ownsRow_nil w6 _ _ _, fun _ h => by cases h⟩
  case stop => rintro k pre rest N W _ h; exact h.elim
  case done =>
    rintro N W ⟨⟨hB, hz⟩, v, hv, hr, _⟩ hK
    obtain ⟨ad, cp, rfl⟩ := ownsRow_slice hr
    have q := hv.cell 0
    simp only [List.getElem?_toArray, List.getElem?_cons_zero] at q
    gi_wp2
    refine ⟨by simp, .inl ⟨_, _, rfl, run_takeDeferred hK, ?_⟩⟩
    have hst := Stp.putObj (Stp.refl (fun b => b = w6.heap.size) W) (.inl rfl) (.deferred none)
    rw [hxs] at hr
    exact ⟨_, results_tmp rfl _ _ _, _, rfl, ownsRow_base (ownsRow_stp hr hst fun b hb => by have := (ownBlock_ge hr b hb).1; omega) (by omega), hB.trans (hst.toBelow hz (fun b hb => by omega))⟩
  case round =>
    rintro L pre i rest N W hpx ⟨⟨hB, hz⟩, v, hv, hr, hvm⟩ hM2 hsz2
    simp only [inI, setAll1, List.setIfInBounds_toArray, List.set_cons_zero, List.set_cons_succ]
    gi_wp2
    refine ⟨Stp.refl _ _, fun W2 hsz3 hst2 => ?_⟩
    have e1 := hst2.blk hv (by omega)
    have r2 := ownsRow_stp hr hst2 (fun b hb => by have := (ownBlock_ge hr b hb).1; omega)
    have hB2 : Below b1 w W2 := hB.trans (Stp.toBelow hst2 (by omega) (fun b hb => by omega))
    obtain ⟨ad, cp, rfl⟩ := ownsRow_slice hr
    have q1 := e1.cell 0
    have f1 := e1.frozen 0
    simp only [List.getElem?_toArray, List.getElem?_cons_zero] at q1
    have hlen : pre.length ≤ 2000 := by
      have h1 := congrArg List.length hpx
      rw [hxs] at h1
      simp only [List.length_append, List.length_cons] at h1
      omega
    have hrowne : ∀ b, (Value.slice ad pre.length cp).ownBlock = some b → w.heap.size ≠ b := fun b hb => by have := (ownBlock_ge hr b hb).1; omega
    obtain ⟨i0, hi, hi1, hi2, hi3⟩ := info_int4
    have hsa : W2.heap.size ≤ W.heap.size := by omega
    have hsb : W.heap.size ≤ W2.heap.size := by omega
    clear hsz3
    gi_wp2_with (gi_at_builtin; go_loud (refine wpListIn_append_own_at _ rfl _ _ 25 rfl (w6.heap.size + 2) 3 i0 (.int .i64 0) 1 8 (by kernel_rfl) hi hi1 hi2 hi3 rfl (by omega) _ _ _ rfl (ownsRow_stp r2 ((Stp.refl (fun _ => False) W2).alloc _) (fun _ _ h => h)) ⟨W2.heap.size, 0, none⟩ 1 1 (zC (i : Int)) rfl rfl (cells_new W2 (zC (i : Int)) 3) (zC_oneI i) (by unfold maxLen; omega) (by omega) (by simp; omega) ?_; intro v' U2 hown hgrow _ hat; obtain ⟨g, cap, rfl⟩ := ownsRow_succ hown; have e42 : Blk U2 w.heap.size 25 #[.slice ad pre.length cp] := (hgrow.block w.heap.size (e1.alloc _).lt (fun h => hrowne _ h.symm rfl)).trans (e1.alloc _); have q42 := e42.cell 0; have f42 := e42.frozen 0; simp only [List.getElem?_toArray, List.getElem?_cons_zero] at q42))
    have hmk : ∀ N : Nat → Prop, N w.heap.size → (∀ r, (Value.slice ad pre.length cp).ownBlock = some r → N r ∨ W2.heap.size ≤ r) → Stp N W2 (U2.setCell ⟨w.heap.size, 0, none⟩ (.slice (some ⟨g, 0, none⟩) (pre.length + 1) cap)) := fun N h1 h2 =>
      (((Stp.refl N W2).alloc _).grown hgrow h2).setCell (.inl h1) _
    have hst := hmk (fun b => b = w.heap.size ∨ w6.heap.size + 2 ≤ b) (.inl rfl) (fun r hr' => .inl (.inr (ownBlock_ge hr r hr').1))
    refine ⟨hmk _ ?_ ?_, ⟨hB2.trans (hst.toBelow (by omega) (fun b hb => by omega)), Nat.le_trans (Nat.le_trans (Nat.le_of_lt hs1) hB2.size) hst.size⟩, _, e42.set_ 0 _, ?_, ?_⟩
    · rintro (h | (h | h) | h | h)
      · have := (hM2 _ h).1; omega
      all_goals omega
    · intro r' hr'
      have := ownBlock_ge hr r' hr'
      refine .inl ?_
      rintro (h | (h | h) | h | h)
      · exact hvm r' hr' h
      all_goals omega
    · have := ownsRow_stp hown (Stp.setCell (p := ⟨w.heap.size, 0, none⟩) (Stp.refl (fun b => b = w.heap.size) U2) (.inl rfl) (.slice (some ⟨g, 0, none⟩) (pre.length + 1) cap)) (fun b hb => by have := (ownBlock_ge hown b hb).1; omega)
      rw [List.length_append]
      unfold nZ
      rw [List.map_append, List.map_cons, List.map_nil, fl_snocZ]
      exact this
    · intro b hb hm
      rcases hat with h | h
      · rw [h] at hb; exact hvm b hb hm
      · rw [h] at hb; cases hb
        have := (hM2 _ hm).2
        rw [World.size_alloc] at this
        omega
theorem c_CollectI (b1 x : Nat) (M : List Bool) (w : World) (hx : SetOf x M) (hb1 : Blk w b1 58 #[.int .u32 x]) (hsz : w.heap.size = b1 + 1) (hT : Tab w) (h01 : b1 ≠ 0) :
    Calls Tryd.prog 36 #[.func (.func 68) #[] #[.pointer (some ⟨b1, 0, none⟩)]] w fun e w' => ∃ v, e = .returned v ∧ w'.ownsRow (b1 + 1) 3 1 v (mM M).length (fl zC (nZ (mM M))) ∧ Below b1 w w' := by
  have HC := Lib.hid (c_AppendSeqI b1 x M w hx hb1 hsz hT h01)
  clear hx hb1 hsz hT h01
  go_enter Tryd.func36, Tryd.ntmps36
  go_wp2_with fail
  refine HC.out.mono ?_
  rintro e w1 ⟨v, rfl, ho, hb⟩
  go_wp2
  go_ret
  exact ⟨v, rfl, ho, hb⟩
theorem lsB_mem {n : Nat} {ds : List Int} (h : lsB n ds = true) : ds.length ≤ 100 ∧ ∀ x ∈ ds, 0 ≤ x ∧ x < 2 * (n : Int) := by
  unfold lsB at h
  rw [Bool.and_eq_true, decide_eq_true_eq, List.all_eq_true] at h
  exact ⟨h.1, fun x hx => by have := h.2 x hx; rw [wn_iff] at this; omega⟩
theorem doM_true (M : List Bool) (ds : List Int) : ∀ k, k ≤ ds.length → doM (fun _ _ => true) M ds k = thM M (ds.take k)
  | 0, _ => rfl
  | k + 1, h => by
    have hd : ds[k]? = some (ds.getD k 0) := by simp [List.getD, show k < ds.length by omega]
    rw [thM_step hd]
    simp only [doM, doM_true M ds k (by omega)]
    congr 1; funext m
    cases dsB m (ds.getD k 0) <;> simp
def M0 (l : List Pr) : List Bool := List.replicate l.length true
def aftO (l : List Pr) (ds : List Int) : Option (List Bool) := thM (List.replicate l.length true) ds
def aftE (l : List Pr) (ds : List Int) : Int := if vP l = true then (if lsB l.length ds = true then (match aftO l ds with | some _ => 0 | none => 10) else 7) else 1
def aftL (l : List Pr) (ds : List Int) : List Int := if aftE l ds = 0 then nZ (mM (afM l ds)) else []
def AftP (l : List Pr) (ds : List Int) (w : World) (e : Ending) (w' : World) : Prop := ∃ v, e = .returned (.tuple #[v, .int .i64 (aftE l ds)]) ∧ w'.ownsRow w.heap.size 3 1 v (aftL l ds).length (fl zC (aftL l ds)) ∧ Below w.heap.size w w'
theorem p_after1 (k y : Int) (w : World) : Calls Tryd.prog 35 #[.int .i64 k, .int .u32 y] w fun e w' => e = .returned (.bool true) ∧ Below w.heap.size w w' := by
  go_enter Tryd.func35, Tryd.ntmps35
  go_wp2
  go_ret
  exact ⟨rfl, below_refl _⟩
theorem ownZ_nil (w : World) (b : Nat) : w.ownsRow b 3 1 (.slice none 0 0) 0 (fl zC []) := World.ownsRow_nil w _ _ _
set_option maxHeartbeats 2000000 in
theorem p_After (A B : Option Addr) (l : List Pr) (ds : List Int) (c d : Nat) (w : World) (hl : l.length ≤ 100) (hd : ds.length ≤ 100000) (hT : Tab w) (hR : Rd Pr.cs 3 w A l) (hB : Rd zC 1 w B ds) :
    Calls Tryd.prog 8 #[.slice A l.length c, .slice B ds.length d] w (AftP l ds w) := by
  have HV := Lib.hid (p_Valid A l c w (by omega) hR)
  have HL := Lib.hid (fun (W : World) (hb : Below w.heap.size w W) => p_listed A B l.length c d ds W hl hd (hB.on hb))
  have HEE := Lib.hid (show aftE l ds = if vP l = true then (if lsB l.length ds = true then (match aftO l ds with | some _ => 0 | none => 10) else 7) else 1 from rfl)
  have HLL := Lib.hid (show aftL l ds = if aftE l ds = 0 then nZ (mM (afM l ds)) else [] from rfl)
  unfold AftP
  cases hv : vP l
  · have hE : aftE l ds = 1 := by rw [HEE.out, hv]; rfl
    have hL : aftL l ds = [] := by rw [HLL.out, hE]; rfl
    rw [hE, hL]
    rw [hv] at HV
    clear hE hL hv
    go_enter Tryd.func8, Tryd.ntmps8
    go_wp2_with fail
    refine HV.out.mono ?_
    rintro e w1 ⟨rfl, hb1⟩
    go_wp2
    go_ret2
    exact ⟨_, rfl, ownZ_nil _ _, hb1⟩
  rw [hv] at HV
  cases hls : lsB l.length ds
  · have hE : aftE l ds = 7 := by rw [HEE.out, hv, hls]; rfl
    have hL : aftL l ds = [] := by rw [HLL.out, hE]; rfl
    rw [hE, hL]
    rw [hls] at HL
    clear hE hL hv hls
    go_enter Tryd.func8, Tryd.ntmps8
    go_wp2_with fail
    refine HV.out.mono ?_
    rintro e w1 ⟨rfl, hb1⟩
    go_wp2_with fail
    refine (HL.out _ hb1).mono ?_
    rintro e w2 ⟨rfl, hb2⟩
    go_wp2
    go_ret2
    exact ⟨_, rfl, ownZ_nil _ _, below_tr hb1 hb2⟩
  rw [hls] at HL
  obtain ⟨h100, hmem⟩ := lsB_mem hls
  have HD := Lib.hid (fun (W : World) (hb : Below w.heap.size w W) => p_done A B l ds c d 35 #[] (fun _ _ => true) W (vP_len hv) hd hmem (hB.on hb) (enters_of Tryd.func35 (by kernel_rfl) rfl) (fun W' k m _ _ _ => p_after1 k _ W'))
  rw [doM_true _ _ _ (Nat.le_refl _), List.take_length] at HD
  have hOl : ∀ m, aftO l ds = some m → m.length = l.length := fun m h => by
    have := thM_len (M := List.replicate l.length true) (ds := ds) ds.length (by rw [List.take_length]; exact h)
    simpa using this
  have hO0 : aftO l ds = thM (List.replicate l.length true) ds := rfl
  rw [← hO0] at HD
  have hT0 := Tab.lt hT
  cases hO : aftO l ds with
  | none =>
    have hE : aftE l ds = 10 := by rw [HEE.out, hv, hls, hO]; rfl
    have hL : aftL l ds = [] := by rw [HLL.out, hE]; rfl
    rw [hE, hL]
    rw [hO] at HD
    dsimp only [doneV] at HD
    clear hE hL hv hls hO hmem hOl hO0
    go_enter Tryd.func8, Tryd.ntmps8
    go_wp2_with fail
    refine HV.out.mono ?_
    rintro e w1 ⟨rfl, hb1⟩
    go_wp2_with fail
    refine (HL.out _ hb1).mono ?_
    rintro e w2 ⟨rfl, hb2⟩
    have B2 := below_tr hb1 hb2
    go_wp2_with fail
    refine (HD.out _ B2).mono ?_
    rintro e w3 ⟨rfl, hb3⟩
    go_wp2
    go_ret2
    exact ⟨_, rfl, ownZ_nil _ _, below_tr B2 hb3⟩
  | some m =>
    have hE : aftE l ds = 0 := by rw [HEE.out, hv, hls, hO]; rfl
    have hL : aftL l ds = nZ (mM m) := by rw [HLL.out, hE, if_pos rfl]; unfold afM; rw [← hO0, hO]; rfl
    have hml := hOl m hO
    have hset := encM_set (show m.length ≤ 24 by have := vP_len hv; omega)
    rw [hE, hL]
    rw [hO] at HD
    dsimp only [doneV] at HD
    clear hE hL hv hls hO hmem hOl hO0
    go_enter Tryd.func8, Tryd.ntmps8
    go_wp2_with fail
    refine HV.out.mono ?_
    rintro e w1 ⟨rfl, hb1⟩
    go_wp2_with fail
    refine (HL.out _ hb1).mono ?_
    rintro e w2 ⟨rfl, hb2⟩
    have B2 := below_tr hb1 hb2
    go_wp2_with fail
    refine (HD.out _ B2).mono ?_
    rintro e w3 ⟨rfl, hb3⟩
    have B3 := below_tr B2 hb3
    have hT3 := TabAt.on hT B3
    go_wp2_with fail
    refine (p_all (encM m) w3).mono ?_
    rintro e w4 ⟨rfl, rfl⟩
    go_wp2_with fail
    have x4 := Blk.new w3 58 #[.int .u32 (encM m)]
    have hT4 := TabAt.on hT3 (bl_alloc (below_refl w3) (.cells #[.int .u32 (encM m)] 58))
    have hs3 := B3.size
    refine (c_CollectI w3.heap.size (encM m) m _ hset x4 (by simp) hT4 (by omega)).mono ?_
    rintro e w5 ⟨v5, rfl, ho5, hb5⟩
    go_wp2
    go_ret2
    exact ⟨_, rfl, by rw [show (nZ (mM m)).length = (mM m).length by unfold nZ; simp]; exact own_base ho5 (by omega), B3.trans (((below_refl w3).alloc (Nat.le_refl _) _).trans hb5 |>.mono (by omega))⟩
end Go.Proofs.YtkeojokbpjdhpaaDoor
