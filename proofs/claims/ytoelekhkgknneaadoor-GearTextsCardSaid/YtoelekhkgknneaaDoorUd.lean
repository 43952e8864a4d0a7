/- Gear's texts: what the library's variables hold; Cut, Split, Atoi; an item's line by the program. -/
import Derived.Test.YtoelekhkgknneaaDoorUa
import Derived.Test.YtoelekhkgknneaaDoorUg
import Derived.Test.YtoelekhkgknneaaDoorUp
import Derived.Lib.AppendIntMem
import Derived.Lib.AtoiErrMem
set_option linter.unusedSimpArgs false
set_option linter.unusedVariables false
namespace Go.Proofs.YtoelekhkgknneaaDoor
open Go.RowKit Go.Lib

abbrev TabP (w : World) : Prop := Lib.TabIs Tryd.prog w "internal/strconv.uint64pow10" .u64 Lib.pow10Tab
theorem tab_on {P : Program} {w w' : World} {name : String} {k : IntKind} {zs : List Int} (h : Lib.TabIs P w name k zs) (hb : Below w.heap.size w w') : Lib.TabIs P w' name k zs := by
  unfold Lib.TabIs World.var? at *
  cases hg : P.globalNamed name with
  | none => simp [hg] at h
  | some g =>
    simp only [hg, Option.bind_some] at h ⊢
    have hlt : g < w.heap.size := by
      rcases Nat.lt_or_ge g w.heap.size with h' | h'
      · exact h'
      · rw [Array.getElem?_eq_none h'] at h; simp at h
    rw [hb.block g hlt]
    exact h
/-- what the library's variables hold -/
structure LdW (w : World) : Prop where
  tab : TabP w
  mx : ∃ m, w.cell? ⟨0, 0, none⟩ = some (.int .i64 m)
  sy : ∃ ev, w.cell? ⟨1, 0, none⟩ = some ev ∧ (ev = .nilIface ∨ ∃ te pe, ev = .iface te pe)
  rg : ∃ ev, w.cell? ⟨2, 0, none⟩ = some ev ∧ (ev = .nilIface ∨ ∃ te pe, ev = .iface te pe)
theorem cell_on {w w' : World} {g o : Nat} {v : Value} (h : w.cell? ⟨g, o, none⟩ = some v) (hb : Below w.heap.size w w') : w'.cell? ⟨g, o, none⟩ = some v := by
  have hlt : g < w.heap.size := World.block_lt_of_cell? w ⟨g, o, none⟩ h
  exact ((bcell hb).1 g o hlt).trans h
theorem LdW.on {w w' : World} (h : LdW w) (hb : Below w.heap.size w w') : LdW w' :=
  ⟨tab_on h.tab hb, h.mx.imp fun _ q => cell_on q hb, h.sy.imp fun _ q => ⟨cell_on q.1 hb, q.2⟩, h.rg.imp fun _ q => ⟨cell_on q.1 hb, q.2⟩⟩
theorem c_Split (s : ByteArray) (w : World) (hs : s.size ≤ 100000) (hL : LdW w) :
    Calls Tryd.prog 43 #[.string s, .string ⟨#[32]⟩] w fun e w' => e = .returned (.slice (some ⟨w.heap.size, 0, none⟩) (cutZ 32 s.data.toList).length (cutZ 32 s.data.toList).length) ∧ w' = w.alloc (.cells (fl stG (cutZ 32 s.data.toList)).toArray 9) := by
  obtain ⟨m, hm⟩ := hL.mx
  refine (Tryd.strings_Split s ⟨#[32]⟩ m w (by omega) hm (by decide)).mono ?_
  rintro e w' ⟨rfl, rfl⟩
  have h1 : (Lib.splitB ⟨#[32]⟩ 0 (Lib.countB s ⟨#[32]⟩) s).map (·.data.toList) = cutZ 32 s.data.toList := by
    rw [splitB_data, ← split_cut]; rfl
  have h2 : (Lib.splitB ⟨#[32]⟩ 0 (Lib.countB s ⟨#[32]⟩) s).length = Lib.countB s ⟨#[32]⟩ + 1 := splitB_all _ (by decide) 0 _ s rfl
  have h3 : (cutZ 32 s.data.toList).length = Lib.countB s ⟨#[32]⟩ + 1 := by rw [← h1, List.length_map, h2]
  have h4 : (Lib.splitB ⟨#[32]⟩ 0 (Lib.countB s ⟨#[32]⟩) s).map Value.string = fl stG (cutZ 32 s.data.toList) := by
    rw [← h1]
    generalize Lib.splitB ⟨#[32]⟩ 0 (Lib.countB s ⟨#[32]⟩) s = X
    induction X with
    | nil => rfl
    | cons x r ih =>
      simp only [List.map_cons, fl, List.flatMap_cons] at ih ⊢
      rw [ih]
      rfl
  rw [h3, h4]
  exact ⟨rfl, rfl⟩
theorem c_CutNl (s : ByteArray) (w : World) (hs : s.size ≤ 100000) (hL : LdW w) :
    Calls Tryd.prog 42 #[.string s, .string ⟨#[10]⟩] w fun e w' => e = .returned (.tuple #[.string (bts (Lib.cut s.data.toList [10]).1), .string (bts (Lib.cut s.data.toList [10]).2.1), .bool (Lib.cut s.data.toList [10]).2.2]) ∧ Below w.heap.size w w' := by
  obtain ⟨m, hm⟩ := hL.mx
  refine (Tryd.strings_Cut s ⟨#[10]⟩ m w (by omega) hm).mono ?_
  rintro e w' ⟨rfl, n, rfl⟩
  exact ⟨rfl, below_drewN (below_refl _) _⟩
theorem c_AtoiA (s : ByteArray) (w : World) (hs : s.size ≤ 100000) (hL : LdW w) :
    Calls Tryd.prog 44 #[.string s] w fun e w' => (∃ er, e = .returned (.tuple #[.int .i64 (valA s.data.toList), er])) ∧ Below w.heap.size w w' := by
  cases h : atoiAll s.data.toList
  · rename_i v
    refine (Tryd.strconv_Atoi_ok s (by omega) v h w).mono ?_
    rintro e w' ⟨rfl, hw⟩
    refine ⟨⟨_, by unfold valA; rw [h]⟩, ?_⟩
    rcases hw with rfl | ⟨t, rfl⟩
    · exact below_refl _
    · exact Lib.bytesWorld_below _ _ _
  · obtain ⟨ev, h1, h2⟩ := hL.sy
    refine (Any.strconv_Atoi_syntax Tryd.laysC172 s (by omega) h ev w h1 h2).mono ?_
    rintro e w' ⟨N, rfl, _, _, hb⟩
    exact ⟨⟨_, by unfold valA; rw [h]⟩, hb⟩
  · obtain ⟨ev, h1, h2⟩ := hL.rg
    refine (Tryd.strconv_Atoi_range s (by omega) h ev w h1 h2).mono ?_
    rintro e w' ⟨N, rfl, _, _, hb⟩
    exact ⟨⟨_, by unfold valA; rw [h]⟩, hb⟩
theorem c_ItoaV (n : Int) (w : World) (h0 : -9223372036854775808 ≤ n) (h1 : n ≤ 9223372036854775807) (hT : TabP w) :
    Calls Tryd.prog 80 #[.int .i64 n] w fun e w' => e = .returned (.string (bts (itoa n))) ∧ Below w.heap.size w w' := by
  refine (Tryd.strconv_Itoa n h0 h1 w hT).mono ?_
  rintro e w' ⟨rfl, k, os, rfl⟩
  exact ⟨rfl, Lib.below_grow _ _ (Nat.le_refl _) _ _⟩
theorem itoa_len {n : Int} (h0 : -9223372036854775808 ≤ n) (h1 : n ≤ 9223372036854775807) : (itoa n).length ≤ 21 := by
  unfold itoa
  split
  · have := decD_len n.natAbs (by omega); simp; omega
  · have := decD_len n.toNat (by omega); omega
theorem ba_appU (a b : List UInt8) : bts a ++ bts b = bts (a ++ b) := by unfold bts; apply ByteArray.ext; simp [ByteArray.data_append]
theorem line_eq (x : It) : bts (lnI x) = x.nm ++ ⟨#[32]⟩ ++ bts (itoa x.ld) ++ ⟨#[32]⟩ ++ bts (itoa x.du) ++ ⟨#[32]⟩ ++ x.bt := by
  have e : (⟨#[32]⟩ : ByteArray) = bts [32] := rfl
  conv => rhs; rw [← list_bts x.nm, ← list_bts x.bt, e, ba_appU, ba_appU, ba_appU, ba_appU, ba_appU, ba_appU]
  unfold lnI
  simp
set_option maxHeartbeats 4000000 in
set_option maxRecDepth 20000 in
theorem p_lineOf (x : It) (w : World) (hm : x.nm.size ≤ 100000) (hb : x.bt.size ≤ 100000) (l0 : -9223372036854775808 ≤ x.ld) (l1 : x.ld ≤ 9223372036854775807) (d0 : -9223372036854775808 ≤ x.du) (d1 : x.du ≤ 9223372036854775807) (hL : LdW w) :
    Calls Tryd.prog 40 #[itV x] w fun e w' => e = .returned (.string (bts (lnI x))) ∧ Below w.heap.size w w' := by
  have x0 := Blk.new w 52 #[.string x.nm, .int .i64 x.ld, .int .i64 x.du, .string x.bt]
  have B0 := bl_alloc (below_refl w) (.cells #[.string x.nm, .int .i64 x.ld, .int .i64 x.du, .string x.bt] 52)
  have q0 := x0.cell 0
  have q1 := x0.cell 1
  have q2 := x0.cell 2
  have q3 := x0.cell 3
  simp only [List.getElem?_toArray, List.getElem?_cons_zero, List.getElem?_cons_succ] at q0 q1 q2 q3
  have HI1 := Lib.hid (fun W (h : Below w.heap.size w W) => c_ItoaV x.ld W l0 l1 (hL.on h).tab)
  have HI2 := Lib.hid (fun W (h : Below w.heap.size w W) => c_ItoaV x.du W d0 d1 (hL.on h).tab)
  have hs1 : (bts (itoa x.ld)).size ≤ 21 := by have := itoa_len l0 l1; unfold bts; simpa [ByteArray.size] using this
  have hs2 : (bts (itoa x.du)).size ≤ 21 := by have := itoa_len d0 d1; unfold bts; simpa [ByteArray.size] using this
  have HV := Lib.hid (line_eq x)
  rw [HV.out]
  clear HV l0 l1 d0 d1
  obtain ⟨NM, L0, D0, BT⟩ := x
  dsimp only at *
  generalize bts (itoa L0) = S1 at *
  generalize bts (itoa D0) = S2 at *
  have z1 : ¬ 9223372036854775807 < NM.size + 1 := by omega
  have z2 : ¬ 9223372036854775807 < NM.size + 1 + S1.size := by omega
  have z3 : ¬ 9223372036854775807 < NM.size + 1 + S1.size + 1 := by omega
  have z4 : ¬ 9223372036854775807 < NM.size + 1 + S1.size + 1 + S2.size := by omega
  have z5 : ¬ 9223372036854775807 < NM.size + 1 + S1.size + 1 + S2.size + 1 := by omega
  have z6 : ¬ 9223372036854775807 < NM.size + 1 + S1.size + 1 + S2.size + 1 + BT.size := by omega
  have hlw : w.heap.size < (w.alloc (.cells #[.string NM, .int .i64 L0, .int .i64 D0, .string BT] 52)).heap.size := by simp
  clear hm hb
  go_enter Tryd.func40, Tryd.ntmps40
  go_wp2_with fail
  generalize w.alloc (.cells #[.string NM, .int .i64 L0, .int .i64 D0, .string BT] 52) = W1 at *
  refine wp_region_noPanic ?_
  refine wp_region_held_drew (S := (fun w' => (∀ b o, b < W1.heap.size → w'.cell? ⟨b, o, none⟩ = W1.cell? ⟨b, o, none⟩) ∧ (∀ b o, b < W1.heap.size → w'.frozen? ⟨b, o, none⟩ = W1.frozen? ⟨b, o, none⟩) ∧ Below W1.heap.size W1 w')) (by kernel_rfl) (kq_draw kq_refl) (fun hS0 => ?_)
  refine wpAnyH_take (i := 0) (oi := { dst := some 3, op := _, type := _, pos := _, after := _, guard := none }) (v := ?gv1) rfl (by kernel_rfl) (by kernel_rfl) (by kernel_rfl) (fun _ _ _ h => h) (Or.inl ⟨by rfl, ?gy1⟩) (by assumption) ?_
  case gy1 => (intro w' hSw; go_simp; try with_reducible rfl)
  try simp only [Act.put, List.setIfInBounds_toArray, List.set_cons_zero, List.set_cons_succ]
  refine wpAnyH_take (i := 1) (oi := { dst := some 4, op := _, type := _, pos := _, after := _, guard := none }) (v := ?gv2) rfl (by kernel_rfl) (by kernel_rfl) (by kernel_rfl) (fun _ _ _ h => h) (Or.inl ⟨by rfl, ?gy2⟩) (by assumption) ?_
  case gy2 => (intro w' hSw; go_simp; try with_reducible rfl)
  try simp only [Act.put, List.setIfInBounds_toArray, List.set_cons_zero, List.set_cons_succ]
  refine wpAnyH_take (i := 2) (oi := { dst := some 5, op := _, type := _, pos := _, after := _, guard := none }) (v := ?gv3) rfl (by kernel_rfl) (by kernel_rfl) (by kernel_rfl) (fun _ _ _ h => h) (Or.inl ⟨by rfl, ?gy3⟩) (by assumption) ?_
  case gy3 => (intro w' hSw; go_simp; try with_reducible rfl)
  try simp only [Act.put, List.setIfInBounds_toArray, List.set_cons_zero, List.set_cons_succ]
  refine wpAnyH_take (i := 3) (oi := { dst := some 6, op := _, type := _, pos := _, after := _, guard := none }) (v := ?gv4) rfl (by kernel_rfl) (by kernel_rfl) (by kernel_rfl) (fun _ _ _ h => h) (Or.inl ⟨by rfl, ?gy4⟩) (by assumption) ?_
  case gy4 => (intro w' hSw; go_simp; try with_reducible rfl)
  try simp only [Act.put, List.setIfInBounds_toArray, List.set_cons_zero, List.set_cons_succ]
  refine wpAnyH_take (i := 4) (oi := { dst := some 7, op := _, type := _, pos := _, after := _, guard := none }) (v := ?gv5) rfl (by kernel_rfl) (by kernel_rfl) (by kernel_rfl) (fun _ _ _ h => h) (Or.inl ⟨by rfl, ?gy5⟩) (by assumption) ?_
  case gy5 => (intro w' hSw; go_simp; try with_reducible rfl)
  try simp only [Act.put, List.setIfInBounds_toArray, List.set_cons_zero, List.set_cons_succ]
  refine wpAnyH_take (i := 8) (oi := { dst := some 11, op := _, type := _, pos := _, after := _, guard := none }) (v := ?gv6) rfl (by kernel_rfl) (by kernel_rfl) (by kernel_rfl) (fun _ _ _ h => h) (Or.inl ⟨by rfl, ?gy6⟩) (by assumption) ?_
  case gy6 => (intro w' hSw; go_simp; try with_reducible rfl)
  try simp only [Act.put, List.setIfInBounds_toArray, List.set_cons_zero, List.set_cons_succ]
  refine wpAnyH_take (i := 9) (oi := { dst := some 12, op := _, type := _, pos := _, after := _, guard := none }) (v := ?gv7) rfl (by kernel_rfl) (by kernel_rfl) (by kernel_rfl) (fun _ _ _ h => h) (Or.inl ⟨by rfl, ?gy7⟩) (by assumption) ?_
  case gy7 => (intro w' hSw; go_simp; try with_reducible rfl)
  try simp only [Act.put, List.setIfInBounds_toArray, List.set_cons_zero, List.set_cons_succ]
  refine wpAnyH_take (i := 13) (oi := { dst := some 16, op := _, type := _, pos := _, after := _, guard := none }) (v := ?gv8) rfl (by kernel_rfl) (by kernel_rfl) (by kernel_rfl) (fun _ _ _ h => h) (Or.inl ⟨by rfl, ?gy8⟩) (by assumption) ?_
  case gy8 => (intro w' hSw; go_simp; try with_reducible rfl)
  try simp only [Act.put, List.setIfInBounds_toArray, List.set_cons_zero, List.set_cons_succ]
  refine wpAnyH_take (i := 14) (oi := { dst := some 17, op := _, type := _, pos := _, after := _, guard := none }) (v := ?gv9) rfl (by kernel_rfl) (by kernel_rfl) (by kernel_rfl) (fun _ _ _ h => h) (Or.inl ⟨by rfl, ?gy9⟩) (by assumption) ?_
  case gy9 => (intro w' hSw; go_simp; try with_reducible rfl)
  try simp only [Act.put, List.setIfInBounds_toArray, List.set_cons_zero, List.set_cons_succ]
  refine wpAnyH_ready (rs := [5]) (by kernel_rfl) (by simp) ?_
  refine AllReadyH.cons rfl (fun K hK => ?_) AllReadyH.nil
  go_simp
  (go_at_call 80; ((with_reducible refine (HI1.out _ (below_tr B0 (by (repeat' (first | assumption | exact below_refl _ | refine bl_alloc ?_ _ | refine Below.setCell ?_ ?_ _ | refine below_draw ?_ | refine below_drewN ?_ _ | refine below_tr ?_ (by assumption))) <;> (first | omega | (simp; done) | (simp; omega))))).mono ?_); rintro e w3 ⟨rfl, hb3⟩; obtain ⟨hc3, hf3⟩ := bcell hb3; have hz3 := hb3.size; (try simp [sz_drew, sz_drewN] at hz3); (try simp only [sz_drew, sz_drewN] at hc3 hf3)))
  refine hK.out _ _ (by ((show Kq W1 _); (repeat' (first | assumption | exact kq_refl | refine kq_draw ?_ | refine kq_drewN ?_ | refine kq_alloc ?_ | refine kq_set ?_ ?_ | refine kq_step ?_ (by assumption))); (all_goals (first | omega | (simp; omega))))) (fun hS1 => ?_)
  clear hK K
  try simp only [Act.put, List.setIfInBounds_toArray, List.set_cons_zero, List.set_cons_succ]
  refine wpAnyH_take (i := 6) (oi := { dst := some 9, op := _, type := _, pos := _, after := _, guard := none }) (v := ?gv10) rfl (by kernel_rfl) (by kernel_rfl) (by kernel_rfl) (fun _ _ _ h => h) (Or.inl ⟨by rfl, ?gy10⟩) (by assumption) ?_
  case gy10 => (intro w' hSw; go_simp; try with_reducible rfl)
  try simp only [Act.put, List.setIfInBounds_toArray, List.set_cons_zero, List.set_cons_succ]
  refine wpAnyH_take (i := 7) (oi := { dst := some 10, op := _, type := _, pos := _, after := _, guard := none }) (v := ?gv11) rfl (by kernel_rfl) (by kernel_rfl) (by kernel_rfl) (fun _ _ _ h => h) (Or.inl ⟨by rfl, ?gy11⟩) (by assumption) ?_
  case gy11 => (intro w' hSw; go_simp; try with_reducible rfl)
  try simp only [Act.put, List.setIfInBounds_toArray, List.set_cons_zero, List.set_cons_succ]
  refine wpAnyH_ready (rs := [10]) (by kernel_rfl) (by simp) ?_
  refine AllReadyH.cons rfl (fun K hK => ?_) AllReadyH.nil
  go_simp
  (go_at_call 80; ((with_reducible refine (HI2.out _ (below_tr B0 (by (repeat' (first | assumption | exact below_refl _ | refine bl_alloc ?_ _ | refine Below.setCell ?_ ?_ _ | refine below_draw ?_ | refine below_drewN ?_ _ | refine below_tr ?_ (by assumption))) <;> (first | omega | (simp; done) | (simp; omega))))).mono ?_); rintro e w4 ⟨rfl, hb4⟩; obtain ⟨hc4, hf4⟩ := bcell hb4; have hz4 := hb4.size; (try simp [sz_drew, sz_drewN] at hz4); (try simp only [sz_drew, sz_drewN] at hc4 hf4)))
  refine hK.out _ _ (by ((show Kq W1 _); (repeat' (first | assumption | exact kq_refl | refine kq_draw ?_ | refine kq_drewN ?_ | refine kq_alloc ?_ | refine kq_set ?_ ?_ | refine kq_step ?_ (by assumption))); (all_goals (first | omega | (simp; omega))))) (fun hS2 => ?_)
  clear hK K
  try simp only [Act.put, List.setIfInBounds_toArray, List.set_cons_zero, List.set_cons_succ]
  refine wpAnyH_take (i := 11) (oi := { dst := some 14, op := _, type := _, pos := _, after := _, guard := none }) (v := ?gv12) rfl (by kernel_rfl) (by kernel_rfl) (by kernel_rfl) (fun _ _ _ h => h) (Or.inl ⟨by rfl, ?gy12⟩) (by assumption) ?_
  case gy12 => (intro w' hSw; go_simp; try with_reducible rfl)
  try simp only [Act.put, List.setIfInBounds_toArray, List.set_cons_zero, List.set_cons_succ]
  refine wpAnyH_take (i := 12) (oi := { dst := some 15, op := _, type := _, pos := _, after := _, guard := none }) (v := ?gv13) rfl (by kernel_rfl) (by kernel_rfl) (by kernel_rfl) (fun _ _ _ h => h) (Or.inl ⟨by rfl, ?gy13⟩) (by assumption) ?_
  case gy13 => (intro w' hSw; go_simp; try with_reducible rfl)
  try simp only [Act.put, List.setIfInBounds_toArray, List.set_cons_zero, List.set_cons_succ]
  refine wpAnyH_take (i := 15) (oi := { dst := some 18, op := _, type := _, pos := _, after := _, guard := none }) (v := ?gv14) rfl (by kernel_rfl) (by kernel_rfl) (by kernel_rfl) (fun _ _ _ h => h) (Or.inl ⟨by rfl, ?gy14⟩) (by assumption) ?_
  case gy14 => (intro w' hSw; go_simp; try with_reducible rfl)
  try simp only [Act.put, List.setIfInBounds_toArray, List.set_cons_zero, List.set_cons_succ]
  refine wpAnyH_take (i := 16) (oi := { dst := some 2, op := _, type := _, pos := _, after := _, guard := none }) (v := ?gv15) rfl (by kernel_rfl) (by kernel_rfl) (by kernel_rfl) (fun _ _ _ h => h) (Or.inl ⟨by rfl, ?gy15⟩) (by assumption) ?_
  case gy15 => (intro w' hSw; go_simp; try with_reducible rfl)
  try simp only [Act.put, List.setIfInBounds_toArray, List.set_cons_zero, List.set_cons_succ]
  refine wpAnyH_done (by kernel_rfl) (NoPanic.normal ?_) _
  rotate_left
  all_goals
    go_wp2
    go_ret
    exact ⟨rfl, below_tr B0 (by (repeat' (first | assumption | exact below_refl _ | refine bl_alloc ?_ _ | refine Below.setCell ?_ ?_ _ | refine below_draw ?_ | refine below_drewN ?_ _ | refine below_tr ?_ (by assumption))) <;> (first | omega | (simp; done) | (simp; omega)))⟩
end Go.Proofs.YtoelekhkgknneaaDoor
