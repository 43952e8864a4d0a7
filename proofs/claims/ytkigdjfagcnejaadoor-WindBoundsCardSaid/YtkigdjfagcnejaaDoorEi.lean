/- Wind cards: WindBounds walked. -/
import Derived.Test.YtkigdjfagcnejaaDoorEh
import Derived.Outline
set_option linter.unusedSimpArgs false
set_option linter.unusedVariables false
namespace Go.Proofs.YtkigdjfagcnejaaDoor
open Go.RowKit

theorem own_zero (w : World) (e : TypeId) : (w.alloc (.cells #[] e)).ownsRow w.heap.size e 1 (.slice (some ⟨w.heap.size, 0, none⟩) 0 0) 0 [] :=
  ⟨rfl, .inr ⟨w.heap.size, 0, #[], rfl, Nat.le_refl _, (Blk.new w e #[] : Blk _ _ _ _), Nat.le_refl _, Nat.zero_le _, rfl, rfl⟩⟩
theorem manyB_le {l : List Int} (h : manyB l = false) : l.length ≤ 100000 := by
  unfold manyB at h
  rw [Bool.or_eq_false_iff, decide_eq_false_iff_not] at h
  omega
/-- what is known of the filled gusts ahead of minute k -/
def FilK (l : List Int) (k : Nat) (F : List Int) : Prop := F.length = l.length ∧ (∀ i, i < k → okG (l.getD i 0) (F.getD i 0)) ∧ ∀ i, k ≤ i → F.getD i 0 = l.getD i 0
theorem filK_zero (l : List Int) : FilK l 0 l := ⟨rfl, fun i h => absurd h (by omega), fun i _ => rfl⟩
theorem filK_keep {l F : List Int} {k : Nat} {x : Int} (h : FilK l k F) (hx : l[k]? = some x) (h0 : 0 ≤ x) : FilK l (k + 1) F := by
  obtain ⟨h1, h2, h3⟩ := h
  refine ⟨h1, fun i hi => ?_, fun i hi => h3 i (by omega)⟩
  by_cases e : i = k
  · subst e
    rw [h3 i (Nat.le_refl _), getD_of hx]
    exact .inl ⟨h0, rfl⟩
  · exact h2 i (by omega)
theorem filK_set {l F : List Int} {k : Nat} {x y : Int} (h : FilK l k F) (hx : l[k]? = some x) (h0 : x < 0) (h1 : 0 ≤ y) (h2 : y ≤ 200) : FilK l (k + 1) (F.set k y) := by
  obtain ⟨h4, h5, h6⟩ := h
  have hk := (List.getElem?_eq_some_iff.1 hx).1
  refine ⟨by rw [List.length_set]; exact h4, fun i hi => ?_, fun i hi => ?_⟩
  · by_cases e : i = k
    · subst e
      rw [getD_of hx, List.getD_eq_getElem?_getD, List.getElem?_set_self (by omega)]
      exact .inr ⟨h0, h1, h2⟩
    · rw [List.getD_eq_getElem?_getD (l := F.set k y), List.getElem?_set_ne (fun q => e q.symm), ← List.getD_eq_getElem?_getD]
      exact h5 i (by omega)
  · rw [List.getD_eq_getElem?_getD (l := F.set k y), List.getElem?_set_ne (by omega), ← List.getD_eq_getElem?_getD]
    exact h6 i (by omega)
theorem filK_end {r : Ru} {l F : List Int} {a b : Int} (h : FilK l l.length F) (he : aE r l = 0) (ha : BdV true r l a) (hb : BdV false r l b) :
    miE r F 0 (F.length : Int) = 0 ∧ a ≤ (miN r F 0 (F.length : Int) : Nat) ∧ ((miN r F 0 (F.length : Int) : Nat) : Int) ≤ b := by
  obtain ⟨h1, h2, _⟩ := h
  obtain ⟨hv, hg⟩ := a_z he
  unfold BdV at ha hb
  rw [if_pos he] at ha hb
  have hgF : vGu F = true := by
    obtain ⟨g1, g2⟩ := vgu hg
    unfold vGu
    rw [Bool.and_eq_true, List.all_eq_true, decide_eq_true_eq]
    refine ⟨fun x hx => ?_, by omega⟩
    obtain ⟨i, hi, rfl⟩ := List.getElem_of_mem hx
    have q := h2 i (by omega)
    have e1 : F.getD i 0 = F[i] := by simp [List.getD_eq_getElem?_getD, hi]
    have hil : i < l.length := by omega
    have e2 : l.getD i 0 = l[i] := by simp [List.getD_eq_getElem?_getD, hil]
    have q2 := g2 i l[i] (List.getElem?_eq_getElem hil)
    rw [e1, e2] at q
    rw [wn_iff]
    rcases q with q | q <;> omega
  have heF : aE r F = 0 := by unfold aE; simp [hv, hgF]
  have e : miE r F 0 (F.length : Int) = 0 := by unfold miE; rw [if_pos heF, if_pos ⟨by omega, by omega, by omega⟩]
  have en : miN r F 0 (F.length : Int) = cnS (gA r F) 0 l.length := by
    unfold miN; rw [if_pos e, h1]; simp
  have := bst_in ha hb ⟨_, rch_fill hv h2 l.length (Nat.le_refl _)⟩
  rw [en]
  exact ⟨e, this.1, this.2⟩
theorem run_app0 (W : World) (A : Option Addr) (c g : Nat) (ty : TypeId) : (Builtin.append_ #[24, 24] ty #[.slice (some ⟨g, 0, none⟩) 0 0, .slice A 0 c]).run Tryd.prog W = .ok (.slice (some ⟨g, 0, none⟩) 0 0) W := by
  obtain ⟨i0', hi', hi1', hi2', hi3'⟩ := info_int2
  cases A <;> simp [Builtin.append_, run_underlying Tryd.underlying24, sizeOf, typeInfo, hi', Builtin.lenOf, Builtin.firstCells, storeCells, loadCells, loadCellsFrom, Sem.run_pure]
theorem wpList_app0 {ops : Array Oper} {rest : List Oper} {o : Oper} {a : Act} {Q : Exit → Act → World → Prop} {W : World} (hgd : o.guard = none) (s x : Operand)
    (ho : o.op = .call { callee := .builtin .append, args := #[s, x], argTypes := #[24, 24] }) (A : Option Addr) (c g : Nat)
    (hs : a.eval s = .slice (some ⟨g, 0, none⟩) 0 0) (hx : a.eval x = .slice A 0 c) (h : wpList Tryd.prog ops Q rest (a.put o.dst (.slice (some ⟨g, 0, none⟩) 0 0)) W) : wpList Tryd.prog ops Q (o :: rest) a W :=
  wpList_plain hgd fun K hK => by
    unfold Oper.wp execOp
    simp only [ho, resolve, invoke, builtin, Sem.run_bind, Sem.run_pure, Result.andThen_ok, List.map_toArray, List.map_cons, List.map_nil, hs, hx, run_app0]
    exact hK _ _ h
set_option maxHeartbeats 4000000 in
set_option maxRecDepth 20000 in
theorem l_WindBounds (A : Option Addr) (r : Ru) (l : List Int) (c : Nat) (B : Option Addr) (m : List Int) (d : Nat) (w : World)
    (hl0 : l.length ≤ maxLen) (hR : Rd zC 1 w A l) (hm0 : m.length ≤ maxLen) (hS : Rd zC 1 w B m) :
    Calls Tryd.prog 9 #[ruV r, .slice A l.length c, .slice B m.length d] w fun e w' => e = .returned (.bool true) ∧ Below w.heap.size w w' := by
  have HMA := Lib.hid (fun b (h : manyB l = b) W => h ▸ p_many A l c W hl0)
  unfold maxLen at hl0 hm0
  go_enter Tryd.func9, Tryd.ntmps9
  go_wp2_with fail
  have x0 := Blk.new w 23 #[.int .i64 r.s, .int .i64 r.g, .int .i64 r.c]
  have B0 := bl_alloc (below_refl w) (.cells #[.int .i64 r.s, .int .i64 r.g, .int .i64 r.c] 23)
  have sz0 := World.size_alloc w (.cells #[.int .i64 r.s, .int .i64 r.g, .int .i64 r.c] 23)
  generalize w.alloc (.cells #[.int .i64 r.s, .int .i64 r.g, .int .i64 r.c] 23) = W0 at *
  refine (l_awake W0).mono ?_
  rintro e w1 ⟨rfl, hb1⟩
  have B1 := below_tr B0 hb1
  have x1 := x0.below hb1 x0.lt
  clear x0 hb1 sz0 B0
  cases h1 : manyB l
  rotate_left
  · go_wp2_with (go_at_call 15; ((with_reducible refine (HMA.out _ h1 _).mono ?_); rintro e w' ⟨rfl, rfl⟩))
    go_ret
    exact ⟨rfl, B1⟩
  by_cases h3 : 400 < (m.length : Int)
  · go_wp2_with (go_at_call 15; ((with_reducible refine (HMA.out _ h1 _).mono ?_); rintro e w' ⟨rfl, rfl⟩))
    go_ret
    exact ⟨rfl, B1⟩
  have hl := manyB_le h1
  have hm : (m.length : Int) ≤ 400 := by omega
  have q0 := x1.cell 0
  have q1 := x1.cell 1
  have q2 := x1.cell 2
  simp only [List.getElem?_toArray, List.getElem?_cons_zero, List.getElem?_cons_succ] at q0 q1 q2
  go_wp2_with (first | (go_at_call 15; ((with_reducible refine (HMA.out _ h1 _).mono ?_); rintro e w' ⟨rfl, rfl⟩)) | (go_at_call 47; fail))
  clear HMA h1 h3
  refine (p_Bounds A r l c w1 hl (hR.on B1)).mono ?_
  rintro e w2 ⟨a, b, rfl, ha, hb, hb2⟩
  have B2 := below_tr B1 hb2
  have x2 := x1.below hb2 x1.lt
  have q0 := x2.cell 0
  have q1 := x2.cell 1
  have q2 := x2.cell 2
  simp only [List.getElem?_toArray, List.getElem?_cons_zero, List.getElem?_cons_succ] at q0 q1 q2
  have HA := Lib.hid ha
  have HB := Lib.hid hb
  have HEE := Lib.hid (fun (h : aE r l ≠ 0) => aE_one h)
  clear x1 hb2 B1 ha hb
  go_wp2_with fail
  refine (r_Bounds A r l c w2 hl (hR.on B2)).mono ?_
  rintro e w3 ⟨a', b', rfl, ha, hb, hb3⟩
  obtain rfl := bdV_uniq ha HA.out
  obtain rfl := bdV_uniq hb HB.out
  have B3 := below_tr B2 hb3
  have x3 := x2.below hb3 x2.lt
  clear x2 hb3 B2 ha hb q0 q1 q2
  by_cases he : aE r l = 0
  rotate_left
  · rw [HEE.out he]
    clear he HEE
    go_wp2
    go_ret
    exact ⟨rfl, B3⟩
  have HFE := Lib.hid (fun F (h : FilK l l.length F) => filK_end h he HA.out HB.out)
  rw [he]
  clear he HEE HA HB
  have q0 := x3.cell 0
  have q1 := x3.cell 1
  have q2 := x3.cell 2
  simp only [List.getElem?_toArray, List.getElem?_cons_zero, List.getElem?_cons_succ] at q0 q1 q2
  obtain ⟨i0', hi', hi1', hi2', hi3'⟩ := info_int2
  have hmn := fl_length zC_len l
  have B3s := B3.size
  have x4 := x3.alloc (.cells #[] 3)
  have B4 := bl_alloc B3 (.cells #[] 3)
  have o4 := own_zero w3 3
  have hz3 := x3.lt
  by_cases hl1 : l = []
  · subst hl1
    have ⟨e1, e2, e3⟩ := HFE.out [] (filK_zero [])
    have HE1 := Lib.hid e1
    clear e1 HFE
    have x5 := x4
    have x4l := x4.lt
    go_wp2_with (at_builtin; refine wpList_app0 rfl _ _ rfl A c w3.heap.size rfl rfl ?_)
    go_loopw [15] (fun i wr => i = .int .i64 0 ∧ Below w.heap.size w wr ∧ Blk wr w.heap.size 23 #[.int .i64 r.s, .int .i64 r.g, .int .i64 r.c]) (fun i _ => 0)
    case atStart => exact ⟨rfl, B4, x4⟩
    case round =>
      clear q0 q1 q2
      obtain ⟨rfl, hbq, xq⟩ := hrel
      have p0 := xq.cell 0
      have p1 := xq.cell 1
      have p2 := xq.cell 2
      simp only [List.getElem?_toArray, List.getElem?_cons_zero, List.getElem?_cons_succ] at p0 p1 p2
      go_wp2_with fail
      refine (p_Minutes (some ⟨w3.heap.size, 0, none⟩) r [] 0 0 0 _ (by simp) (fun h => absurd rfl h)).mono ?_
      rintro e w7 ⟨rfl, hb7⟩
      have e1 : miE r [] 0 0 = 0 := HE1.out
      have e2' : a' ≤ (miN r [] 0 0 : Nat) := e2
      have e3' : ((miN r [] 0 0 : Nat) : Int) ≤ b' := e3
      rw [e1]
      clear e1 e2 e3
      go_wp2
      go_ret
      exact ⟨rfl, below_tr hbq hb7⟩
  obtain ⟨bA, oA, rfl, hbA, _⟩ := hR hl1
  have hz9 : bA < w3.heap.size := by omega
  have HCN := Lib.hid (rd_fl zC_len (hR.on B4))
  go_wp2_with (at_builtin; refine wpList_append_own _ rfl _ _ 24 rfl w3.heap.size 3 i0' (.int .i64 0) 1 8 (by kernel_rfl) hi' hi1' hi2' hi3' rfl (by omega) _ _ _ rfl o4 ⟨bA, oA, none⟩ l.length c (fl zC l) rfl (by rw [hmn]) HCN.out (zC_one l) (by unfold maxLen; omega) (by omega) (by simp) ?_; intro v5 w5 hown5 hgrow _)
  have B5 := bl_app0 B4 o4 hgrow B3s B4.size
  have x5 := x4.grown hgrow (own_ne o4 (by have := x3.lt; omega))
  rw [Nat.zero_add, List.nil_append] at hown5
  clear x4 B4 hgrow q0 q1 q2 o4
  go_wp2_with fail
  go_loopw [14, 15] (fun s14 s15 wz => ∃ (k q : Nat) (F : List Int), k ≤ l.length ∧ q ≤ m.length ∧ s15 = .int .i64 k ∧ s14 = .int .i64 q ∧ Hid (FilK l k F) ∧ Below w.heap.size w wz ∧ Blk wz w.heap.size 23 #[.int .i64 r.s, .int .i64 r.g, .int .i64 r.c] ∧ wz.ownsRow w3.heap.size 3 1 v5 l.length (fl zC F)) (fun _ i _ => l.length - (intOf i).toNat)
  case atStart => exact ⟨0, 0, l, by omega, by omega, rfl, rfl, Lib.hid (filK_zero l), B5, x5, hown5⟩
  case round =>
    clear B5 x5 hown5
    rename World => wq
    obtain ⟨k, q, F, hk, hq, rfl, rfl, HF, hbq, xq, hown⟩ := hrel
    have k0 : (0 : Int) ≤ (k : Int) := Int.natCast_nonneg _
    have q0 : (0 : Int) ≤ (q : Int) := Int.natCast_nonneg _
    by_cases hlt : k < l.length
    · have k1 : (k : Int) < (l.length : Int) := by omega
      obtain ⟨x, b1, off1, hx, e1, hb1, c0⟩ := rd_int (hR.on hbq) hlt
      cases e1
      by_cases hx0 : 0 ≤ x
      · have HF2 := Lib.hid (filK_keep HF.out hx hx0)
        clear hx
        go_wp2
        go_roundw
        case rel => exact ⟨k + 1, q, F, by omega, hq, by go_num, rfl, HF2.out, hbq, xq, hown⟩
        case measure => simp [intOf]; omega
      · have HX := Lib.hid hx
        clear hx
        by_cases hqm : q = m.length
        · subst hqm
          go_wp2
          go_ret
          exact ⟨rfl, hbq⟩
        · have q1 : (q : Int) < (m.length : Int) := by omega
          have q2 : ¬ (q : Int) = (m.length : Int) := by omega
          obtain ⟨y, b2, off2, hy, rfl, hb2, d0⟩ := rd_int (hS.on hbq) (show q < m.length by omega)
          clear hy
          by_cases hy0 : y < 0
          · go_wp2
            go_ret
            exact ⟨rfl, hbq⟩
          · by_cases hy1 : 200 < y
            · go_wp2
              go_ret
              exact ⟨rfl, hbq⟩
            · have HF2 := Lib.hid (filK_set HF.out HX.out (by omega) (show 0 ≤ y by omega) (by omega))
              have hFl := HF.out.1
              obtain ⟨g, cap, cur, e5, hg, hbk, _⟩ := own_row zC_len (show wq.ownsRow w3.heap.size 3 1 v5 F.length (fl zC F) by rw [hFl]; exact hown) (by omega)
              rw [hFl] at e5
              subst e5
              have hfr := hbk.frozen k
              have hcl := (own_cell hown (j := k) (u := .int .i64 (F.getD k 0)) (by rw [fl_z]; rw [List.getElem?_map, List.getD_eq_getElem?_getD]; obtain ⟨z, hz⟩ := get_lt (show k < F.length by omega); rw [hz]; rfl)).1
              have hnw := own_put hown k (.int .i64 y)
              rw [fl_z, ← List.map_set, ← fl_z] at hnw
              have HN := Lib.hid hnw
              have hgl := hbk.lt
              have HXX := Lib.hid (xq.far (p := ⟨g, k, none⟩) (by show w.heap.size ≠ g; have := x3.lt; omega) (.int .i64 y))
              have HBB := Lib.hid (hbq.setCell (p := ⟨g, k, none⟩) (by show w.heap.size ≤ g; have := B3.size; omega) (.int .i64 y))
              clear hnw hbk xq hown hFl HF
              go_wp2
              go_roundw
              case rel => exact ⟨k + 1, q + 1, F.set k y, by omega, by omega, by go_num, by go_num, HF2.out, HBB.out, HXX.out, HN.out⟩
              case measure => simp [intOf]; omega
    · obtain rfl : k = l.length := by omega
      have ⟨e1, e2, e3⟩ := HFE.out F HF.out
      have HE1 := Lib.hid e1
      have hFl := Lib.hid HF.out.1
      rw [← HF.out.1] at hown
      obtain ⟨A6, c6, e6, hr6⟩ := own_rd zC_len hown
      subst e6
      have hF6 : F.length ≤ 100000 := by rw [hFl.out]; exact hl
      have p0 := xq.cell 0
      have p1 := xq.cell 1
      have p2 := xq.cell 2
      simp only [List.getElem?_toArray, List.getElem?_cons_zero, List.getElem?_cons_succ] at p0 p1 p2
      clear e1 HFE hown
      go_wp2_with fail
      refine (p_Minutes A6 r F c6 0 (F.length : Int) wq hF6 hr6).mono ?_
      rintro e w7 ⟨rfl, hb7⟩
      rw [HE1.out]
      go_wp2
      go_ret
      exact ⟨rfl, below_tr hbq hb7⟩
end Go.Proofs.YtkigdjfagcnejaaDoor
