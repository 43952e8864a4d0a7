/- Fell: slices of props: Clone, IndexFunc, DeleteFunc; Burnt of both. -/
import Derived.Test.YtkeojokbpjdhpaaDoorFgy
import Derived.Laws.IdiomCopy
import Derived.Lib.LazyBuf
set_option linter.unusedSimpArgs false
set_option linter.unusedVariables false
namespace Go.Proofs.YtkeojokbpjdhpaaDoor
open Go.RowKit Go.Shelf

theorem c_indexP (A : Option Addr) (l : List Pr) (c : Nat) (p : Pr → Bool) (f : FuncId) (cap : Array Value) (w : World) (hl : l.length ≤ 100000) (hR : Rd Pr.cs 3 w A l)
    (he : ∀ args W, (callFunc f args).run Tryd.prog W = .ok (.enter f args) W)
    (hf : ∀ W x, Calls Tryd.prog f (#[prV x] ++ cap) W fun e W' => e = .returned (.bool (p x)) ∧ Below W.heap.size W W') :
    Calls Tryd.prog 81 #[.slice A l.length c, .func (.func f) #[] cap] w fun e w' => e = .returned (.int .i64 (idxOf p l 0)) ∧ Below w.heap.size w w' := by
  have HF := Lib.hid hf
  clear hf
  go_enter Tryd.func81, Tryd.ntmps81
  go_wp2
  go_loopw [8] (fun i wr => ∃ k : Nat, k ≤ l.length ∧ i = .int .i64 k ∧ Below w.heap.size w wr ∧ Hid (idxOf p l 0 = idxOf p (l.drop k) k)) (fun i _ => l.length - (intOf i).toNat)
  case atStart => exact ⟨0, by omega, rfl, Below.refl _ _, rfl⟩
  case round =>
    obtain ⟨k, hk, rfl, hB, HI⟩ := hrel
    by_cases hlt : k < l.length
    · obtain ⟨x, b, off, hx, rfl, hb, c0, c1, c2⟩ := rdP (hR.on hB) hlt
      have HD := Lib.hid (idxOf_drop p l k x hx)
      have HC := Lib.hid (HF.out wr x)
      clear hx
      cases hp : p x
      all_goals
        have HP := Lib.hid hp
        clear hp
        go_wp2_with fail
        refine HC.out.mono ?_
        rintro e w1 ⟨rfl, hb1⟩
        rw [HP.out]
        go_wp2
      · go_roundw
        case rel => exact ⟨k + 1, by omega, by go_num, hB.trans (hb1.mono hB.size), by rw [HI.out, HD.out, HP.out]; rfl⟩
        case measure => simp [intOf]; omega
      · go_ret
        exact ⟨ret_int (by rw [HI.out, HD.out, HP.out]; rfl), hB.trans (hb1.mono hB.size)⟩
    · go_wp2
      go_ret
      exact ⟨ret_int (by rw [HI.out, List.drop_of_length_le (by omega)]; rfl), hB⟩
theorem p_burnt1 (x : Pr) (w : World) : Calls Tryd.prog 50 #[prV x] w fun e w' => e = .returned (.bool x.wd) ∧ Below w.heap.size w w' := by
  go_enter Tryd.func50, Tryd.ntmps50
  go_wp2
  go_ret
  exact ⟨rfl, by (repeat' (first | assumption | exact below_refl _ | refine bl_alloc ?_ _ | refine Below.setCell ?_ ?_ _ | refine below_draw ?_ | refine below_drewN ?_ _ | refine below_tr ?_ (by assumption))) <;> (first | omega | (simp; done) | (simp; omega))⟩
/-- a row of props that is written in place -/
def RowP (w : World) (g : Nat) (L : List Pr) : Prop := ∃ cur, Blk w g 43 cur ∧ L.length * 3 ≤ cur.size ∧ InRow Pr.cs 3 cur L
theorem RowP.rd {w : World} {g : Nat} {L : List Pr} (h : RowP w g L) : Rd Pr.cs 3 w (some ⟨g, 0, none⟩) L := by
  obtain ⟨cur, hb, _, hr⟩ := h; exact row_rd hb hr
theorem RowP.lt {w : World} {g : Nat} {L : List Pr} (h : RowP w g L) : g < w.heap.size := by obtain ⟨cur, hb, _⟩ := h; exact hb.lt
theorem RowP.frozen {w : World} {g : Nat} {L : List Pr} (h : RowP w g L) (i : Nat) : w.frozen? ⟨g, i, none⟩ = false := by obtain ⟨cur, hb, _⟩ := h; exact hb.frozen i
theorem RowP.below {w w' : World} {g : Nat} {L : List Pr} (h : RowP w g L) (hb : Below w.heap.size w w') : RowP w' g L := by
  obtain ⟨cur, h1, h2, h3⟩ := h; exact ⟨cur, h1.below hb h1.lt, h2, h3⟩
theorem RowP.put {w : World} {g i : Nat} {L : List Pr} (h : RowP w g L) (hi : i < L.length) (p : Pr) :
    RowP (((w.setCell ⟨g, i * 3, none⟩ (.int .i64 p.a.x)).setCell ⟨g, i * 3 + 1, none⟩ (.int .i64 p.a.y)).setCell ⟨g, i * 3 + 2, none⟩ (.bool p.wd)) g (L.set i p) := by
  obtain ⟨cur, h1, h2, h3⟩ := h
  refine ⟨_, ((h1.set_ (i * 3) _).set_ (i * 3 + 1) _).set_ (i * 3 + 2) _, by simpa using h2, fun k x hx r u hu => ?_⟩
  have hr : r < 3 := by have := (List.getElem?_eq_some_iff.1 hu).1; simpa [Pr.cs] using this
  rw [List.getElem?_set] at hx
  simp only [Array.getElem?_setIfInBounds, Array.size_setIfInBounds]
  by_cases e : i = k
  · subst e
    rw [if_pos rfl, if_pos hi] at hx
    cases hx
    have h4 : i * 3 + 2 < cur.size := by omega
    rcases (by omega : r = 0 ∨ r = 1 ∨ r = 2) with rfl | rfl | rfl
    · simp [Pr.cs] at hu; subst hu
      rw [if_neg (by omega), if_neg (by omega), if_pos (by omega), if_pos (by omega)]
    · simp [Pr.cs] at hu; subst hu
      rw [if_neg (by omega), if_pos (by omega), if_pos (by omega)]
    · simp [Pr.cs] at hu; subst hu
      rw [if_pos (by omega), if_pos (by omega)]
  · rw [if_neg e] at hx
    rw [if_neg (by omega), if_neg (by omega), if_neg (by omega)]
    exact h3 k x hx r u hu
theorem own_rowP {w : World} {base : Nat} {v : Value} {l : List Pr} (h : w.ownsRow base 43 3 v l.length (fl Pr.cs l)) (h0 : 0 < l.length) :
    ∃ g cap, v = .slice (some ⟨g, 0, none⟩) l.length cap ∧ base ≤ g ∧ l.length ≤ cap ∧ cap ≤ maxLen ∧ RowP w g l := by
  obtain ⟨g, cap, cur, rfl, hg, hb, hr⟩ := own_row Pr.cs_len h h0
  rcases h.2 with ⟨e, _⟩ | ⟨g', cap', cur', e, _, hh, h1, h2, h3, _⟩
  · cases e
  · cases e
    have : cur = cur' := by have := hb.symm.trans hh; cases this; rfl
    subst this
    exact ⟨g, cap, rfl, hg, h1, h2, cur, hb, by rw [h3]; exact Nat.mul_le_mul_right 3 h1, hr⟩
theorem fl_lenP (l : List Pr) : (fl Pr.cs l).length = l.length * 3 := fl_length Pr.cs_len l
set_option maxHeartbeats 2000000 in
set_option maxRecDepth 20000 in
theorem c_CloneP (A : Option Addr) (l : List Pr) (c : Nat) (w : World) (hl : l.length ≤ 100000) (hR : Rd Pr.cs 3 w A l) :
    Calls Tryd.prog 49 #[.slice A l.length c] w fun e w' => ∃ v, e = .returned v ∧ w'.ownsRow w.heap.size 43 3 v l.length (fl Pr.cs l) ∧ Below w.heap.size w w' := by
  obtain ⟨i0, hi, hi1, hi2, hi3⟩ := info_prop
  cases A with
  | none =>
    have hne : l = [] := by
      cases l with
      | nil => rfl
      | cons a t => obtain ⟨b, off, e, _⟩ := hR (by simp); cases e
    subst hne
    clear hl hR hi hi1 hi2 hi3
    have he := Lib.run_eql_slice_nil (P := Tryd.prog) w 22 43 none 0 c 0 0 Tryd.underlying22
    go_enter Tryd.func49, Tryd.ntmps49
    go_wp2
    go_ret
    exact ⟨_, rfl, World.ownsRow_nil _ _ _ _, below_refl _⟩
  | some ad =>
    have hz : ∀ j u, (fl Pr.cs l)[j]? = some u → w.cell? (ad.add j) = some u := by
      by_cases hne : l = []
      · subst hne; intro j u hu; simp [fl] at hu
      · obtain ⟨b, off, e, _⟩ := hR hne
        cases e
        exact rd_fl Pr.cs_len hR
    have oA := own_none w 43 3
    have bA := bl_alloc (below_refl w) (.cells #[] 43)
    have hz2 : ∀ j u, (fl Pr.cs l)[j]? = some u → (w.alloc (.cells #[] 43)).cell? (ad.add j) = some u := fun j u hu => by
      have h1 := hz j u hu
      rw [World.cell?_alloc_lt _ _ _ (World.block_lt_of_cell? w _ h1)]; exact h1
    have HZ := Lib.hid hz2
    clear hz hz2 hR
    have he := Lib.run_eql_slice_nil (P := Tryd.prog) w 22 43 (some ad) l.length c 0 0 Tryd.underlying22
    go_enter Tryd.func49, Tryd.ntmps49
    go_wp2_with (at_builtin; refine wpList_append_own _ rfl _ _ 22 rfl w.heap.size 43 i0 (.agg #[.int .i64 0, .int .i64 0, .bool false]) 3 24 (by kernel_rfl) hi hi1 hi2 hi3 rfl (by omega) _ _ _ rfl oA ad l.length c (fl Pr.cs l) rfl (fl_lenP l) HZ.out (prC_one l) (by unfold maxLen; omega) (by omega) (by simp) ?_; intro v' w9 hown9 hgrow _)
    go_ret
    refine ⟨_, rfl, by rw [Nat.zero_add, List.nil_append] at hown9; exact hown9, bl_grown bA hgrow (fun r hr => Nat.le_of_eq (ob_eq hr)) (by simp)⟩
theorem zeroC_len (n : Nat) : (Builtin.zeroCells (Value.agg #[.int .i64 0, .int .i64 0, .bool false]).cells n).toList.length = n * 3 := by
  rw [Array.length_toList, size_zeroCells]; rfl
theorem zeroC_one (n : Nat) : ∀ u ∈ (Builtin.zeroCells (Value.agg #[.int .i64 0, .int .i64 0, .bool false]).cells n).toList, u.oneCell' = true := by
  intro u hu
  have hc : (Value.agg #[.int .i64 0, .int .i64 0, .bool false]).cells = #[.int .i64 0, .int .i64 0, .bool false] := rfl
  rw [hc] at hu
  unfold Builtin.zeroCells at hu
  simp at hu
  obtain ⟨i, _, rfl⟩ := hu
  have h3 : i % 3 < 3 := Nat.mod_lt _ (by omega)
  rcases (by omega : i % 3 = 0 ∨ i % 3 = 1 ∨ i % 3 = 2) with e | e | e <;> simp [e] <;> rfl
theorem run_clearP (w : World) (b o n c : Nat) (hn : 0 < n) (hv : ∀ w, (zeroValue 43).run Tryd.prog w = .ok (.agg #[.int .i64 0, .int .i64 0, .bool false]) w)
    (hc : ∀ j, j < n * 3 → (w.cell? ⟨b, o + j, none⟩).isSome = true) (hf : ∀ j, w.frozen? ⟨b, j, none⟩ = false) :
    ∃ Z : List Value, Z.length = n * 3 ∧ ∀ ty, (Builtin.clear_ #[22] ty #[.slice (some ⟨b, o, none⟩) n c]).run Tryd.prog w = .ok (.tuple #[]) (w.setCells b o Z) := by
  obtain ⟨Z, hZ⟩ : ∃ Z, Z = (Builtin.zeroCells (Value.agg #[.int .i64 0, .int .i64 0, .bool false]).cells n).toList := ⟨_, rfl⟩
  have hl : Z.length = n * 3 := by rw [hZ]; exact zeroC_len n
  have h1 : ∀ u ∈ Z, u.oneCell' = true := by rw [hZ]; exact zeroC_one n
  refine ⟨Z, hl, fun ty => ?_⟩
  have hst := run_storeCells_cells (P := Tryd.prog) b o Z 0 w (by intro j hj; rw [Nat.add_zero]; exact hc j (by omega)) (by intro j hj; exact hf _) h1
  simp only [Nat.add_zero] at hst
  obtain ⟨m, rfl⟩ : ∃ m, n = m + 1 := ⟨n - 1, by omega⟩
  simp [Builtin.clear_, run_underlying Tryd.underlying22, hv, ← hZ, hst]
end Go.Proofs.YtkeojokbpjdhpaaDoor
namespace Go.Proofs.YtkeojokbpjdhpaaDoor
open Go.RowKit Go.Shelf

theorem idxOf_cases (p : Pr → Bool) : ∀ (l : List Pr) (b : Nat), (idxOf p l b = -1 ∧ ∀ x ∈ l, p x = false) ∨ ∃ (i : Nat) (x : Pr), idxOf p l b = ((b + i : Nat) : Int) ∧ l[i]? = some x ∧ p x = true ∧ (l.take i).filter (fun y => !p y) = l.take i
  | [], b => .inl ⟨rfl, fun x hx => by cases hx⟩
  | y :: l, b => by
    unfold idxOf
    by_cases hy : p y = true
    · rw [if_pos hy]; exact .inr ⟨0, y, rfl, rfl, hy, rfl⟩
    · rw [if_neg hy]
      rcases idxOf_cases p l (b + 1) with ⟨h1, h2⟩ | ⟨i, x, h1, h2, h3, h4⟩
      · refine .inl ⟨h1, fun x hx => ?_⟩
        rcases List.mem_cons.1 hx with rfl | hx
        · simpa using hy
        · exact h2 x hx
      · refine .inr ⟨i + 1, x, by rw [h1]; congr 1; omega, by simpa using h2, h3, ?_⟩
        rw [List.take_succ_cons, List.filter_cons_of_pos (by simpa using hy), h4]
/-- how far a deletion has come -/
structure Del (p : Pr → Bool) (l : List Pr) (i j : Nat) (L : List Pr) : Prop where
  n : L.length = l.length
  ij : i < j
  jn : j ≤ l.length
  tk : L.take i = (l.take j).filter (fun y => !p y)
  dr : ∀ k, j ≤ k → L[k]? = l[k]?
theorem Del.start {p : Pr → Bool} {l : List Pr} {i : Nat} {x : Pr} (hx : l[i]? = some x) (hp : p x = true) (hf : (l.take i).filter (fun y => !p y) = l.take i) : Del p l i (i + 1) l :=
  ⟨rfl, by omega, (List.getElem?_eq_some_iff.1 hx).1, by rw [List.take_add_one, hx, List.filter_append, hf]; simp [hp], fun _ _ => rfl⟩
theorem Del.skip {p : Pr → Bool} {l L : List Pr} {i j : Nat} {x : Pr} (h : Del p l i j L) (hx : l[j]? = some x) (hp : p x = true) : Del p l i (j + 1) L :=
  ⟨h.n, by have := h.ij; omega, (List.getElem?_eq_some_iff.1 hx).1, by rw [h.tk, List.take_add_one, hx, List.filter_append]; simp [hp], fun k hk => h.dr k (by omega)⟩
theorem Del.keep {p : Pr → Bool} {l L : List Pr} {i j : Nat} {x : Pr} (h : Del p l i j L) (hx : l[j]? = some x) (hp : p x = false) : Del p l (i + 1) (j + 1) (L.set i x) := by
  have hj := (List.getElem?_eq_some_iff.1 hx).1
  have hij := h.ij
  have hn := h.n
  refine ⟨by rw [List.length_set]; exact hn, by omega, hj, ?_, fun k hk => ?_⟩
  · rw [List.take_add_one, List.take_set_of_le (by omega), h.tk, List.take_add_one, hx, List.filter_append]
    rw [List.getElem?_set_self (by omega)]
    simp [hp]
  · rw [List.getElem?_set_ne (by omega)]; exact h.dr k (by omega)
set_option maxHeartbeats 4000000 in
set_option maxRecDepth 20000 in
theorem c_DeleteP (g : Nat) (l : List Pr) (c : Nat) (p : Pr → Bool) (f : FuncId) (cap : Array Value) (w : World) (hl : l.length ≤ 100000) (hc : l.length ≤ c) (hcm : c ≤ maxLen) (hR : RowP w g l)
    (he : ∀ args W, (callFunc f args).run Tryd.prog W = .ok (.enter f args) W)
    (hf : ∀ W x, Calls Tryd.prog f (#[prV x] ++ cap) W fun e W' => e = .returned (.bool (p x)) ∧ Below W.heap.size W W') :
    Calls Tryd.prog 48 #[.slice (some ⟨g, 0, none⟩) l.length c, .func (.func f) #[] cap] w fun e w' => ∃ n c', e = .returned (.slice (some ⟨g, 0, none⟩) n c') ∧ n = (l.filter fun y => !p y).length ∧ Rd Pr.cs 3 w' (some ⟨g, 0, none⟩) (l.filter fun y => !p y) ∧ Below g w w' := by
  have hgw := hR.lt
  have HI := Lib.hid (c_indexP (some ⟨g, 0, none⟩) l c p f cap w hl hR.rd he hf)
  have HF := Lib.hid hf
  have HV := Lib.hid (fun (w : World) => (by kernel_rfl : (zeroValue 43).run Tryd.prog w = .ok (.agg #[.int .i64 0, .int .i64 0, .bool false]) w))
  unfold maxLen at hcm
  clear hf
  rcases idxOf_cases p l 0 with ⟨h1, h2⟩ | ⟨i0, x0, h1, h2, h3, h4⟩
  · rw [h1] at HI
    have hfl : (l.filter fun y => !p y) = l := by rw [List.filter_eq_self]; intro y hy; rw [h2 y hy]; rfl
    rw [hfl]
    have HRR := Lib.hid hR
    clear h1 h2 hfl hR
    go_enter Tryd.func48, Tryd.ntmps48
    go_wp2_with fail
    refine HI.out.mono ?_
    rintro e w1 ⟨rfl, hb1⟩
    go_wp2
    go_ret
    exact ⟨_, _, rfl, rfl, (HRR.out.below hb1).rd, hb1.mono (by omega)⟩
  · rw [h1, Nat.zero_add] at HI
    have D0 := Lib.hid (Del.start h2 h3 h4)
    have hi0 := (List.getElem?_eq_some_iff.1 h2).1
    have hw0 : IntKind.i64.wrap ((i0 : Int) + 1) = (i0 : Int) + 1 := fits_wrap (by omega)
    have ii0 : (0 : Int) ≤ (i0 : Int) := Int.natCast_nonneg _
    have hne : ((i0 : Int) == -1) = false := by simp
    have hne2 : ¬ (i0 : Int) = -1 := by omega
    have HRR := Lib.hid hR
    clear h1 h2 h3 h4 hR
    obtain ⟨F, hF⟩ : ∃ F, F = l.filter fun y => !p y := ⟨_, rfl⟩
    have HF2 := Lib.hid hF
    rw [← hF]
    clear hF
    go_enter Tryd.func48, Tryd.ntmps48
    go_wp2_with fail
    refine HI.out.mono ?_
    rintro e w1 ⟨rfl, hb1⟩
    have R1 := HRR.out.below hb1
    have B1 := hb1.mono (show g ≤ w.heap.size by omega)
    have hz1 := hb1.size
    clear HI HRR hb1
    go_wp2_with fail
    go_loopw [5, 6] (fun a b wr => ∃ (i j : Nat) (L : List Pr), a = .int .i64 i ∧ b = .int .i64 j ∧ Hid (Del p l i j L) ∧ RowP wr g L ∧ Below g w wr) (fun _ b _ => l.length - (intOf b).toNat)
    case atStart => exact ⟨i0, i0 + 1, l, rfl, by go_num, D0.out, R1, B1⟩
    case round =>
      clear R1 B1 D0 hw0 ii0 hne hne2 hi0 hz1
      obtain ⟨i, j, L, rfl, rfl, D, hrow, hbw⟩ := hrel
      have i0' : (0 : Int) ≤ (i : Int) := Int.natCast_nonneg _
      have j0 : (0 : Int) ≤ (j : Int) := Int.natCast_nonneg _
      have hij := D.out.ij
      have hjn := D.out.jn
      have hLn := D.out.n
      have HLN := Lib.hid hLn
      have i1 : (i : Int) < (l.length : Int) := by omega
      have hlg := hrow.lt
      by_cases hlt : j < l.length
      · have j1 : (j : Int) < (l.length : Int) := by omega
        obtain ⟨x, b, off, hx, e, hb, c0, c1, c2⟩ := rdP hrow.rd (show j < L.length by omega)
        cases e
        simp only [Nat.zero_add] at c0 c1 c2
        have hxl : l[j]? = some x := by rw [← D.out.dr j (Nat.le_refl _)]; exact hx
        rename World => wr
        have r2 := hrow.below (below_alloc wr (.cells #[.int .i64 x.a.x, .int .i64 x.a.y, .bool x.wd] 43))
        have z2 := Blk.new wr 43 #[.int .i64 x.a.x, .int .i64 x.a.y, .bool x.wd]
        have B2 := hbw.alloc (show g ≤ wr.heap.size by omega) (.cells #[.int .i64 x.a.x, .int .i64 x.a.y, .bool x.wd] 43)
        have HC := Lib.hid (HF.out (wr.alloc (.cells #[.int .i64 x.a.x, .int .i64 x.a.y, .bool x.wd] 43)) x)
        cases hp : p x
        · have D2 := Lib.hid (D.out.keep hxl hp)
          rw [hp] at HC
          clear hp hx hxl D hLn
          go_wp2_with fail
          refine HC.out.mono ?_
          rintro e w3 ⟨rfl, hb3⟩
          have r3 := r2.below hb3
          have z3 := z2.below hb3 z2.lt
          have B3 := B2.trans (hb3.mono (by simp; omega))
          have q0 := z3.cell 0
          have q1 := z3.cell 1
          have q2 := z3.cell 2
          simp only [List.getElem?_toArray, List.getElem?_cons_zero, List.getElem?_cons_succ] at q0 q1 q2
          have lz := z3.lt
          have lg3 := r3.lt
          have f3 := r3.frozen
          have hiL : i < L.length := by have := HLN.out; omega
          obtain ⟨y, b', off', _, e', _, d0, d1, d2⟩ := rdP r3.rd hiL
          cases e'
          simp only [Nat.zero_add] at d0 d1 d2
          have f0 := r3.frozen (i * 3)
          have f1 := r3.frozen (i * 3 + 1)
          have f2 := r3.frozen (i * 3 + 2)
          have r4 := r3.put hiL x
          have hwi : IntKind.i64.wrap ((i : Int) + 1) = (i : Int) + 1 := fits_wrap (by omega)
          clear f3
          go_wp2
          go_roundw
          case rel => exact ⟨i + 1, j + 1, L.set i x, by go_num, by go_num, D2.out, r4, by (repeat' (first | assumption | exact below_refl _ | refine bl_alloc ?_ _ | refine Below.setCell ?_ ?_ _ | refine below_draw ?_ | refine below_drewN ?_ _ | refine below_tr ?_ (by assumption))) <;> (first | omega | (simp; done) | (simp; omega))⟩
          case measure => simp [intOf]; omega
        · have D2 := Lib.hid (D.out.skip hxl hp)
          rw [hp] at HC
          clear hp hx hxl D hLn
          go_wp2_with fail
          refine HC.out.mono ?_
          rintro e w3 ⟨rfl, hb3⟩
          have r3 := r2.below hb3
          have B3 := B2.trans (hb3.mono (by simp; omega))
          go_wp2
          go_roundw
          case rel => exact ⟨i, j + 1, L, rfl, by go_num, D2.out, r3, B3⟩
          case measure => simp [intOf]; omega
      · obtain rfl : j = l.length := by omega
        have htk := D.out.tk
        rw [List.take_length] at htk
        have hFl : F = L.take i := HF2.out.trans htk.symm
        have hil : i < l.length := by omega
        rename World => wr
        obtain ⟨cur, hbl, hsz, hin⟩ := hrow
        have hlen : L.length = l.length := HLN.out
        have hex : ∀ t, t < (l.length - i) * 3 → (wr.cell? ⟨g, i * 3 + t, none⟩).isSome = true := fun t ht => by
          rw [hbl.cell]
          have h5 : i * 3 + t < cur.size := by
            have : (l.length - i) * 3 = l.length * 3 - i * 3 := Nat.sub_mul ..
            omega
          simp [h5]
        obtain ⟨Z, hZl, hcl⟩ := run_clearP wr g (i * 3) (l.length - i) (c - i) (by omega) HV.out hex (fun t => hbl.frozen t)
        have BZ0 := below_setCells (B := g) (b := g) (a := w) (Nat.le_refl _) Z (i * 3) wr hbw
        have hrd : Rd Pr.cs 3 (wr.setCells g (i * 3) Z) (some ⟨g, 0, none⟩) F := by
          rw [hFl]
          intro hne
          refine ⟨g, 0, rfl, Nat.lt_of_lt_of_le hgw BZ0.size, fun k x hx r u hu => ?_⟩
          have hk : k < i := by
            have := (List.getElem?_eq_some_iff.1 hx).1
            rw [List.length_take] at this; omega
          have hr : r < 3 := by have := (List.getElem?_eq_some_iff.1 hu).1; simpa [Pr.cs] using this
          rw [List.getElem?_take, if_pos hk] at hx
          rw [World.cell?_setCells_out g Z (i * 3) wr ⟨g, 0 + k * 3 + r, none⟩ (fun _ _ => .inl (by show 0 + k * 3 + r < i * 3; omega)), Nat.zero_add, hbl.cell]
          exact hin k x hx r u hu
        have HRD := Lib.hid hrd
        have BZ := Lib.hid BZ0
        have HLF := Lib.hid (show F.length = i by rw [hFl, List.length_take]; omega)
        have hic : (i : Int) ≤ (c : Int) := by omega
        have hlc : (l.length : Int) ≤ (c : Int) := by omega
        have hcd : ¬ c = i := by omega
        have hil2 : i ≤ l.length := by omega
        clear BZ0 hrd hbl hsz hin hex htk hFl D hlen
        go_wp2
        go_ret
        exact ⟨i, c, rfl, HLF.out.symm, HRD.out, BZ.out⟩
end Go.Proofs.YtkeojokbpjdhpaaDoor
