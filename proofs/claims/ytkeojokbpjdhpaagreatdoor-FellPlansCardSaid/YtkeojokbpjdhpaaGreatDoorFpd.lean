/- Fell: Plan of the program: what the loops keep. -/
import Derived.Test.YtkeojokbpjdhpaaGreatDoorFpa
import Derived.Test.YtkeojokbpjdhpaaGreatDoorFgd
import Derived.Test.YtkeojokbpjdhpaaGreatDoorFgv
import Derived.Test.YtkeojokbpjdhpaaGreatDoorRoundReg
import Derived.Sort.CutIn
import Derived.Shelf.Slices.Clone
import Derived.Ground.Names2Prog
set_option linter.unusedSimpArgs false
set_option linter.unusedVariables false
namespace Go.Proofs.YtkeojokbpjdhpaaGreatDoor
open Go.RowKit Go.Shelf Go.Maps
theorem run_storeCells_nilP (p : Addr) (w : World) : (storeCells p []).run Tryz.prog w = .ok () w := rfl
attribute [local go_sem] Sem.run_pure run_storeCells_nilP Oper.semAt_some

theorem wpList_insert_own {H : Type} {P : Program} (w : World) {ops : Array Oper} {rest : List Oper} {o : Oper} {a : Act} {Q : Exit → Act → World → Prop}
    (hg : o.guard = none) (m x v : Operand) (t : TypeId) (hop : o.op = Op.insert t m x v)
    (k e : TypeId) (K : Keyed P k) (ht : P.underlying t = some (.map k e)) (R : Value → Option (DataW H × List MemPlace)) (b n : Nat) (D : DataW H)
    (hm : a.eval m = .map (some b)) (hown : w.ownsMap P k R b n D) (hn : n < maxLen) (key val : Value) (kl : Lit) (hx : a.eval x = key) (hv : a.eval v = val) (hkey : keyOf P k key = some kl)
    (d : DataW H) (ps : List MemPlace) (hval : R val = some (d, ps))
    (hK : ∀ w', w'.ownsMap P k R b (n + 1) (D.put kl d) → w.grownBy w' (some b) → wpList P ops Q rest (a.put o.dst undef) w') :
    wpList P ops Q (o :: rest) a w := by
  refine wpList_plain hg fun K' hK' => ?_
  obtain ⟨w', hrun, r1, r2⟩ := hown.update K ht hn hkey hval
  unfold Oper.wp
  simp [execOp, hop, hm, hx, hv, hrun, Result.andThen]
  exact hK' _ _ (hK w' r1 r2)
theorem lfS_full (l : List Pr) : lfS l (List.replicate l.length true) = spL l := by
  unfold lfS mM spL
  rw [List.length_replicate, List.filter_eq_self.2 (fun i hi => by rw [List.mem_range] at hi; simp [List.getD, hi])]
  refine List.ext_getElem (by simp) fun i h1 h2 => ?_
  simp only [List.length_map, List.length_range] at h1
  simp [prAt, List.getD, h1]
def BV (W : World) (Q : Nat → List Int → Prop) (bb : Nat) (b : Option (List Int)) : Prop := match b with
  | none => Blk W bb 25 #[.slice none 0 0]
  | some ds => ∃ g cp, Blk W bb 25 #[.slice (some ⟨g, 0, none⟩) ds.length cp] ∧ Q g ds
/-- what came in -/
def PB (A : Option Addr) (c : Nat) (l : List Pr) (s t : Sp) (w W : World) : Prop :=
  Below w.heap.size w W ∧ Blk W w.heap.size 22 #[.slice A l.length c] ∧ Blk W (w.heap.size + 1) 24 (spA s) ∧ Blk W (w.heap.size + 1 + 1) 24 (spA t)
/-- the search's state: the next table and the best list, of the pairs P -/
def PS (l : List Pr) (s t : Sp) (W : World) (Q : Nat → List Int → Prop) (bx bb bn n : Nat) (T : List Bool → Option (List Int)) (P : List Bool → Nat → Prop) : Prop :=
  ∃ D N b, MH W bn n D ∧ MT l.length Q D N ∧ BV W Q bb b ∧ Blk W bx 49 #[.map (some bn)] ∧ Hid (NextIs l s T P N) ∧ Hid (BestIs l s t T P b)
/-- the outer loop -/
def PO (A : Option Addr) (c : Nat) (l : List Pr) (s t : Sp) (w : World) (z : Nat) (gk : Nat) (a : Act) (W : World) : Prop :=
  ∃ (k bm n : Nat) (T : List Bool → Option (List Int)) (D : DataW Value) (Ds : List Nat) (L : List Value), L.length = 104 ∧
    a = { tmps := ([.slice A l.length c, spV s, spV t, .pointer (some ⟨w.heap.size, 0, none⟩), .pointer (some ⟨w.heap.size + 1, 0, none⟩), .pointer (some ⟨w.heap.size + 1 + 1, 0, none⟩), .slice none 0 0, .int .i64 0, .int .i64 0, .map (some bm)] ++ L).toArray, defers := Ds.map mrk } ∧
    k ≤ l.length + 1 ∧ gk + k = l.length + 2 ∧ z ≤ W.heap.size ∧ PB A c l s t w W ∧ Marks W Ds ∧ (∀ d ∈ Ds, z ≤ d) ∧ n ≤ 13 ^ k ∧ MH W bm n D ∧ MT l.length (LI W) D T ∧ Hid (TabIs l s k T) ∧ Hid (∀ e, Plans l s t e → k < e.length)
/-- the loop over the map -/
def PI (A : Option Addr) (c : Nat) (l : List Pr) (s t : Sp) (w : World) (z bm n bx bb bn r : Nat) (T : List Bool → Option (List Int)) (gk : Nat) (a : Act) (W : World) : Prop :=
  ∃ (S : List Bool → Prop) (n' : Nat) (Ds : List Nat) (L L' : List Value), L.length = 34 ∧ L'.length = 67 ∧
    a = { tmps := ([.slice A l.length c, spV s, spV t, .pointer (some ⟨w.heap.size, 0, none⟩), .pointer (some ⟨w.heap.size + 1, 0, none⟩), .pointer (some ⟨w.heap.size + 1 + 1, 0, none⟩), .slice none 0 0, .int .i64 0, .int .i64 0, .map (some bm), .pointer (some ⟨bx, 0, none⟩), .pointer (some ⟨bb, 0, none⟩)] ++ (L ++ (.pointer (some ⟨r, 0, none⟩) :: L'))).toArray, defers := Ds.map mrk } ∧
    z ≤ W.heap.size ∧ PB A c l s t w W ∧ Marks W Ds ∧ (∀ d ∈ Ds, z ≤ d) ∧ n' + 12 * gk ≤ 13 * n ∧ MR l.length W (LI W) bm r n T S gk ∧ PS l s t W (LI W) bx bb bn n' T (fun M _ => S M)
theorem BV.keep {W W' : World} {Q Q' : Nat → List Int → Prop} {bb : Nat} {b : Option (List Int)} {N : Nat → Prop} (h : BV W Q bb b) (hs : Stp N W W') (hn : ¬ N bb) (k : ∀ g ds, Q g ds → Q' g ds) : BV W' Q' bb b := by
  cases b with
  | none => exact hs.blk h hn
  | some ds => obtain ⟨g, cp, h1, h2⟩ := h; exact ⟨g, cp, hs.blk h1 hn, k _ _ h2⟩
theorem PS.keep {l : List Pr} {s t : Sp} {W W' : World} {Q Q' : Nat → List Int → Prop} {bx bb bn n : Nat} {T : List Bool → Option (List Int)} {P : List Bool → Nat → Prop} {N : Nat → Prop} (h : PS l s t W Q bx bb bn n T P) (hs : Stp N W W') (h1 : ¬ N bx) (h2 : ¬ N bb) (h3 : ¬ N bn) (k : ∀ g ds, Q g ds → Q' g ds) : PS l s t W' Q' bx bb bn n T P := by
  obtain ⟨D, Nx, b, a1, a2, a3, a4, a5, a6⟩ := h
  exact ⟨D, Nx, b, a1.stp hs h3, a2.keep k, a3.keep hs h2 k, hs.blk a4 h1, a5, a6⟩
theorem PB.keep {A : Option Addr} {c : Nat} {l : List Pr} {s t : Sp} {w W W' : World} {N : Nat → Prop} (h : PB A c l s t w W) (hs : Stp N W W') (hw : w.heap.size + 2 < W.heap.size) (hn : ∀ b, b ≤ w.heap.size + 2 → ¬ N b) : PB A c l s t w W' := by
  obtain ⟨a1, a2, a3, a4⟩ := h
  exact ⟨a1.trans (hs.toBelow (by omega) (fun b hb => hn b (by omega))), hs.blk a2 (hn _ (by omega)), hs.blk a3 (hn _ (by omega)), hs.blk a4 (hn _ (by omega))⟩
theorem cnd_same {l : List Pr} {T : List Bool → Option (List Int)} {P P' : List Bool → Nat → Prop} (h : ∀ M i, i < M.length → M.getD i false = true → (P M i ↔ P' M i)) (d : List Int) (M' : List Bool) : Cnd l T P d M' ↔ Cnd l T P' d M' := by
  constructor
  · rintro ⟨M, i, ds, hp, e1, e2, e3, e4⟩; exact ⟨M, i, ds, (h M i e2 e3).1 hp, e1, e2, e3, e4⟩
  · rintro ⟨M, i, ds, hp, e1, e2, e3, e4⟩; exact ⟨M, i, ds, (h M i e2 e3).2 hp, e1, e2, e3, e4⟩
theorem ps_same {l : List Pr} {s t : Sp} {W : World} {Q : Nat → List Int → Prop} {bx bb bn n : Nat} {T : List Bool → Option (List Int)} {P P' : List Bool → Nat → Prop} (hp : ∀ M i, i < M.length → M.getD i false = true → (P M i ↔ P' M i)) (h : PS l s t W Q bx bb bn n T P) : PS l s t W Q bx bb bn n T P' := by
  obtain ⟨D, Nx, b, a1, a2, a3, a4, a5, a6⟩ := h
  refine ⟨D, Nx, b, a1, a2, a3, a4, Lib.hid fun M' hM' => min_congr (a5.out M' hM') fun d => ?_, Lib.hid (min_congr a6.out fun d => ?_)⟩
  · rw [cnd_same hp]
  · constructor
    · rintro ⟨M', q, r⟩; exact ⟨M', (cnd_same hp _ _).1 q, r⟩
    · rintro ⟨M', q, r⟩; exact ⟨M', (cnd_same hp _ _).2 q, r⟩
/-- a row that the iterator does not turn: u, v bound the blocks of the loop itself -/
def LIq (u v : Nat) (W : World) (Mk : Nat → Prop) (g : Nat) (ds : List Int) : Prop := LI W g ds ∧ ¬ Mk g ∧ (g < u ∨ v ≤ g)
theorem mem_mM {M : List Bool} {i : Nat} : i ∈ mM M ↔ i < M.length ∧ M.getD i false = true := by
  unfold mM; rw [List.mem_filter, List.mem_range]
theorem next_zero {l : List Pr} {s : Sp} {T : List Bool → Option (List Int)} : NextIs l s T (fun _ _ => False) (fun _ => none) := fun M' _ d h => by obtain ⟨⟨_, _, _, hp, _⟩, _⟩ := h; exact hp
theorem best_zero {l : List Pr} {s t : Sp} {T : List Bool → Option (List Int)} : BestIs l s t T (fun _ _ => False) none := fun d h => by obtain ⟨_, ⟨_, _, _, hp, _⟩, _⟩ := h; exact hp
def renCl : Go.Shelf.Ren := ⟨fun | 15 => 18 | n => n, fun | 22 => 25 | 3 => 3 | 4 => 4 | n => n, fun | n => n⟩
theorem laysCl : Go.Proofs.Lays2.n15 Tryz.prog renCl := {
  mixed := by kernel_rfl
  f15 := Tryz.func18.trans (congrArg some (by kernel_rfl))
  t3 := Tryz.underlying3
  a3 := Tryz.isAgg3
  z3 := Tryz.sizeOf3
  v3 := Tryz.zeroValue3
  t4 := Tryz.underlying4
  a4 := Tryz.isAgg4
  z4 := Tryz.sizeOf4
  v4 := Tryz.zeroValue4
  t22 := Tryz.underlying25
  a22 := Tryz.isAgg25
  z22 := Tryz.sizeOf25
  v22 := Tryz.zeroValue25
  i3 := by kernel_rfl }
theorem c_CloneD {g c : Nat} {ds : List Int} (W : World) (hl : ds.length ≤ 100000) (h : LI W g ds) :
    Calls Tryz.prog 18 #[.slice (some ⟨g, 0, none⟩) ds.length c] W fun e w' => ∃ v, e = .returned v ∧ w'.ownsRow W.heap.size 3 1 v ds.length (fl zC ds) ∧ Below W.heap.size W w' := by
  refine (Any.slices_Clone_int laysCl g 0 ds.length c ds W (Nat.le_refl _) (by omega) (fun j hj => ?_)).mono ?_
  · rw [Nat.zero_add]
    refine h.cell ?_
    simp [List.getD, hj]
  · rintro e w' ⟨v, rfl, h1, _, h2⟩
    refine ⟨v, rfl, ?_, h2⟩
    have e : (ds.take ds.length).map (Value.int .i64) = fl zC ds := by rw [List.take_length]; unfold fl; rw [List.map_eq_flatMap]; rfl
    rw [← e]; exact h1
theorem ownsRow_LI {w : World} {base : Nat} {v : Value} {l : List Int} {n : Nat} (h : w.ownsRow base 3 1 v n (fl zC l)) (hn : l.length = n) (h0 : 0 < n) : ∃ g cap, v = .slice (some ⟨g, 0, none⟩) l.length cap ∧ base ≤ g ∧ LI w g l := by
  subst hn; exact own_LI h h0
theorem updT_same (N : List Bool → Option (List Int)) (M : List Bool) : updT N M (N M) = N := by
  funext M'; unfold updT; by_cases h : M' = M
  · rw [if_pos h, h]
  · rw [if_neg h]
theorem results_tt {P : Program} {fn : Func} {tmps : Array Value} {w : World} {u v : Nat} (h : fn.results = #[.tmp u, .tmp v]) : (results fn tmps).run P w = .ok (.tuple #[tmps.getD u undef, tmps.getD v undef]) w := by
  simp only [results, h]
  simp
theorem lit_fun (n : Nat) {L : List Value} (h : L.length = n) : ∃ f : Nat → Value, L = (List.range n).map f :=
  ⟨fun i => L.getD i undef, List.ext_getElem (by simpa using h) fun i h1 h2 => by simp [List.getD, h1]⟩
theorem lit104 {L : List Value} (h : L.length = 104) : ∃ f : Nat → Value, L = [f 0, f 1, f 2, f 3, f 4, f 5, f 6, f 7, f 8, f 9, f 10, f 11, f 12, f 13, f 14, f 15, f 16, f 17, f 18, f 19, f 20, f 21, f 22, f 23, f 24, f 25, f 26, f 27, f 28, f 29, f 30, f 31, f 32, f 33, f 34, f 35, f 36, f 37, f 38, f 39, f 40, f 41, f 42, f 43, f 44, f 45, f 46, f 47, f 48, f 49, f 50, f 51, f 52, f 53, f 54, f 55, f 56, f 57, f 58, f 59, f 60, f 61, f 62, f 63, f 64, f 65, f 66, f 67, f 68, f 69, f 70, f 71, f 72, f 73, f 74, f 75, f 76, f 77, f 78, f 79, f 80, f 81, f 82, f 83, f 84, f 85, f 86, f 87, f 88, f 89, f 90, f 91, f 92, f 93, f 94, f 95, f 96, f 97, f 98, f 99, f 100, f 101, f 102, f 103] := by
  obtain ⟨f, hf⟩ := lit_fun 104 h
  exact ⟨f, hf⟩
theorem lit34 {L : List Value} (h : L.length = 34) : ∃ f : Nat → Value, L = [f 0, f 1, f 2, f 3, f 4, f 5, f 6, f 7, f 8, f 9, f 10, f 11, f 12, f 13, f 14, f 15, f 16, f 17, f 18, f 19, f 20, f 21, f 22, f 23, f 24, f 25, f 26, f 27, f 28, f 29, f 30, f 31, f 32, f 33] := by
  obtain ⟨f, hf⟩ := lit_fun 34 h
  exact ⟨f, hf⟩
theorem lit67 {L : List Value} (h : L.length = 67) : ∃ f : Nat → Value, L = [f 0, f 1, f 2, f 3, f 4, f 5, f 6, f 7, f 8, f 9, f 10, f 11, f 12, f 13, f 14, f 15, f 16, f 17, f 18, f 19, f 20, f 21, f 22, f 23, f 24, f 25, f 26, f 27, f 28, f 29, f 30, f 31, f 32, f 33, f 34, f 35, f 36, f 37, f 38, f 39, f 40, f 41, f 42, f 43, f 44, f 45, f 46, f 47, f 48, f 49, f 50, f 51, f 52, f 53, f 54, f 55, f 56, f 57, f 58, f 59, f 60, f 61, f 62, f 63, f 64, f 65, f 66] := by
  obtain ⟨f, hf⟩ := lit_fun 67 h
  exact ⟨f, hf⟩
end Go.Proofs.YtkeojokbpjdhpaaGreatDoor
namespace Go.Proofs.YtkeojokbpjdhpaaGreatDoor
open Go.RowKit Go.Shelf Go.Maps
attribute [local go_sem] Sem.run_pure run_storeCells_nilP Oper.semAt_some

set_option maxHeartbeats 8000000 in
set_option maxRecDepth 20000 in
theorem p_PlanGo (A : Option Addr) (l : List Pr) (c : Nat) (s t : Sp) (w : World) (hask : askE l [s, t] = 0) (hst : heldB (spL l) s = true) (hl : l.length ≤ 12) (hT : Tab w) (hR : Rd Pr.cs 3 w A l) :
    Calls Tryz.prog 5 #[.slice A l.length c, spV s, spV t] w fun e w' => Below w.heap.size w w' ∧
      ((PlanIs l s t none ∧ e = .returned (.tuple #[.slice none 0 0, .int .i64 8])) ∨ ∃ ds g cp, PlanIs l s t (some ds) ∧ LI w' g ds ∧ e = .returned (.tuple #[.slice (some ⟨g, 0, none⟩) ds.length cp, .int .i64 0])) := by
  have ⟨hv, hs, ht⟩ := askE_two hask
  obtain ⟨W1, hW1⟩ : ∃ W1, W1 = ((w.alloc (.cells #[.slice A l.length c] 22)).alloc (.cells (spA s) 24)).alloc (.cells (spA t) 24) := ⟨_, rfl⟩
  have hz1 : W1.heap.size = w.heap.size + 1 + 1 + 1 := by rw [hW1]; simp
  have x0 : Blk W1 w.heap.size 22 #[.slice A l.length c] := by rw [hW1]; exact ((Blk.new w _ _).alloc _).alloc _
  have y0 : Blk W1 (w.heap.size + 1) 24 (spA s) := by
    have := (Blk.new (w.alloc (.cells #[.slice A l.length c] 22)) 24 (spA s)).alloc (.cells (spA t) 24)
    rw [World.size_alloc] at this
    rw [hW1]; exact this
  have v0 : Blk W1 (w.heap.size + 1 + 1) 24 (spA t) := by
    have := Blk.new ((w.alloc (.cells #[.slice A l.length c] 22)).alloc (.cells (spA s) 24)) 24 (spA t)
    rw [World.size_alloc, World.size_alloc] at this
    rw [hW1]; exact this
  have B0 : Below w.heap.size w W1 := by rw [hW1]; exact bl_alloc (bl_alloc (bl_alloc (below_refl w) _) _) _
  have HA := Lib.hid (fun (W : World) (hb : Below w.heap.size w W) (b : Nat) (hS : Rd Sp.cs 2 W (some ⟨b, 0, none⟩) [s, t]) => p_askedTwo A l s t c b W (by omega) (hR.on hb) hS)
  rw [hask] at HA
  have HO := Lib.hid (rd_two W1 s t)
  have B1 := bl_alloc B0 (.cells (spA2 s t) 24)
  have x1 := x0.alloc (.cells (spA2 s t) 24)
  have y1 := y0.alloc (.cells (spA2 s t) 24)
  have v1 := v0.alloc (.cells (spA2 s t) 24)
  have p0 := x0.cell 0
  have r0 := y0.cell 0
  have r1 := y0.cell 1
  have s0 := v0.cell 0
  have s1 := v0.cell 1
  simp only [List.getElem?_toArray, List.getElem?_cons_zero, List.getElem?_cons_succ] at p0 r0 r1 s0 s1
  have HSP := Lib.hid (fun (W : World) (hb : Below w.heap.size w W) => p_spots A l c W (by omega) (hR.on hb))
  have HST := Lib.hid (fun (W : World) (A : Option Addr) (c : Nat) (hR : Rd Sp.cs 2 W A (spL l)) => p_stands A (spL l) c s W (by rw [spL_len]; omega) (vP_bd hv) (vP_nodup hv) (isS_bd hs) hR)
  rw [hst] at HST
  have hmm := @run_makeMap Tryz.prog
  refine (callsIn_wide (n := 6)).1 ?_
  refine callsIn_of_wp_marks Tryz.func5 rfl trivial ?_ rfl
  simp only [Tryz.ntmps5, List.size_toArray, List.length_cons, List.length_nil, Nat.reduceAdd, Nat.reduceSub, Array.replicate_succ, Array.replicate_zero, List.push_toArray, List.append_toArray, List.nil_append, List.cons_append]
  refine wpIn_wide.2 ?_
  go_wp2_with fail
  have HO2 := Lib.hid (hz1 ▸ HO.out)
  have HZ := Lib.hid hz1
  clear hz1
  rw [show (((w.alloc (.cells #[.slice A l.length c] 22)).alloc (.cells #[.int .i64 s.x, .int .i64 s.y] 24)).alloc (.cells #[.int .i64 t.x, .int .i64 t.y] 24)) = W1 from hW1.symm]
  clear hW1
  refine (HA.out _ B1 _ HO2.out).mono ?_
  rintro e w1 ⟨rfl, hb1⟩
  have BX := below_tr B1 hb1
  have x2 := x1.below hb1 x1.lt
  have y2 := y1.below hb1 y1.lt
  have v2 := v1.below hb1 v1.lt
  replace p0 := x2.cell 0
  replace r0 := y2.cell 0
  replace r1 := y2.cell 1
  replace s0 := v2.cell 0
  replace s1 := v2.cell 1
  simp only [List.getElem?_toArray, List.getElem?_cons_zero, List.getElem?_cons_succ] at p0 r0 r1 s0 s1
  have lx := x2.lt
  have ly := y2.lt
  have lv := v2.lt
  clear x0 y0 v0 x1 y1 v1 B0 B1 hb1 HO HO2 HA
  go_wp2_with fail
  refine wp_region_noPanic ?_
  refine wp_region_held_drew (S := (fun w' => (∀ b o, b < w1.heap.size → w'.cell? ⟨b, o, none⟩ = w1.cell? ⟨b, o, none⟩) ∧ (∀ b o, b < w1.heap.size → w'.frozen? ⟨b, o, none⟩ = w1.frozen? ⟨b, o, none⟩) ∧ Below w1.heap.size w1 w')) (by kernel_rfl) (kq_draw kq_refl) (fun hS0 => ?_)
  refine wpAnyH_take (i := 0) (oi := { dst := some 28, op := _, type := _, pos := _, after := _, guard := none }) (v := ?gv1) rfl (by kernel_rfl) (by kernel_rfl) (by kernel_rfl) (fun _ _ _ h => h) (Or.inl ⟨by rfl, ?gy1⟩) (by assumption) ?_
  case gy1 => (intro w' hSw; go_simp; try with_reducible rfl)
  try simp only [Act.put, List.setIfInBounds_toArray, List.set_cons_zero, List.set_cons_succ]
  refine wpAnyH_take (i := 2) (oi := { dst := some 30, op := _, type := _, pos := _, after := _, guard := none }) (v := ?gv2) rfl (by kernel_rfl) (by kernel_rfl) (by kernel_rfl) (fun _ _ _ h => h) (Or.inl ⟨by rfl, ?gy2⟩) (by assumption) ?_
  case gy2 => (intro w' hSw; go_simp; try with_reducible rfl)
  try simp only [Act.put, List.setIfInBounds_toArray, List.set_cons_zero, List.set_cons_succ]
  refine wpAnyH_ready (rs := [1]) (by kernel_rfl) (by simp) ?_
  refine AllReadyH.cons rfl (fun K hK => ?_) AllReadyH.nil
  go_simp
  (go_at_call 15; ((with_reducible refine (HSP.out _ (by (repeat' (first | assumption | exact below_refl _ | refine bl_alloc ?_ _ | refine Below.setCell ?_ ?_ _ | refine below_draw ?_ | refine below_drewN ?_ _ | refine below_tr ?_ (by assumption))) <;> (first | omega | (simp; done) | (simp; omega)))).mono ?_); rintro e w3 ⟨v3, rfl, ho3, hb3⟩; obtain ⟨A3, c3, rfl, hR3⟩ := own_rd Sp.cs_len ho3; obtain ⟨hc3, hf3⟩ := bcell hb3; have hz3 := hb3.size; (try simp [sz_drew, sz_drewN] at hz3); (try simp only [sz_drew, sz_drewN] at hc3 hf3)))
  refine hK.out _ _ (by ((show Kq w1 _); (repeat' (first | assumption | exact kq_refl | refine kq_draw ?_ | refine kq_drewN ?_ | refine kq_alloc ?_ | refine kq_set ?_ ?_ | refine kq_step ?_ (by assumption))); (all_goals (first | omega | (simp; omega))))) (fun hS1 => ?_)
  clear hK K
  try simp only [Act.put, List.setIfInBounds_toArray, List.set_cons_zero, List.set_cons_succ]
  refine wpAnyH_ready (rs := [3]) (by kernel_rfl) (by simp) ?_
  refine AllReadyH.cons rfl (fun K hK => ?_) AllReadyH.nil
  go_simp
  (go_at_call 14; ((with_reducible refine (HST.out _ _ _ hR3).mono ?_); rintro e w4 ⟨rfl, hb4⟩; obtain ⟨hc4, hf4⟩ := bcell hb4; have hz4 := hb4.size; (try simp [sz_drew, sz_drewN] at hz4); (try simp only [sz_drew, sz_drewN] at hc4 hf4)))
  refine hK.out _ _ (by ((show Kq w1 _); (repeat' (first | assumption | exact kq_refl | refine kq_draw ?_ | refine kq_drewN ?_ | refine kq_alloc ?_ | refine kq_set ?_ ?_ | refine kq_step ?_ (by assumption))); (all_goals (first | omega | (simp; omega))))) (fun hS2 => ?_)
  clear hK K
  try simp only [Act.put, List.setIfInBounds_toArray, List.set_cons_zero, List.set_cons_succ]
  refine wpAnyH_take (i := 4) (oi := { dst := some 32, op := _, type := _, pos := _, after := _, guard := none }) (v := ?gv3) rfl (by kernel_rfl) (by kernel_rfl) (by kernel_rfl) (fun _ _ _ h => h) (Or.inl ⟨by rfl, ?gy3⟩) (by assumption) ?_
  case gy3 => (intro w' hSw; go_simp; try with_reducible rfl)
  try simp only [Act.put, List.setIfInBounds_toArray, List.set_cons_zero, List.set_cons_succ]
  refine wpAnyH_done (by kernel_rfl) (NoPanic.normal ?_) _
  have B34 : Below w1.heap.size w1 w4 := by (repeat' (first | assumption | exact below_refl _ | refine bl_alloc ?_ _ | refine Below.setCell ?_ ?_ _ | refine below_draw ?_ | refine below_drewN ?_ _ | refine below_tr ?_ (by assumption))) <;> (first | omega | (simp; done) | (simp; omega))
  have B4 : Below w.heap.size w w4 := below_tr BX B34
  have x4 := x2.below B34 x2.lt
  have y4 := y2.below B34 y2.lt
  have v4 := v2.below B34 v2.lt
  have T4 := TabAt.on hT B4
  have HFU := Lib.hid (fun W => p_full A l.length c W (by omega))
  have hfull : (2 ^ l.length - 1) = encM (List.replicate l.length true) := set_enc (set_full (by omega))
  rw [hfull] at HFU
  have HTAB := Lib.hid (tab_zero (l := l) (s := s) (by unfold stM; rw [lfS_full]; exact hst))
  clear hfull hb3 hb4 hc3 hf3 hc4 hf4 hz3 hz4 ho3 hR3 x2 y2 v2 B34 p0 r0 r1 s0 s1 lx ly lv HSP HST hS0 hS1 hS2
  replace p0 := x4.cell 0
  simp only [List.getElem?_toArray, List.getElem?_cons_zero, List.getElem?_cons_succ] at p0
  have lx := x4.lt
  have hk0 : keyOf Tryz.prog 47 (.int .u32 (encM (List.replicate l.length true) : Nat)) = some (kyM (List.replicate l.length true)) := keyM (by simp; omega)
  go_wp2_with (first
    | (go_at_call 16; ((with_reducible refine (HFU.out _).mono ?_); rintro e w' ⟨rfl, rfl⟩))
    | (refine wpList_insert_own _ rfl _ _ _ 49 rfl 47 25 lawSet und_mapS RH w4.heap.size 0 (.map []) rfl ((World.ownsMap_made w4 _ _ _).alloc _) (by unfold maxLen; omega) _ (.slice (some ⟨w4.heap.size + 1, 0, none⟩) 0 0) _ rfl rfl hk0 _ [] rfl ?_; intro w5 hown5 hgrow5)
    | go_in)
  have B5 : Below w.heap.size w w5 := (bl_alloc (bl_alloc B4 _) _).grown hgrow5 (by simp; omega) (fun j hj => by cases hj; omega)
  have g5 : ∀ b, b ≠ w4.heap.size → some b ≠ some w4.heap.size := fun b hb e => hb (by injection e)
  have x5 := ((x4.alloc (.map #[] 0)).alloc (.cells #[] 3)).grown hgrow5 (g5 _ (by omega))
  have y5 := ((y4.alloc (.map #[] 0)).alloc (.cells #[] 3)).grown hgrow5 (g5 _ (by have := y4.lt; omega))
  have v5 := ((v4.alloc (.map #[] 0)).alloc (.cells #[] 3)).grown hgrow5 (g5 _ (by have := v4.lt; omega))
  have L5 : LI w5 (w4.heap.size + 1) [] := by
    refine ⟨#[], ?_, fun k x h => by simp at h⟩
    have := (Blk.new (w4.alloc (.map #[] 0)) 3 #[]).grown hgrow5 (by simp)
    simpa using this
  have M5 := MT.put (M := List.replicate l.length true) (g := w4.heap.size + 1) (c := 0) (ds := []) (mt_made l.length (LI w5)) tidy_empty.isMap (by simp) L5
  have T5 := Lib.hid (show TabIs l s 0 (updT (fun _ => none) (List.replicate l.length true) (some [])) from HTAB.out)
  have z5 : w4.heap.size + 2 ≤ w5.heap.size := by have := hgrow5.size; simpa using this
  have N5 := Lib.hid (show ∀ e, Plans l s t e → 0 < e.length from fun e he => by obtain ⟨ds, M, i, _, _, _, _, rfl⟩ := he; simp)
  clear x4 y4 v4 B4 T4 HFU HTAB L5 hgrow5 g5 hk0 p0 lx
  refine wp_loop_ghost (PO A c l s t w w5.heap.size) (l.length + 2) ?h0 ?round
  case h0 => exact ⟨0, w4.heap.size, 1, _, _, [], [_, _, _, _, _, _, _, _, _, _, _, _, _, _, _, _, _, _, _, _, _, _, _, _, _, _, _, _, _, _, _, _, _, _, _, _, _, _, _, _, _, _, _, _, _, _, _, _, _, _, _, _, _, _, _, _, _, _, _, _, _, _, _, _, _, _, _, _, _, _, _, _, _, _, _, _, _, _, _, _, _, _, _, _, _, _, _, _, _, _, _, _, _, _, _, _, _, _, _, _, _, _, _, _], rfl, rfl, by omega, by omega, Nat.le_refl _, ⟨B5, x5, y5, v5⟩, Marks.nil _, fun _ h => (by cases h), by omega, hown5, M5, T5, N5⟩
  case round =>
    have hzz : w.heap.size + 2 < w5.heap.size := v5.lt
    clear B5 x5 y5 v5 M5 hown5 T5 N5
    generalize w5.heap.size = z at *
    rintro gk a wv ⟨k, bm, n, T, D, Ds, L, hL, rfl, hk, hgk, hzw, ⟨B0, X0, Y0, V0⟩, hmk, hmd, hn, hown, hmt, HTB, HNO⟩
    obtain ⟨f, rfl⟩ := lit104 hL
    clear hL
    simp only [List.cons_append, List.nil_append]
    have hmd2 : ∀ d ∈ Ds, w.heap.size ≤ d := fun d hd => by have := hmd d hd; omega
    have hkl : 0 < Maps.size D → k ≤ l.length := fun h => by
      obtain ⟨M, ds, hM, hds⟩ := mt_some hmt hown h
      have h1 := HTB.out M hM
      rw [hds] at h1
      have h2 := runs_count h1.1.1
      have h3 := h1.1.2
      omega
    rcases Nat.eq_zero_or_pos (Maps.size D) with h0 | h0
    · have HE := Lib.hid (plans_none HTB.out (mt_none hmt hown h0) HNO.out)
      clear HTB HNO hmt
      go_wp2_with (first | (at_len; refine wpList_len_own _ rfl _ 49 rfl 47 25 und_mapS RH bm n D rfl hown ?_) | go_in)
      refine leaves_marks (by simp) Ds _ hmk fun w' hw' => ?_
      exact ⟨_, results_tt rfl, B0.trans (hw'.toBelow (by omega) (fun b hb h => by have := hmd2 b h; omega)), .inl ⟨HE.out, rfl⟩⟩
    · have h0' : (0 : Int) < (Maps.size D : Int) := by omega
      have p0 := X0.cell 0
      have r0 := Y0.cell 0
      have r1 := Y0.cell 1
      have s0 := V0.cell 0
      have s1 := V0.cell 1
      simp only [List.getElem?_toArray, List.getElem?_cons_zero, List.getElem?_cons_succ] at p0 r0 r1 s0 s1
      have lx := X0.lt
      have ly := Y0.lt
      have lv := V0.lt
      go_wp2_with (first | (at_len; refine wpList_len_own _ rfl _ 49 rfl 47 25 und_mapS RH bm n D rfl hown ?_) | (at_range; refine wpList_rangeM _ rfl _ rfl rfl (((hown.alloc _).alloc _).alloc _) (hmt.keep fun g ds h => ((h.alloc _).alloc _).alloc _) ?_; intro w6 cnt hmr hcn hg6 hz6) | go_in)
      have st6 : Stp noB wv w6 := ((((Stp.refl _ _).alloc _).alloc _).alloc _).grown hg6 (fun r h => by cases h)
      have hbm := hown.lt
      have x6 := st6.blk X0 (fun h => h)
      have y6 := st6.blk Y0 (fun h => h)
      have v6 := st6.blk V0 (fun h => h)
      have k6 := hmk.stp st6 (fun _ _ h => h)
      have B6 : Below w.heap.size w w6 := B0.trans (st6.toBelow (by omega) (fun _ _ h => h))
      have m6 : MH w6 wv.heap.size 0 (.map []) := (((World.ownsMap_made wv _ _ _).alloc _).alloc _).kept hg6 (by simp)
      have bx6 : Blk w6 (wv.heap.size + 1) 49 #[.map (some wv.heap.size)] := by
        have := ((Blk.new (wv.alloc (.map #[] 0)) 49 #[.map (some wv.heap.size)]).alloc (.cells #[.slice none 0 0] 25)).grown hg6 (by simp)
        simpa using this
      have bb6 : Blk w6 (wv.heap.size + 1 + 1) 25 #[.slice none 0 0] := by
        have := (Blk.new ((wv.alloc (.map #[] 0)).alloc (.cells #[.map (some wv.heap.size)] 49)) 25 #[.slice none 0 0]).grown hg6 (by simp)
        simpa using this
      simp only [World.size_alloc] at hz6 hmr ⊢
      have hz6' : z ≤ w6.heap.size := by omega
      clear p0 r0 r1 s0 s1 lx ly lv hg6 st6 X0 Y0 V0 B0 hmk hown hmt
      go_frame
      generalize wv.heap.size = y at *
      refine wp_loop_ghost (PI A c l s t w z bm n (y + 1) (y + 1 + 1) y (y + 1 + 1 + 1) T) cnt ?h1 ?rnd
      case h1 => exact ⟨fun _ => False, 0, Ds, [_, _, _, _, _, _, _, _, _, _, _, _, _, _, _, _, _, _, _, _, _, _, _, _, _, _, _, _, _, _, _, _, _, _], [_, _, _, _, _, _, _, _, _, _, _, _, _, _, _, _, _, _, _, _, _, _, _, _, _, _, _, _, _, _, _, _, _, _, _, _, _, _, _, _, _, _, _, _, _, _, _, _, _, _, _, _, _, _, _, _, _, _, _, _, _, _, _, _, _, _, _], rfl, rfl, rfl, hz6', ⟨B6, x6, y6, v6⟩, k6, hmd, by omega, hmr, .map [], fun _ => none, none, m6, mt_made _ _, bb6, bx6, Lib.hid next_zero, Lib.hid best_zero⟩
      case rnd =>
        clear hmr x6 y6 v6 k6 B6 m6 bx6 bb6 hcn hz6 hz6' hmd hmd2
        rintro gk2 a w7 ⟨S, n', Ds', L, L', hL, hL', rfl, hz7, ⟨B7, X7, Y7, V7⟩, hmk7, hmd7, hn7, hmr7, D', N, b, hmh, hmt, hbv, hbx, HN, HB⟩
        obtain ⟨f1, rfl⟩ := lit34 hL
        obtain ⟨f2, rfl⟩ := lit67 hL'
        clear hL hL' f
        simp only [List.cons_append, List.nil_append]
        have p0 := X7.cell 0
        have r0 := Y7.cell 0
        have r1 := Y7.cell 1
        have s0 := V7.cell 0
        have s1 := V7.cell 1
        have q0 := hbx.cell 0
        simp only [List.getElem?_toArray, List.getElem?_cons_zero, List.getElem?_cons_succ] at p0 r0 r1 s0 s1 q0
        have lx := X7.lt
        have ly := Y7.lt
        have lv := V7.lt
        have lbx := hbx.lt
        go_wp2_with (first | (at_next; refine wpList_nextM (by omega) _ rfl _ rfl rfl hmr7 ?_ ?_) | go_in)
        · intro hdone
          have HALL := Lib.hid (show AllP (l := l) T (fun M _ => S M) from fun M i ds h1 h2 _ _ => hdone M h2 (by rw [h1]; simp))
          have HMN := Lib.hid (best_plan HTB.out HALL.out HB.out)
          have hkl' := hkl h0
          clear hdone HB
          cases b with
          | none =>
            have HNO2 := Lib.hid (plans_next HNO.out HMN.out)
            have HTB2 := Lib.hid (next_tab HTB.out HALL.out HN.out)
            have bb0 := (show Blk w7 (y + 1 + 1) 25 #[.slice none 0 0] from hbv).cell 0
            simp only [List.getElem?_toArray, List.getElem?_cons_zero, List.getElem?_cons_succ] at bb0
            clear HALL HMN HTB HNO HN hbv hkl
            go_wp2
            exact ⟨gk - 1, by omega, k + 1, y, n', N, D', Ds', [_, _, _, _, _, _, _, _, _, _, _, _, _, _, _, _, _, _, _, _, _, _, _, _, _, _, _, _, _, _, _, _, _, _, _, _, _, _, _, _, _, _, _, _, _, _, _, _, _, _, _, _, _, _, _, _, _, _, _, _, _, _, _, _, _, _, _, _, _, _, _, _, _, _, _, _, _, _, _, _, _, _, _, _, _, _, _, _, _, _, _, _, _, _, _, _, _, _, _, _, _, _, _, _], rfl, rfl, by omega, by omega, hz7, ⟨B7, X7, Y7, V7⟩, hmk7, hmd7, by rw [Nat.pow_succ]; omega, hmh, hmt, HTB2, HNO2⟩
          | some ds =>
            obtain ⟨g, cp, hbv, hli⟩ := hbv
            have HP := Lib.hid (planIs_some HNO.out HMN.out)
            have bb0 := hbv.cell 0
            simp only [List.getElem?_toArray, List.getElem?_cons_zero, List.getElem?_cons_succ] at bb0
            have hmd8 : ∀ d ∈ Ds', w.heap.size ≤ d := fun d hd => by have := hmd7 d hd; omega
            clear HALL HMN HTB HNO HN hbv hkl hmt hmh
            go_wp2
            refine leaves_marks (by simp) Ds' _ hmk7 fun w' hw' => ?_
            refine ⟨_, results_tt rfl, B7.trans (hw'.toBelow (by omega) (fun b hb h => by have := hmd8 b h; omega)), .inr ⟨ds, g, cp, HP.out, ?_, rfl⟩⟩
            obtain ⟨cur, h1, h2⟩ := hli
            exact ⟨cur, hw'.blk h1 (fun h => by have := hmk7.2 _ h; rw [show w7.heap[g]? = some (.cells cur 3 (0, 0)) from h1] at this; cases this), h2⟩
        · intro M ds g cp w8 cnt' hM hTM hSM hli hmr8 hlt8 hg8 hz8 hen
          have HZ8 := Lib.hid hz8
          clear hz8
          have hds12 : ds.length ≤ 100 := by
            have h1 := HTB.out M hM
            rw [hTM] at h1
            have h2 := runs_count h1.1.1
            omega
          go_wp2_with (first | (go_at_call 17; ((with_reducible refine (p_all (encM M) _).mono ?_); rintro e w9 ⟨rfl, hw9⟩)) | go_in)
          have hz8 := HZ8.out
          have hr7 := hmr7.lt
          have hbbl : y + 1 + 1 < w7.heap.size := by
            cases b with
            | none => exact (show Blk w7 (y + 1 + 1) 25 #[.slice none 0 0] from hbv).lt
            | some ds => obtain ⟨g, cp, hbv, _⟩ := hbv; exact hbv.lt
          have st8 : Stp (fun b => b = y + 1 + 1 + 1) w7 w8 := (Stp.refl _ _).grown hg8 (fun r hr => by injection hr with hr; exact .inl hr.symm)
          have st9 : Stp (fun b => b = y + 1 + 1 + 1) w7 w9 := by rw [hw9]; exact ((st8.alloc _).alloc _).alloc _
          have n89 : Stp noB w8 w9 := by rw [hw9]; exact (((Stp.refl _ _).alloc _).alloc _).alloc _
          have z9 : w9.heap.size = w8.heap.size + 1 + 1 + 1 := by rw [hw9]; simp
          have tb9 : Blk w9 w8.heap.size 47 #[.int .u32 (encM M : Nat)] := by rw [hw9]; exact ((Blk.new w8 _ _).alloc _).alloc _
          have db9 : Blk w9 (w8.heap.size + 1) 25 #[.slice (some ⟨g, 0, none⟩) ds.length cp] := by
            have := (Blk.new (w8.alloc (.cells #[.int .u32 (encM M : Nat)] 47)) 25 #[.slice (some ⟨g, 0, none⟩) ds.length cp]).alloc (.cells #[.int .u32 (encM M : Nat)] 47)
            rw [hw9]; simpa using this
          have sb9 : Blk w9 (w8.heap.size + 1 + 1) 47 #[.int .u32 (encM M : Nat)] := by
            have := Blk.new ((w8.alloc (.cells #[.int .u32 (encM M : Nat)] 47)).alloc (.cells #[.slice (some ⟨g, 0, none⟩) ds.length cp] 25)) 47 #[.int .u32 (encM M : Nat)]
            rw [hw9]; simpa using this
          have li9 : ∀ g ds, LI w8 g ds → LIq w8.heap.size (w9.heap.size + 2) w9 (fun _ => False) g ds := fun g ds h => ⟨li_stpF h n89 (fun h => h), fun h => h, .inl h.lt⟩
          have li8 : ∀ g ds, LI w7 g ds → LI w8 g ds := fun g ds h => li_stpF h st8 (fun e => by subst e; exact (mr_not hmr7 h.choose_spec.1).2 rfl)
          have M9 : MR l.length w9 (LIq w8.heap.size (w9.heap.size + 2) w9 (fun _ => False)) bm (y + 1 + 1 + 1) n T (fun M' => S M' ∨ M' = M) cnt' := hmr8.keep n89 (fun h => h) (fun h => h) li9
          have K9 : Marks w9 Ds' := hmk7.stp st9 (fun d hd e => by
            have h1 := hmk7.2 d hd
            obtain ⟨D0, left, ⟨es, clock, since, seen, c0, _, _, _, _, q4, _⟩, _⟩ := hmr7
            rw [e, q4] at h1; cases h1)
          have P9 : PB A c l s t w w9 := PB.keep ⟨B7, X7, Y7, V7⟩ st9 (by omega) (fun b hb => by omega)
          have S9 : PS l s t w9 (LIq w8.heap.size (w9.heap.size + 2) w9 (fun _ => False)) (y + 1) (y + 1 + 1) y n' T (fun M' i => S M' ∨ (M' = M ∧ i ∈ ([] : List Nat))) := by
            refine ps_same (P := fun M' _ => S M') (fun M' i _ _ => by simp) (PS.keep (Q := LI w7) ⟨D', N, b, hmh, hmt, hbv, hbx, HN, HB⟩ st9 (by omega) (by omega) (by omega) (fun g ds h => li9 g ds (li8 g ds h)))
          have hdl : ∀ d ∈ Ds', d < w8.heap.size := fun d hd => by have := lt_of_block (hmk7.2 d hd); omega
          have hset := encM_set (show M.length ≤ 24 by omega)
          have HXS := Lib.hid (set_mL hset)
          have T9 : Tab w9 := TabAt.on hT P9.1
          have h0w := Tab.lt hT
          have LG9 := li9 g ds hli
          rw [← hw9]
          clear hw9 hmr7 hmr8 hmk7 hmh hmt hbv hbx HN HB B7 X7 Y7 V7 st8 st9 n89 hg8 hen hli li9 li8 p0 r0 r1 s0 s1 q0 lx ly lv lbx
          generalize hu : w8.heap.size = u at *
          have hu7a : u ≤ w7.heap.size := by omega
          have hu7b : w7.heap.size ≤ u := by omega
          have z9a : u + 3 ≤ w9.heap.size := by omega
          have z9b : w9.heap.size ≤ u + 3 := by omega
          clear hz8 HZ8 hu z9
          refine (wpIn_wide (n := 6)).1 (wp_rangeK (n := 6) (by omega) (gf := 41) (lb := #[.pointer (some ⟨u + 1 + 1, 0, none⟩)]) rfl enters_all (encs := inI) (xs := mL (encM M)) (R := fun b => b = 0 ∨ b = u + 1 + 1) (K := fun b => b = u + 1 + 1)
            (all_seq _ (by omega) _ (encM M) _ _ _ (encM_lt (by omega)) sb9 T9 (.inr rfl) (.inl rfl) rfl (by omega)) (fun b h => .inr h) (Stp.refl _ _) (fun _ => rfl) (by rintro b (hb | hb) <;> omega)
            (fun pre Mk W => (PB A c l s t w W ∧ w9.heap.size ≤ W.heap.size ∧ Marks W Ds' ∧ Blk W u 47 #[.int .u32 (encM M : Nat)] ∧ Blk W (u + 1) 25 #[.slice (some ⟨g, 0, none⟩) ds.length cp]) ∧ LIq u (w9.heap.size + 2) W Mk g ds ∧ MR l.length W (LIq u (w9.heap.size + 2) W Mk) bm (y + 1 + 1 + 1) n T (fun M' => S M' ∨ M' = M) cnt' ∧
              ∃ n2, n2 ≤ n' + pre.length ∧ PS l s t W (LIq u (w9.heap.size + 2) W Mk) (y + 1) (y + 1 + 1) y n2 T (fun M' i => S M' ∨ (M' = M ∧ i ∈ pre)))
            (fun _ _ _ _ => False)
            ?hI ?hIx ?h00 ?rnd2 ?done ?stop)
          case hIx => exact fun _ _ _ _ _ _ h => h.elim
          case stop => rintro c pre rest M' W _ h; exact h.elim
          case h00 => exact ⟨⟨P9, Nat.le_refl _, K9, tb9, db9⟩, LG9, M9, n', by simp, S9⟩
          case hI =>
            rintro pre M1 M2 W W' ⟨⟨a1, a2, a3, a4, a5⟩, a6, a7, n2, a8, a9⟩ hM' hMM hnew hlt2 hst
            have hno : ∀ b, b < u + 1 + 1 → ¬ (M1 b ∨ b = u + 1 + 1 ∨ b + 2 = w9.heap.size + 2 ∨ b + 1 = w9.heap.size + 2) := by
              intro b hb h
              rcases h with h | h | h | h
              · have := hM' b (hMM b h); omega
              · omega
              · omega
              · omega
            have hrow : ∀ g ds, LIq u (w9.heap.size + 2) W M1 g ds → LIq u (w9.heap.size + 2) W' M2 g ds := by
              rintro g ds ⟨h1, h2, h3⟩
              refine ⟨li_stpF h1 hst (fun h => ?_), fun h => ?_, h3⟩
              · rcases h with h | h | h | h
                · exact h2 h
                · omega
                · omega
                · omega
              · rcases hnew g h with h | h
                · exact h2 h
                · have := h1.lt; omega
            have hzs := hst.size
            refine ⟨⟨a1.keep hst (by omega) (fun b hb => hno b (by omega)), by omega, a3.stp hst (fun d hd h => ?_), hst.blk a4 (hno _ (by omega)), hst.blk a5 (hno _ (by omega))⟩, hrow _ _ a6, a7.keep hst (hno _ (by omega)) (hno _ (by omega)) hrow, n2, a8, a9.keep hst (hno _ (by omega)) (hno _ (by omega)) (hno _ (by omega)) hrow⟩
            exact hno d (by have := hdl d hd; omega) h
          case done =>
            rintro Mk W ⟨⟨a1, a2, a3, a4, a5⟩, a6, a7, n2, a8, a9⟩ hK
            have hdone : ∀ g ds, LIq u (w9.heap.size + 2) W Mk g ds → LI W g ds := fun g ds h => h.1
            have k9 := a3.cons hK (fun h => by have := hdl _ h; omega)
            have d9 : ∀ d ∈ w9.heap.size :: Ds', z ≤ d := fun d hd => by
              rcases List.mem_cons.1 hd with rfl | hd
              · omega
              · exact hmd7 d hd
            have s9 := PS.keep (ps_same (P' := fun M' _ => S M' ∨ M' = M) (fun M' i h1 h2 => by
              constructor
              · rintro (h | ⟨h, _⟩)
                · exact .inl h
                · exact .inr h
              · rintro (h | h)
                · exact .inl h
                · subst h; exact .inr ⟨rfl, by rw [HXS.out]; exact mem_mM.2 ⟨h1, h2⟩⟩) a9) (Stp.refl noB W) (fun h => h) (fun h => h) (fun h => h) hdone
            have m9 := a7.keep (Stp.refl noB W) (fun h => h) (fun h => h) hdone
            have hn2 : n2 ≤ n' + 12 := by
              rw [HXS.out] at a8
              have := mM_len M
              omega
            clear a3 a9 a7 hK
            dsimp only
            go_wp2
            exact ⟨cnt', hlt8, fun M' => S M' ∨ M' = M, n2, w9.heap.size :: Ds', [_, _, _, _, _, _, _, _, _, _, _, _, _, _, _, _, _, _, _, _, _, _, _, _, _, _, _, _, _, _, _, _, _, _], [_, _, _, _, _, _, _, _, _, _, _, _, _, _, _, _, _, _, _, _, _, _, _, _, _, _, _, _, _, _, _, _, _, _, _, _, _, _, _, _, _, _, _, _, _, _, _, _, _, _, _, _, _, _, _, _, _, _, _, _, _, _, _, _, _, _, _], rfl, rfl, rfl, by omega, a1, k9, d9, by omega, m9, s9⟩
          case rnd2 =>
            rintro L pre i rest Mk W hpx ⟨⟨a1, a2, a3, a4, a5⟩, a6, a7, n2, a8, a9⟩ hM2 hsz
            simp only [inI, setAll1, List.setIfInBounds_toArray, List.set_cons_zero, List.set_cons_succ]
            gi_wp2
            refine ⟨Stp.refl _ _, fun W2 hsz2 hst2 => ?_⟩
            have hil : i < M.length ∧ M.getD i false = true := mem_mM.1 (by rw [← HXS.out, hpx]; simp)
            have hno : ∀ b, b < w9.heap.size → ¬ b = w9.heap.size + 1 := fun b hb => by omega
            have hrow0 : ∀ g ds, LIq u (w9.heap.size + 2) W Mk g ds → LIq u (w9.heap.size + 2) W2 Mk g ds := fun g ds h => ⟨li_stpF h.1 hst2 (fun e => by rcases h.2.2 with h | h <;> omega), h.2⟩
            have PB2 := a1.keep hst2 (by omega) (fun b hb => hno b (by omega))
            have K2 := a3.stp hst2 (fun d hd => hno d (by have := hdl d hd; omega))
            have tb2 := hst2.blk a4 (hno _ (by omega))
            have db2 := hst2.blk a5 (hno _ (by omega))
            have lq2 := hrow0 _ _ a6
            have mr2 := a7.keep hst2 (hno _ (by omega)) (hno _ (by omega)) hrow0
            obtain ⟨D2, N2, b2, mh2, mt2, bv2, bx2, HN2, HB2⟩ := a9.keep hst2 (hno _ (by omega)) (hno _ (by omega)) (hno _ (by omega)) hrow0
            have hsz3 : w9.heap.size + 2 ≤ W2.heap.size := by omega
            clear a1 a3 a4 a5 a6 a7 hrow0
            have HP := Lib.hid (show ∀ M' j, (S M' ∨ (M' = M ∧ j ∈ pre ++ [i])) ↔ ((S M' ∨ (M' = M ∧ j ∈ pre)) ∨ (M' = M ∧ j = i)) from fun M' j => by
              simp only [List.mem_append, List.mem_singleton]
              constructor
              · rintro (h | ⟨h, h2 | h2⟩)
                · exact .inl (.inl h)
                · exact .inl (.inr ⟨h, h2⟩)
                · exact .inr ⟨h, h2⟩
              · rintro ((h | ⟨h, h2⟩) | ⟨h, h2⟩)
                · exact .inl h
                · exact .inr ⟨h, .inl h2⟩
                · exact .inr ⟨h, .inr h2⟩)
            have hbbW : ∀ g cur, Blk W2 g 3 cur → ¬ (g = y ∨ g = y + 1 + 1) := fun g cur h e => by
              rcases e with e | e
              · exact mh_not mh2 h e
              · have : 3 = 25 := by
                  cases b2 with
                  | none => exact blk_type (e ▸ h) bv2
                  | some ds => obtain ⟨g', cp', h', _⟩ := bv2; exact blk_type (e ▸ h) h'
                revert this; decide
            have hbbD : ∀ d ∈ Ds', ¬ (d = y ∨ d = y + 1 + 1) := fun d hd e => by
              have h1 := K2.2 d hd
              rcases e with e | e
              · obtain ⟨es, clock, q1, _⟩ := mh2
                rw [e, q1] at h1; cases h1
              · have : ∃ cur, Blk W2 (y + 1 + 1) 25 cur := by
                  cases b2 with
                  | none => exact ⟨_, bv2⟩
                  | some ds => obtain ⟨g', cp', h', _⟩ := bv2; exact ⟨_, h'⟩
                obtain ⟨cur, h2⟩ := this
                rw [e, show W2.heap[y + 1 + 1]? = some (.cells cur 25 (0, 0)) from h2] at h1; cases h1
            have hrows : ∀ We, Stp (fun b => b = y ∨ b = y + 1 + 1) W2 We → ∀ g ds, LIq u (w9.heap.size + 2) W2 Mk g ds → LIq u (w9.heap.size + 2) We Mk g ds := fun We hs g ds h => by
              obtain ⟨⟨cur, h1, h2⟩, h3⟩ := h
              exact ⟨⟨cur, hs.blk h1 (hbbW g cur h1), h2⟩, h3⟩
            have HEND := Lib.hid (show ∀ (We : World) (n3 : Nat), Stp (fun b => b = y ∨ b = y + 1 + 1) W2 We → n3 ≤ n2 + 1 → PS l s t We (LIq u (w9.heap.size + 2) We Mk) (y + 1) (y + 1 + 1) y n3 T (fun M' j => S M' ∨ (M' = M ∧ j ∈ pre ++ [i])) →
              KeepN Mk (fun b => b = 0 ∨ b = u + 1 + 1) (w9.heap.size + 2) W2 We ∧ ((PB A c l s t w We ∧ w9.heap.size ≤ We.heap.size ∧ Marks We Ds' ∧ Blk We u 47 #[.int .u32 (encM M : Nat)] ∧ Blk We (u + 1) 25 #[.slice (some ⟨g, 0, none⟩) ds.length cp]) ∧ LIq u (w9.heap.size + 2) We Mk g ds ∧ MR l.length We (LIq u (w9.heap.size + 2) We Mk) bm (y + 1 + 1 + 1) n T (fun M' => S M' ∨ M' = M) cnt' ∧
                ∃ n2, n2 ≤ n' + (pre ++ [i]).length ∧ PS l s t We (LIq u (w9.heap.size + 2) We Mk) (y + 1) (y + 1 + 1) y n2 T (fun M' j => S M' ∨ (M' = M ∧ j ∈ pre ++ [i]))) from fun We n3 hs h3 hps => by
              have hz := hs.size
              refine ⟨hs.mono fun b hb e => ?_, ⟨PB2.keep hs (by omega) (fun b hb => by omega), by omega, K2.stp hs hbbD, hs.blk tb2 (by omega), hs.blk db2 (by omega)⟩, hrows We hs _ _ lq2, mr2.keep hs (by omega) (by omega) (hrows We hs), n3, by simp; omega, hps⟩
              rintro (h | h | h | h)
              · have := hM2 _ h; omega
              · omega
              · omega
              · omega)
            have HAW := Lib.hid (away_val hset hil.1)
            have ha2 : bits BinOp.andNot IntKind.u32 (encM M : Int) (IntKind.u32.wrap ((2 : Int) ^ i)) = (encM (M.set i false) : Nat) := by rw [wrap_u32']; exact HAW.out
            have hM24 : M.length ≤ 24 := by omega
            have i0 : (0 : Int) ≤ (i : Int) := Int.natCast_nonneg _
            have i1 : (i : Int) < 32 := by omega
            have q9 := tb2.cell 0
            simp only [List.getElem?_toArray, List.getElem?_cons_zero] at q9
            gi_wp2
            refine wpIn_round_held (fun w' => w'.cell? ⟨u, 0, none⟩ = some (.int .u32 (encM M : Nat))) (by kernel_rfl) (by omega) (by rintro ⟨_, _, h⟩; exact h) (by kernel_rfl) q9 (fun hS => ?_)
            refine wpAnyH_take (i := 0) (oi := { dst := some 55, op := _, type := _, pos := _, after := _, guard := none }) (v := .int .u32 (encM M : Nat)) rfl (by kernel_rfl) (by kernel_rfl) (by kernel_rfl) (fun _ _ _ h => h) (Or.inl ⟨by rfl, ?ga0⟩) (by assumption) ?_
            case ga0 => intro w' hSw; (try dsimp only at hSw); go_simp
            try simp only [Act.put, List.setIfInBounds_toArray, List.set_cons_zero, List.set_cons_succ]
            refine wpAnyH_take (i := 1) (oi := { dst := some 56, op := _, type := _, pos := _, after := _, guard := none }) (v := .int .i64 i) rfl (by kernel_rfl) (by kernel_rfl) (by kernel_rfl) (fun _ _ _ h => h) (Or.inl ⟨by rfl, ?ga1⟩) (by assumption) ?_
            case ga1 => intro w' hSw; (try dsimp only at hSw); go_simp
            try simp only [Act.put, List.setIfInBounds_toArray, List.set_cons_zero, List.set_cons_succ]
            refine wpAnyH_take (i := 2) (oi := { dst := some 57, op := _, type := _, pos := _, after := _, guard := none }) (v := .int .u32 (IntKind.u32.wrap ((2 : Int) ^ i))) rfl (by kernel_rfl) (by kernel_rfl) (by kernel_rfl) (fun _ _ _ h => h) (Or.inl ⟨by rfl, ?ga2⟩) (by assumption) ?_
            case ga2 => intro w' hSw; (try dsimp only at hSw); go_simp
            try simp only [Act.put, List.setIfInBounds_toArray, List.set_cons_zero, List.set_cons_succ]
            refine wpAnyH_take (i := 3) (oi := { dst := some 58, op := _, type := _, pos := _, after := _, guard := none }) (v := .int .u32 (encM (M.set i false) : Nat)) rfl (by kernel_rfl) (by kernel_rfl) (by kernel_rfl) (fun _ _ _ h => h) (Or.inl ⟨by rfl, ?ga3⟩) (by assumption) ?_
            case ga3 => intro w' hSw; (try dsimp only at hSw); go_simp
            try simp only [Act.put, List.setIfInBounds_toArray, List.set_cons_zero, List.set_cons_succ]
            refine wpAnyH_take (i := 4) (oi := { dst := some 15, op := _, type := _, pos := _, after := _, guard := none }) (v := .int .u32 (encM (M.set i false) : Nat)) rfl (by kernel_rfl) (by kernel_rfl) (by kernel_rfl) (fun _ _ _ h => h) (Or.inl ⟨by rfl, ?ga4⟩) (by assumption) ?_
            case ga4 => intro w' hSw; (try dsimp only at hSw); go_simp
            try simp only [Act.put, List.setIfInBounds_toArray, List.set_cons_zero, List.set_cons_succ]
            refine wpAnyH_done (by kernel_rfl) ?_ _
            have dr : Stp noB W2 W2.drew := (Stp.refl _ _).drew
            have hM1 : (M.set i false).length = l.length := by rw [List.length_set]; exact hM
            have hset1 := encM_set (show (M.set i false).length ≤ 24 by omega)
            obtain ⟨o1, o2, o3⟩ := lfS_ok hv hM1
            have HOF := Lib.hid (fun (W : World) (hb : PB A c l s t w W) => p_of A l c (encM (M.set i false)) (M.set i false) W hset1 hM1 (TabAt.on hT hb.1) (hR.on hb.1))
            have HSD := Lib.hid (fun (W : World) (A : Option Addr) (c : Nat) (hR : Rd Sp.cs 2 W A (lfS l (M.set i false))) => p_stands A (lfS l (M.set i false)) c s W o1 o2 o3 (isS_bd hs) hR)
            have HTW := Lib.hid (fun (W : World) (A : Option Addr) (c : Nat) (hne : lfS l (M.set i false) ≠ []) (hw : heldB (lfS l (M.set i false)) s = false) (hR : Rd Sp.cs 2 W A (lfS l (M.set i false))) => p_towards A (lfS l (M.set i false)) c s t W o1 hne o2 o3 (isS_bd hs) (isS_bd ht) (fun h => by rw [heldB_iff.2 h] at hw; cases hw) hR)
            have HCL := Lib.hid (c_CloneD (c := cp) W2.drew (by have := hds12; omega) (show LI W2.drew g ds from lq2.1))
            have db3 := (dr.blk db2 (fun h => h)).cell 0
            simp only [List.getElem?_toArray, List.getElem?_cons_zero] at db3
            obtain ⟨ii, hi, hi1, hi2, hi3⟩ := info_int2
            have hW0 := Lib.hid hsz3
            clear q9 hS o1 o2 o3 hset1 ha2 HAW
            gi_wp2
            refine ⟨trivial, ?_⟩
            refine (CallsIn.inRound L (callsIn_wide.2 HCL.out)).mono ?_
            rintro e w3 ⟨v3, rfl, ho3, hb3⟩
            obtain ⟨ad3, cp3, rfl⟩ := ownsRow_slice ho3
            have dr3 : Stp noB W2 w3 := dr.below hb3 (Nat.le_refl _)
            have PB3 := PB2.keep dr3 (by omega) (fun _ _ h => h)
            gi_wp2_with (gi_at_builtin; go_loud (refine wpListIn_append_own_at _ rfl _ _ 25 rfl W2.drew.heap.size 3 ii (.int .i64 0) 1 8 (by kernel_rfl) hi hi1 hi2 hi3 rfl (by omega) _ _ _ rfl (ownsRow_stp ho3 ((Stp.refl (fun _ => False) w3).alloc _) (fun _ _ h => h)) ⟨w3.heap.size, 0, none⟩ 1 1 (zC (2 * (i : Int))) rfl rfl (cells_new w3 (zC (2 * (i : Int))) 3) (zC_oneI _) (by unfold maxLen; omega) (by omega) (by simp; have := hb3.size; simp at this; omega) ?_; intro v' w4 hown4 hgrow4 _ hat4; have dr4 : Stp noB W2 w4 := (dr3.alloc _).grown hgrow4 (fun r hr => .inr (ownBlock_ge ho3 r hr).1); obtain ⟨g4, cap4, rfl, hg4, hL4⟩ := ownsRow_LI (by rw [← fl_snocZ] at hown4; exact hown4) (by simp) (by omega); have PB4 := PB2.keep dr4 (by omega) (fun _ _ h => h); have q4 := PB4.2.1.cell 0; (simp only [List.getElem?_toArray, List.getElem?_cons_zero] at q4)))
            refine ⟨trivial, ?_⟩
            refine (CallsIn.inRound L (callsIn_wide.2 (HOF.out _ PB4))).mono ?_
            rintro e w5 ⟨v5, rfl, ho5, hb5⟩
            obtain ⟨A5, c5, rfl, hR5⟩ := own_rd Sp.cs_len ho5
            have dr5 : Stp noB W2 w5 := dr4.below hb5 dr4.size
            have PB5 := PB2.keep dr5 (by omega) (fun _ _ h => h)
            have p5 := PB5.2.1.cell 0
            have r50 := PB5.2.2.1.cell 0
            have r51 := PB5.2.2.1.cell 1
            simp only [List.getElem?_toArray, List.getElem?_cons_zero, List.getElem?_cons_succ] at p5 r50 r51
            have lx5 := PB5.2.1.lt
            have ly5 := PB5.2.2.1.lt
            clear db3
            gi_wp2
            refine ⟨trivial, ?_⟩
            refine (CallsIn.inRound L (callsIn_wide.2 (HSD.out _ _ _ hR5))).mono ?_
            rintro e w6 ⟨rfl, hb6⟩
            have dr6 : Stp noB W2 w6 := dr5.below hb6 dr5.size
            have PB6 := PB2.keep dr6 (by omega) (fun _ _ h => h)
            have hL6 := (hL4.on hb5).on hb6
            have hR6 := hR5.on hb6
            have hd0 : (ds ++ [2 * (i : Int)]).length = ds.length + 1 := by simp
            have hq6 : LIq u (w9.heap.size + 2) w6 Mk g4 (ds ++ [2 * (i : Int)]) := ⟨hL6, fun h => by have := hM2 _ h; simp at hg4; omega, .inr (by simp at hg4; omega)⟩
            have mh6 := mh2.stp dr6 (fun h => h)
            have hk6 : ∀ g ds, LIq u (w9.heap.size + 2) W2 Mk g ds → LIq u (w9.heap.size + 2) w6 Mk g ds := fun g ds h => ⟨li_stpF h.1 dr6 (fun h => h), h.2⟩
            have mt6 := mt2.keep hk6
            have bv6 := bv2.keep dr6 (fun h => h) hk6
            have bx6 := dr6.blk bx2 (fun h => h)
            have dr6' : Stp (fun b => b = y ∨ b = y + 1 + 1) W2 w6 := dr6.mono fun _ _ h => h.elim
            have HTM := Lib.hid hTM
            have hn3 : n2 ≤ n' + 12 := by
              have h1 : (mL (encM M)).length ≤ 12 := by rw [HXS.out]; have := mM_len M; omega
              have h2 : pre.length ≤ (mL (encM M)).length := by rw [hpx]; simp
              omega
            have hn13 : n ≤ 13 ^ 13 := Nat.le_trans hn (Nat.pow_le_pow_right (by omega) (by omega))
            have hn64 : n2 < maxLen := by unfold maxLen; omega
            obtain ⟨d0, hd⟩ : ∃ d0, d0 = ds ++ [2 * (i : Int)] := ⟨_, rfl⟩
            rw [← hd] at hd0 hL6 hq6
            have hp6 := PB6.2.2.1.cell 0
            have hp61 := PB6.2.2.1.cell 1
            have hp62 := PB6.2.2.2.cell 0
            have hp63 := PB6.2.2.2.cell 1
            have hx6 := bx6.cell 0
            simp only [List.getElem?_toArray, List.getElem?_cons_zero, List.getElem?_cons_succ] at hp6 hp61 hp62 hp63 hx6
            have lxa := PB6.2.1.lt
            have lxb := PB6.2.2.1.lt
            have lxc := PB6.2.2.2.lt
            have lxd := bx6.lt
            clear hL4 hb5 hb6 hR5 ho5 p5 r50 r51 lx5 ly5 hown4 hgrow4 hat4 PB3 PB4 PB5 q4 dr dr3 dr4 dr5 ho3 hb3 HCL HOF HSD
            have hyb : y ≠ y + 1 + 1 := by omega
            have HPUT := Lib.hid (fun (wA : World) (hownA : MH wA y (n2 + 1) (D2.put (kyM (M.set i false)) (.held (.slice (some ⟨g4, 0, none⟩) (ds.length + 1) cap4)))) (hgA : w6.grownBy wA (some y)) (hN : NextIs l s T (fun M' j => S M' ∨ (M' = M ∧ j ∈ pre ++ [i])) (updT N2 (M.set i false) (some d0))) (hB : BestIs l s t T (fun M' j => S M' ∨ (M' = M ∧ j ∈ pre ++ [i])) b2) =>
              have hs : Stp (fun b => b = y ∨ b = y + 1 + 1) W2 wA := dr6'.grown hgA (fun r hr => .inl (.inl (by injection hr with hr; exact hr.symm)))
              have hs1 : Stp (fun b => b = y) w6 wA := (Stp.refl _ _).grown hgA (fun r hr => .inl (by injection hr with hr; exact hr.symm))
              have hk : ∀ g ds, LIq u (w9.heap.size + 2) w6 Mk g ds → LIq u (w9.heap.size + 2) wA Mk g ds := fun g ds h => ⟨li_stpF h.1 hs1 (mh_not mh6 h.1.choose_spec.1), h.2⟩
              HEND.out wA (n2 + 1) hs (Nat.le_refl _) ⟨_, _, b2, hownA, by rw [← hd0]; exact MT.put (mt6.keep hk) mh6.isMap hM1 (hk _ _ hq6), bv6.keep hs1 (fun e => hyb e.symm) hk, hs1.blk bx6 (by omega), Lib.hid hN, Lib.hid hB⟩)
            have HN7 := Lib.hid (fun (w7 : World) (hb7 : Below w6.heap.size w6 w7) => (show Stp noB w6 w7 from (Stp.refl _ _).below hb7 (Nat.le_refl _)))
            have HK7 := Lib.hid (fun (w7 : World) (hb7 : Below w6.heap.size w6 w7) => (show ∀ g es, LIq u (w9.heap.size + 2) w6 Mk g es → LIq u (w9.heap.size + 2) w7 Mk g es from fun g es h => ⟨li_stpF h.1 (HN7.out w7 hb7) (fun h => h), h.2⟩))
            have HSAM := Lib.hid (fun (w7 : World) (hb7 : Below w6.heap.size w6 w7) (hN : NextIs l s T (fun M' j => S M' ∨ (M' = M ∧ j ∈ pre ++ [i])) N2) (hB : BestIs l s t T (fun M' j => S M' ∨ (M' = M ∧ j ∈ pre ++ [i])) b2) =>
              have hn7 := HN7.out w7 hb7
              HEND.out w7 n2 (dr6'.trans (hn7.mono fun _ _ h => h.elim)) (by omega) ⟨_, _, b2, mh6.stp hn7 (fun h => h), mt6.keep (HK7.out w7 hb7), bv6.keep hn7 (fun h => h) (HK7.out w7 hb7), hn7.blk bx6 (fun h => h), Lib.hid hN, Lib.hid hB⟩)
            have hbbx : ∃ cur, Blk w6 (y + 1 + 1) 25 #[cur] := by
              cases b2 with
              | none => exact ⟨_, bv6⟩
              | some ds => obtain ⟨g', cp', h', _⟩ := bv6; exact ⟨_, h'⟩
            have HBST := Lib.hid (fun (w7 : World) (hb7 : Below w6.heap.size w6 w7) (hN : NextIs l s T (fun M' j => S M' ∨ (M' = M ∧ j ∈ pre ++ [i])) N2) (hB : BestIs l s t T (fun M' j => S M' ∨ (M' = M ∧ j ∈ pre ++ [i])) (some d0)) => show _ from
              let hbbx := hbbx
              have hn7 := HN7.out w7 hb7
              have hs1 : Stp (fun b => b = y + 1 + 1) w7 (w7.setCell ⟨y + 1 + 1, 0, none⟩ (.slice (some ⟨g4, 0, none⟩) (ds.length + 1) cap4)) := Stp.setCell (Stp.refl (fun b => b = y + 1 + 1) w7) (.inl rfl) _
              have hs : Stp (fun b => b = y ∨ b = y + 1 + 1) W2 (w7.setCell ⟨y + 1 + 1, 0, none⟩ (.slice (some ⟨g4, 0, none⟩) (ds.length + 1) cap4)) := (dr6'.trans (hn7.mono fun _ _ h => h.elim)).trans (hs1.mono fun b _ h => .inr h)
              have hk : ∀ g es, LIq u (w9.heap.size + 2) w6 Mk g es → LIq u (w9.heap.size + 2) (w7.setCell ⟨y + 1 + 1, 0, none⟩ (.slice (some ⟨g4, 0, none⟩) (ds.length + 1) cap4)) Mk g es := fun g es h => ⟨li_stpF (HK7.out w7 hb7 g es h).1 hs1 (fun e => by
                obtain ⟨cur, hc⟩ := hbbx
                obtain ⟨cu2, h5, _⟩ := h.1
                rw [e] at h5
                have := blk_type h5 hc
                revert this; decide), h.2⟩
              HEND.out _ n2 hs (by omega) ⟨_, _, some d0, (mh6.stp hn7 (fun h => h)).stp hs1 hyb, mt6.keep hk, ⟨g4, cap4, by
                obtain ⟨cur, hc⟩ := hbbx
                rw [hd0]
                exact (hn7.blk hc (fun h => h)).set_ 0 _, hk _ _ hq6⟩, hs1.blk (hn7.blk bx6 (fun h => h)) (by omega), Lib.hid hN, Lib.hid hB⟩)
            have HCMP := Lib.hid (fun (w7 : World) (hb7 : Below w6.heap.size w6 w7) (B : Option Addr) (old : List Int) (c' : Nat) (ho : old.length ≤ 100000) (hB : Rd zC 1 w7 B old) => p_Compare (some ⟨g4, 0, none⟩) B d0 old cap4 c' w7 (by omega) ho (hL6.on hb7).rd hB)
            simp only [hd0] at HCMP
            have hbq : ∃ cur, w6.cell? ⟨y + 1 + 1, 0, none⟩ = some cur ∧ w6.frozen? ⟨y + 1 + 1, 0, none⟩ = false := by
              obtain ⟨cur, hc⟩ := hbbx
              exact ⟨cur, by have := hc.cell 0; simpa using this, hc.frozen 0⟩
            have lbb : y + 1 + 1 < w6.heap.size := by obtain ⟨cur, hc⟩ := hbbx; exact hc.lt
            cases hsM : stM l s (M.set i false)
            · have hsM' : heldB (lfS l (M.set i false)) s = false := hsM
              rw [hsM']
              have HNE := Lib.hid (next_same (P' := fun M' j => S M' ∨ (M' = M ∧ j ∈ pre ++ [i])) HP.out hM hil.1 hil.2 HTM.out HN2.out hsM)
              have HBS := Lib.hid (fun h => best_same (P' := fun M' j => S M' ∨ (M' = M ∧ j ∈ pre ++ [i])) HP.out hM hil.1 hil.2 HTM.out HB2.out h)
              have HBA := Lib.hid (fun h => best_add (P' := fun M' j => S M' ∨ (M' = M ∧ j ∈ pre ++ [i])) HP.out hM hil.1 hil.2 HTM.out HB2.out h)
              rw [← hd] at HBA
              have HFM := Lib.hid (show fallM l s t (M.set i false) = (decide (0 < (lfS l (M.set i false)).length) && twZ (lfS l (M.set i false)) s t) by unfold fallM; rw [hsM']; rfl)
              have HOL := Lib.hid (fun old (h : b2 = some old) => (show old.length ≤ 100000 by
                have h1 := HB2.out
                rw [h] at h1
                obtain ⟨⟨_, ⟨M0, i0, ds0, _, e1, e2, e3, e4, e5, _⟩, _⟩, _⟩ := h1
                have h2 := HTB.out M0 e1
                rw [e4] at h2
                have h3 := runs_count h2.1.1
                rw [e5]; simp; omega))
              have hnq : ∀ (A : Option Addr) (n c : Nat) (W : World), (binOp .eql 25 (.slice A n c) (.slice none 0 0)).run Tryz.prog W = .ok (.bool A.isNone) W := fun A n c W => Lib.run_eql_slice_nil W _ 3 A n c 0 0 Tryz.underlying25
              clear hsM HB2 HN2 HTM HP hd HPUT hbq
              by_cases hL0 : lfS l (M.set i false) = []
              · have HBE := Lib.hid (HBS.out (by rw [HFM.out, hL0]; rfl))
                have hlen : (lfS l (M.set i false)).length = 0 := by rw [hL0]; rfl
                clear HBS HBA HFM HBST HCMP hbbx HTW hL0
                (gi_wp2 <;> first | (exfalso; rename_i hq hr; simp [undef] at hq; done) | (exfalso; rename_i hq; simp [undef] at hq; done) | skip)
                refine ⟨trivial, ?_⟩
                (gi_wp2 <;> first | (exfalso; rename_i hq hr; simp [undef] at hq; done) | (exfalso; rename_i hq; simp [undef] at hq; done) | skip)
                refine ⟨trivial, ?_⟩
                (gi_wp2 <;> first | (exfalso; rename_i hq hr; simp [undef] at hq; done) | (exfalso; rename_i hq; simp [undef] at hq; done) | skip)
                exact HSAM.out _ (below_refl _) HNE.out HBE.out
              · have hlen : 0 < (lfS l (M.set i false)).length := List.length_pos_iff.2 hL0
                have hlen' : (0 : Int) < ((lfS l (M.set i false)).length : Int) := by omega
                have HT := Lib.hid (HTW.out _ _ c5 hL0 hsM' hR6)
                rw [decide_eq_true hlen, Bool.true_and] at HFM
                clear HTW hL0 hlen
                cases htw : twZ (lfS l (M.set i false)) s t
                · rw [htw] at HT HFM
                  have HBE := Lib.hid (HBS.out HFM.out)
                  clear HBS HBA HFM HBST HCMP hbbx htw
                  (gi_wp2 <;> first | (exfalso; rename_i hq hr; simp [undef] at hq; done) | (exfalso; rename_i hq; simp [undef] at hq; done) | skip)
                  refine ⟨trivial, ?_⟩
                  refine (CallsIn.inRound L (callsIn_wide.2 HT.out)).mono ?_
                  rintro e w7 ⟨rfl, hb7⟩
                  (gi_wp2 <;> first | (exfalso; rename_i hq hr; simp [undef] at hq; done) | (exfalso; rename_i hq; simp [undef] at hq; done) | skip)
                  refine ⟨trivial, ?_⟩
                  (gi_wp2 <;> first | (exfalso; rename_i hq hr; simp [undef] at hq; done) | (exfalso; rename_i hq; simp [undef] at hq; done) | skip)
                  exact HSAM.out _ hb7 HNE.out HBE.out
                · rw [htw] at HT HFM
                  have HBE := Lib.hid (HBA.out HFM.out)
                  clear HBS HBA HFM htw
                  cases b2 with
                  | none =>
                    clear HCMP hbbx HSAM
                    (gi_wp2 <;> first | (exfalso; rename_i hq hr; simp [undef] at hq; done) | (exfalso; rename_i hq; simp [undef] at hq; done) | skip)
                    refine ⟨trivial, ?_⟩
                    refine (CallsIn.inRound L (callsIn_wide.2 HT.out)).mono ?_
                    rintro e w7 ⟨rfl, hb7⟩
                    have bb7 := (HN7.out w7 hb7).blk (show Blk w6 (y + 1 + 1) 25 #[.slice none 0 0] from bv6) (fun h => h)
                    have c7 := bb7.cell 0
                    have f7 := bb7.frozen 0
                    simp only [List.getElem?_toArray, List.getElem?_cons_zero] at c7
                    have l7 := bb7.lt
                    (gi_wp2 <;> first | (exfalso; rename_i hq hr; simp [undef] at hq; done) | (exfalso; rename_i hq; simp [undef] at hq; done) | skip)
                    refine ⟨trivial, ?_⟩
                    (gi_wp2 <;> first | (exfalso; rename_i hq hr; simp [undef] at hq; done) | (exfalso; rename_i hq; simp [undef] at hq; done) | skip)
                    exact HBST.out _ hb7 HNE.out HBE.out
                  | some old =>
                    obtain ⟨go, co, hbb6, hqo⟩ := bv6
                    have hol := HOL.out old rfl
                    have HC := Lib.hid (fun w7 hb7 => HCMP.out w7 hb7 (some ⟨go, 0, none⟩) old co hol (hqo.1.on hb7).rd)
                    have hlt : decide (cmpL d0 old < 0) = ltL d0 old := cmp_lt d0 old
                    cases hlo : ltL d0 old
                    · rw [hlo] at hlt
                      have hc0 : ¬ cmpL d0 old < 0 := by simpa using hlt
                      have HBE2 := Lib.hid (show BestIs l s t T (fun M' j => S M' ∨ (M' = M ∧ j ∈ pre ++ [i])) (some old) from by
                        have := HBE.out
                        unfold minO at this
                        dsimp only at this
                        rw [hlo, if_neg (by simp)] at this
                        exact this)
                      generalize cmpL d0 old = C at *
                      clear HBE hlt hlo HBST hbbx HCMP
                      (gi_wp2 <;> first | (exfalso; rename_i hq hr; simp [undef] at hq; done) | (exfalso; rename_i hq; simp [undef] at hq; done) | skip)
                      refine ⟨trivial, ?_⟩
                      refine (CallsIn.inRound L (callsIn_wide.2 HT.out)).mono ?_
                      rintro e w7 ⟨rfl, hb7⟩
                      have bb7 := (HN7.out w7 hb7).blk hbb6 (fun h => h)
                      have c7 := bb7.cell 0
                      have f7 := bb7.frozen 0
                      simp only [List.getElem?_toArray, List.getElem?_cons_zero] at c7
                      have l7 := bb7.lt
                      (gi_wp2 <;> first | (exfalso; rename_i hq hr; simp [undef] at hq; done) | (exfalso; rename_i hq; simp [undef] at hq; done) | skip)
                      refine ⟨trivial, ?_⟩
                      refine (CallsIn.inRound L (callsIn_wide.2 (HC.out w7 hb7))).mono ?_
                      rintro e wB ⟨rfl, rfl⟩
                      (gi_wp2 <;> first | (exfalso; rename_i hq hr; simp [undef] at hq; done) | (exfalso; rename_i hq; simp [undef] at hq; done) | skip)
                      exact HSAM.out _ hb7 HNE.out HBE2.out
                    · rw [hlo] at hlt
                      have hc0 : cmpL d0 old < 0 := by simpa using hlt
                      have HBE2 := Lib.hid (show BestIs l s t T (fun M' j => S M' ∨ (M' = M ∧ j ∈ pre ++ [i])) (some d0) from by
                        have := HBE.out
                        unfold minO at this
                        dsimp only at this
                        rw [hlo, if_pos rfl] at this
                        exact this)
                      generalize cmpL d0 old = C at *
                      clear HBE hlt hlo HSAM hbbx HCMP
                      (gi_wp2 <;> first | (exfalso; rename_i hq hr; simp [undef] at hq; done) | (exfalso; rename_i hq; simp [undef] at hq; done) | skip)
                      refine ⟨trivial, ?_⟩
                      refine (CallsIn.inRound L (callsIn_wide.2 HT.out)).mono ?_
                      rintro e w7 ⟨rfl, hb7⟩
                      have bb7 := (HN7.out w7 hb7).blk hbb6 (fun h => h)
                      have c7 := bb7.cell 0
                      have f7 := bb7.frozen 0
                      simp only [List.getElem?_toArray, List.getElem?_cons_zero] at c7
                      have l7 := bb7.lt
                      (gi_wp2 <;> first | (exfalso; rename_i hq hr; simp [undef] at hq; done) | (exfalso; rename_i hq; simp [undef] at hq; done) | skip)
                      refine ⟨trivial, ?_⟩
                      refine (CallsIn.inRound L (callsIn_wide.2 (HC.out w7 hb7))).mono ?_
                      rintro e wB ⟨rfl, rfl⟩
                      (gi_wp2 <;> first | (exfalso; rename_i hq hr; simp [undef] at hq; done) | (exfalso; rename_i hq; simp [undef] at hq; done) | skip)
                      exact HBST.out _ hb7 HNE.out HBE2.out
            · have hsM' : heldB (lfS l (M.set i false)) s = true := hsM
              rw [hsM']
              have HBE := Lib.hid (best_same (P' := fun M' j => S M' ∨ (M' = M ∧ j ∈ pre ++ [i])) HP.out hM hil.1 hil.2 HTM.out HB2.out (fall_not hsM))
              have HNE := Lib.hid (next_add (P' := fun M' j => S M' ∨ (M' = M ∧ j ∈ pre ++ [i])) HP.out hM hil.1 hil.2 HTM.out HN2.out hsM)
              rw [← hd] at HNE
              have hky := keyM (M := M.set i false) (by omega)
              cases hN : N2 (M.set i false) with
              | none =>
                have hlk := mh_look_no (by omega) mt6 mh6 hM1 hN
                rw [hN] at HNE
                clear hsM hsM' HB2 HN2 HTW HTM HP hd HCMP HBST HSAM hbq hbbx
                gi_wp2
                refine ⟨trivial, ?_⟩
                gi_wp2_with (gi_at_mapUpdate; refine wpListIn_mapUpdate_own _ rfl _ _ _ 49 rfl 47 25 lawSet und_mapS RH y n2 D2 rfl mh6 hn64 _ (.slice (some ⟨g4, 0, none⟩) (ds.length + 1) cap4) _ rfl rfl hky _ [] rfl ?_; intro wA hownA hgrowA)
                exact HPUT.out wA hownA hgrowA HNE.out HBE.out
              | some old =>
                obtain ⟨go, co, hlk, hqo⟩ := mh_look_yes (by omega) mt6 mh6 hM1 hN
                have hol : old.length ≤ 100000 := by
                  have h1 := HN2.out _ hM1
                  rw [hN] at h1
                  obtain ⟨⟨⟨M0, i0, ds0, _, e1, e2, e3, e4, e5, _⟩, _⟩, _⟩ := h1
                  have h2 := HTB.out M0 e1
                  rw [e4] at h2
                  have h3 := runs_count h2.1.1
                  rw [e5]; simp; omega
                have HC := Lib.hid (HCMP.out w6 (below_refl _) (some ⟨go, 0, none⟩) old co hol hqo.1.rd)
                have hlt : decide (cmpL d0 old < 0) = ltL d0 old := cmp_lt d0 old
                rw [hN] at HNE
                cases hlo : ltL d0 old
                · rw [hlo] at hlt
                  have hc0 : ¬ cmpL d0 old < 0 := by simpa using hlt
                  have HNE2 := Lib.hid (show NextIs l s T (fun M' j => S M' ∨ (M' = M ∧ j ∈ pre ++ [i])) N2 from by
                    have := HNE.out
                    unfold minO at this
                    dsimp only at this
                    rw [hlo, if_neg (by simp), ← hN, updT_same] at this
                    exact this)
                  generalize cmpL d0 old = C at *
                  clear hsM hsM' HB2 HN2 HTW HTM HP hd HCMP HBST HPUT hbq hbbx HNE hlt hlo hN
                  gi_wp2
                  refine ⟨trivial, ?_⟩
                  refine (CallsIn.inRound L (callsIn_wide.2 HC.out)).mono ?_
                  rintro e wB ⟨rfl, rfl⟩
                  gi_wp2
                  exact HSAM.out _ (below_refl _) HNE2.out HBE.out
                · rw [hlo] at hlt
                  have hc0 : cmpL d0 old < 0 := by simpa using hlt
                  have HNE2 := Lib.hid (show NextIs l s T (fun M' j => S M' ∨ (M' = M ∧ j ∈ pre ++ [i])) (updT N2 (M.set i false) (some d0)) from by
                    have := HNE.out
                    unfold minO at this
                    dsimp only at this
                    rw [hlo, if_pos rfl] at this
                    exact this)
                  generalize cmpL d0 old = C at *
                  clear hsM hsM' HB2 HN2 HTW HTM HP hd HCMP HBST HSAM hbq hbbx HNE hlt hlo hN
                  gi_wp2
                  refine ⟨trivial, ?_⟩
                  refine (CallsIn.inRound L (callsIn_wide.2 HC.out)).mono ?_
                  rintro e wB ⟨rfl, rfl⟩
                  gi_wp2_with (gi_at_mapUpdate; refine wpListIn_mapUpdate_own _ rfl _ _ _ 49 rfl 47 25 lawSet und_mapS RH y n2 D2 rfl mh6 hn64 _ (.slice (some ⟨g4, 0, none⟩) (ds.length + 1) cap4) _ rfl rfl hky _ [] rfl ?_; intro wA hownA hgrowA)
                  exact HPUT.out wA hownA hgrowA HNE2.out HBE.out
end Go.Proofs.YtkeojokbpjdhpaaGreatDoor
namespace Go.Proofs.YtkeojokbpjdhpaaGreatDoor
open Go.RowKit Go.Shelf Go.Maps
attribute [local go_sem] Sem.run_pure run_storeCells_nilP Oper.semAt_some

def PlnP (l : List Pr) (s t : Sp) (w : World) (e : Ending) (w' : World) : Prop := Below w.heap.size w w' ∧
  ((askE l [s, t] ≠ 0 ∧ e = .returned (.tuple #[.slice none 0 0, .int .i64 (askE l [s, t])])) ∨
   (askE l [s, t] = 0 ∧ heldB (spL l) s = false ∧ e = .returned (.tuple #[.slice none 0 0, .int .i64 10])) ∨
   (askE l [s, t] = 0 ∧ heldB (spL l) s = true ∧ 12 < l.length ∧ e = .returned (.tuple #[.slice none 0 0, .int .i64 4])) ∨
   (askE l [s, t] = 0 ∧ heldB (spL l) s = true ∧ l.length ≤ 12 ∧ ((PlanIs l s t none ∧ e = .returned (.tuple #[.slice none 0 0, .int .i64 8])) ∨ ∃ ds g cp, PlanIs l s t (some ds) ∧ LI w' g ds ∧ e = .returned (.tuple #[.slice (some ⟨g, 0, none⟩) ds.length cp, .int .i64 0]))))
set_option maxHeartbeats 8000000 in
set_option maxRecDepth 20000 in
theorem p_PlanAsk (A : Option Addr) (l : List Pr) (c : Nat) (s t : Sp) (w : World) (hask : askE l [s, t] ≠ 0) (hl : l.length ≤ 100000) (hR : Rd Pr.cs 3 w A l) :
    Calls Tryz.prog 5 #[.slice A l.length c, spV s, spV t] w fun e w' => Below w.heap.size w w' ∧ e = .returned (.tuple #[.slice none 0 0, .int .i64 (askE l [s, t])]) := by
  obtain ⟨W1, hW1⟩ : ∃ W1, W1 = ((w.alloc (.cells #[.slice A l.length c] 22)).alloc (.cells (spA s) 24)).alloc (.cells (spA t) 24) := ⟨_, rfl⟩
  have hz1 : W1.heap.size = w.heap.size + 1 + 1 + 1 := by rw [hW1]; simp
  have x0 : Blk W1 w.heap.size 22 #[.slice A l.length c] := by rw [hW1]; exact ((Blk.new w _ _).alloc _).alloc _
  have y0 : Blk W1 (w.heap.size + 1) 24 (spA s) := by
    have := (Blk.new (w.alloc (.cells #[.slice A l.length c] 22)) 24 (spA s)).alloc (.cells (spA t) 24)
    rw [World.size_alloc] at this
    rw [hW1]; exact this
  have v0 : Blk W1 (w.heap.size + 1 + 1) 24 (spA t) := by
    have := Blk.new ((w.alloc (.cells #[.slice A l.length c] 22)).alloc (.cells (spA s) 24)) 24 (spA t)
    rw [World.size_alloc, World.size_alloc] at this
    rw [hW1]; exact this
  have B0 : Below w.heap.size w W1 := by rw [hW1]; exact bl_alloc (bl_alloc (bl_alloc (below_refl w) _) _) _
  have HA := Lib.hid (fun (W : World) (hb : Below w.heap.size w W) (b : Nat) (hS : Rd Sp.cs 2 W (some ⟨b, 0, none⟩) [s, t]) => p_askedTwo A l s t c b W (by omega) (hR.on hb) hS)
  have HO := Lib.hid (rd_two W1 s t)
  have B1 := bl_alloc B0 (.cells (spA2 s t) 24)
  have x1 := x0.alloc (.cells (spA2 s t) 24)
  have y1 := y0.alloc (.cells (spA2 s t) 24)
  have v1 := v0.alloc (.cells (spA2 s t) 24)
  have p0 := x0.cell 0
  have r0 := y0.cell 0
  have r1 := y0.cell 1
  have s0 := v0.cell 0
  have s1 := v0.cell 1
  simp only [List.getElem?_toArray, List.getElem?_cons_zero, List.getElem?_cons_succ] at p0 r0 r1 s0 s1
  obtain ⟨E, hE⟩ : ∃ E, E = askE l [s, t] := ⟨_, rfl⟩
  rw [← hE] at HA hask ⊢
  clear hE
  refine (callsIn_wide (n := 6)).1 ?_
  refine callsIn_of_wp_marks Tryz.func5 rfl trivial ?_ rfl
  simp only [Tryz.ntmps5, List.size_toArray, List.length_cons, List.length_nil, Nat.reduceAdd, Nat.reduceSub, Array.replicate_succ, Array.replicate_zero, List.push_toArray, List.append_toArray, List.nil_append, List.cons_append]
  refine wpIn_wide.2 ?_
  go_wp2_with fail
  have HO2 := Lib.hid (hz1 ▸ HO.out)
  have HZ := Lib.hid hz1
  clear hz1
  rw [show (((w.alloc (.cells #[.slice A l.length c] 22)).alloc (.cells #[.int .i64 s.x, .int .i64 s.y] 24)).alloc (.cells #[.int .i64 t.x, .int .i64 t.y] 24)) = W1 from hW1.symm]
  clear hW1
  refine (HA.out _ B1 _ HO2.out).mono ?_
  rintro e w1 ⟨rfl, hb1⟩
  have BX := below_tr B1 hb1
  have x2 := x1.below hb1 x1.lt
  have y2 := y1.below hb1 y1.lt
  have v2 := v1.below hb1 v1.lt
  replace p0 := x2.cell 0
  replace r0 := y2.cell 0
  replace r1 := y2.cell 1
  replace s0 := v2.cell 0
  replace s1 := v2.cell 1
  simp only [List.getElem?_toArray, List.getElem?_cons_zero, List.getElem?_cons_succ] at p0 r0 r1 s0 s1
  have lx := x2.lt
  have ly := y2.lt
  have lv := v2.lt
  clear x0 y0 v0 x1 y1 v1 B0 B1 hb1 HO HO2 HA
  go_wp2
  refine leaves_marks (by simp) [] _ (Marks.nil _) fun w' hw' => ?_
  have hz := BX.size
  exact ⟨_, results_tt rfl, BX.trans (hw'.toBelow (by omega) (fun b hb h => by cases h)), rfl⟩
set_option maxHeartbeats 8000000 in
set_option maxRecDepth 20000 in
theorem p_PlanFall (A : Option Addr) (l : List Pr) (c : Nat) (s t : Sp) (w : World) (hask : askE l [s, t] = 0) (hst : heldB (spL l) s = false) (hR : Rd Pr.cs 3 w A l) :
    Calls Tryz.prog 5 #[.slice A l.length c, spV s, spV t] w fun e w' => Below w.heap.size w w' ∧ e = .returned (.tuple #[.slice none 0 0, .int .i64 10]) := by
  have ⟨hv, hs, ht⟩ := askE_two hask
  have hl := vP_len hv
  obtain ⟨W1, hW1⟩ : ∃ W1, W1 = ((w.alloc (.cells #[.slice A l.length c] 22)).alloc (.cells (spA s) 24)).alloc (.cells (spA t) 24) := ⟨_, rfl⟩
  have hz1 : W1.heap.size = w.heap.size + 1 + 1 + 1 := by rw [hW1]; simp
  have x0 : Blk W1 w.heap.size 22 #[.slice A l.length c] := by rw [hW1]; exact ((Blk.new w _ _).alloc _).alloc _
  have y0 : Blk W1 (w.heap.size + 1) 24 (spA s) := by
    have := (Blk.new (w.alloc (.cells #[.slice A l.length c] 22)) 24 (spA s)).alloc (.cells (spA t) 24)
    rw [World.size_alloc] at this
    rw [hW1]; exact this
  have v0 : Blk W1 (w.heap.size + 1 + 1) 24 (spA t) := by
    have := Blk.new ((w.alloc (.cells #[.slice A l.length c] 22)).alloc (.cells (spA s) 24)) 24 (spA t)
    rw [World.size_alloc, World.size_alloc] at this
    rw [hW1]; exact this
  have B0 : Below w.heap.size w W1 := by rw [hW1]; exact bl_alloc (bl_alloc (bl_alloc (below_refl w) _) _) _
  have HA := Lib.hid (fun (W : World) (hb : Below w.heap.size w W) (b : Nat) (hS : Rd Sp.cs 2 W (some ⟨b, 0, none⟩) [s, t]) => p_askedTwo A l s t c b W (by omega) (hR.on hb) hS)
  have HO := Lib.hid (rd_two W1 s t)
  have B1 := bl_alloc B0 (.cells (spA2 s t) 24)
  have x1 := x0.alloc (.cells (spA2 s t) 24)
  have y1 := y0.alloc (.cells (spA2 s t) 24)
  have v1 := v0.alloc (.cells (spA2 s t) 24)
  have p0 := x0.cell 0
  have r0 := y0.cell 0
  have r1 := y0.cell 1
  have s0 := v0.cell 0
  have s1 := v0.cell 1
  simp only [List.getElem?_toArray, List.getElem?_cons_zero, List.getElem?_cons_succ] at p0 r0 r1 s0 s1
  rw [hask] at HA
  have HSP := Lib.hid (fun (W : World) (hb : Below w.heap.size w W) => p_spots A l c W (by omega) (hR.on hb))
  have HST := Lib.hid (fun (W : World) (A : Option Addr) (c : Nat) (hR : Rd Sp.cs 2 W A (spL l)) => p_stands A (spL l) c s W (by rw [spL_len]; omega) (vP_bd hv) (vP_nodup hv) (isS_bd hs) hR)
  rw [hst] at HST
  refine (callsIn_wide (n := 6)).1 ?_
  refine callsIn_of_wp_marks Tryz.func5 rfl trivial ?_ rfl
  simp only [Tryz.ntmps5, List.size_toArray, List.length_cons, List.length_nil, Nat.reduceAdd, Nat.reduceSub, Array.replicate_succ, Array.replicate_zero, List.push_toArray, List.append_toArray, List.nil_append, List.cons_append]
  refine wpIn_wide.2 ?_
  go_wp2_with fail
  have HO2 := Lib.hid (hz1 ▸ HO.out)
  have HZ := Lib.hid hz1
  clear hz1
  rw [show (((w.alloc (.cells #[.slice A l.length c] 22)).alloc (.cells #[.int .i64 s.x, .int .i64 s.y] 24)).alloc (.cells #[.int .i64 t.x, .int .i64 t.y] 24)) = W1 from hW1.symm]
  clear hW1
  refine (HA.out _ B1 _ HO2.out).mono ?_
  rintro e w1 ⟨rfl, hb1⟩
  have BX := below_tr B1 hb1
  have x2 := x1.below hb1 x1.lt
  have y2 := y1.below hb1 y1.lt
  have v2 := v1.below hb1 v1.lt
  replace p0 := x2.cell 0
  replace r0 := y2.cell 0
  replace r1 := y2.cell 1
  replace s0 := v2.cell 0
  replace s1 := v2.cell 1
  simp only [List.getElem?_toArray, List.getElem?_cons_zero, List.getElem?_cons_succ] at p0 r0 r1 s0 s1
  have lx := x2.lt
  have ly := y2.lt
  have lv := v2.lt
  clear x0 y0 v0 x1 y1 v1 B0 B1 hb1 HO HO2 HA
  go_wp2_with fail
  refine wp_region_noPanic ?_
  refine wp_region_held_drew (S := (fun w' => (∀ b o, b < w1.heap.size → w'.cell? ⟨b, o, none⟩ = w1.cell? ⟨b, o, none⟩) ∧ (∀ b o, b < w1.heap.size → w'.frozen? ⟨b, o, none⟩ = w1.frozen? ⟨b, o, none⟩) ∧ Below w1.heap.size w1 w')) (by kernel_rfl) (kq_draw kq_refl) (fun hS0 => ?_)
  refine wpAnyH_take (i := 0) (oi := { dst := some 28, op := _, type := _, pos := _, after := _, guard := none }) (v := ?gv1) rfl (by kernel_rfl) (by kernel_rfl) (by kernel_rfl) (fun _ _ _ h => h) (Or.inl ⟨by rfl, ?gy1⟩) (by assumption) ?_
  case gy1 => (intro w' hSw; go_simp; try with_reducible rfl)
  try simp only [Act.put, List.setIfInBounds_toArray, List.set_cons_zero, List.set_cons_succ]
  refine wpAnyH_take (i := 2) (oi := { dst := some 30, op := _, type := _, pos := _, after := _, guard := none }) (v := ?gv2) rfl (by kernel_rfl) (by kernel_rfl) (by kernel_rfl) (fun _ _ _ h => h) (Or.inl ⟨by rfl, ?gy2⟩) (by assumption) ?_
  case gy2 => (intro w' hSw; go_simp; try with_reducible rfl)
  try simp only [Act.put, List.setIfInBounds_toArray, List.set_cons_zero, List.set_cons_succ]
  refine wpAnyH_ready (rs := [1]) (by kernel_rfl) (by simp) ?_
  refine AllReadyH.cons rfl (fun K hK => ?_) AllReadyH.nil
  go_simp
  (go_at_call 15; ((with_reducible refine (HSP.out _ (by (repeat' (first | assumption | exact below_refl _ | refine bl_alloc ?_ _ | refine Below.setCell ?_ ?_ _ | refine below_draw ?_ | refine below_drewN ?_ _ | refine below_tr ?_ (by assumption))) <;> (first | omega | (simp; done) | (simp; omega)))).mono ?_); rintro e w3 ⟨v3, rfl, ho3, hb3⟩; obtain ⟨A3, c3, rfl, hR3⟩ := own_rd Sp.cs_len ho3; obtain ⟨hc3, hf3⟩ := bcell hb3; have hz3 := hb3.size; (try simp [sz_drew, sz_drewN] at hz3); (try simp only [sz_drew, sz_drewN] at hc3 hf3)))
  refine hK.out _ _ (by ((show Kq w1 _); (repeat' (first | assumption | exact kq_refl | refine kq_draw ?_ | refine kq_drewN ?_ | refine kq_alloc ?_ | refine kq_set ?_ ?_ | refine kq_step ?_ (by assumption))); (all_goals (first | omega | (simp; omega))))) (fun hS1 => ?_)
  clear hK K
  try simp only [Act.put, List.setIfInBounds_toArray, List.set_cons_zero, List.set_cons_succ]
  refine wpAnyH_ready (rs := [3]) (by kernel_rfl) (by simp) ?_
  refine AllReadyH.cons rfl (fun K hK => ?_) AllReadyH.nil
  go_simp
  (go_at_call 14; ((with_reducible refine (HST.out _ _ _ hR3).mono ?_); rintro e w4 ⟨rfl, hb4⟩; obtain ⟨hc4, hf4⟩ := bcell hb4; have hz4 := hb4.size; (try simp [sz_drew, sz_drewN] at hz4); (try simp only [sz_drew, sz_drewN] at hc4 hf4)))
  refine hK.out _ _ (by ((show Kq w1 _); (repeat' (first | assumption | exact kq_refl | refine kq_draw ?_ | refine kq_drewN ?_ | refine kq_alloc ?_ | refine kq_set ?_ ?_ | refine kq_step ?_ (by assumption))); (all_goals (first | omega | (simp; omega))))) (fun hS2 => ?_)
  clear hK K
  try simp only [Act.put, List.setIfInBounds_toArray, List.set_cons_zero, List.set_cons_succ]
  refine wpAnyH_take (i := 4) (oi := { dst := some 32, op := _, type := _, pos := _, after := _, guard := none }) (v := ?gv3) rfl (by kernel_rfl) (by kernel_rfl) (by kernel_rfl) (fun _ _ _ h => h) (Or.inl ⟨by rfl, ?gy3⟩) (by assumption) ?_
  case gy3 => (intro w' hSw; go_simp; try with_reducible rfl)
  try simp only [Act.put, List.setIfInBounds_toArray, List.set_cons_zero, List.set_cons_succ]
  refine wpAnyH_done (by kernel_rfl) (NoPanic.normal ?_) _
  have B34 : Below w1.heap.size w1 w4 := by (repeat' (first | assumption | exact below_refl _ | refine bl_alloc ?_ _ | refine Below.setCell ?_ ?_ _ | refine below_draw ?_ | refine below_drewN ?_ _ | refine below_tr ?_ (by assumption))) <;> (first | omega | (simp; done) | (simp; omega))
  have B4 : Below w.heap.size w w4 := below_tr BX B34
  have hz := B4.size
  clear hb3 hb4 hc3 hf3 hc4 hf4 hz3 hz4 ho3 hR3 x2 y2 v2 B34 p0 r0 r1 s0 s1 lx ly lv HSP HST hS0 hS1 hS2
  go_wp2
  refine leaves_marks (by simp) [] _ (Marks.nil _) fun w' hw' => ?_
  exact ⟨_, results_tt rfl, B4.trans (hw'.toBelow (by omega) (fun b hb h => by cases h)), rfl⟩
set_option maxHeartbeats 8000000 in
set_option maxRecDepth 20000 in
theorem p_PlanMany (A : Option Addr) (l : List Pr) (c : Nat) (s t : Sp) (w : World) (hask : askE l [s, t] = 0) (hst : heldB (spL l) s = true) (h12 : 12 < l.length) (hR : Rd Pr.cs 3 w A l) :
    Calls Tryz.prog 5 #[.slice A l.length c, spV s, spV t] w fun e w' => Below w.heap.size w w' ∧ e = .returned (.tuple #[.slice none 0 0, .int .i64 4]) := by
  have ⟨hv, hs, ht⟩ := askE_two hask
  have hl := vP_len hv
  obtain ⟨W1, hW1⟩ : ∃ W1, W1 = ((w.alloc (.cells #[.slice A l.length c] 22)).alloc (.cells (spA s) 24)).alloc (.cells (spA t) 24) := ⟨_, rfl⟩
  have hz1 : W1.heap.size = w.heap.size + 1 + 1 + 1 := by rw [hW1]; simp
  have x0 : Blk W1 w.heap.size 22 #[.slice A l.length c] := by rw [hW1]; exact ((Blk.new w _ _).alloc _).alloc _
  have y0 : Blk W1 (w.heap.size + 1) 24 (spA s) := by
    have := (Blk.new (w.alloc (.cells #[.slice A l.length c] 22)) 24 (spA s)).alloc (.cells (spA t) 24)
    rw [World.size_alloc] at this
    rw [hW1]; exact this
  have v0 : Blk W1 (w.heap.size + 1 + 1) 24 (spA t) := by
    have := Blk.new ((w.alloc (.cells #[.slice A l.length c] 22)).alloc (.cells (spA s) 24)) 24 (spA t)
    rw [World.size_alloc, World.size_alloc] at this
    rw [hW1]; exact this
  have B0 : Below w.heap.size w W1 := by rw [hW1]; exact bl_alloc (bl_alloc (bl_alloc (below_refl w) _) _) _
  have HA := Lib.hid (fun (W : World) (hb : Below w.heap.size w W) (b : Nat) (hS : Rd Sp.cs 2 W (some ⟨b, 0, none⟩) [s, t]) => p_askedTwo A l s t c b W (by omega) (hR.on hb) hS)
  have HO := Lib.hid (rd_two W1 s t)
  have B1 := bl_alloc B0 (.cells (spA2 s t) 24)
  have x1 := x0.alloc (.cells (spA2 s t) 24)
  have y1 := y0.alloc (.cells (spA2 s t) 24)
  have v1 := v0.alloc (.cells (spA2 s t) 24)
  have p0 := x0.cell 0
  have r0 := y0.cell 0
  have r1 := y0.cell 1
  have s0 := v0.cell 0
  have s1 := v0.cell 1
  simp only [List.getElem?_toArray, List.getElem?_cons_zero, List.getElem?_cons_succ] at p0 r0 r1 s0 s1
  rw [hask] at HA
  have HSP := Lib.hid (fun (W : World) (hb : Below w.heap.size w W) => p_spots A l c W (by omega) (hR.on hb))
  have HST := Lib.hid (fun (W : World) (A : Option Addr) (c : Nat) (hR : Rd Sp.cs 2 W A (spL l)) => p_stands A (spL l) c s W (by rw [spL_len]; omega) (vP_bd hv) (vP_nodup hv) (isS_bd hs) hR)
  rw [hst] at HST
  refine (callsIn_wide (n := 6)).1 ?_
  refine callsIn_of_wp_marks Tryz.func5 rfl trivial ?_ rfl
  simp only [Tryz.ntmps5, List.size_toArray, List.length_cons, List.length_nil, Nat.reduceAdd, Nat.reduceSub, Array.replicate_succ, Array.replicate_zero, List.push_toArray, List.append_toArray, List.nil_append, List.cons_append]
  refine wpIn_wide.2 ?_
  go_wp2_with fail
  have HO2 := Lib.hid (hz1 ▸ HO.out)
  have HZ := Lib.hid hz1
  clear hz1
  rw [show (((w.alloc (.cells #[.slice A l.length c] 22)).alloc (.cells #[.int .i64 s.x, .int .i64 s.y] 24)).alloc (.cells #[.int .i64 t.x, .int .i64 t.y] 24)) = W1 from hW1.symm]
  clear hW1
  refine (HA.out _ B1 _ HO2.out).mono ?_
  rintro e w1 ⟨rfl, hb1⟩
  have BX := below_tr B1 hb1
  have x2 := x1.below hb1 x1.lt
  have y2 := y1.below hb1 y1.lt
  have v2 := v1.below hb1 v1.lt
  replace p0 := x2.cell 0
  replace r0 := y2.cell 0
  replace r1 := y2.cell 1
  replace s0 := v2.cell 0
  replace s1 := v2.cell 1
  simp only [List.getElem?_toArray, List.getElem?_cons_zero, List.getElem?_cons_succ] at p0 r0 r1 s0 s1
  have lx := x2.lt
  have ly := y2.lt
  have lv := v2.lt
  clear x0 y0 v0 x1 y1 v1 B0 B1 hb1 HO HO2 HA
  go_wp2_with fail
  refine wp_region_noPanic ?_
  refine wp_region_held_drew (S := (fun w' => (∀ b o, b < w1.heap.size → w'.cell? ⟨b, o, none⟩ = w1.cell? ⟨b, o, none⟩) ∧ (∀ b o, b < w1.heap.size → w'.frozen? ⟨b, o, none⟩ = w1.frozen? ⟨b, o, none⟩) ∧ Below w1.heap.size w1 w')) (by kernel_rfl) (kq_draw kq_refl) (fun hS0 => ?_)
  refine wpAnyH_take (i := 0) (oi := { dst := some 28, op := _, type := _, pos := _, after := _, guard := none }) (v := ?gv4) rfl (by kernel_rfl) (by kernel_rfl) (by kernel_rfl) (fun _ _ _ h => h) (Or.inl ⟨by rfl, ?gy4⟩) (by assumption) ?_
  case gy4 => (intro w' hSw; go_simp; try with_reducible rfl)
  try simp only [Act.put, List.setIfInBounds_toArray, List.set_cons_zero, List.set_cons_succ]
  refine wpAnyH_take (i := 2) (oi := { dst := some 30, op := _, type := _, pos := _, after := _, guard := none }) (v := ?gv5) rfl (by kernel_rfl) (by kernel_rfl) (by kernel_rfl) (fun _ _ _ h => h) (Or.inl ⟨by rfl, ?gy5⟩) (by assumption) ?_
  case gy5 => (intro w' hSw; go_simp; try with_reducible rfl)
  try simp only [Act.put, List.setIfInBounds_toArray, List.set_cons_zero, List.set_cons_succ]
  refine wpAnyH_ready (rs := [1]) (by kernel_rfl) (by simp) ?_
  refine AllReadyH.cons rfl (fun K hK => ?_) AllReadyH.nil
  go_simp
  (go_at_call 15; ((with_reducible refine (HSP.out _ (by (repeat' (first | assumption | exact below_refl _ | refine bl_alloc ?_ _ | refine Below.setCell ?_ ?_ _ | refine below_draw ?_ | refine below_drewN ?_ _ | refine below_tr ?_ (by assumption))) <;> (first | omega | (simp; done) | (simp; omega)))).mono ?_); rintro e w3 ⟨v3, rfl, ho3, hb3⟩; obtain ⟨A3, c3, rfl, hR3⟩ := own_rd Sp.cs_len ho3; obtain ⟨hc3, hf3⟩ := bcell hb3; have hz3 := hb3.size; (try simp [sz_drew, sz_drewN] at hz3); (try simp only [sz_drew, sz_drewN] at hc3 hf3)))
  refine hK.out _ _ (by ((show Kq w1 _); (repeat' (first | assumption | exact kq_refl | refine kq_draw ?_ | refine kq_drewN ?_ | refine kq_alloc ?_ | refine kq_set ?_ ?_ | refine kq_step ?_ (by assumption))); (all_goals (first | omega | (simp; omega))))) (fun hS1 => ?_)
  clear hK K
  try simp only [Act.put, List.setIfInBounds_toArray, List.set_cons_zero, List.set_cons_succ]
  refine wpAnyH_ready (rs := [3]) (by kernel_rfl) (by simp) ?_
  refine AllReadyH.cons rfl (fun K hK => ?_) AllReadyH.nil
  go_simp
  (go_at_call 14; ((with_reducible refine (HST.out _ _ _ hR3).mono ?_); rintro e w4 ⟨rfl, hb4⟩; obtain ⟨hc4, hf4⟩ := bcell hb4; have hz4 := hb4.size; (try simp [sz_drew, sz_drewN] at hz4); (try simp only [sz_drew, sz_drewN] at hc4 hf4)))
  refine hK.out _ _ (by ((show Kq w1 _); (repeat' (first | assumption | exact kq_refl | refine kq_draw ?_ | refine kq_drewN ?_ | refine kq_alloc ?_ | refine kq_set ?_ ?_ | refine kq_step ?_ (by assumption))); (all_goals (first | omega | (simp; omega))))) (fun hS2 => ?_)
  clear hK K
  try simp only [Act.put, List.setIfInBounds_toArray, List.set_cons_zero, List.set_cons_succ]
  refine wpAnyH_take (i := 4) (oi := { dst := some 32, op := _, type := _, pos := _, after := _, guard := none }) (v := ?gv6) rfl (by kernel_rfl) (by kernel_rfl) (by kernel_rfl) (fun _ _ _ h => h) (Or.inl ⟨by rfl, ?gy6⟩) (by assumption) ?_
  case gy6 => (intro w' hSw; go_simp; try with_reducible rfl)
  try simp only [Act.put, List.setIfInBounds_toArray, List.set_cons_zero, List.set_cons_succ]
  refine wpAnyH_done (by kernel_rfl) (NoPanic.normal ?_) _
  have B34 : Below w1.heap.size w1 w4 := by (repeat' (first | assumption | exact below_refl _ | refine bl_alloc ?_ _ | refine Below.setCell ?_ ?_ _ | refine below_draw ?_ | refine below_drewN ?_ _ | refine below_tr ?_ (by assumption))) <;> (first | omega | (simp; done) | (simp; omega))
  have B4 : Below w.heap.size w w4 := below_tr BX B34
  have x4 := x2.below B34 x2.lt
  have hz := B4.size
  have h12' : (12 : Int) < (l.length : Int) := by omega
  clear hb3 hb4 hc3 hf3 hc4 hf4 hz3 hz4 ho3 hR3 x2 y2 v2 B34 p0 r0 r1 s0 s1 lx ly lv HSP HST hS0 hS1 hS2
  have p0 := x4.cell 0
  simp only [List.getElem?_toArray, List.getElem?_cons_zero, List.getElem?_cons_succ] at p0
  have lx := x4.lt
  go_wp2
  refine leaves_marks (by simp) [] _ (Marks.nil _) fun w' hw' => ?_
  exact ⟨_, results_tt rfl, B4.trans (hw'.toBelow (by omega) (fun b hb h => by cases h)), rfl⟩
theorem p_Plan (A : Option Addr) (l : List Pr) (c : Nat) (s t : Sp) (w : World) (hl : l.length ≤ 100000) (hT : Tab w) (hR : Rd Pr.cs 3 w A l) :
    Calls Tryz.prog 5 #[.slice A l.length c, spV s, spV t] w (PlnP l s t w) := by
  by_cases h1 : askE l [s, t] = 0
  · cases h2 : heldB (spL l) s
    · refine (p_PlanFall A l c s t w h1 h2 hR).mono ?_
      rintro e w' ⟨h3, rfl⟩
      exact ⟨h3, .inr (.inl ⟨h1, h2, rfl⟩)⟩
    · by_cases h4 : l.length ≤ 12
      · refine (p_PlanGo A l c s t w h1 h2 h4 hT hR).mono ?_
        rintro e w' ⟨h3, h5⟩
        exact ⟨h3, .inr (.inr (.inr ⟨h1, h2, h4, h5⟩))⟩
      · refine (p_PlanMany A l c s t w h1 h2 (by omega) hR).mono ?_
        rintro e w' ⟨h3, rfl⟩
        exact ⟨h3, .inr (.inr (.inl ⟨h1, h2, by omega, rfl⟩))⟩
  · refine (p_PlanAsk A l c s t w h1 hl hR).mono ?_
    rintro e w' ⟨h3, rfl⟩
    exact ⟨h3, .inl ⟨h1, rfl⟩⟩
end Go.Proofs.YtkeojokbpjdhpaaGreatDoor
