/- Fell: of, by the program: the spots of a set of props. -/
import Derived.Test.YtkeojokbpjdhpaaGreatDoorFgs
import Derived.Test.YtkeojokbpjdhpaaGreatDoorFCom
import Derived.WalkMore
set_option linter.unusedSimpArgs false
set_option linter.unusedVariables false
namespace Go.Proofs.YtkeojokbpjdhpaaGreatDoor
open Go.RowKit Go.Shelf
attribute [local go_sem] Oper.semAt_some

section
variable {P : Program}
theorem step_append_hat {ops : Array Oper} {o : Oper} {a : Act} {w : World} {K : Act → World → Prop} {Q : Exit → Act → World → Prop} {E : Prop} (hgd : o.guard = none) (s x : Operand) (t : TypeId)
    (ho : o.op = .call { callee := .builtin .append, args := #[s, x], argTypes := #[t, t] })
    (base : Nat) (e : TypeId) (i : TypeInfo) (z : Value) (size bytes : Nat) (ht : P.underlying t = some (.slice e)) (hi : P.info? e = some i) (hz : i.zero = some z)
    (hsize : i.size = size) (hby : i.bytes = bytes) (hzs : z.cells.size = size) (hsz : 0 < size)
    (v : Value) (n : Nat) (xs : List Value) (hs : a.eval s = v) (hown : w.ownsRow base e size v n xs)
    (ad : Addr) (m c : Nat) (news : List Value) (hx : a.eval x = .slice (some ad) m c) (hl : news.length = m * size) (hnews : ∀ j u, news[j]? = some u → w.cell? (ad.add j) = some u) (h1 : ∀ u ∈ news, u.oneCell' = true)
    (h63 : n + m ≤ maxLen) (hbytes : (n + m) * bytes ≤ 140737488355328) (hbase : base ≤ w.heap.size)
    (h : ∀ v' w', w'.ownsRow base e size v' (n + m) (xs ++ news) → w.grownBy w' v.ownBlock → (v'.ownBlock = v.ownBlock ∨ v'.ownBlock = some w.heap.size) → K (a.put o.dst v') w') :
    if Region.wanted o (yielded ops a.tmps) = true then Oper.wp P o a w K Q else E := by
  have hw : Region.wanted o (yielded ops a.tmps) = true := by simp [Region.wanted, hgd]
  rw [if_pos hw]
  obtain ⟨v', w', hr, h2, h3, _, h5⟩ := Go.run_append_own_at (P := P) w base t o.type e i z size bytes ht hi hz hsize hby hzs hsz v n xs hown ad m c news hl hnews h1 h63 hbytes hbase
  unfold Oper.wp execOp
  simp only [ho, resolve, invoke, builtin, Sem.run_bind, Sem.run_pure, Result.andThen_ok, List.map_toArray, List.map_cons, List.map_nil, hs, hx, hr]
  exact h v' w' h2 h3 h5
end
theorem mM_lt {M : List Bool} {pre rest : List Nat} {i : Nat} (h : mM M = pre ++ i :: rest) : i < M.length := by
  have : i ∈ mM M := by rw [h]; simp
  unfold mM at this; rw [List.mem_filter] at this; simpa using this.1
theorem mM_len (M : List Bool) : (mM M).length ≤ M.length := by
  unfold mM
  have := List.length_filter_le (fun i => M.getD i false) (List.range M.length)
  simpa using this
theorem own_lenS {base n : Nat} {W : World} {v : Value} {l : List Sp} (h : W.ownsRow base 24 2 v n (fl Sp.cs l)) (e : l.length = n) : OwnP base W v l := by subst e; exact h
def atS (l : List Pr) (i : Nat) : Sp := (prAt l i).a
theorem lfS_map (l : List Pr) (M : List Bool) : lfS l M = (mM M).map (atS l) := rfl
set_option maxHeartbeats 4000000 in
set_option maxRecDepth 20000 in
theorem p_of (A : Option Addr) (l : List Pr) (c x : Nat) (M : List Bool) (w : World) (hx : SetOf x M) (hM : M.length = l.length) (hT : Tab w) (hR : Rd Pr.cs 3 w A l) :
    Calls Tryz.prog 19 #[.slice A l.length c, .int .u32 x] w fun e w' => ∃ v, e = .returned v ∧ OwnP w.heap.size w' v (lfS l M) ∧ Below w.heap.size w w' := by
  have hl24 : l.length ≤ 24 := by have := hx.1; omega
  have hxs := set_mL hx
  have hx32 : x < 4294967296 := by have := hx.lt; omega
  clear hx
  refine (callsIn_wide (n := 6)).1 ?_
  refine callsIn_of_wp_marks Tryz.func19 rfl trivial ?_ rfl
  simp only [Tryz.ntmps19, List.size_toArray, List.length_cons, List.length_nil, Nat.reduceAdd, Nat.reduceSub, Array.replicate_succ, Array.replicate_zero, List.push_toArray, List.append_toArray, List.nil_append, List.cons_append]
  gi_wp2
  refine ⟨trivial, ?_⟩
  refine (callsIn_wide.2 (p_all x _)).mono ?_
  rintro e w1 ⟨rfl, rfl⟩
  gi_wp2
  have x1 := ((Blk.new w 22 #[.slice A l.length c]).alloc (.cells #[.slice none 0 0] 44)).alloc (.cells #[.int .u32 x] 47)
  have x2 := (Blk.new (w.alloc (.cells #[.slice A l.length c] 22)) 44 #[.slice none 0 0]).alloc (.cells #[.int .u32 x] 47)
  have x3 := Blk.new ((w.alloc (.cells #[.slice A l.length c] 22)).alloc (.cells #[.slice none 0 0] 44)) 47 #[.int .u32 x]
  have BB : Below w.heap.size w (((w.alloc (.cells #[.slice A l.length c] 22)).alloc (.cells #[.slice none 0 0] 44)).alloc (.cells #[.int .u32 x] 47)) := bl_alloc (bl_alloc (bl_alloc (below_refl w) _) _) _
  have zz : (((w.alloc (.cells #[.slice A l.length c] 22)).alloc (.cells #[.slice none 0 0] 44)).alloc (.cells #[.int .u32 x] 47)).heap.size = w.heap.size + 3 := by simp
  simp only [World.size_alloc] at x1 x2 x3
  generalize ((w.alloc (.cells #[.slice A l.length c] 22)).alloc (.cells #[.slice none 0 0] 44)).alloc (.cells #[.int .u32 x] 47) = w6 at *
  have hR6 := hR.on BB
  have hT6 := TabAt.on hT BB
  have h0w := Tab.lt hT
  have hAd : ∀ ad, A = some ad → l ≠ [] → ad.block < w.heap.size := by
    rintro ad rfl hne
    obtain ⟨b', off', e, hlt, _⟩ := hR hne
    cases e; exact hlt
  refine wp_rangeK (by omega) (gf := 41) (lb := #[.pointer (some ⟨w.heap.size + 1 + 1, 0, none⟩)]) rfl enters_all (encs := inI) (xs := mL x) (R := fun b => b = 0 ∨ b = w.heap.size + 2) (K := fun b => b = w.heap.size + 2)
    (all_seq _ (by omega) _ x _ _ _ hx32 x3 hT6 (.inr rfl) (.inl rfl) rfl (by omega)) (fun b h => .inr h) (Stp.refl _ _) (fun _ => rfl) (by rintro b (hb | hb) <;> omega)
    (fun pre N W => ((Below w.heap.size w W ∧ w.heap.size ≤ W.heap.size) ∧ Blk W w.heap.size 22 #[.slice A l.length c]) ∧ ∃ v, Blk W (w.heap.size + 1) 44 #[v] ∧ W.ownsRow (w6.heap.size + 2) 24 2 v pre.length (fl Sp.cs (pre.map (atS l))) ∧ ∀ b, v.ownBlock = some b → ¬ N b)
    (fun _ _ _ _ => False)
    ?h5 ?h6 ?h7 ?round ?done ?stop
  case h5 => exact ((abideK_below (by omega) (fun b hb => by omega)).and (abideK_blk _ (by omega) (by omega))).and (abideK_row _ _ (by omega) (fun b hb => by omega))
  case h6 => exact fun k => abideK_pure _
  case h7 => exact ⟨⟨⟨BB, by omega⟩, x1⟩, _, x2, World.ownsRow_nil w6 _ _ _, fun _ h => by cases h⟩
  case stop => rintro k pre rest N W _ h; exact h.elim
  case done =>
    rintro N W ⟨⟨⟨hB, hz⟩, _⟩, v, hv, hr, _⟩ hK
    obtain ⟨ad, cp, rfl⟩ := ownsRow_slice hr
    have q := hv.cell 0
    simp only [List.getElem?_toArray, List.getElem?_cons_zero] at q
    gi_wp2
    refine ⟨by simp, .inl ⟨_, _, rfl, run_takeDeferred hK, ?_⟩⟩
    have hst := Stp.putObj (Stp.refl (fun b => b = w6.heap.size) W) (.inl rfl) (.deferred none)
    rw [hxs] at hr
    exact ⟨_, results_tmp rfl _ _ _, _, rfl, own_lenS (ownsRow_base (ownsRow_stp hr hst fun b hb => by have := (ownBlock_ge hr b hb).1; omega) (by omega)) (by rw [lfS_map, List.length_map]), hB.trans (hst.toBelow hz (fun b hb => by omega))⟩
  case round =>
    rintro L pre i rest N W hpx ⟨⟨⟨hB, hz⟩, hlb⟩, v, hv, hr, hvm⟩ hM2 hsz
    have hiM := mM_lt (hxs ▸ hpx)
    rw [hM] at hiM
    simp only [inI, setAll1, List.setIfInBounds_toArray, List.set_cons_zero, List.set_cons_succ]
    gi_wp2
    refine ⟨Stp.refl _ _, fun W2 hsz2 hst2 => ?_⟩
    have e1 := hst2.blk hv (by omega)
    have e2 := hst2.blk hlb (by omega)
    have r2 := ownsRow_stp hr hst2 (fun b hb => by have := (ownBlock_ge hr b hb).1; omega)
    have hB2 : Below w.heap.size w W2 := hB.trans (Stp.toBelow hst2 (by omega) (fun b hb => by omega))
    obtain ⟨p, b, off, hp, rfl, hb, c0, c1, c2⟩ := rdP (hR.on hB2) hiM
    have hbw := hAd _ rfl (by intro e; rw [e] at hiM; simp at hiM)
    have HAT := Lib.hid (show atS l i = p.a by unfold atS; rw [prAt_of hp])
    obtain ⟨ad, cp, rfl⟩ := ownsRow_slice hr
    have q1 := e1.cell 0
    have f1 := e1.frozen 0
    have le1 := e1.lt
    have le2 := e2.lt
    have q2 := e2.cell 0
    simp only [List.getElem?_toArray, List.getElem?_cons_zero] at q1 q2
    have hlen : pre.length ≤ 2000 := by
      have h1 := congrArg List.length hpx
      rw [hxs] at h1
      simp only [List.length_append, List.length_cons] at h1
      have := mM_len M
      omega
    have hrowne : ∀ b, (Value.slice ad pre.length cp).ownBlock = some b → w6.heap.size + 2 ≤ b := fun b hb => (ownBlock_ge hr b hb).1
    obtain ⟨i0, hi, hi1, hi2, hi3⟩ := info_spot
    have hsa : W2.heap.size ≤ W.heap.size := by omega
    have hsb : W.heap.size ≤ W2.heap.size := by omega
    have i0' : (0 : Int) ≤ (i : Int) := Int.natCast_nonneg _
    have i1' : (i : Int) < (l.length : Int) := by omega
    clear hsz2 hp hv hlb hR6 hT6 hst2 hB hz
    gi_wp2
    have HS := Lib.hid (fun (U : World) (h1 : U.heap[w.heap.size]? = W2.heap[w.heap.size]?) (h2 : U.heap[b]? = W2.heap[b]?) => (show U.cell? ⟨w.heap.size, 0, none⟩ = some (.slice (some ⟨b, off, none⟩) l.length c) ∧ U.cell? ⟨b, off + i * 3, none⟩ = some (.int .i64 p.a.x) ∧ U.cell? ⟨b, off + i * 3 + 1, none⟩ = some (.int .i64 p.a.y) from
      ⟨(World.cell?_of_block (w := W2) (w' := U) (a := ⟨w.heap.size, 0, none⟩) h1).trans q2, (World.cell?_of_block (w := W2) (w' := U) (a := ⟨b, off + i * 3, none⟩) h2).trans c0, (World.cell?_of_block (w := W2) (w' := U) (a := ⟨b, off + i * 3 + 1, none⟩) h2).trans c1⟩))
    have hmk : ∀ (U2 : World) (g cap : Nat), (W2.drew.alloc (.cells (Sp.cs p.a).toArray 24)).grownBy U2 (Value.slice ad pre.length cp).ownBlock → ∀ N : Nat → Prop, N (w.heap.size + 1) → (∀ r, (Value.slice ad pre.length cp).ownBlock = some r → N r ∨ W2.heap.size ≤ r) → Stp N W2 (U2.setCell ⟨w.heap.size + 1, 0, none⟩ (.slice (some ⟨g, 0, none⟩) (pre.length + 1) cap)) := fun U2 g cap hgrow N h1 h2 =>
      (((Stp.refl N W2).drew.alloc _).grown hgrow h2).setCell (.inl h1) _
    refine wpIn_round_held (fun w' => w'.cell? ⟨w.heap.size, 0, none⟩ = some (.slice (some ⟨b, off, none⟩) l.length c) ∧ w'.cell? ⟨b, off + i * 3, none⟩ = some (.int .i64 p.a.x) ∧ w'.cell? ⟨b, off + i * 3 + 1, none⟩ = some (.int .i64 p.a.y)) (by kernel_rfl) (by omega) (by rintro ⟨_, _, h⟩; exact h) (by kernel_rfl) (HS.out W2.drew rfl rfl) (fun hS => ?_)
    refine wpAnyH_take (i := 1) (oi := { dst := some 11, op := _, type := _, pos := _, after := _, guard := none }) (v := .slice (some ⟨b, off, none⟩) l.length c) rfl (by kernel_rfl) (by kernel_rfl) (by kernel_rfl) (fun _ _ _ h => h) (Or.inl ⟨by rfl, ?gy1⟩) (by assumption) ?_
    case gy1 => (intro w' hSw; (try dsimp only at hSw); go_split_ands; go_simp)
    try simp only [Act.put, List.setIfInBounds_toArray, List.set_cons_zero, List.set_cons_succ]
    refine wpAnyH_take (i := 2) (oi := { dst := some 12, op := _, type := _, pos := _, after := _, guard := none }) (v := .int .i64 i) rfl (by kernel_rfl) (by kernel_rfl) (by kernel_rfl) (fun _ _ _ h => h) (Or.inl ⟨by rfl, ?gy2⟩) (by assumption) ?_
    case gy2 => (intro w' hSw; (try dsimp only at hSw); go_split_ands; go_simp)
    try simp only [Act.put, List.setIfInBounds_toArray, List.set_cons_zero, List.set_cons_succ]
    refine wpAnyH_take (i := 3) (oi := { dst := some 13, op := _, type := _, pos := _, after := _, guard := none }) (v := .pointer (some ⟨b, off + i * 3, none⟩)) rfl (by kernel_rfl) (by kernel_rfl) (by kernel_rfl) (fun _ _ _ h => h) (Or.inl ⟨by rfl, ?gy3⟩) (by assumption) ?_
    case gy3 => (intro w' hSw; (try dsimp only at hSw); go_split_ands; go_simp)
    try simp only [Act.put, List.setIfInBounds_toArray, List.set_cons_zero, List.set_cons_succ]
    refine wpAnyH_take (i := 4) (oi := { dst := some 14, op := _, type := _, pos := _, after := _, guard := none }) (v := .pointer (some ⟨b, off + i * 3, none⟩)) rfl (by kernel_rfl) (by kernel_rfl) (by kernel_rfl) (fun _ _ _ h => h) (Or.inl ⟨by rfl, ?gy4⟩) (by assumption) ?_
    case gy4 => (intro w' hSw; (try dsimp only at hSw); go_split_ands; go_simp)
    try simp only [Act.put, List.setIfInBounds_toArray, List.set_cons_zero, List.set_cons_succ]
    refine wpAnyH_take (i := 5) (oi := { dst := some 15, op := _, type := _, pos := _, after := _, guard := none }) (v := .agg #[.int .i64 p.a.x, .int .i64 p.a.y]) rfl (by kernel_rfl) (by kernel_rfl) (by kernel_rfl) (fun _ _ _ h => h) (Or.inl ⟨by rfl, ?gy5⟩) (by assumption) ?_
    case gy5 => (intro w' hSw; (try dsimp only at hSw); go_split_ands; go_simp)
    try simp only [Act.put, List.setIfInBounds_toArray, List.set_cons_zero, List.set_cons_succ]
    refine wpAnyH_ready (rs := [0, 6]) (by kernel_rfl) (by simp) ?_
    refine AllReadyH.cons rfl (fun K hK => ?_) (AllReadyH.cons rfl (fun K hK => ?_) AllReadyH.nil)
    · go_simp
      refine hK.out _ _ (HS.out W2.drew rfl rfl) (fun hS => ?_)
      clear hK K
      try simp only [Act.put, List.setIfInBounds_toArray, List.set_cons_zero, List.set_cons_succ]
      refine wpAnyH_ready (rs := [6]) (by kernel_rfl) (by simp) ?_
      refine AllReadyH.cons rfl (fun K hK => ?_) AllReadyH.nil
      go_simp
      refine hK.out _ _ (HS.out (W2.drew.alloc (.cells (Sp.cs p.a).toArray 24)) (Below.heap_alloc W2.drew _ _ (by show w.heap.size < W2.heap.size; omega)) (Below.heap_alloc W2.drew _ _ (by show b < W2.heap.size; omega))) (fun hS => ?_)
      clear hK K
      try simp only [Act.put, List.setIfInBounds_toArray, List.set_cons_zero, List.set_cons_succ]
      refine wpAnyH_ready (rs := [7]) (by kernel_rfl) (by simp) ?_
      refine AllReadyH.cons rfl (fun K hK => ?_) AllReadyH.nil
      refine step_append_hat (by rfl) _ _ _ (by rfl) (w6.heap.size + 2) 24 i0 (.agg #[.int .i64 0, .int .i64 0]) 2 16 Tryz.underlying44 hi hi1 hi2 hi3 rfl (by omega) (.slice ad pre.length cp) pre.length _ (by rfl) (ownsRow_stp r2 ((Stp.refl (fun _ => False) W2).drew.alloc _) (fun _ _ h => h)) ⟨W2.heap.size, 0, none⟩ 1 1 (Sp.cs p.a) (by rfl) rfl (cells_new W2.drew (Sp.cs p.a) 24) (spC_one p.a) (by unfold maxLen; omega) (by omega) (by simp; omega) ?_
      intro v' U2 hown hgrow hat
      obtain ⟨g, cap, rfl⟩ := ownsRow_succ hown
      have k0 : U2.heap[w.heap.size]? = W2.heap[w.heap.size]? := (hgrow.block w.heap.size (by simp; omega) (fun h => by have := hrowne _ h.symm; omega)).trans (Below.heap_alloc W2.drew _ _ (by show w.heap.size < W2.heap.size; omega))
      have k1 : U2.heap[w.heap.size + 1]? = W2.heap[w.heap.size + 1]? := (hgrow.block (w.heap.size + 1) (by simp; omega) (fun h => by have := hrowne _ h.symm; omega)).trans (Below.heap_alloc W2.drew _ _ (by show w.heap.size + 1 < W2.heap.size; omega))
      have k2 : U2.heap[b]? = W2.heap[b]? := (hgrow.block b (by simp; omega) (fun h => by have := hrowne _ h.symm; omega)).trans (Below.heap_alloc W2.drew _ _ (by show b < W2.heap.size; omega))
      have e42 : Blk U2 (w.heap.size + 1) 44 #[.slice ad pre.length cp] := k1.trans e1
      have q42 := e42.cell 0
      have f42 := e42.frozen 0
      simp only [List.getElem?_toArray, List.getElem?_cons_zero] at q42
      have l42 := e42.lt
      refine hK.out _ _ (HS.out U2 k0 k2) (fun hS => ?_)
      clear hK K
      try simp only [Act.put, List.setIfInBounds_toArray, List.set_cons_zero, List.set_cons_succ]
      refine wpAnyH_ready (rs := [8]) (by kernel_rfl) (by simp) ?_
      refine AllReadyH.cons rfl (fun K hK => ?_) AllReadyH.nil
      go_simp
      refine hK.out _ _ (HS.out _ ((Below.heap_setCell U2 _ _ _ (by show w.heap.size ≠ w.heap.size + 1; omega)).trans k0) ((Below.heap_setCell U2 _ _ _ (by show b ≠ w.heap.size + 1; omega)).trans k2)) (fun hS => ?_)
      clear hK K
      try simp only [Act.put, List.setIfInBounds_toArray, List.set_cons_zero, List.set_cons_succ]
      refine wpAnyH_done (by kernel_rfl) ?_ _
      gi_wp2
      have hst := hmk U2 g cap hgrow (fun b => b = w.heap.size + 1 ∨ w6.heap.size + 2 ≤ b) (.inl rfl) (fun r hr' => .inl (.inr (hrowne r hr')))
      refine ⟨hmk U2 g cap hgrow _ ?_ ?_, ⟨⟨hB2.trans (hst.toBelow (by omega) (fun b hb => by omega)), Nat.le_trans hB2.size hst.size⟩, hst.blk e2 (by omega)⟩, _, e42.set_ 0 _, ?_, ?_⟩
      · rintro (h | (h | h) | h | h)
        · have := (hM2 _ h).1; omega
        all_goals omega
      · intro r' hr'
        have := hrowne r' hr'
        refine .inl ?_
        rintro (h | (h | h) | h | h)
        · exact hvm r' hr' h
        all_goals omega
      · have := ownsRow_stp hown (Stp.setCell (p := ⟨w.heap.size + 1, 0, none⟩) (Stp.refl (fun b => b = w.heap.size + 1) U2) (.inl rfl) (.slice (some ⟨g, 0, none⟩) (pre.length + 1) cap)) (fun b hb => by have := (ownBlock_ge hown b hb).1; omega)
        rw [List.length_append, List.map_append, List.map_cons, List.map_nil, fl_snoc, HAT.out]
        exact this
      · intro b hb hm
        rcases hat with h | h
        · rw [h] at hb; exact hvm b hb hm
        · rw [h] at hb; cases hb
          have h3 := (hM2 _ hm).2
          simp [sz_drew] at h3
          omega

    · go_simp
      refine hK.out _ _ (HS.out (W2.drew.alloc (.cells (Sp.cs p.a).toArray 24)) (Below.heap_alloc W2.drew _ _ (by show w.heap.size < W2.heap.size; omega)) (Below.heap_alloc W2.drew _ _ (by show b < W2.heap.size; omega))) (fun hS => ?_)
      clear hK K
      try simp only [Act.put, List.setIfInBounds_toArray, List.set_cons_zero, List.set_cons_succ]
      refine wpAnyH_ready (rs := [0]) (by kernel_rfl) (by simp) ?_
      refine AllReadyH.cons rfl (fun K hK => ?_) AllReadyH.nil
      go_simp
      refine hK.out _ _ (HS.out (W2.drew.alloc (.cells (Sp.cs p.a).toArray 24)) (Below.heap_alloc W2.drew _ _ (by show w.heap.size < W2.heap.size; omega)) (Below.heap_alloc W2.drew _ _ (by show b < W2.heap.size; omega))) (fun hS => ?_)
      clear hK K
      try simp only [Act.put, List.setIfInBounds_toArray, List.set_cons_zero, List.set_cons_succ]
      refine wpAnyH_ready (rs := [7]) (by kernel_rfl) (by simp) ?_
      refine AllReadyH.cons rfl (fun K hK => ?_) AllReadyH.nil
      refine step_append_hat (by rfl) _ _ _ (by rfl) (w6.heap.size + 2) 24 i0 (.agg #[.int .i64 0, .int .i64 0]) 2 16 Tryz.underlying44 hi hi1 hi2 hi3 rfl (by omega) (.slice ad pre.length cp) pre.length _ (by rfl) (ownsRow_stp r2 ((Stp.refl (fun _ => False) W2).drew.alloc _) (fun _ _ h => h)) ⟨W2.heap.size, 0, none⟩ 1 1 (Sp.cs p.a) (by rfl) rfl (cells_new W2.drew (Sp.cs p.a) 24) (spC_one p.a) (by unfold maxLen; omega) (by omega) (by simp; omega) ?_
      intro v' U2 hown hgrow hat
      obtain ⟨g, cap, rfl⟩ := ownsRow_succ hown
      have k0 : U2.heap[w.heap.size]? = W2.heap[w.heap.size]? := (hgrow.block w.heap.size (by simp; omega) (fun h => by have := hrowne _ h.symm; omega)).trans (Below.heap_alloc W2.drew _ _ (by show w.heap.size < W2.heap.size; omega))
      have k1 : U2.heap[w.heap.size + 1]? = W2.heap[w.heap.size + 1]? := (hgrow.block (w.heap.size + 1) (by simp; omega) (fun h => by have := hrowne _ h.symm; omega)).trans (Below.heap_alloc W2.drew _ _ (by show w.heap.size + 1 < W2.heap.size; omega))
      have k2 : U2.heap[b]? = W2.heap[b]? := (hgrow.block b (by simp; omega) (fun h => by have := hrowne _ h.symm; omega)).trans (Below.heap_alloc W2.drew _ _ (by show b < W2.heap.size; omega))
      have e42 : Blk U2 (w.heap.size + 1) 44 #[.slice ad pre.length cp] := k1.trans e1
      have q42 := e42.cell 0
      have f42 := e42.frozen 0
      simp only [List.getElem?_toArray, List.getElem?_cons_zero] at q42
      have l42 := e42.lt
      refine hK.out _ _ (HS.out U2 k0 k2) (fun hS => ?_)
      clear hK K
      try simp only [Act.put, List.setIfInBounds_toArray, List.set_cons_zero, List.set_cons_succ]
      refine wpAnyH_ready (rs := [8]) (by kernel_rfl) (by simp) ?_
      refine AllReadyH.cons rfl (fun K hK => ?_) AllReadyH.nil
      go_simp
      refine hK.out _ _ (HS.out _ ((Below.heap_setCell U2 _ _ _ (by show w.heap.size ≠ w.heap.size + 1; omega)).trans k0) ((Below.heap_setCell U2 _ _ _ (by show b ≠ w.heap.size + 1; omega)).trans k2)) (fun hS => ?_)
      clear hK K
      try simp only [Act.put, List.setIfInBounds_toArray, List.set_cons_zero, List.set_cons_succ]
      refine wpAnyH_done (by kernel_rfl) ?_ _
      gi_wp2
      have hst := hmk U2 g cap hgrow (fun b => b = w.heap.size + 1 ∨ w6.heap.size + 2 ≤ b) (.inl rfl) (fun r hr' => .inl (.inr (hrowne r hr')))
      refine ⟨hmk U2 g cap hgrow _ ?_ ?_, ⟨⟨hB2.trans (hst.toBelow (by omega) (fun b hb => by omega)), Nat.le_trans hB2.size hst.size⟩, hst.blk e2 (by omega)⟩, _, e42.set_ 0 _, ?_, ?_⟩
      · rintro (h | (h | h) | h | h)
        · have := (hM2 _ h).1; omega
        all_goals omega
      · intro r' hr'
        have := hrowne r' hr'
        refine .inl ?_
        rintro (h | (h | h) | h | h)
        · exact hvm r' hr' h
        all_goals omega
      · have := ownsRow_stp hown (Stp.setCell (p := ⟨w.heap.size + 1, 0, none⟩) (Stp.refl (fun b => b = w.heap.size + 1) U2) (.inl rfl) (.slice (some ⟨g, 0, none⟩) (pre.length + 1) cap)) (fun b hb => by have := (ownBlock_ge hown b hb).1; omega)
        rw [List.length_append, List.map_append, List.map_cons, List.map_nil, fl_snoc, HAT.out]
        exact this
      · intro b hb hm
        rcases hat with h | h
        · rw [h] at hb; exact hvm b hb hm
        · rw [h] at hb; cases hb
          have h3 := (hM2 _ hm).2
          simp [sz_drew] at h3
          omega

end Go.Proofs.YtkeojokbpjdhpaaGreatDoor
namespace Go.Proofs.YtkeojokbpjdhpaaGreatDoor
open Go.RowKit

theorem c_indexZ (A : Option Addr) (l : List (Int)) (c : Nat) (p : Int → Bool) (f : FuncId) (cap : Array Value) (w : World) (hl : l.length ≤ 100000) (hR : Rd zC 1 w A l)
    (he : ∀ args W, (callFunc f args).run Tryz.prog W = .ok (.enter f args) W)
    (hf : ∀ W x, Below w.heap.size w W → x ∈ l → Calls Tryz.prog f (#[.int .i64 x] ++ cap) W fun e W' => e = .returned (.bool (p x)) ∧ Below W.heap.size W W') :
    Calls Tryz.prog 85 #[.slice A l.length c, .func (.func f) #[] cap] w fun e w' => e = .returned (.int .i64 (idxOf p l 0)) ∧ Below w.heap.size w w' := by
  have HF := Lib.hid hf
  clear hf
  go_enter Tryz.func85, Tryz.ntmps85
  go_wp2
  go_loopw [8] (fun i wr => ∃ k : Nat, k ≤ l.length ∧ i = .int .i64 k ∧ Below w.heap.size w wr ∧ Hid (idxOf p l 0 = idxOf p (l.drop k) k)) (fun i _ => l.length - (intOf i).toNat)
  case atStart => exact ⟨0, by omega, rfl, Below.refl _ _, rfl⟩
  case round =>
    obtain ⟨k, hk, rfl, hB, HI⟩ := hrel
    by_cases hlt : k < l.length
    · obtain ⟨x, b, off, hx, rfl, hb, c0⟩ := rd_int (hR.on hB) hlt
      have HD := Lib.hid (idxOf_drop p l k x hx)
      have hm := List.mem_of_getElem? hx
      have HC := Lib.hid (HF.out wr x hB hm)
      clear hx hm
      cases hp : p x
      all_goals
        have HP := Lib.hid hp
        clear hp
        go_wp2_with fail
        refine HC.out.mono ?_
        rintro e w1 ⟨rfl, hb1⟩
        rw [HP.out]
        go_wp2
      · go_roundw
        case rel => exact ⟨k + 1, by omega, by go_num, hB.trans (hb1.mono hB.size), by rw [HI.out, HD.out, HP.out]; rfl⟩
        case measure => simp [intOf]; omega
      · go_ret
        exact ⟨ret_int (by rw [HI.out, HD.out, HP.out]; rfl), hB.trans (hb1.mono hB.size)⟩
    · go_wp2
      go_ret
      exact ⟨ret_int (by rw [HI.out, List.drop_of_length_le (by omega)]; rfl), hB⟩
theorem c_containsZ (A : Option Addr) (l : List (Int)) (c : Nat) (p : Int → Bool) (f : FuncId) (cap : Array Value) (w : World) (hl : l.length ≤ 100000) (hR : Rd zC 1 w A l)
    (he : ∀ args W, (callFunc f args).run Tryz.prog W = .ok (.enter f args) W)
    (hf : ∀ W x, Below w.heap.size w W → x ∈ l → Calls Tryz.prog f (#[.int .i64 x] ++ cap) W fun e W' => e = .returned (.bool (p x)) ∧ Below W.heap.size W W') :
    Calls Tryz.prog 76 #[.slice A l.length c, .func (.func f) #[] cap] w fun e w' => e = .returned (.bool (l.any p)) ∧ Below w.heap.size w w' := by
  have HC := Lib.hid (c_indexZ A l c p f cap w hl hR he hf)
  have HA := Lib.hid (idxOf_nonneg p l 0)
  clear he hf hR
  go_enter Tryz.func76, Tryz.ntmps76
  go_wp2_with (go_at_call 85; refine HC.out.mono ?_; rintro e w' ⟨rfl, hb⟩)
  go_ret
  exact ⟨ret_bool (by rw [Bool.eq_iff_iff, ← HA.out]; simp), hb⟩
end Go.Proofs.YtkeojokbpjdhpaaGreatDoor
namespace Go.Proofs.YtkeojokbpjdhpaaGreatDoor
open Go.RowKit Go.Shelf

theorem p_listed1 (d : Int) (A : Option Addr) (n c b : Nat) (w : World) (hn : n ≤ 100) (hb : Blk w b 22 #[.slice A n c]) :
    Calls Tryz.prog 77 #[.int .i64 d, .pointer (some ⟨b, 0, none⟩)] w fun e w' => e = .returned (.bool (!wn d 0 (2 * (n : Int) - 1))) ∧ w = w' := by
  have c0 := hb.cell 0
  simp only [List.getElem?_toArray, List.getElem?_cons_zero] at c0
  have hw1 : IntKind.i64.wrap (2 * (n : Int)) = 2 * (n : Int) := fits_wrap (by omega)
  have hw2 : IntKind.i64.wrap (2 * (n : Int) - 1) = 2 * (n : Int) - 1 := fits_wrap (by omega)
  cases h : wn d 0 (2 * (n : Int) - 1)
  all_goals
    have Q := Lib.hid (p_withinV h)
    clear h
    go_enter Tryz.func77, Tryz.ntmps77
    go_wp2_with (go_at_call 61; ((with_reducible refine (Q.out _).mono ?_); rintro e w' ⟨rfl, rfl⟩))
    go_ret
    exact ⟨rfl, rfl⟩
theorem any_lsB (n : Nat) (ds : List Int) : (ds.any fun d => !wn d 0 (2 * (n : Int) - 1)) = !ds.all fun d => wn d 0 (2 * (n : Int) - 1) := by induction ds <;> simp_all
theorem p_listed (A B : Option Addr) (n c d : Nat) (ds : List Int) (w : World) (hn : n ≤ 100) (hd : ds.length ≤ 100000) (hB : Rd zC 1 w B ds) :
    Calls Tryz.prog 51 #[.slice A n c, .slice B ds.length d] w fun e w' => e = .returned (.bool (lsB n ds)) ∧ Below w.heap.size w w' := by
  have x0 := Blk.new w 22 #[.slice A n c]
  have B0 := bl_alloc (below_refl w) (.cells #[.slice A n c] 22)
  have HC := Lib.hid (c_containsZ B ds d (fun x => !wn x 0 (2 * (n : Int) - 1)) 77 #[.pointer (some ⟨w.heap.size, 0, none⟩)] (w.alloc (.cells #[.slice A n c] 22)) hd (hB.on B0) (enters_of Tryz.func77 (by kernel_rfl) rfl)
    (fun W x hW _ => (p_listed1 x A n c w.heap.size W hn (x0.below hW x0.lt)).mono fun e w' ⟨h1, h2⟩ => ⟨h1, h2 ▸ below_refl _⟩))
  rw [any_lsB] at HC
  have HL := Lib.hid (show lsB n ds = (decide (ds.length ≤ 100) && ds.all fun d => wn d 0 (2 * (n : Int) - 1)) from rfl)
  generalize (ds.all fun d => wn d 0 (2 * (n : Int) - 1)) = V at *
  by_cases h1 : ds.length ≤ 100
  · have h1' : (ds.length : Int) ≤ 100 := by omega
    have d1 : decide ((ds.length : Int) ≤ 100) = true := decide_eq_true h1'
    have HE := Lib.hid (show lsB n ds = V by rw [HL.out]; simp [h1])
    cases V
    all_goals
      go_enter Tryz.func51, Tryz.ntmps51
      go_wp2_with fail
      refine HC.out.mono ?_
      rintro e w1 ⟨rfl, hb1⟩
      go_wp2
      go_ret
      exact ⟨ret_bool HE.out.symm, below_tr B0 hb1⟩
  · have h1' : ¬ (ds.length : Int) ≤ 100 := by omega
    have d1 : decide ((ds.length : Int) ≤ 100) = false := decide_eq_false h1'
    have HE := Lib.hid (show lsB n ds = false by rw [HL.out]; simp [h1])
    go_enter Tryz.func51, Tryz.ntmps51
    go_wp2
    go_ret
    exact ⟨ret_bool HE.out.symm, B0⟩
/-- marks as a number -/
def encM : List Bool → Nat
  | [] => 0
  | b :: t => b.toNat + 2 * encM t
theorem encM_bit : ∀ (M : List Bool) (i : Nat), (encM M).testBit i = M.getD i false
  | [], i => by simp [encM]
  | b :: t, 0 => by
    simp only [encM, Nat.testBit_zero]
    cases b <;> simp <;> omega
  | b :: t, i + 1 => by
    rw [Nat.testBit_succ]
    have : encM (b :: t) / 2 = encM t := by simp only [encM]; cases b <;> simp <;> omega
    rw [this, encM_bit t i]
    simp [List.getD]
theorem encM_set {M : List Bool} (h : M.length ≤ 24) : SetOf (encM M) M := ⟨h, encM_bit M⟩
theorem set_enc {x : Nat} {M : List Bool} (h : SetOf x M) : x = encM M := Nat.eq_of_testBit_eq fun i => by rw [h.2, encM_bit]
/-- the marks behind k deeds, as long as each is shown and not refused -/
def doM (sh : Nat → List Bool → Bool) (M : List Bool) (ds : List Int) : Nat → Option (List Bool)
  | 0 => some M
  | k + 1 => (doM sh M ds k).bind fun m => (dsB m (ds.getD k 0)).bind fun m' => if sh k m' = true then some m' else none
theorem doM_none {sh : Nat → List Bool → Bool} {M : List Bool} {ds : List Int} {k : Nat} (h : doM sh M ds k = none) : ∀ j, doM sh M ds (k + j) = none
  | 0 => h
  | j + 1 => by show (doM sh M ds (k + j)).bind _ = none; rw [doM_none h j]; rfl
theorem doM_len {sh : Nat → List Bool → Bool} {M m : List Bool} {ds : List Int} : ∀ (k : Nat), doM sh M ds k = some m → m.length = M.length := by
  intro k
  induction k generalizing m with
  | zero => intro h; cases h; rfl
  | succ k ih =>
    intro h
    simp only [doM] at h
    cases h1 : doM sh M ds k with
    | none => rw [h1] at h; cases h
    | some m1 =>
      rw [h1] at h
      simp only [Option.bind_some] at h
      cases h2 : dsB m1 (ds.getD k 0) with
      | none => rw [h2] at h; cases h
      | some m2 =>
        rw [h2] at h
        simp only [Option.bind_some] at h
        split at h
        · cases h; rw [dsB_len h2, ih h1]
        · cases h
def doneV (o : Option (List Bool)) : Value := match o with
  | some m => .tuple #[.int .u32 (encM m), .bool true]
  | none => .tuple #[.int .u32 0, .bool false]
theorem testBit_not32 (i j : Nat) (hi : i < 32) (hj : j < 32) : (4294967295 - 2 ^ i).testBit j = decide (j ≠ i) := by
  have h := Nat.testBit_two_pow_sub_succ (n := 32) (x := 2 ^ i) (Nat.pow_lt_pow_right (by omega) hi) j
  rw [show 2 ^ 32 - (2 ^ i + 1) = 4294967295 - 2 ^ i by omega] at h
  rw [h, Nat.testBit_two_pow]
  simp [hj, eq_comm]
theorem away_val {x i : Nat} {M : List Bool} (h : SetOf x M) (hi : i < M.length) : bits BinOp.andNot IntKind.u32 (x : Int) ((2 : Int) ^ i % 4294967296) = (encM (M.set i false) : Nat) := by
  have hi24 := h.1
  have h2 : 2 ^ i < 4294967296 := by have := Nat.pow_lt_pow_right (a := 2) (by omega) (show i < 32 by omega); simpa using this
  have e : ((2 : Int) ^ i % 4294967296) = ((2 ^ i : Nat) : Int) := by
    have e1 : (2 : Int) ^ i = ((2 ^ i : Nat) : Int) := by simp
    rw [e1]; exact (fun (y : Nat) (hy : y < 4294967296) => (by omega : ((y : Int) % 4294967296) = y)) _ h2
  have hx := h.lt
  rw [e, u32_andNot_nat x (2 ^ i) (by omega) h2]
  congr 1
  refine set_enc (set_away h hi fun j => ?_)
  rw [Nat.testBit_and]
  by_cases hj : j < 32
  · rw [testBit_not32 i j (by omega) hj]
  · have : x.testBit j = false := by rw [h.2]; exact gd_out (by omega)
    rw [this]; simp
theorem add_val {x i : Nat} {M : List Bool} (h : SetOf x M) (hi : i < M.length) : bits BinOp.or IntKind.u32 (x : Int) ((2 : Int) ^ i % 4294967296) = (encM (M.set i true) : Nat) := by
  have hi24 := h.1
  have h2 : 2 ^ i < 4294967296 := by have := Nat.pow_lt_pow_right (a := 2) (by omega) (show i < 32 by omega); simpa using this
  have e : ((2 : Int) ^ i % 4294967296) = ((2 ^ i : Nat) : Int) := by
    have e1 : (2 : Int) ^ i = ((2 ^ i : Nat) : Int) := by simp
    rw [e1]; exact (fun (y : Nat) (hy : y < 4294967296) => (by omega : ((y : Int) % 4294967296) = y)) _ h2
  have hx := h.lt
  rw [e, u32_or_nat x (2 ^ i) (by omega) h2]
  congr 1
  exact set_enc (set_add h hi)
theorem dsB_even {m : List Bool} {i : Nat} (h : m.getD i false = true) : dsB m (2 * (i : Int)) = some (m.set i false) := by
  unfold dsB
  have e1 : (2 * (i : Int) / 2).toNat = i := by omega
  have e2 : (2 * (i : Int)) % 2 = 0 := by omega
  rw [e1, e2, h]; simp
theorem dsB_even0 {m : List Bool} {i : Nat} (h : m.getD i false = false) : dsB m (2 * (i : Int)) = none := by
  unfold dsB
  have e1 : (2 * (i : Int) / 2).toNat = i := by omega
  have e2 : (2 * (i : Int)) % 2 = 0 := by omega
  rw [e1, e2, h]; simp
theorem dsB_odd {m : List Bool} {i : Nat} (h : m.getD i false = false) : dsB m (2 * (i : Int) + 1) = some (m.set i true) := by
  unfold dsB
  have e1 : ((2 * (i : Int) + 1) / 2).toNat = i := by omega
  have e2 : ¬ (2 * (i : Int) + 1) % 2 = 0 := by omega
  rw [e1, h]; simp [e2]
theorem dsB_odd0 {m : List Bool} {i : Nat} (h : m.getD i false = true) : dsB m (2 * (i : Int) + 1) = none := by
  unfold dsB
  have e1 : ((2 * (i : Int) + 1) / 2).toNat = i := by omega
  have e2 : ¬ (2 * (i : Int) + 1) % 2 = 0 := by omega
  rw [e1, h]; simp [e2]
set_option maxHeartbeats 4000000 in
set_option maxRecDepth 20000 in
theorem p_done (A B : Option Addr) (l : List Pr) (ds : List Int) (c d : Nat) (f : FuncId) (cap : Array Value) (sh : Nat → List Bool → Bool) (w : World) (hl : l.length ≤ 24) (hd : ds.length ≤ 100000) (hls : ∀ x ∈ ds, 0 ≤ x ∧ x < 2 * (l.length : Int)) (hB : Rd zC 1 w B ds)
    (he : ∀ args W, (callFunc f args).run Tryz.prog W = .ok (.enter f args) W)
    (hf : ∀ (W : World) (k : Nat) (m : List Bool), Below w.heap.size w W → k < ds.length → m.length = l.length → Calls Tryz.prog f (#[.int .i64 k, .int .u32 (encM m)] ++ cap) W fun e W' => e = .returned (.bool (sh k m)) ∧ Below W.heap.size W W') :
    Calls Tryz.prog 52 #[.slice A l.length c, .slice B ds.length d, .func (.func f) #[] cap] w fun e w' => e = .returned (doneV (doM sh (List.replicate l.length true) ds ds.length)) ∧ Below w.heap.size w w' := by
  have HF := Lib.hid hf
  have HLS := Lib.hid hls
  have HFU := Lib.hid (fun W => p_full A l.length c W hl)
  have hfull : (2 ^ l.length - 1) = encM (List.replicate l.length true) := set_enc (set_full hl)
  rw [hfull] at HFU
  obtain ⟨M0, hM0⟩ : ∃ M0, M0 = List.replicate l.length true := ⟨_, rfl⟩
  rw [← hM0] at HFU ⊢
  have hM0l : M0.length = l.length := by rw [hM0]; simp
  clear hf hls hfull hM0
  obtain ⟨R, hR⟩ : ∃ R, R = doM sh M0 ds ds.length := ⟨_, rfl⟩
  have HNO := Lib.hid (fun k (hk : k < ds.length) (h : doM sh M0 ds (k + 1) = none) => (show R = none from by
    rw [hR]; have := doM_none h (ds.length - (k + 1)); rwa [show k + 1 + (ds.length - (k + 1)) = ds.length by omega] at this))
  have HRR := Lib.hid hR
  rw [← hR]
  have HST := Lib.hid (fun k m (h : doM sh M0 ds k = some m) d (hd : ds[k]? = some d) => (show doM sh M0 ds (k + 1) = (dsB m d).bind fun m' => if sh k m' = true then some m' else none by
    simp only [doM, h, Option.bind_some]; rw [show ds.getD k 0 = d by simp [List.getD, hd]]))
  have HLN := Lib.hid (fun k m (h : doM sh M0 ds k = some m) => (doM_len k h).trans hM0l)
  clear hR
  go_enter Tryz.func52, Tryz.ntmps52
  go_wp2
  go_step3
  go_wp2_with (go_at_call 16; ((with_reducible refine (HFU.out _).mono ?_); rintro e w' ⟨rfl, rfl⟩))
  go_step3
  go_wp2
  go_loopw [8, 16] (fun s i wr => ∃ (k : Nat) (m : List Bool), k ≤ ds.length ∧ i = .int .i64 k ∧ s = .int .u32 (encM m) ∧ Hid (doM sh M0 ds k = some m) ∧ Below w.heap.size w wr) (fun _ i _ => ds.length - (intOf i).toNat)
  case atStart => exact ⟨0, M0, by omega, rfl, rfl, Lib.hid rfl, below_refl _⟩
  case round =>
    obtain ⟨k, m, hk, rfl, rfl, HD, hbw⟩ := hrel
    have k0 : (0 : Int) ≤ (k : Int) := Int.natCast_nonneg _
    by_cases hlt : k < ds.length
    · have k1 : (k : Int) < (ds.length : Int) := by omega
      obtain ⟨x, b, off, hx, rfl, hb, c0⟩ := rd_int (hB.on hbw) hlt
      obtain ⟨x0, x1⟩ := HLS.out x (List.mem_of_getElem? hx)
      have HN := Lib.hid (HNO.out k hlt)
      have hstp := HST.out k m HD.out x hx
      have hml := HLN.out k m HD.out
      have hset := encM_set (show m.length ≤ 24 by omega)
      rename World => wr
      have hpar : (∃ i : Nat, x = 2 * (i : Int)) ∨ ∃ i : Nat, x = 2 * (i : Int) + 1 := by
        rcases Int.emod_two_eq x with h | h
        · exact .inl ⟨(x / 2).toNat, by omega⟩
        · exact .inr ⟨(x / 2).toNat, by omega⟩
      clear hx HST HNO
      rcases hpar with ⟨i, hxe⟩ | ⟨i, hxe⟩
      · have hi0 : (0 : Int) ≤ (i : Int) := Int.natCast_nonneg _
        have hi1 : (i : Int) < 32 := by omega
        have hq : x / 2 = (i : Int) := by omega
        have hr : x % 2 = 0 := by omega
        have hq2 : x.tdiv 2 = (i : Int) := by rw [Int.tdiv_eq_ediv_of_nonneg x0]; exact hq
        have hr2 : x.tmod 2 = 0 := by rw [Int.tmod_eq_emod_of_nonneg x0]; exact hr
        have hwi : IntKind.i64.wrap (i : Int) = i := fits_wrap (by omega)
        have hil : i < l.length := by omega
        cases hmi : m.getD i false
        · have HE := Lib.hid (show doneV R = .tuple #[.int .u32 0, .bool false] by rw [HN.out (by rw [hstp, hxe, dsB_even0 hmi]; rfl)]; rfl)
          have HH := Lib.hid (fun W => p_has (encM m) i W (by have := hset.lt; omega) (by omega))
          rw [encM_bit, hmi] at HH
          clear hstp hset HN hxe
          go_wp2_with (go_at_call 78; ((with_reducible refine (HH.out _).mono ?_); rintro e w' ⟨rfl, rfl⟩))
          rw [Exit.noGoto_ret]
          go_ret2
          exact ⟨by rw [HE.out]; rfl, hbw⟩
        · have hst2 := hstp
          rw [hxe, dsB_even hmi] at hst2
          simp only [Option.bind_some] at hst2
          have ha := away_val hset (show i < m.length by omega)
          have hlen2 : (m.set i false).length = l.length := by rw [List.length_set]; exact hml
          have HH := Lib.hid (fun W => p_has (encM m) i W (by have := hset.lt; omega) (by omega))
          rw [encM_bit, hmi] at HH
          have HC := Lib.hid (HF.out wr k (m.set i false) hbw hlt hlen2)
          generalize m.set i false = m2 at *
          clear hstp hset hxe
          cases hsh : sh k m2
          · rw [hsh] at HC hst2
            have HE := Lib.hid (show doneV R = .tuple #[.int .u32 0, .bool false] by rw [HN.out (by rw [hst2]; rfl)]; rfl)
            clear hst2 hsh HN
            go_wp2_with (go_at_call 78; ((with_reducible refine (HH.out _).mono ?_); rintro e w' ⟨rfl, rfl⟩))
            refine HC.out.mono ?_
            rintro e w5 ⟨rfl, hb5⟩
            go_wp2
            rw [Exit.noGoto_ret]
            go_ret2
            exact ⟨by rw [HE.out]; rfl, below_tr hbw hb5⟩
          · rw [hsh] at HC hst2
            have HD2 := Lib.hid (show doM sh M0 ds (k + 1) = some m2 by rw [hst2]; rfl)
            clear hst2 hsh HN
            go_wp2_with (go_at_call 78; ((with_reducible refine (HH.out _).mono ?_); rintro e w' ⟨rfl, rfl⟩))
            refine HC.out.mono ?_
            rintro e w5 ⟨rfl, hb5⟩
            go_wp2
            go_roundw
            case rel => exact ⟨k + 1, m2, by omega, by go_num, rfl, HD2.out, below_tr hbw hb5⟩
            case measure => simp [intOf]; omega
      · have hi0 : (0 : Int) ≤ (i : Int) := Int.natCast_nonneg _
        have hi1 : (i : Int) < 32 := by omega
        have hq : x / 2 = (i : Int) := by omega
        have hr : x % 2 = 1 := by omega
        have hq2 : x.tdiv 2 = (i : Int) := by rw [Int.tdiv_eq_ediv_of_nonneg x0]; exact hq
        have hr2 : x.tmod 2 = 1 := by rw [Int.tmod_eq_emod_of_nonneg x0]; exact hr
        have hwi : IntKind.i64.wrap (i : Int) = i := fits_wrap (by omega)
        have hil : i < l.length := by omega
        cases hmi : m.getD i false
        · have hst2 := hstp
          rw [hxe, dsB_odd hmi] at hst2
          simp only [Option.bind_some] at hst2
          have ha := add_val hset (show i < m.length by omega)
          have hlen2 : (m.set i true).length = l.length := by rw [List.length_set]; exact hml
          have HH := Lib.hid (fun W => p_has (encM m) i W (by have := hset.lt; omega) (by omega))
          rw [encM_bit, hmi] at HH
          have HC := Lib.hid (HF.out wr k (m.set i true) hbw hlt hlen2)
          generalize m.set i true = m2 at *
          clear hstp hset hxe
          cases hsh : sh k m2
          · rw [hsh] at HC hst2
            have HE := Lib.hid (show doneV R = .tuple #[.int .u32 0, .bool false] by rw [HN.out (by rw [hst2]; rfl)]; rfl)
            clear hst2 hsh HN
            go_wp2_with (go_at_call 78; ((with_reducible refine (HH.out _).mono ?_); rintro e w' ⟨rfl, rfl⟩))
            refine HC.out.mono ?_
            rintro e w5 ⟨rfl, hb5⟩
            go_wp2
            rw [Exit.noGoto_ret]
            go_ret2
            exact ⟨by rw [HE.out]; rfl, below_tr hbw hb5⟩
          · rw [hsh] at HC hst2
            have HD2 := Lib.hid (show doM sh M0 ds (k + 1) = some m2 by rw [hst2]; rfl)
            clear hst2 hsh HN
            go_wp2_with (go_at_call 78; ((with_reducible refine (HH.out _).mono ?_); rintro e w' ⟨rfl, rfl⟩))
            refine HC.out.mono ?_
            rintro e w5 ⟨rfl, hb5⟩
            go_wp2
            go_roundw
            case rel => exact ⟨k + 1, m2, by omega, by go_num, rfl, HD2.out, below_tr hbw hb5⟩
            case measure => simp [intOf]; omega
        · have HE := Lib.hid (show doneV R = .tuple #[.int .u32 0, .bool false] by rw [HN.out (by rw [hstp, hxe, dsB_odd0 hmi]; rfl)]; rfl)
          have HH := Lib.hid (fun W => p_has (encM m) i W (by have := hset.lt; omega) (by omega))
          rw [encM_bit, hmi] at HH
          clear hstp hset HN hxe
          go_wp2_with (go_at_call 78; ((with_reducible refine (HH.out _).mono ?_); rintro e w' ⟨rfl, rfl⟩))
          rw [Exit.noGoto_ret]
          go_ret2
          exact ⟨by rw [HE.out]; rfl, hbw⟩
    · obtain rfl : k = ds.length := by omega
      have HE := Lib.hid (show doneV R = .tuple #[.int .u32 (encM m), .bool true] by rw [HRR.out, HD.out]; rfl)
      go_wp2
      rw [Exit.noGoto_ret]
      go_ret2
      exact ⟨by rw [HE.out]; rfl, hbw⟩
end Go.Proofs.YtkeojokbpjdhpaaGreatDoor
