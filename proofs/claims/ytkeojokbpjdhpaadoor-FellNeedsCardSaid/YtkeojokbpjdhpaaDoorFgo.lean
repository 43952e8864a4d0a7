/- Fell: of, by the program: the spots of a set of props. -/
import Derived.Test.YtkeojokbpjdhpaaDoorFga
import Derived.Test.YtkeojokbpjdhpaaDoorFgs
set_option linter.unusedSimpArgs false
set_option linter.unusedVariables false
namespace Go.Proofs.YtkeojokbpjdhpaaDoor
open Go.RowKit Go.Shelf
attribute [local go_sem] Oper.semAt_some

section
variable {P : Program}
theorem step_append_hat {ops : Array Oper} {o : Oper} {a : Act} {w : World} {K : Act → World → Prop} {Q : Exit → Act → World → Prop} {E : Prop} (hgd : o.guard = none) (s x : Operand) (t : TypeId)
    (ho : o.op = .call { callee := .builtin .append, args := #[s, x], argTypes := #[t, t] })
    (base : Nat) (e : TypeId) (i : TypeInfo) (z : Value) (size bytes : Nat) (ht : P.underlying t = some (.slice e)) (hi : P.info? e = some i) (hz : i.zero = some z)
    (hsize : i.size = size) (hby : i.bytes = bytes) (hzs : z.cells.size = size) (hsz : 0 < size)
    (v : Value) (n : Nat) (xs : List Value) (hs : a.eval s = v) (hown : w.ownsRow base e size v n xs)
    (ad : Addr) (m c : Nat) (news : List Value) (hx : a.eval x = .slice (some ad) m c) (hl : news.length = m * size) (hnews : ∀ j u, news[j]? = some u → w.cell? (ad.add j) = some u) (h1 : ∀ u ∈ news, u.oneCell' = true)
    (h63 : n + m ≤ maxLen) (hbytes : (n + m) * bytes ≤ 140737488355328) (hbase : base ≤ w.heap.size)
    (h : ∀ v' w', w'.ownsRow base e size v' (n + m) (xs ++ news) → w.grownBy w' v.ownBlock → (v'.ownBlock = v.ownBlock ∨ v'.ownBlock = some w.heap.size) → K (a.put o.dst v') w') :
    if Region.wanted o (yielded ops a.tmps) = true then Oper.wp P o a w K Q else E := by
  have hw : Region.wanted o (yielded ops a.tmps) = true := by simp [Region.wanted, hgd]
  rw [if_pos hw]
  obtain ⟨v', w', hr, h2, h3, _, h5⟩ := Go.run_append_own_at (P := P) w base t o.type e i z size bytes ht hi hz hsize hby hzs hsz v n xs hown ad m c news hl hnews h1 h63 hbytes hbase
  unfold Oper.wp execOp
  simp only [ho, resolve, invoke, builtin, Sem.run_bind, Sem.run_pure, Result.andThen_ok, List.map_toArray, List.map_cons, List.map_nil, hs, hx, hr]
  exact h v' w' h2 h3 h5
end
theorem mM_lt {M : List Bool} {pre rest : List Nat} {i : Nat} (h : mM M = pre ++ i :: rest) : i < M.length := by
  have : i ∈ mM M := by rw [h]; simp
  unfold mM at this; rw [List.mem_filter] at this; simpa using this.1
theorem mM_len (M : List Bool) : (mM M).length ≤ M.length := by
  unfold mM
  have := List.length_filter_le (fun i => M.getD i false) (List.range M.length)
  simpa using this
theorem own_lenS {base n : Nat} {W : World} {v : Value} {l : List Sp} (h : W.ownsRow base 24 2 v n (fl Sp.cs l)) (e : l.length = n) : OwnP base W v l := by subst e; exact h
def atS (l : List Pr) (i : Nat) : Sp := (prAt l i).a
theorem lfS_map (l : List Pr) (M : List Bool) : lfS l M = (mM M).map (atS l) := rfl
set_option maxHeartbeats 4000000 in
set_option maxRecDepth 20000 in
theorem p_of (A : Option Addr) (l : List Pr) (c x : Nat) (M : List Bool) (w : World) (hx : SetOf x M) (hM : M.length = l.length) (hT : Tab w) (hR : Rd Pr.cs 3 w A l) :
    Calls Tryd.prog 42 #[.slice A l.length c, .int .u32 x] w fun e w' => ∃ v, e = .returned v ∧ OwnP w.heap.size w' v (lfS l M) ∧ Below w.heap.size w w' := by
  have hl24 : l.length ≤ 24 := by have := hx.1; omega
  have hxs := set_mL hx
  have hx32 : x < 4294967296 := by have := hx.lt; omega
  clear hx
  refine (callsIn_wide (n := 6)).1 ?_
  refine callsIn_of_wp_marks Tryd.func42 rfl trivial ?_ rfl
  simp only [Tryd.ntmps42, List.size_toArray, List.length_cons, List.length_nil, Nat.reduceAdd, Nat.reduceSub, Array.replicate_succ, Array.replicate_zero, List.push_toArray, List.append_toArray, List.nil_append, List.cons_append]
  gi_wp2
  refine ⟨trivial, ?_⟩
  refine (callsIn_wide.2 (p_all x _)).mono ?_
  rintro e w1 ⟨rfl, rfl⟩
  gi_wp2
  have x1 := ((Blk.new w 22 #[.slice A l.length c]).alloc (.cells #[.slice none 0 0] 50)).alloc (.cells #[.int .u32 x] 58)
  have x2 := (Blk.new (w.alloc (.cells #[.slice A l.length c] 22)) 50 #[.slice none 0 0]).alloc (.cells #[.int .u32 x] 58)
  have x3 := Blk.new ((w.alloc (.cells #[.slice A l.length c] 22)).alloc (.cells #[.slice none 0 0] 50)) 58 #[.int .u32 x]
  have BB : Below w.heap.size w (((w.alloc (.cells #[.slice A l.length c] 22)).alloc (.cells #[.slice none 0 0] 50)).alloc (.cells #[.int .u32 x] 58)) := bl_alloc (bl_alloc (bl_alloc (below_refl w) _) _) _
  have zz : (((w.alloc (.cells #[.slice A l.length c] 22)).alloc (.cells #[.slice none 0 0] 50)).alloc (.cells #[.int .u32 x] 58)).heap.size = w.heap.size + 3 := by simp
  simp only [World.size_alloc] at x1 x2 x3
  generalize ((w.alloc (.cells #[.slice A l.length c] 22)).alloc (.cells #[.slice none 0 0] 50)).alloc (.cells #[.int .u32 x] 58) = w6 at *
  have hR6 := hR.on BB
  have hT6 := TabAt.on hT BB
  have h0w := Tab.lt hT
  have hAd : ∀ ad, A = some ad → l ≠ [] → ad.block < w.heap.size := by
    rintro ad rfl hne
    obtain ⟨b', off', e, hlt, _⟩ := hR hne
    cases e; exact hlt
  refine wp_rangeK (by omega) (gf := 68) (lb := #[.pointer (some ⟨w.heap.size + 1 + 1, 0, none⟩)]) rfl enters_all (encs := inI) (xs := mL x) (R := fun b => b = 0 ∨ b = w.heap.size + 2) (K := fun b => b = w.heap.size + 2)
    (all_seq _ (by omega) _ x _ _ _ hx32 x3 hT6 (.inr rfl) (.inl rfl) rfl (by omega)) (fun b h => .inr h) (Stp.refl _ _) (fun _ => rfl) (by rintro b (hb | hb) <;> omega)
    (fun pre N W => ((Below w.heap.size w W ∧ w.heap.size ≤ W.heap.size) ∧ Blk W w.heap.size 22 #[.slice A l.length c]) ∧ ∃ v, Blk W (w.heap.size + 1) 50 #[v] ∧ W.ownsRow (w6.heap.size + 2) 24 2 v pre.length (fl Sp.cs (pre.map (atS l))) ∧ ∀ b, v.ownBlock = some b → ¬ N b)
    (fun _ _ _ _ => False)
    ?h5 ?h6 ?h7 ?round ?done ?stop
  case h5 => exact ((abideK_below (by omega) (fun b hb => by omega)).and (abideK_blk _ (by omega) (by omega))).and (abideK_row _ _ (by omega) (fun b hb => by omega))
  case h6 => exact fun k => abideK_pure _
  case h7 => exact ⟨⟨⟨BB, by omega⟩, x1⟩, _, x2, World.ownsRow_nil w6 _ _ _, fun _ h => by cases h⟩
  case stop => rintro k pre rest N W _ h; exact h.elim
  case done =>
    rintro N W ⟨⟨⟨hB, hz⟩, _⟩, v, hv, hr, _⟩ hK
    obtain ⟨ad, cp, rfl⟩ := ownsRow_slice hr
    have q := hv.cell 0
    simp only [List.getElem?_toArray, List.getElem?_cons_zero] at q
    gi_wp2
    refine ⟨by simp, .inl ⟨_, _, rfl, run_takeDeferred hK, ?_⟩⟩
    have hst := Stp.putObj (Stp.refl (fun b => b = w6.heap.size) W) (.inl rfl) (.deferred none)
    rw [hxs] at hr
    exact ⟨_, results_tmp rfl _ _ _, _, rfl, own_lenS (ownsRow_base (ownsRow_stp hr hst fun b hb => by have := (ownBlock_ge hr b hb).1; omega) (by omega)) (by rw [lfS_map, List.length_map]), hB.trans (hst.toBelow hz (fun b hb => by omega))⟩
  case round =>
    rintro L pre i rest N W hpx ⟨⟨⟨hB, hz⟩, hlb⟩, v, hv, hr, hvm⟩ hM2 hsz
    have hiM := mM_lt (hxs ▸ hpx)
    rw [hM] at hiM
    simp only [inI, setAll1, List.setIfInBounds_toArray, List.set_cons_zero, List.set_cons_succ]
    gi_wp2
    refine ⟨Stp.refl _ _, fun W2 hsz2 hst2 => ?_⟩
    have e1 := hst2.blk hv (by omega)
    have e2 := hst2.blk hlb (by omega)
    have r2 := ownsRow_stp hr hst2 (fun b hb => by have := (ownBlock_ge hr b hb).1; omega)
    have hB2 : Below w.heap.size w W2 := hB.trans (Stp.toBelow hst2 (by omega) (fun b hb => by omega))
    obtain ⟨p, b, off, hp, rfl, hb, c0, c1, c2⟩ := rdP (hR.on hB2) hiM
    have hbw := hAd _ rfl (by intro e; rw [e] at hiM; simp at hiM)
    have HAT := Lib.hid (show atS l i = p.a by unfold atS; rw [prAt_of hp])
    obtain ⟨ad, cp, rfl⟩ := ownsRow_slice hr
    have q1 := e1.cell 0
    have f1 := e1.frozen 0
    have le1 := e1.lt
    have le2 := e2.lt
    have q2 := e2.cell 0
    simp only [List.getElem?_toArray, List.getElem?_cons_zero] at q1 q2
    have hlen : pre.length ≤ 2000 := by
      have h1 := congrArg List.length hpx
      rw [hxs] at h1
      simp only [List.length_append, List.length_cons] at h1
      have := mM_len M
      omega
    have hrowne : ∀ b, (Value.slice ad pre.length cp).ownBlock = some b → w6.heap.size + 2 ≤ b := fun b hb => (ownBlock_ge hr b hb).1
    obtain ⟨i0, hi, hi1, hi2, hi3⟩ := info_spot
    have hsa : W2.heap.size ≤ W.heap.size := by omega
    have hsb : W.heap.size ≤ W2.heap.size := by omega
    have i0' : (0 : Int) ≤ (i : Int) := Int.natCast_nonneg _
    have i1' : (i : Int) < (l.length : Int) := by omega
    clear hsz2 hp hv hlb hR6 hT6 hst2 hB hz
    gi_wp2
    have HS := Lib.hid (fun (U : World) (h1 : U.heap[w.heap.size]? = W2.heap[w.heap.size]?) (h2 : U.heap[b]? = W2.heap[b]?) => (show U.cell? ⟨w.heap.size, 0, none⟩ = some (.slice (some ⟨b, off, none⟩) l.length c) ∧ U.cell? ⟨b, off + i * 3, none⟩ = some (.int .i64 p.a.x) ∧ U.cell? ⟨b, off + i * 3 + 1, none⟩ = some (.int .i64 p.a.y) from
      ⟨(World.cell?_of_block (w := W2) (w' := U) (a := ⟨w.heap.size, 0, none⟩) h1).trans q2, (World.cell?_of_block (w := W2) (w' := U) (a := ⟨b, off + i * 3, none⟩) h2).trans c0, (World.cell?_of_block (w := W2) (w' := U) (a := ⟨b, off + i * 3 + 1, none⟩) h2).trans c1⟩))
    have hmk : ∀ (U2 : World) (g cap : Nat), (W2.drew.alloc (.cells (Sp.cs p.a).toArray 24)).grownBy U2 (Value.slice ad pre.length cp).ownBlock → ∀ N : Nat → Prop, N (w.heap.size + 1) → (∀ r, (Value.slice ad pre.length cp).ownBlock = some r → N r ∨ W2.heap.size ≤ r) → Stp N W2 (U2.setCell ⟨w.heap.size + 1, 0, none⟩ (.slice (some ⟨g, 0, none⟩) (pre.length + 1) cap)) := fun U2 g cap hgrow N h1 h2 =>
      (((Stp.refl N W2).drew.alloc _).grown hgrow h2).setCell (.inl h1) _
    refine wpIn_round_held (fun w' => w'.cell? ⟨w.heap.size, 0, none⟩ = some (.slice (some ⟨b, off, none⟩) l.length c) ∧ w'.cell? ⟨b, off + i * 3, none⟩ = some (.int .i64 p.a.x) ∧ w'.cell? ⟨b, off + i * 3 + 1, none⟩ = some (.int .i64 p.a.y)) (by kernel_rfl) (by omega) (by rintro ⟨_, _, h⟩; exact h) (by kernel_rfl) (HS.out W2.drew rfl rfl) (fun hS => ?_)
    refine wpAnyH_take (i := 1) (oi := { dst := some 11, op := _, type := _, pos := _, after := _, guard := none }) (v := .slice (some ⟨b, off, none⟩) l.length c) rfl (by kernel_rfl) (by kernel_rfl) (by kernel_rfl) (fun _ _ _ h => h) (Or.inl ⟨by rfl, ?gy1⟩) (by assumption) ?_
    case gy1 => (intro w' hSw; (try dsimp only at hSw); go_split_ands; go_simp)
    try simp only [Act.put, List.setIfInBounds_toArray, List.set_cons_zero, List.set_cons_succ]
    refine wpAnyH_take (i := 2) (oi := { dst := some 12, op := _, type := _, pos := _, after := _, guard := none }) (v := .int .i64 i) rfl (by kernel_rfl) (by kernel_rfl) (by kernel_rfl) (fun _ _ _ h => h) (Or.inl ⟨by rfl, ?gy2⟩) (by assumption) ?_
    case gy2 => (intro w' hSw; (try dsimp only at hSw); go_split_ands; go_simp)
    try simp only [Act.put, List.setIfInBounds_toArray, List.set_cons_zero, List.set_cons_succ]
    refine wpAnyH_take (i := 3) (oi := { dst := some 13, op := _, type := _, pos := _, after := _, guard := none }) (v := .pointer (some ⟨b, off + i * 3, none⟩)) rfl (by kernel_rfl) (by kernel_rfl) (by kernel_rfl) (fun _ _ _ h => h) (Or.inl ⟨by rfl, ?gy3⟩) (by assumption) ?_
    case gy3 => (intro w' hSw; (try dsimp only at hSw); go_split_ands; go_simp)
    try simp only [Act.put, List.setIfInBounds_toArray, List.set_cons_zero, List.set_cons_succ]
    refine wpAnyH_take (i := 4) (oi := { dst := some 14, op := _, type := _, pos := _, after := _, guard := none }) (v := .pointer (some ⟨b, off + i * 3, none⟩)) rfl (by kernel_rfl) (by kernel_rfl) (by kernel_rfl) (fun _ _ _ h => h) (Or.inl ⟨by rfl, ?gy4⟩) (by assumption) ?_
    case gy4 => (intro w' hSw; (try dsimp only at hSw); go_split_ands; go_simp)
    try simp only [Act.put, List.setIfInBounds_toArray, List.set_cons_zero, List.set_cons_succ]
    refine wpAnyH_take (i := 5) (oi := { dst := some 15, op := _, type := _, pos := _, after := _, guard := none }) (v := .agg #[.int .i64 p.a.x, .int .i64 p.a.y]) rfl (by kernel_rfl) (by kernel_rfl) (by kernel_rfl) (fun _ _ _ h => h) (Or.inl ⟨by rfl, ?gy5⟩) (by assumption) ?_
    case gy5 => (intro w' hSw; (try dsimp only at hSw); go_split_ands; go_simp)
    try simp only [Act.put, List.setIfInBounds_toArray, List.set_cons_zero, List.set_cons_succ]
    refine wpAnyH_ready (rs := [0, 6]) (by kernel_rfl) (by simp) ?_
    refine AllReadyH.cons rfl (fun K hK => ?_) (AllReadyH.cons rfl (fun K hK => ?_) AllReadyH.nil)
    · go_simp
      refine hK.out _ _ (HS.out W2.drew rfl rfl) (fun hS => ?_)
      clear hK K
      try simp only [Act.put, List.setIfInBounds_toArray, List.set_cons_zero, List.set_cons_succ]
      refine wpAnyH_ready (rs := [6]) (by kernel_rfl) (by simp) ?_
      refine AllReadyH.cons rfl (fun K hK => ?_) AllReadyH.nil
      go_simp
      refine hK.out _ _ (HS.out (W2.drew.alloc (.cells (Sp.cs p.a).toArray 24)) (Below.heap_alloc W2.drew _ _ (by show w.heap.size < W2.heap.size; omega)) (Below.heap_alloc W2.drew _ _ (by show b < W2.heap.size; omega))) (fun hS => ?_)
      clear hK K
      try simp only [Act.put, List.setIfInBounds_toArray, List.set_cons_zero, List.set_cons_succ]
      refine wpAnyH_ready (rs := [7]) (by kernel_rfl) (by simp) ?_
      refine AllReadyH.cons rfl (fun K hK => ?_) AllReadyH.nil
      refine step_append_hat (by rfl) _ _ _ (by rfl) (w6.heap.size + 2) 24 i0 (.agg #[.int .i64 0, .int .i64 0]) 2 16 Tryd.underlying50 hi hi1 hi2 hi3 rfl (by omega) (.slice ad pre.length cp) pre.length _ (by rfl) (ownsRow_stp r2 ((Stp.refl (fun _ => False) W2).drew.alloc _) (fun _ _ h => h)) ⟨W2.heap.size, 0, none⟩ 1 1 (Sp.cs p.a) (by rfl) rfl (cells_new W2.drew (Sp.cs p.a) 24) (spC_one p.a) (by unfold maxLen; omega) (by omega) (by simp; omega) ?_
      intro v' U2 hown hgrow hat
      obtain ⟨g, cap, rfl⟩ := ownsRow_succ hown
      have k0 : U2.heap[w.heap.size]? = W2.heap[w.heap.size]? := (hgrow.block w.heap.size (by simp; omega) (fun h => by have := hrowne _ h.symm; omega)).trans (Below.heap_alloc W2.drew _ _ (by show w.heap.size < W2.heap.size; omega))
      have k1 : U2.heap[w.heap.size + 1]? = W2.heap[w.heap.size + 1]? := (hgrow.block (w.heap.size + 1) (by simp; omega) (fun h => by have := hrowne _ h.symm; omega)).trans (Below.heap_alloc W2.drew _ _ (by show w.heap.size + 1 < W2.heap.size; omega))
      have k2 : U2.heap[b]? = W2.heap[b]? := (hgrow.block b (by simp; omega) (fun h => by have := hrowne _ h.symm; omega)).trans (Below.heap_alloc W2.drew _ _ (by show b < W2.heap.size; omega))
      have e42 : Blk U2 (w.heap.size + 1) 50 #[.slice ad pre.length cp] := k1.trans e1
      have q42 := e42.cell 0
      have f42 := e42.frozen 0
      simp only [List.getElem?_toArray, List.getElem?_cons_zero] at q42
      have l42 := e42.lt
      refine hK.out _ _ (HS.out U2 k0 k2) (fun hS => ?_)
      clear hK K
      try simp only [Act.put, List.setIfInBounds_toArray, List.set_cons_zero, List.set_cons_succ]
      refine wpAnyH_ready (rs := [8]) (by kernel_rfl) (by simp) ?_
      refine AllReadyH.cons rfl (fun K hK => ?_) AllReadyH.nil
      go_simp
      refine hK.out _ _ (HS.out _ ((Below.heap_setCell U2 _ _ _ (by show w.heap.size ≠ w.heap.size + 1; omega)).trans k0) ((Below.heap_setCell U2 _ _ _ (by show b ≠ w.heap.size + 1; omega)).trans k2)) (fun hS => ?_)
      clear hK K
      try simp only [Act.put, List.setIfInBounds_toArray, List.set_cons_zero, List.set_cons_succ]
      refine wpAnyH_done (by kernel_rfl) ?_ _
      gi_wp2
      have hst := hmk U2 g cap hgrow (fun b => b = w.heap.size + 1 ∨ w6.heap.size + 2 ≤ b) (.inl rfl) (fun r hr' => .inl (.inr (hrowne r hr')))
      refine ⟨hmk U2 g cap hgrow _ ?_ ?_, ⟨⟨hB2.trans (hst.toBelow (by omega) (fun b hb => by omega)), Nat.le_trans hB2.size hst.size⟩, hst.blk e2 (by omega)⟩, _, e42.set_ 0 _, ?_, ?_⟩
      · rintro (h | (h | h) | h | h)
        · have := (hM2 _ h).1; omega
        all_goals omega
      · intro r' hr'
        have := hrowne r' hr'
        refine .inl ?_
        rintro (h | (h | h) | h | h)
        · exact hvm r' hr' h
        all_goals omega
      · have := ownsRow_stp hown (Stp.setCell (p := ⟨w.heap.size + 1, 0, none⟩) (Stp.refl (fun b => b = w.heap.size + 1) U2) (.inl rfl) (.slice (some ⟨g, 0, none⟩) (pre.length + 1) cap)) (fun b hb => by have := (ownBlock_ge hown b hb).1; omega)
        rw [List.length_append, List.map_append, List.map_cons, List.map_nil, fl_snoc, HAT.out]
        exact this
      · intro b hb hm
        rcases hat with h | h
        · rw [h] at hb; exact hvm b hb hm
        · rw [h] at hb; cases hb
          have h3 := (hM2 _ hm).2
          simp [sz_drew] at h3
          omega

    · go_simp
      refine hK.out _ _ (HS.out (W2.drew.alloc (.cells (Sp.cs p.a).toArray 24)) (Below.heap_alloc W2.drew _ _ (by show w.heap.size < W2.heap.size; omega)) (Below.heap_alloc W2.drew _ _ (by show b < W2.heap.size; omega))) (fun hS => ?_)
      clear hK K
      try simp only [Act.put, List.setIfInBounds_toArray, List.set_cons_zero, List.set_cons_succ]
      refine wpAnyH_ready (rs := [0]) (by kernel_rfl) (by simp) ?_
      refine AllReadyH.cons rfl (fun K hK => ?_) AllReadyH.nil
      go_simp
      refine hK.out _ _ (HS.out (W2.drew.alloc (.cells (Sp.cs p.a).toArray 24)) (Below.heap_alloc W2.drew _ _ (by show w.heap.size < W2.heap.size; omega)) (Below.heap_alloc W2.drew _ _ (by show b < W2.heap.size; omega))) (fun hS => ?_)
      clear hK K
      try simp only [Act.put, List.setIfInBounds_toArray, List.set_cons_zero, List.set_cons_succ]
      refine wpAnyH_ready (rs := [7]) (by kernel_rfl) (by simp) ?_
      refine AllReadyH.cons rfl (fun K hK => ?_) AllReadyH.nil
      refine step_append_hat (by rfl) _ _ _ (by rfl) (w6.heap.size + 2) 24 i0 (.agg #[.int .i64 0, .int .i64 0]) 2 16 Tryd.underlying50 hi hi1 hi2 hi3 rfl (by omega) (.slice ad pre.length cp) pre.length _ (by rfl) (ownsRow_stp r2 ((Stp.refl (fun _ => False) W2).drew.alloc _) (fun _ _ h => h)) ⟨W2.heap.size, 0, none⟩ 1 1 (Sp.cs p.a) (by rfl) rfl (cells_new W2.drew (Sp.cs p.a) 24) (spC_one p.a) (by unfold maxLen; omega) (by omega) (by simp; omega) ?_
      intro v' U2 hown hgrow hat
      obtain ⟨g, cap, rfl⟩ := ownsRow_succ hown
      have k0 : U2.heap[w.heap.size]? = W2.heap[w.heap.size]? := (hgrow.block w.heap.size (by simp; omega) (fun h => by have := hrowne _ h.symm; omega)).trans (Below.heap_alloc W2.drew _ _ (by show w.heap.size < W2.heap.size; omega))
      have k1 : U2.heap[w.heap.size + 1]? = W2.heap[w.heap.size + 1]? := (hgrow.block (w.heap.size + 1) (by simp; omega) (fun h => by have := hrowne _ h.symm; omega)).trans (Below.heap_alloc W2.drew _ _ (by show w.heap.size + 1 < W2.heap.size; omega))
      have k2 : U2.heap[b]? = W2.heap[b]? := (hgrow.block b (by simp; omega) (fun h => by have := hrowne _ h.symm; omega)).trans (Below.heap_alloc W2.drew _ _ (by show b < W2.heap.size; omega))
      have e42 : Blk U2 (w.heap.size + 1) 50 #[.slice ad pre.length cp] := k1.trans e1
      have q42 := e42.cell 0
      have f42 := e42.frozen 0
      simp only [List.getElem?_toArray, List.getElem?_cons_zero] at q42
      have l42 := e42.lt
      refine hK.out _ _ (HS.out U2 k0 k2) (fun hS => ?_)
      clear hK K
      try simp only [Act.put, List.setIfInBounds_toArray, List.set_cons_zero, List.set_cons_succ]
      refine wpAnyH_ready (rs := [8]) (by kernel_rfl) (by simp) ?_
      refine AllReadyH.cons rfl (fun K hK => ?_) AllReadyH.nil
      go_simp
      refine hK.out _ _ (HS.out _ ((Below.heap_setCell U2 _ _ _ (by show w.heap.size ≠ w.heap.size + 1; omega)).trans k0) ((Below.heap_setCell U2 _ _ _ (by show b ≠ w.heap.size + 1; omega)).trans k2)) (fun hS => ?_)
      clear hK K
      try simp only [Act.put, List.setIfInBounds_toArray, List.set_cons_zero, List.set_cons_succ]
      refine wpAnyH_done (by kernel_rfl) ?_ _
      gi_wp2
      have hst := hmk U2 g cap hgrow (fun b => b = w.heap.size + 1 ∨ w6.heap.size + 2 ≤ b) (.inl rfl) (fun r hr' => .inl (.inr (hrowne r hr')))
      refine ⟨hmk U2 g cap hgrow _ ?_ ?_, ⟨⟨hB2.trans (hst.toBelow (by omega) (fun b hb => by omega)), Nat.le_trans hB2.size hst.size⟩, hst.blk e2 (by omega)⟩, _, e42.set_ 0 _, ?_, ?_⟩
      · rintro (h | (h | h) | h | h)
        · have := (hM2 _ h).1; omega
        all_goals omega
      · intro r' hr'
        have := hrowne r' hr'
        refine .inl ?_
        rintro (h | (h | h) | h | h)
        · exact hvm r' hr' h
        all_goals omega
      · have := ownsRow_stp hown (Stp.setCell (p := ⟨w.heap.size + 1, 0, none⟩) (Stp.refl (fun b => b = w.heap.size + 1) U2) (.inl rfl) (.slice (some ⟨g, 0, none⟩) (pre.length + 1) cap)) (fun b hb => by have := (ownBlock_ge hown b hb).1; omega)
        rw [List.length_append, List.map_append, List.map_cons, List.map_nil, fl_snoc, HAT.out]
        exact this
      · intro b hb hm
        rcases hat with h | h
        · rw [h] at hb; exact hvm b hb hm
        · rw [h] at hb; cases hb
          have h3 := (hM2 _ hm).2
          simp [sz_drew] at h3
          omega

end Go.Proofs.YtkeojokbpjdhpaaDoor
