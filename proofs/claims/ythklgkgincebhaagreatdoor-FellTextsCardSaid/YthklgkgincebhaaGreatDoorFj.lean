/- Fell: collected. -/
import Derived.Test.YthklgkgincebhaaGreatDoorFi
import Derived.Maps.OwnIn
set_option linter.unusedSimpArgs false
set_option linter.unusedVariables false
namespace Go.Proofs.YthklgkgincebhaaGreatDoor
open Go.RowKit Go.Shelf
attribute [local go_sem] Oper.semAt_some

theorem ownsRow_stp {N : Nat → Prop} {W W' : World} {base : Nat} {e : TypeId} {size : Nat} {v : Value} {k : Nat} {xs : List Value} (h : W.ownsRow base e size v k xs) (hst : Stp N W W') (hn : ∀ b, v.ownBlock = some b → ¬ N b) : W'.ownsRow base e size v k xs := by
  refine ⟨h.1, ?_⟩
  rcases h.2 with ⟨rfl, h0⟩ | ⟨g', cap, cur, rfl, hB, hh, h1, h2, h3, h4⟩
  · exact .inl ⟨rfl, h0⟩
  · exact .inr ⟨g', cap, cur, rfl, hB, (hst.block g' (lt_of_block hh) (hn g' rfl)).trans hh, h1, h2, h3, h4⟩
theorem ownsRow_base {W : World} {base base' : Nat} {e : TypeId} {size : Nat} {v : Value} {k : Nat} {xs : List Value} (h : W.ownsRow base e size v k xs) (hb : base' ≤ base) : W.ownsRow base' e size v k xs := by
  refine ⟨h.1, ?_⟩
  rcases h.2 with ⟨rfl, h0⟩ | ⟨g', cap, cur, rfl, hB, hh, h1, h2, h3, h4⟩
  · exact .inl ⟨rfl, h0⟩
  · exact .inr ⟨g', cap, cur, rfl, by omega, hh, h1, h2, h3, h4⟩
theorem ownBlock_ge {W : World} {base : Nat} {e : TypeId} {size : Nat} {v : Value} {k : Nat} {xs : List Value} (h : W.ownsRow base e size v k xs) : ∀ b, v.ownBlock = some b → base ≤ b ∧ b < W.heap.size := fun b hb => by
  rcases h.2 with ⟨rfl, h0⟩ | ⟨g', cap, cur, rfl, hB, hh, h1, h2, h3, h4⟩
  · cases hb
  · cases hb; exact ⟨hB, lt_of_block hh⟩
theorem Stp.of_below {W W' : World} {B : Nat} (h : Below B W W') : Stp (fun b => B ≤ b) W W' := ⟨h.os, h.tape, h.output, h.size, fun b _ hn => h.block b (by omega)⟩
/-- A box that holds a row of the loop's own. -/
theorem abide_row {β : Type} {B g : Nat} {t e : TypeId} {sz : Nat} (k : β → Nat) (f : β → List Value) (hg : g + 2 < B) :
    Abide B (fun s M W => ∃ v, Blk W g t #[v] ∧ W.ownsRow B e sz v (k s) (f s) ∧ ∀ b, v.ownBlock = some b → ¬ M b) := by
  rintro s M M' W W' ⟨v, hb, hr, hn⟩ hM hMM hnew _ hst
  refine ⟨v, hst.blk hb (fun h => by rcases h with h | h | h; (have := hM _ (hMM _ h); omega); omega; omega), ?_, ?_⟩
  · refine ⟨hr.1, ?_⟩
    rcases hr.2 with ⟨rfl, h0⟩ | ⟨g', cap, cur, rfl, hB, hh, h1, h2, h3, h4⟩
    · exact .inl ⟨rfl, h0⟩
    · exact .inr ⟨g', cap, cur, rfl, hB, (hst.block g' (lt_of_block hh) (fun h => by rcases h with h | h | h; exact hn g' rfl h; omega; omega)).trans hh, h1, h2, h3, h4⟩
  · intro b hvb hm
    rcases hr.2 with ⟨rfl, h0⟩ | ⟨g', cap, cur, rfl, hB, hh, h1, h2, h3, h4⟩
    · cases hvb
    · cases hvb
      rcases hnew _ hm with h | h
      · exact hn _ rfl h
      · have := lt_of_block hh; exact absurd h (by simp; omega)
theorem ownsRow_slice {W : World} {base : Nat} {e : TypeId} {size : Nat} {v : Value} {k : Nat} {xs : List Value} (h : W.ownsRow base e size v k xs) : ∃ a c, v = .slice a k c := by
  rcases h.2 with ⟨rfl, rfl⟩ | ⟨g, cap, _, rfl, _⟩ <;> exact ⟨_, _, rfl⟩
theorem info_spot : ∃ i : TypeInfo, Tryz.prog.info? 32 = some i ∧ i.zero = some (.agg #[.int .i64 0, .int .i64 0]) ∧ i.size = 2 ∧ i.bytes = 16 := info_parts (by kernel_rfl)
theorem spC_one (x : Sp) : ∀ u ∈ x.cs, u.oneCell' = true := fun u hu => by
  simp only [Sp.cs, List.mem_cons, List.not_mem_nil, or_false] at hu
  rcases hu with rfl | rfl <;> rfl
set_option maxHeartbeats 4000000 in
set_option maxRecDepth 20000 in
theorem c_AppendSeq (gf : Nat) (lb : Array Value) (xs : List Sp) (R : Nat → Prop) (w : World) (eg : ∀ args w, (callFunc gf args).run Tryz.prog w = .ok (.enter gf args) w)
    (hR : ∀ b, R b → b < w.heap.size) (hl : xs.length ≤ 100000) (hseq : ∀ n, 1 ≤ n → SeqIs n Tryz.prog gf lb spE xs R w) :
    Calls Tryz.prog 95 #[.slice none 0 0, .func (.func gf) #[] lb] w fun e w' => ∃ v, e = .returned v ∧ w'.ownsRow w.heap.size 32 2 v xs.length (fl Sp.cs xs) ∧ Below w.heap.size w w' := by
  refine (callsIn_wide (n := 5)).1 ?_
  refine callsIn_of_wp_marks Tryz.func95 rfl trivial ?_ rfl
  simp only [Tryz.ntmps95, List.size_toArray, List.length_cons, List.length_nil, Nat.reduceAdd, Nat.reduceSub, Array.replicate_succ, Array.replicate_zero, List.push_toArray, List.append_toArray, List.nil_append, List.cons_append]
  gi_wp2
  have x1 := Blk.new w 63 #[.slice none 0 0]
  have BB := bl_alloc (below_refl w) (.cells #[.slice none 0 0] 63)
  have zz : (w.alloc (.cells #[.slice none 0 0] 63)).heap.size = w.heap.size + 1 := by simp
  have hst0 : Stp (fun b => ¬ R b) w (w.alloc (.cells #[.slice none 0 0] 63)) := (Stp.refl _ _).alloc _
  have HSQ := Lib.hid (hseq 4 (by omega))
  clear hseq
  generalize w.alloc (.cells #[.slice none 0 0] 63) = w6 at *
  refine wp_range (by omega) (gf := gf) (lb := lb) rfl eg (encs := spE) (xs := xs) (R := R) HSQ.out hst0 (fun _ => rfl) (fun b hb => by have := hR b hb; omega)
    (fun pre M W => (Below w.heap.size w W ∧ w.heap.size ≤ W.heap.size) ∧ ∃ v, Blk W w.heap.size 63 #[v] ∧ W.ownsRow (w6.heap.size + 2) 32 2 v pre.length (fl Sp.cs pre) ∧ ∀ b, v.ownBlock = some b → ¬ M b)
    (fun _ _ _ _ => False)
    ?h5 ?h6 ?h7 ?round ?done ?stop
  case h5 => exact (abide_below (by omega)).and (abide_row _ _ (by omega))
  case h6 => exact fun k => abide_pure _
  case h7 => exact ⟨⟨BB, by omega⟩, _, x1, World.ownsRow_nil w6 _ _ _, fun _ h => by cases h⟩
  case stop => rintro k pre rest M W _ h; exact h.elim
  case done =>
    rintro M W ⟨⟨hB, hz⟩, v, hv, hr, _⟩ hK
    obtain ⟨ad, cp, rfl⟩ := ownsRow_slice hr
    have q := hv.cell 0
    simp only [List.getElem?_toArray, List.getElem?_cons_zero] at q
    gi_wp2
    refine ⟨by simp, .inl ⟨_, _, rfl, run_takeDeferred hK, ?_⟩⟩
    have hst := Stp.putObj (Stp.refl (fun b => b = w6.heap.size) W) (.inl rfl) (.deferred none)
    exact ⟨_, results_tmp rfl _ _ _, _, rfl, ownsRow_base (ownsRow_stp hr hst fun b hb => by have := (ownBlock_ge hr b hb).1; omega) (by omega), hB.trans (hst.toBelow hz (fun b hb => by omega))⟩
  case round =>
    rintro L pre x rest M W hxs ⟨⟨hB, hz⟩, v, hv, hr, hvm⟩ hM hsz
    simp only [spE, setAll1, List.setIfInBounds_toArray, List.set_cons_zero, List.set_cons_succ]
    gi_wp2
    refine ⟨(Stp.refl _ _).alloc _, fun W2 hsz2 hst2 => ?_⟩
    rw [World.size_alloc] at hsz2
    have xb := (Blk.new W 32 (spA x))
    have xb2 := hst2.blk xb (by omega)
    have e1 := hst2.blk (hv.alloc (.cells (spA x) 32)) (by omega)
    have r2 := ownsRow_stp (ownsRow_stp hr ((Stp.refl (fun _ => False) W).alloc (.cells (spA x) 32)) (fun _ _ h => h)) hst2 (fun b hb => by have := (ownBlock_ge hr b hb).1; omega)
    have hB2 : Below w.heap.size w W2 := (hB.alloc hz _).trans (Stp.toBelow hst2 (by rw [World.size_alloc]; omega) (fun b hb => by omega))
    obtain ⟨ad, cp, rfl⟩ := ownsRow_slice hr
    have q1 := e1.cell 0
    have f1 := e1.frozen 0
    have p0 := xb2.cell 0
    have p1 := xb2.cell 1
    simp only [List.getElem?_toArray, List.getElem?_cons_zero, List.getElem?_cons_succ] at q1 p0 p1
    have hlen : pre.length ≤ 100000 := by
      have h1 := congrArg List.length hxs
      simp only [List.length_append, List.length_cons] at h1
      omega
    have hrowne : ∀ b, (Value.slice ad pre.length cp).ownBlock = some b → w.heap.size ≠ b := fun b hb => by have := (ownBlock_ge hr b hb).1; omega
    obtain ⟨i0, hi, hi1, hi2, hi3⟩ := info_spot
    have zx := xb2.lt
    have hWx : W.heap.size < W2.heap.size := by omega
    have hKW : Stp (fun b => ¬ (M b ∨ R b ∨ b + 2 = w6.heap.size + 2 ∨ b + 1 = w6.heap.size + 2)) W2 W2 := Stp.refl _ _
    have HXS := Lib.hid hxs
    clear hsz2 hxs
    have hws : w.heap.size < W.heap.size := by omega
    gi_wp2_with (gi_at_builtin; go_loud (refine wpListIn_append_own_at _ rfl _ _ 63 rfl (w6.heap.size + 2) 32 i0 (.agg #[.int .i64 0, .int .i64 0]) 2 16 (by kernel_rfl) hi hi1 hi2 hi3 rfl (by omega) _ _ _ rfl (ownsRow_stp r2 ((Stp.refl (fun _ => False) W2).alloc _) (fun _ _ h => h)) ⟨W2.heap.size, 0, none⟩ 1 1 x.cs rfl rfl (cells_new W2 x.cs 32) (spC_one x) (by unfold maxLen; omega) (by omega) (by simp; omega) ?_; intro v' U2 hown hgrow _ hat; obtain ⟨g, cap, rfl⟩ := ownsRow_succ hown; have e42 : Blk U2 w.heap.size 63 #[.slice ad pre.length cp] := (hgrow.block w.heap.size (e1.alloc _).lt (fun h => hrowne _ h.symm rfl)).trans (e1.alloc _); have q42 := e42.cell 0; have f42 := e42.frozen 0; simp only [List.getElem?_toArray, List.getElem?_cons_zero] at q42))
    have hmk : ∀ N : Nat → Prop, N w.heap.size → (∀ r, (Value.slice ad pre.length cp).ownBlock = some r → N r ∨ W2.heap.size ≤ r) → Stp N W2 (U2.setCell ⟨w.heap.size, 0, none⟩ (.slice (some ⟨g, 0, none⟩) (pre.length + 1) cap)) := fun N h1 h2 =>
      (((Stp.refl N W2).alloc _).grown hgrow h2).setCell (.inl h1) _
    have hst := hmk (fun b => b = w.heap.size ∨ w6.heap.size + 2 ≤ b) (.inl rfl) (fun r hr' => .inl (.inr (ownBlock_ge hr r hr').1))
    refine ⟨hmk _ ?_ ?_, ⟨hB2.trans (hst.toBelow (by omega) (fun b hb => by omega)), Nat.le_trans hB2.size hst.size⟩, _, e42.set_ 0 _, ?_, ?_⟩
    · rintro (h | h | h | h)
      · have := (hM _ h).1; omega
      · have := hR _ h; omega
      all_goals omega
    · intro r' hr'
      have := ownBlock_ge hr r' hr'
      refine .inl ?_
      rintro (h | h | h | h)
      · exact hvm r' hr' h
      · have := hR _ h; omega
      all_goals omega
    · have := ownsRow_stp hown (Stp.setCell (p := ⟨w.heap.size, 0, none⟩) (Stp.refl (fun b => b = w.heap.size) U2) (.inl rfl) (.slice (some ⟨g, 0, none⟩) (pre.length + 1) cap)) (fun b hb => by have := (ownBlock_ge hown b hb).1; omega)
      rw [List.length_append, fl_snoc]
      exact this
    · intro b hb hm
      rcases hat with h | h
      · rw [h] at hb; exact hvm b hb hm
      · rw [h] at hb; cases hb
        have := (hM _ hm).2
        rw [World.size_alloc] at this
        omega
end Go.Proofs.YthklgkgincebhaaGreatDoor
