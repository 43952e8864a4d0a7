/- Wind: gone. -/
import Derived.Test.YtoelekhkgknneaaDoorVc
import Derived.Maps.OwnIn
set_option linter.unusedSimpArgs false
set_option linter.unusedVariables false
namespace Go.Proofs.YtoelekhkgknneaaDoor
open Go.RowKit Go.Shelf
attribute [local go_sem] Oper.semAt_some

theorem ownsRow_stp {N : Nat → Prop} {W W' : World} {base : Nat} {e : TypeId} {size : Nat} {v : Value} {k : Nat} {xs : List Value} (h : W.ownsRow base e size v k xs) (hst : Stp N W W') (hn : ∀ b, v.ownBlock = some b → ¬ N b) : W'.ownsRow base e size v k xs := by
  refine ⟨h.1, ?_⟩
  rcases h.2 with ⟨rfl, h0⟩ | ⟨g', cap, cur, rfl, hB, hh, h1, h2, h3, h4⟩
  · exact .inl ⟨rfl, h0⟩
  · exact .inr ⟨g', cap, cur, rfl, hB, (hst.block g' (lt_of_block hh) (hn g' rfl)).trans hh, h1, h2, h3, h4⟩
theorem ownsRow_base {W : World} {base base' : Nat} {e : TypeId} {size : Nat} {v : Value} {k : Nat} {xs : List Value} (h : W.ownsRow base e size v k xs) (hb : base' ≤ base) : W.ownsRow base' e size v k xs := by
  refine ⟨h.1, ?_⟩
  rcases h.2 with ⟨rfl, h0⟩ | ⟨g', cap, cur, rfl, hB, hh, h1, h2, h3, h4⟩
  · exact .inl ⟨rfl, h0⟩
  · exact .inr ⟨g', cap, cur, rfl, by omega, hh, h1, h2, h3, h4⟩
theorem ownBlock_ge {W : World} {base : Nat} {e : TypeId} {size : Nat} {v : Value} {k : Nat} {xs : List Value} (h : W.ownsRow base e size v k xs) : ∀ b, v.ownBlock = some b → base ≤ b ∧ b < W.heap.size := fun b hb => by
  rcases h.2 with ⟨rfl, h0⟩ | ⟨g', cap, cur, rfl, hB, hh, h1, h2, h3, h4⟩
  · cases hb
  · cases hb; exact ⟨hB, lt_of_block hh⟩
theorem Stp.of_below {W W' : World} {B : Nat} (h : Below B W W') : Stp (fun b => B ≤ b) W W' := ⟨h.os, h.tape, h.output, h.size, fun b _ hn => h.block b (by omega)⟩
/-- A box that holds a row of the loop's own. -/
theorem abide_row {β : Type} {B g : Nat} {t e : TypeId} {sz : Nat} (k : β → Nat) (f : β → List Value) (hg : g + 2 < B) :
    Abide B (fun s M W => ∃ v, Blk W g t #[v] ∧ W.ownsRow B e sz v (k s) (f s) ∧ ∀ b, v.ownBlock = some b → ¬ M b) := by
  rintro s M M' W W' ⟨v, hb, hr, hn⟩ hM hMM hnew _ hst
  refine ⟨v, hst.blk hb (fun h => by rcases h with h | h | h; (have := hM _ (hMM _ h); omega); omega; omega), ?_, ?_⟩
  · refine ⟨hr.1, ?_⟩
    rcases hr.2 with ⟨rfl, h0⟩ | ⟨g', cap, cur, rfl, hB, hh, h1, h2, h3, h4⟩
    · exact .inl ⟨rfl, h0⟩
    · exact .inr ⟨g', cap, cur, rfl, hB, (hst.block g' (lt_of_block hh) (fun h => by rcases h with h | h | h; exact hn g' rfl h; omega; omega)).trans hh, h1, h2, h3, h4⟩
  · intro b hvb hm
    rcases hr.2 with ⟨rfl, h0⟩ | ⟨g', cap, cur, rfl, hB, hh, h1, h2, h3, h4⟩
    · cases hvb
    · cases hvb
      rcases hnew _ hm with h | h
      · exact hn _ rfl h
      · have := lt_of_block hh; exact absurd h (by simp; omega)
theorem ownsRow_slice {W : World} {base : Nat} {e : TypeId} {size : Nat} {v : Value} {k : Nat} {xs : List Value} (h : W.ownsRow base e size v k xs) : ∃ a c, v = .slice a k c := by
  rcases h.2 with ⟨rfl, rfl⟩ | ⟨g, cap, _, rfl, _⟩ <;> exact ⟨_, _, rfl⟩
theorem info_bool : ∃ i : TypeInfo, Tryd.prog.info? 4 = some i ∧ i.zero = some (.bool false) ∧ i.size = 1 ∧ i.bytes = 1 := info_parts (by kernel_rfl)
def bC (b : Bool) : List Value := [.bool b]
theorem bC_len (b : Bool) : (bC b).length = 1 := rfl
def goL (r : Ru) (l : List Int) : List Bool := (List.range l.length).map (gA r l)
theorem goL_is (r : Ru) (l : List Int) : (mnL r l).map Prod.snd = goL r l := by unfold mnL goL; rw [List.map_map]; rfl
theorem goL_len (r : Ru) (l : List Int) : (goL r l).length = l.length := by unfold goL; simp
theorem p_minutes (r : Ru) (A : Option Addr) (n c : Nat) (w : World) : Calls Tryd.prog 128 #[ruV r, .slice A n c] w fun e w' => e = .returned (.func (.func 153) #[] #[.pointer (some ⟨w.heap.size, 0, none⟩), .pointer (some ⟨w.heap.size + 1, 0, none⟩)]) ∧ w' = (w.alloc (.cells #[.int .i64 r.s, .int .i64 r.g, .int .i64 r.c] 82)).alloc (.cells #[.slice A n c] 32) := by
  go_enter Tryd.func128, Tryd.ntmps128
  go_wp2
  go_ret
  exact ⟨rfl, rfl⟩
set_option maxHeartbeats 4000000 in
set_option maxRecDepth 20000 in
theorem p_gone (A : Option Addr) (r : Ru) (l : List Int) (c : Nat) (w : World) (hv : vRu r = true) (hg : vGu l = true) (hR : Rd zC 1 w A l) :
    Calls Tryd.prog 87 #[ruV r, .slice A l.length c] w fun e w' => ∃ v, e = .returned v ∧ w'.ownsRow w.heap.size 4 1 v (goL r l).length (fl bC (goL r l)) ∧ Below w.heap.size w w' := by
  have HV := Lib.hid hv
  have HG := Lib.hid hg
  clear hv hg
  refine (callsIn_wide (n := 5)).1 ?_
  refine callsIn_of_wp_marks Tryd.func87 rfl trivial ?_ rfl
  simp only [Tryd.ntmps87, List.size_toArray, List.length_cons, List.length_nil, Nat.reduceAdd, Nat.reduceSub, Array.replicate_succ, Array.replicate_zero, List.push_toArray, List.append_toArray, List.nil_append, List.cons_append]
  gi_wp2
  refine ⟨trivial, ?_⟩
  refine (callsIn_wide.2 (p_minutes r A l.length c _)).mono ?_
  rintro e w1 ⟨rfl, rfl⟩
  gi_wp2
  have x1 := ((Blk.new (w.alloc (.cells #[.int .i64 r.s, .int .i64 r.g, .int .i64 r.c] 82)) 126 #[.slice none 0 0]).alloc (.cells #[.int .i64 r.s, .int .i64 r.g, .int .i64 r.c] 82)).alloc (.cells #[.slice A l.length c] 32)
  have x2 := (Blk.new ((w.alloc (.cells #[.int .i64 r.s, .int .i64 r.g, .int .i64 r.c] 82)).alloc (.cells #[.slice none 0 0] 126)) 82 #[.int .i64 r.s, .int .i64 r.g, .int .i64 r.c]).alloc (.cells #[.slice A l.length c] 32)
  have x3 := Blk.new (((w.alloc (.cells #[.int .i64 r.s, .int .i64 r.g, .int .i64 r.c] 82)).alloc (.cells #[.slice none 0 0] 126)).alloc (.cells #[.int .i64 r.s, .int .i64 r.g, .int .i64 r.c] 82)) 32 #[.slice A l.length c]
  have BB : Below w.heap.size w ((((w.alloc (.cells #[.int .i64 r.s, .int .i64 r.g, .int .i64 r.c] 82)).alloc (.cells #[.slice none 0 0] 126)).alloc (.cells #[.int .i64 r.s, .int .i64 r.g, .int .i64 r.c] 82)).alloc (.cells #[.slice A l.length c] 32)) := bl_alloc (bl_alloc (bl_alloc (bl_alloc (below_refl _) _) _) _) _
  have zz : ((((w.alloc (.cells #[.int .i64 r.s, .int .i64 r.g, .int .i64 r.c] 82)).alloc (.cells #[.slice none 0 0] 126)).alloc (.cells #[.int .i64 r.s, .int .i64 r.g, .int .i64 r.c] 82)).alloc (.cells #[.slice A l.length c] 32)).heap.size = w.heap.size + 4 := by simp
  simp only [World.size_alloc] at x1 x2 x3
  generalize (((w.alloc (.cells #[.int .i64 r.s, .int .i64 r.g, .int .i64 r.c] 82)).alloc (.cells #[.slice none 0 0] 126)).alloc (.cells #[.int .i64 r.s, .int .i64 r.g, .int .i64 r.c] 82)).alloc (.cells #[.slice A l.length c] 32) = w6 at *
  have hR6 := hR.on BB
  have hAd : ∀ ad, A = some ad → l ≠ [] → ad.block < w.heap.size := by
    rintro ad rfl hne
    obtain ⟨b', off', e, hlt, _⟩ := hR hne
    cases e; exact hlt
  refine wp_range (by omega) (gf := 153) (lb := #[.pointer (some ⟨w.heap.size + 1 + 1, 0, none⟩), .pointer (some ⟨w.heap.size + 1 + 1 + 1, 0, none⟩)]) rfl enters_min (encs := mnE) (xs := mnL r l) (R := fun b => b < w.heap.size ∨ b = w.heap.size + 2 ∨ b = w.heap.size + 3)
    (min_seq _ (by omega) _ _ A r l c _ _ HV.out HG.out x2 x3 hR6 (.inr (.inl rfl)) (.inr (.inr rfl)) (fun ad e hne => .inl (hAd ad e hne))) (Stp.refl _ _) (fun _ => rfl) (by rintro b (hb | hb | hb) <;> omega)
    (fun pre M W => (Below w.heap.size w W ∧ w.heap.size ≤ W.heap.size) ∧ ∃ v, Blk W (w.heap.size + 1) 126 #[v] ∧ W.ownsRow (w6.heap.size + 2) 4 1 v pre.length (fl bC (pre.map Prod.snd)) ∧ ∀ b, v.ownBlock = some b → ¬ M b)
    (fun _ _ _ _ => False)
    ?h5 ?h6 ?h7 ?round ?done ?stop
  case h5 => exact (abide_below (by omega)).and (abide_row _ _ (by omega))
  case h6 => exact fun k => abide_pure _
  case h7 => exact ⟨⟨BB, by omega⟩, _, x1, World.ownsRow_nil w6 _ _ _, fun _ h => by cases h⟩
  case stop => rintro k pre rest M W _ h; exact h.elim
  case done =>
    rintro M W ⟨⟨hB, hz⟩, v, hv, hr, _⟩ hK
    obtain ⟨ad, cp, rfl⟩ := ownsRow_slice hr
    have q := hv.cell 0
    simp only [List.getElem?_toArray, List.getElem?_cons_zero] at q
    gi_wp2
    refine ⟨by simp, .inl ⟨_, _, rfl, run_takeDeferred hK, ?_⟩⟩
    have hst := Stp.putObj (Stp.refl (fun b => b = w6.heap.size) W) (.inl rfl) (.deferred none)
    rw [goL_is] at hr
    have hlen : (mnL r l).length = (goL r l).length := by rw [mnL_len, goL_len]
    rw [hlen] at hr
    exact ⟨_, results_tmp rfl _ _ _, _, by rw [hlen]; rfl, ownsRow_base (ownsRow_stp hr hst fun b hb => by have := (ownBlock_ge hr b hb).1; omega) (by omega), hB.trans (hst.toBelow hz (fun b hb => by omega))⟩
  case round =>
    rintro L pre x rest M W hxs ⟨⟨hB, hz⟩, v, hv, hr, hvm⟩ hM hsz
    obtain ⟨k, is⟩ := x
    simp only [mnE, setAll2, List.setIfInBounds_toArray, List.set_cons_zero, List.set_cons_succ]
    gi_wp2
    refine ⟨Stp.refl _ _, fun W2 hsz2 hst2 => ?_⟩
    have e1 := hst2.blk hv (by omega)
    have r2 := ownsRow_stp hr hst2 (fun b hb => by have := (ownBlock_ge hr b hb).1; omega)
    have hB2 : Below w.heap.size w W2 := hB.trans (Stp.toBelow hst2 (by omega) (fun b hb => by omega))
    obtain ⟨ad, cp, rfl⟩ := ownsRow_slice hr
    have q1 := e1.cell 0
    have f1 := e1.frozen 0
    simp only [List.getElem?_toArray, List.getElem?_cons_zero] at q1
    have hlen : pre.length ≤ 2000 := by
      have h1 := congrArg List.length hxs
      rw [mnL_len] at h1
      simp only [List.length_append, List.length_cons] at h1
      have := (vgu HG.out).1
      omega
    have hrowne : ∀ b, (Value.slice ad pre.length cp).ownBlock = some b → w.heap.size + 1 ≠ b := fun b hb => by have := (ownBlock_ge hr b hb).1; omega
    obtain ⟨i0, hi, hi1, hi2, hi3⟩ := info_bool
    have hsa : W2.heap.size ≤ W.heap.size := by omega
    have hsb : W.heap.size ≤ W2.heap.size := by omega
    clear hsz2
    gi_wp2_with (gi_at_builtin; go_loud (refine wpListIn_append_own_at _ rfl _ _ 126 rfl (w6.heap.size + 2) 4 i0 (.bool false) 1 1 (by kernel_rfl) hi hi1 hi2 hi3 rfl (by omega) _ _ _ rfl (ownsRow_stp r2 ((Stp.refl (fun _ => False) W2).alloc _) (fun _ _ h => h)) ⟨W2.heap.size, 0, none⟩ 1 1 [.bool is] rfl rfl (cell_one_new _ _ _) (fun u hu => by simp at hu; subst hu; rfl) (by unfold maxLen; omega) (by omega) (by simp; omega) ?_; intro v' U2 hown hgrow _ hat; obtain ⟨g, cap, rfl⟩ := ownsRow_succ hown; have e42 : Blk U2 (w.heap.size + 1) 126 #[.slice ad pre.length cp] := (hgrow.block (w.heap.size + 1) (e1.alloc _).lt (fun h => hrowne _ h.symm rfl)).trans (e1.alloc _); have q42 := e42.cell 0; have f42 := e42.frozen 0; simp only [List.getElem?_toArray, List.getElem?_cons_zero] at q42))
    have hmk : ∀ N : Nat → Prop, N (w.heap.size + 1) → (∀ r, (Value.slice ad pre.length cp).ownBlock = some r → N r ∨ W2.heap.size ≤ r) → Stp N W2 (U2.setCell ⟨w.heap.size + 1, 0, none⟩ (.slice (some ⟨g, 0, none⟩) (pre.length + 1) cap)) := fun N h1 h2 =>
      (((Stp.refl N W2).alloc _).grown hgrow h2).setCell (.inl h1) _
    have hst := hmk (fun b => b = w.heap.size + 1 ∨ w6.heap.size + 2 ≤ b) (.inl rfl) (fun r hr' => .inl (.inr (ownBlock_ge hr r hr').1))
    refine ⟨hmk _ ?_ ?_, ⟨hB2.trans (hst.toBelow (by omega) (fun b hb => by omega)), Nat.le_trans hB2.size hst.size⟩, _, e42.set_ 0 _, ?_, ?_⟩
    · rintro (h | (h | h | h) | h | h)
      · have := (hM _ h).1; omega
      all_goals omega
    · intro r' hr'
      have := ownBlock_ge hr r' hr'
      refine .inl ?_
      rintro (h | (h | h | h) | h | h)
      · exact hvm r' hr' h
      all_goals omega
    · have := ownsRow_stp hown (Stp.setCell (p := ⟨w.heap.size + 1, 0, none⟩) (Stp.refl (fun b => b = w.heap.size + 1) U2) (.inl rfl) (.slice (some ⟨g, 0, none⟩) (pre.length + 1) cap)) (fun b hb => by have := (ownBlock_ge hown b hb).1; omega)
      rw [List.length_append, List.map_append, List.map_cons, List.map_nil, fl_snoc]
      exact this
    · intro b hb hm
      rcases hat with h | h
      · rw [h] at hb; exact hvm b hb hm
      · rw [h] at hb; cases hb
        have := (hM _ hm).2
        rw [World.size_alloc] at this
        omega
end Go.Proofs.YtoelekhkgknneaaDoor
