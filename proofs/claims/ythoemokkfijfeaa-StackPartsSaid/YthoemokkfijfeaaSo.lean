/- Stack: the beds that do not keep something, by the iterator. -/
import Derived.Test.YthoemokkfijfeaaSl
import Derived.Test.YthoemokkfijfeaaRoundReg
import Derived.Maps.OwnIn
namespace Go.Proofs.Ythoemokkfijfeaa
open Go.RowKit Go.Shelf
attribute [local go_sem] Oper.semAt_some

theorem ownsRow_stp {N : Nat → Prop} {W W' : World} {base : Nat} {e : TypeId} {size : Nat} {v : Value} {k : Nat} {xs : List Value} (h : W.ownsRow base e size v k xs) (hst : Stp N W W') (hn : ∀ b, v.ownBlock = some b → ¬ N b) : W'.ownsRow base e size v k xs := by
  refine ⟨h.1, ?_⟩
  rcases h.2 with ⟨rfl, h0⟩ | ⟨g', cap, cur, rfl, hB, hh, h1, h2, h3, h4⟩
  · exact .inl ⟨rfl, h0⟩
  · exact .inr ⟨g', cap, cur, rfl, hB, (hst.block g' (lt_of_block hh) (hn g' rfl)).trans hh, h1, h2, h3, h4⟩
theorem ownsRow_base {W : World} {base base' : Nat} {e : TypeId} {size : Nat} {v : Value} {k : Nat} {xs : List Value} (h : W.ownsRow base e size v k xs) (hb : base' ≤ base) : W.ownsRow base' e size v k xs := by
  refine ⟨h.1, ?_⟩
  rcases h.2 with ⟨rfl, h0⟩ | ⟨g', cap, cur, rfl, hB, hh, h1, h2, h3, h4⟩
  · exact .inl ⟨rfl, h0⟩
  · exact .inr ⟨g', cap, cur, rfl, by omega, hh, h1, h2, h3, h4⟩
theorem ownBlock_ge {W : World} {base : Nat} {e : TypeId} {size : Nat} {v : Value} {k : Nat} {xs : List Value} (h : W.ownsRow base e size v k xs) : ∀ b, v.ownBlock = some b → base ≤ b ∧ b < W.heap.size := fun b hb => by
  rcases h.2 with ⟨rfl, h0⟩ | ⟨g', cap, cur, rfl, hB, hh, h1, h2, h3, h4⟩
  · cases hb
  · cases hb; exact ⟨hB, lt_of_block hh⟩

theorem Stp.of_below {W W' : World} {B : Nat} (h : Below B W W') : Stp (fun b => B ≤ b) W W' := ⟨h.os, h.tape, h.output, h.size, fun b _ hn => h.block b (by omega)⟩

/-- A box that holds a row of the loop's own. -/
theorem abide_row {β : Type} {B g : Nat} {t e : TypeId} {sz : Nat} (k : β → Nat) (f : β → List Value) (hg : g + 2 < B) :
    Abide B (fun s M W => ∃ v, Blk W g t #[v] ∧ W.ownsRow B e sz v (k s) (f s) ∧ ∀ b, v.ownBlock = some b → ¬ M b) := by
  rintro s M M' W W' ⟨v, hb, hr, hn⟩ hM hMM hnew _ hst
  refine ⟨v, hst.blk hb (fun h => by rcases h with h | h | h; (have := hM _ (hMM _ h); omega); omega; omega), ?_, ?_⟩
  · refine ⟨hr.1, ?_⟩
    rcases hr.2 with ⟨rfl, h0⟩ | ⟨g', cap, cur, rfl, hB, hh, h1, h2, h3, h4⟩
    · exact .inl ⟨rfl, h0⟩
    · exact .inr ⟨g', cap, cur, rfl, hB, (hst.block g' (lt_of_block hh) (fun h => by rcases h with h | h | h; exact hn g' rfl h; omega; omega)).trans hh, h1, h2, h3, h4⟩
  · intro b hvb hm
    rcases hr.2 with ⟨rfl, h0⟩ | ⟨g', cap, cur, rfl, hB, hh, h1, h2, h3, h4⟩
    · cases hvb
    · cases hvb
      rcases hnew _ hm with h | h
      · exact hn _ rfl h
      · have := lt_of_block hh; exact absurd h (by simp; omega)

theorem ownsRow_slice {W : World} {base : Nat} {e : TypeId} {size : Nat} {v : Value} {k : Nat} {xs : List Value} (h : W.ownsRow base e size v k xs) : ∃ a c, v = .slice a k c := by
  rcases h.2 with ⟨rfl, rfl⟩ | ⟨g, cap, _, rfl, _⟩ <;> exact ⟨_, _, rfl⟩

theorem info_int : ∃ i : TypeInfo, Try.prog.info? 3 = some i ∧ i.zero = some (.int .i64 0) ∧ i.size = 1 ∧ i.bytes = 8 := info_parts (by kernel_rfl)

def natV (l : List Nat) : List Value := l.map fun (i : Nat) => Value.int .i64 (i : Int)
def lostL (KB : Course → List Course → Int → Int → Bool) (l : List Course) (p side : Int) : List Nat → List Nat := List.filter (fun i => !KB (bedC l i) (l.drop i) p side)

set_option maxHeartbeats 1000000 in
theorem s_lost (gf : Nat) (eg : ∀ args w, (callFunc gf args).run Try.prog w = .ok (.enter gf args) w) (KB : Course → List Course → Int → Int → Bool) (A : Option Addr) (l : List Course) (c : Nat) (p side : Int) (w : World) (hv : validC l = true) (hR : Rd Course.cs 6 w A l)
    (hK : ∀ (k : Nat) W, k < l.length → Calls Try.prog gf #[.agg #[.int .i64 (bedC l k).h, .int .i64 (bedC l k).o, .int .i64 (bedC l k).i, .int .i64 (bedC l k).wt, .int .i64 (bedC l k).e, .int .i64 (bedC l k).n], abv (l.drop k), .int .i64 p, .int .i64 side] W
      fun e w' => e = .returned (.bool (KB (bedC l k) (l.drop k) p side)) ∧ Below W.heap.size W w') :
    Calls Try.prog 76 #[.slice A l.length c, .int .i64 p, .int .i64 side, .func (.func gf) #[] #[]] w fun e w' =>
      ∃ v, e = .returned v ∧ w'.ownsRow w.heap.size 3 1 v (lostL KB l p side (List.range l.length).reverse).length (natV (lostL KB l p side (List.range l.length).reverse)) ∧ Below w.heap.size w w' := by
  have HV := Lib.hid hv
  have HK := Lib.hid hK
  obtain ⟨_, hl1, hl2⟩ := valid_all hv
  clear hv hK
  refine (callsIn_wide (n := 5)).1 ?_
  refine callsIn_of_wp_marks Try.func76 rfl trivial ?_ rfl
  simp only [Try.ntmps76, List.size_toArray, List.length_cons, List.length_nil, Nat.reduceAdd, Nat.reduceSub, Array.replicate_succ, Array.replicate_zero, List.push_toArray, List.append_toArray, List.nil_append, List.cons_append]
  gi_wp2
  refine ⟨trivial, ?_⟩
  refine (callsIn_wide.2 (s_beds A l.length c _)).mono ?_
  rintro e w1 ⟨rfl, rfl⟩
  gi_wp2
  generalize ha1 : w.alloc (.cells #[.slice A l.length c] 22) = w1
  have z1 : w1.heap.size = w.heap.size + 1 := by rw [← ha1]; simp
  have x0 : Blk w1 w.heap.size 22 #[.slice A l.length c] := by rw [← ha1]; exact Blk.new _ _ _
  have B1 : Below w.heap.size w w1 := by rw [← ha1]; exact below_alloc _ _
  clear ha1
  rw [← z1]
  generalize ha2 : w1.alloc (.cells #[.int .i64 p] 3) = w2
  have z2 : w2.heap.size = w1.heap.size + 1 := by rw [← ha2]; simp
  have x1 : Blk w2 w1.heap.size 3 #[.int .i64 p] := by rw [← ha2]; exact Blk.new _ _ _
  have B2 : Below w1.heap.size w1 w2 := by rw [← ha2]; exact below_alloc _ _
  clear ha2
  rw [← z2]
  generalize ha3 : w2.alloc (.cells #[.int .i64 side] 3) = w3
  have z3 : w3.heap.size = w2.heap.size + 1 := by rw [← ha3]; simp
  have x2 : Blk w3 w2.heap.size 3 #[.int .i64 side] := by rw [← ha3]; exact Blk.new _ _ _
  have B3 : Below w2.heap.size w2 w3 := by rw [← ha3]; exact below_alloc _ _
  clear ha3
  rw [← z3]
  generalize ha4 : w3.alloc (.cells #[.func (.func gf) #[] #[]] 93) = w4
  have z4 : w4.heap.size = w3.heap.size + 1 := by rw [← ha4]; simp
  have x3 : Blk w4 w3.heap.size 93 #[.func (.func gf) #[] #[]] := by rw [← ha4]; exact Blk.new _ _ _
  have B4 : Below w3.heap.size w3 w4 := by rw [← ha4]; exact below_alloc _ _
  clear ha4
  rw [← z4]
  generalize ha5 : w4.alloc (.cells #[.slice none 0 0] 51) = w5
  have z5 : w5.heap.size = w4.heap.size + 1 := by rw [← ha5]; simp
  have x4 : Blk w5 w4.heap.size 51 #[.slice none 0 0] := by rw [← ha5]; exact Blk.new _ _ _
  have B5 : Below w4.heap.size w4 w5 := by rw [← ha5]; exact below_alloc _ _
  clear ha5
  rw [← z5]
  generalize ha6 : w5.alloc (.cells #[.slice A l.length c] 22) = w6
  have z6 : w6.heap.size = w5.heap.size + 1 := by rw [← ha6]; simp
  have x5 : Blk w6 w5.heap.size 22 #[.slice A l.length c] := by rw [← ha6]; exact Blk.new _ _ _
  have B6 : Below w5.heap.size w5 w6 := by rw [← ha6]; exact below_alloc _ _
  clear ha6
  have y4 := x4.below B6 (by omega)
  have y3 := (x3.below B5 (by omega)).below B6 (by omega)
  have y2 := ((x2.below B4 (by omega)).below B5 (by omega)).below B6 (by omega)
  have y1 := (((x1.below B3 (by omega)).below B4 (by omega)).below B5 (by omega)).below B6 (by omega)
  have y0 := ((((x0.below B2 (by omega)).below B3 (by omega)).below B4 (by omega)).below B5 (by omega)).below B6 (by omega)
  have BB : Below w.heap.size w w6 := ((((B1.trans (B2.mono (by omega))).trans (B3.mono (by omega))).trans (B4.mono (by omega))).trans (B5.mono (by omega))).trans (B6.mono (by omega))
  have HR0 : Rd Course.cs 6 w6 A l := hR.on BB
  have hAd : ∀ ad, A = some ad → ad.block < w.heap.size := by
    rintro ad rfl
    obtain ⟨b', off', e, hlt, _⟩ := hR (by rintro rfl; simp at hl1)
    cases e; exact hlt
  clear x0 x1 x2 x3 x4 B1 B2 B3 B4 B5 B6
  have HZ : Hid (w1.heap.size = w.heap.size + 1 ∧ w2.heap.size = w.heap.size + 2 ∧ w3.heap.size = w.heap.size + 3 ∧ w4.heap.size = w.heap.size + 4 ∧ w5.heap.size = w.heap.size + 5 ∧ w6.heap.size = w.heap.size + 6) := ⟨by omega, by omega, by omega, by omega, by omega, by omega⟩
  clear z1 z2 z3 z4 z5 z6
  refine wp_range (by omega) (gf := 91) (lb := #[.pointer (some ⟨w5.heap.size, 0, none⟩)]) rfl enters91 (encs := bedE l) (xs := (List.range l.length).reverse) (R := fun b => b < w.heap.size ∨ b = w5.heap.size)
    (beds_seq _ (by omega) w5.heap.size A l c _ _ HV.out (x5.cell 0) HR0 (.inr rfl) (fun ad e => .inl (hAd ad e))) (Stp.refl _ _) (fun _ => rfl) (by have := HZ.out; rintro b (hb | hb) <;> omega)
    (fun pre M W => (Below w.heap.size w W ∧ w.heap.size ≤ W.heap.size) ∧ Blk W w.heap.size 22 #[.slice A l.length c] ∧ Blk W w1.heap.size 3 #[.int .i64 p] ∧ Blk W w2.heap.size 3 #[.int .i64 side] ∧ Blk W w3.heap.size 93 #[.func (.func gf) #[] #[]] ∧
      ∃ v, Blk W w4.heap.size 51 #[v] ∧ W.ownsRow (w6.heap.size + 2) 3 1 v (lostL KB l p side pre).length (natV (lostL KB l p side pre)) ∧ ∀ b, v.ownBlock = some b → ¬ M b)
    (fun _ _ _ _ => False)
    ?h5 ?h6 ?h7 ?round ?done ?stop
  case h5 =>
    have := HZ.out
    exact (abide_below (by omega)).and ((abide_blk _ (by omega)).and ((abide_blk _ (by omega)).and ((abide_blk _ (by omega)).and ((abide_blk _ (by omega)).and (abide_row _ _ (by omega))))))
  case h6 => exact fun k => abide_pure _
  case h7 => exact ⟨⟨BB, by have := HZ.out; omega⟩, y0, y1, y2, y3, _, y4, World.ownsRow_nil w6 _ _ _, fun _ h => by cases h⟩
  case stop => rintro k pre rest M W _ h; exact h.elim
  case done =>
    rintro M W ⟨⟨hB, hz⟩, _, _, _, _, v, hv, hr, _⟩ hK
    obtain ⟨ad, cp, rfl⟩ := ownsRow_slice hr
    have q := hv.cell 0
    simp only [List.getElem?_toArray, List.getElem?_cons_zero] at q
    gi_wp2
    refine ⟨by simp, .inl ⟨_, _, rfl, run_takeDeferred hK, ?_⟩⟩
    have hst := Stp.putObj (Stp.refl (fun b => b = w6.heap.size) W) (.inl rfl) (.deferred none)
    exact ⟨_, results_tmp rfl _ _ _, _, rfl, ownsRow_base (ownsRow_stp hr hst fun b hb => by have := (ownBlock_ge hr b hb).1; omega) (by have := HZ.out; omega), hB.trans (hst.toBelow hz (fun b hb => by have := HZ.out; omega))⟩
  case round =>
    rintro L pre x rest M W hxs ⟨⟨hB, hz⟩, b0, b1, b2, b3, v, b4, hr, hvm⟩ hM hsz
    have hx : x < l.length := by
      have : x ∈ (List.range l.length).reverse := by rw [hxs]; simp
      simpa using this
    simp only [bedE, setAll2, List.setIfInBounds_toArray, List.set_cons_zero, List.set_cons_succ]
    gi_wp2
    refine ⟨(Stp.refl _ _).alloc _, fun W2 hsz2 hst2 => ?_⟩
    rw [World.size_alloc] at hsz2
    have hZ := HZ.out
    have d0 := hst2.blk (b0.alloc _) (by omega)
    have d1 := hst2.blk (b1.alloc _) (by omega)
    have d2 := hst2.blk (b2.alloc _) (by omega)
    have d3 := hst2.blk (b3.alloc _) (by omega)
    have d4 := hst2.blk (b4.alloc _) (by omega)
    have d5 := hst2.blk (Blk.new W _ _) (by omega)
    have r2 := ownsRow_stp (ownsRow_stp hr ((Stp.refl (fun _ => False) W).alloc _) (fun _ _ h => h)) hst2 (fun b hb => by have := (ownBlock_ge hr b hb).1; omega)
    have hB2 : Below w.heap.size w W2 := (hB.alloc (by omega) _).trans (Stp.toBelow hst2 (by rw [World.size_alloc]; omega) (fun b hb => by omega))
    obtain ⟨y, ab, off, hy, hA, hab, c0, c1, c2, c3, c4, c5⟩ := rdC (hR.on hB2) hx
    have hKx := fun U => HK.out x U hx
    rw [bed_at hy] at hKx
    have hSof : ∀ w', Below W2.heap.size W2 w' → w'.cell? ⟨w.heap.size, 0, none⟩ = some (.slice A l.length c) ∧ w'.cell? ⟨w1.heap.size, 0, none⟩ = some (.int .i64 p) ∧ w'.cell? ⟨w2.heap.size, 0, none⟩ = some (.int .i64 side) ∧
        w'.cell? ⟨w3.heap.size, 0, none⟩ = some (.func (.func gf) #[] #[]) ∧ w'.cell? ⟨W.heap.size, 0, none⟩ = some (.int .i64 (wts (l.drop x))) ∧ w'.cell? ⟨W.heap.size, 1, none⟩ = some (.int .i64 (es (l.drop x))) ∧ w'.cell? ⟨W.heap.size, 2, none⟩ = some (.int .i64 (ns (l.drop x))) ∧
        w'.cell? ⟨W.heap.size, 3, none⟩ = some (.int .i64 (hs (l.drop x))) ∧ w'.cell? ⟨W.heap.size, 4, none⟩ = some (.int .i64 (push (l.drop x))) ∧
        w'.cell? ⟨ab, off + x * 6, none⟩ = some (.int .i64 y.h) ∧ w'.cell? ⟨ab, off + x * 6 + 1, none⟩ = some (.int .i64 y.o) ∧ w'.cell? ⟨ab, off + x * 6 + 2, none⟩ = some (.int .i64 y.i) ∧ w'.cell? ⟨ab, off + x * 6 + 3, none⟩ = some (.int .i64 y.wt) ∧
        w'.cell? ⟨ab, off + x * 6 + 4, none⟩ = some (.int .i64 y.e) ∧ w'.cell? ⟨ab, off + x * 6 + 5, none⟩ = some (.int .i64 y.n) := fun w' hw' => by
      have hc := (bcell hw').1
      exact ⟨(hc _ _ d0.lt).trans (d0.cell 0), (hc _ _ d1.lt).trans (d1.cell 0), (hc _ _ d2.lt).trans (d2.cell 0), (hc _ _ d3.lt).trans (d3.cell 0), (hc _ _ d5.lt).trans (d5.cell 0), (hc _ _ d5.lt).trans (d5.cell 1), (hc _ _ d5.lt).trans (d5.cell 2),
        (hc _ _ d5.lt).trans (d5.cell 3), (hc _ _ d5.lt).trans (d5.cell 4), (hc _ _ hab).trans c0, (hc _ _ hab).trans c1, (hc _ _ hab).trans c2, (hc _ _ hab).trans c3, (hc _ _ hab).trans c4, (hc _ _ hab).trans c5⟩
    have hx0 : (0 : Int) ≤ (x : Int) := Int.natCast_nonneg _
    have hx1 : (x : Int) < (l.length : Int) := by omega
    subst hA
    have HS := Lib.hid hSof
    clear hSof c0 c1 c2 c3 c4 c5 hst2 hZ
    gi_wp2
    cases hkb : KB y (l.drop x) p side
    all_goals
      refine wpIn_round_held (fun w' => w'.cell? ⟨w.heap.size, 0, none⟩ = some (.slice (some ⟨ab, off, none⟩) l.length c) ∧ w'.cell? ⟨w1.heap.size, 0, none⟩ = some (.int .i64 p) ∧ w'.cell? ⟨w2.heap.size, 0, none⟩ = some (.int .i64 side) ∧
        w'.cell? ⟨w3.heap.size, 0, none⟩ = some (.func (.func gf) #[] #[]) ∧ w'.cell? ⟨W.heap.size, 0, none⟩ = some (.int .i64 (wts (l.drop x))) ∧ w'.cell? ⟨W.heap.size, 1, none⟩ = some (.int .i64 (es (l.drop x))) ∧ w'.cell? ⟨W.heap.size, 2, none⟩ = some (.int .i64 (ns (l.drop x))) ∧
        w'.cell? ⟨W.heap.size, 3, none⟩ = some (.int .i64 (hs (l.drop x))) ∧ w'.cell? ⟨W.heap.size, 4, none⟩ = some (.int .i64 (push (l.drop x))) ∧
        w'.cell? ⟨ab, off + x * 6, none⟩ = some (.int .i64 y.h) ∧ w'.cell? ⟨ab, off + x * 6 + 1, none⟩ = some (.int .i64 y.o) ∧ w'.cell? ⟨ab, off + x * 6 + 2, none⟩ = some (.int .i64 y.i) ∧ w'.cell? ⟨ab, off + x * 6 + 3, none⟩ = some (.int .i64 y.wt) ∧
        w'.cell? ⟨ab, off + x * 6 + 4, none⟩ = some (.int .i64 y.e) ∧ w'.cell? ⟨ab, off + x * 6 + 5, none⟩ = some (.int .i64 y.n)) (by kernel_rfl) (by omega) (by rintro ⟨_, _, h⟩; exact h) (by kernel_rfl) (HS.out _ (below_draw (Below.refl _ _))) (fun hH => ?_)
      refine wpAnyH_take (i := 0) (oi := { dst := some 16, op := Op.load 93 (Operand.tmp 7), type := 93, pos := _, after := _, guard := none }) (v := .func (.func gf) #[] #[]) rfl (by kernel_rfl) (by kernel_rfl) (by kernel_rfl) (fun _ _ _ h => h) (Or.inl ⟨by rfl, ?_⟩) (by assumption) ?_
      (focus (intro w' hSw; (try dsimp only at hSw); go_split_ands; go_simp))
      try simp only [Act.put, List.setIfInBounds_toArray, List.set_cons_zero, List.set_cons_succ]
      refine wpAnyH_take (i := 1) (oi := { dst := some 17, op := Op.load 22 (Operand.tmp 4), type := 22, pos := _, after := _, guard := none }) (v := .slice (some ⟨ab, off, none⟩) l.length c) rfl (by kernel_rfl) (by kernel_rfl) (by kernel_rfl) (fun _ _ _ h => h) (Or.inl ⟨by rfl, ?_⟩) (by assumption) ?_
      (focus (intro w' hSw; (try dsimp only at hSw); go_split_ands; go_simp))
      try simp only [Act.put, List.setIfInBounds_toArray, List.set_cons_zero, List.set_cons_succ]
      refine wpAnyH_take (i := 2) (oi := { dst := some 18, op := Op.move (Operand.tmp 10), type := 3, pos := _, after := _, guard := none }) (v := .int .i64 x) rfl (by kernel_rfl) (by kernel_rfl) (by kernel_rfl) (fun _ _ _ h => h) (Or.inl ⟨by rfl, ?_⟩) (by assumption) ?_
      (focus (intro w' hSw; (try dsimp only at hSw); go_split_ands; go_simp))
      try simp only [Act.put, List.setIfInBounds_toArray, List.set_cons_zero, List.set_cons_succ]
      refine wpAnyH_take (i := 3) (oi := { dst := some 19, op := Op.indexAddr 22 (Operand.tmp 17) (Operand.tmp 18), type := 0, pos := _, after := _, guard := none }) (v := .pointer (some ⟨ab, off + x * 6, none⟩)) rfl (by kernel_rfl) (by kernel_rfl) (by kernel_rfl) (fun _ _ _ h => h) (Or.inl ⟨by rfl, ?_⟩) (by assumption) ?_
      (focus (intro w' hSw; (try dsimp only at hSw); go_split_ands; go_simp))
      try simp only [Act.put, List.setIfInBounds_toArray, List.set_cons_zero, List.set_cons_succ]
      refine wpAnyH_take (i := 4) (oi := { dst := some 20, op := Op.load 35 (Operand.tmp 19), type := 35, pos := _, after := _, guard := none }) (v := .agg #[.int .i64 y.h, .int .i64 y.o, .int .i64 y.i, .int .i64 y.wt, .int .i64 y.e, .int .i64 y.n]) rfl (by kernel_rfl) (by kernel_rfl) (by kernel_rfl) (fun _ _ _ h => h) (Or.inl ⟨by rfl, ?_⟩) (by assumption) ?_
      (focus (intro w' hSw; (try dsimp only at hSw); go_split_ands; go_simp))
      try simp only [Act.put, List.setIfInBounds_toArray, List.set_cons_zero, List.set_cons_succ]
      refine wpAnyH_take (i := 5) (oi := { dst := some 21, op := Op.load 62 (Operand.tmp 11), type := 62, pos := _, after := _, guard := none }) (v := .agg #[.int .i64 (wts (l.drop x)), .int .i64 (es (l.drop x)), .int .i64 (ns (l.drop x)), .int .i64 (hs (l.drop x)), .int .i64 (push (l.drop x))]) rfl (by kernel_rfl) (by kernel_rfl) (by kernel_rfl) (fun _ _ _ h => h) (Or.inl ⟨by rfl, ?_⟩) (by assumption) ?_
      (focus (intro w' hSw; (try dsimp only at hSw); go_split_ands; go_simp))
      try simp only [Act.put, List.setIfInBounds_toArray, List.set_cons_zero, List.set_cons_succ]
      refine wpAnyH_take (i := 6) (oi := { dst := some 22, op := Op.load 3 (Operand.tmp 5), type := 3, pos := _, after := _, guard := none }) (v := .int .i64 p) rfl (by kernel_rfl) (by kernel_rfl) (by kernel_rfl) (fun _ _ _ h => h) (Or.inl ⟨by rfl, ?_⟩) (by assumption) ?_
      (focus (intro w' hSw; (try dsimp only at hSw); go_split_ands; go_simp))
      try simp only [Act.put, List.setIfInBounds_toArray, List.set_cons_zero, List.set_cons_succ]
      refine wpAnyH_take (i := 7) (oi := { dst := some 23, op := Op.load 3 (Operand.tmp 6), type := 3, pos := _, after := _, guard := none }) (v := .int .i64 side) rfl (by kernel_rfl) (by kernel_rfl) (by kernel_rfl) (fun _ _ _ h => h) (Or.inl ⟨by rfl, ?_⟩) (by assumption) ?_
      (focus (intro w' hSw; (try dsimp only at hSw); go_split_ands; go_simp))
      try simp only [Act.put, List.setIfInBounds_toArray, List.set_cons_zero, List.set_cons_succ]
      refine wpAnyH_ready (rs := [8]) (by kernel_rfl) (by simp) ?_
      refine AllReadyH.cons rfl (fun K hKK => ?_) AllReadyH.nil
      go_simp
      refine (hKx _).mono ?_
      rintro e U ⟨rfl, hbU⟩
      rw [hkb]
      refine hKK.out _ _ (HS.out _ (below_tr (below_draw (Below.refl _ _)) hbU)) (fun hH2 => ?_)
      clear hKK K
      try simp only [Act.put, List.setIfInBounds_toArray, List.set_cons_zero, List.set_cons_succ]
      refine wpAnyH_take (i := 9) (oi := { dst := some 25, op := Op.unOp UnOp.not 4 (Operand.tmp 24), type := 4, pos := _, after := _, guard := none }) (v := .bool _) rfl (by kernel_rfl) (by kernel_rfl) (by kernel_rfl) (fun _ _ _ h => h) (Or.inl ⟨by rfl, fun w' _ => by go_simp; rfl⟩) (by assumption) ?_
      try simp only [Act.put, List.setIfInBounds_toArray, List.set_cons_zero, List.set_cons_succ]
      refine wpAnyH_done (by kernel_rfl) ?_ _
      clear hH hH2
    · have hbU2 : Below W2.heap.size W2 U := below_tr (below_draw (Below.refl _ _)) hbU
      have e4 := d4.below hbU2 d4.lt
      have rU := ownsRow_stp r2 (Stp.of_below hbU2) (fun b hb => by have := (ownBlock_ge r2 b hb).2; omega)
      clear hbU
      have q4 := e4.cell 0
      have f4 := e4.frozen 0
      obtain ⟨ad, cp, rfl⟩ := ownsRow_slice hr
      simp only [List.getElem?_toArray, List.getElem?_cons_zero] at q4
      have hlen : (lostL KB l p side pre).length ≤ 60 := by
        have h1 := List.length_filter_le (fun i : Nat => !KB (bedC l i) (l.drop i) p side) pre
        have h2 := congrArg List.length hxs
        simp only [List.length_reverse, List.length_range, List.length_append, List.length_cons] at h2
        unfold lostL; omega
      have hpx : lostL KB l p side (pre ++ [x]) = lostL KB l p side pre ++ [x] := by
        unfold lostL; rw [List.filter_append]; simp [bed_at hy, hkb]
      have hZ := HZ.out
      have s4 : w4.heap.size < w6.heap.size := by omega
      have hrowne : ∀ b, (Value.slice ad (lostL KB l p side pre).length cp).ownBlock = some b → w4.heap.size ≠ b := fun b hb => by have := (ownBlock_ge hr b hb).1; omega
      have HP := Lib.hid hpx
      have HY := Lib.hid hy
      have HXS := Lib.hid hxs
      clear hpx hy hxs hZ
      obtain ⟨i0, hi, hi1, hi2, hi3⟩ := info_int
      gi_wp2_with (gi_at_builtin; go_loud (refine wpListIn_append_own_at _ rfl _ _ 51 rfl (w6.heap.size + 2) 3 i0 (.int .i64 0) 1 8 (by kernel_rfl) hi hi1 hi2 hi3 rfl (by omega) _ _ _ rfl (ownsRow_stp rU ((Stp.refl (fun _ => False) U).alloc _) (fun _ _ h => h)) ⟨U.heap.size, 0, none⟩ 1 1 [.int .i64 x] rfl rfl (cell_one_new _ _ _) (fun u hu => by simp at hu; subst hu; rfl) (by unfold maxLen; omega) (by omega) (by simp; have := hbU2.size; omega) ?_; intro v' U2 hown hgrow _ hat; obtain ⟨g, cap, rfl⟩ := ownsRow_succ hown; have e42 : Blk U2 w4.heap.size 51 #[.slice ad (lostL KB l p side pre).length cp] := (hgrow.block w4.heap.size (e4.alloc _).lt (fun h => hrowne _ h.symm rfl)).trans (e4.alloc _); have q42 := e42.cell 0; have f42 := e42.frozen 0; simp only [List.getElem?_toArray, List.getElem?_cons_zero] at q42))
      have hZ := HZ.out
      have hmk : ∀ N : Nat → Prop, N w4.heap.size → (∀ r, (Value.slice ad (lostL KB l p side pre).length cp).ownBlock = some r → N r ∨ W2.heap.size ≤ r) → Stp N W2 (U2.setCell ⟨w4.heap.size, 0, none⟩ (.slice (some ⟨g, 0, none⟩) ((lostL KB l p side pre).length + 1) cap)) := fun N h1 h2 =>
        (((Stp.of_below hbU2).mono (fun b hb hn => absurd hn (by omega)) |>.alloc _).grown hgrow h2).setCell (.inl h1) _
      have hst := hmk (fun b => b = w4.heap.size ∨ w6.heap.size + 2 ≤ b) (.inl rfl) (fun r hr' => .inl (.inr (ownBlock_ge hr r hr').1))
      refine ⟨hmk _ ?_ ?_, ⟨hB2.trans (hst.toBelow (by omega) (fun b hb => by omega)), Nat.le_trans hB2.size hst.size⟩, hst.blk d0 (by omega), hst.blk d1 (by omega), hst.blk d2 (by omega), hst.blk d3 (by omega), _, e42.set_ 0 _, ?_, ?_⟩
      · rintro (h | (h | h) | h | h)
        · have := (hM _ h).1; omega
        all_goals omega
      · intro r hr'
        have := ownBlock_ge hr r hr'
        refine .inl ?_
        rintro (h | (h | h) | h | h)
        · exact hvm r hr' h
        all_goals omega
      · rw [HP.out]
        have := ownsRow_stp hown (Stp.setCell (p := ⟨w4.heap.size, 0, none⟩) (Stp.refl (fun b => b = w4.heap.size) U2) (.inl rfl) (.slice (some ⟨g, 0, none⟩) ((lostL KB l p side pre).length + 1) cap)) (fun b hb => by have := (ownBlock_ge hown b hb).1; omega)
        simpa [natV] using this
      · intro b hb hm
        rcases hat with h | h
        · rw [h] at hb; exact hvm b hb hm
        · rw [h] at hb; cases hb
          have := (hM _ hm).2
          rw [World.size_alloc] at this
          have := hbU2.size
          omega
    · have hbU2 : Below W2.heap.size W2 U := below_tr (below_draw (Below.refl _ _)) hbU
      have hpx : lostL KB l p side (pre ++ [x]) = lostL KB l p side pre := by
        unfold lostL; rw [List.filter_append]; simp [bed_at hy, hkb]
      have HP := Lib.hid hpx
      clear hpx hy hxs
      gi_wp2
      have hZ := HZ.out
      have hst : Stp (fun b => W2.heap.size ≤ b) W2 U := Stp.of_below hbU2
      refine ⟨hst.mono (fun b hb hn => absurd hn (by omega)), ⟨hB2.trans (hbU2.mono (by omega)), Nat.le_trans hB2.size hbU2.size⟩, d0.below hbU2 d0.lt, d1.below hbU2 d1.lt, d2.below hbU2 d2.lt, d3.below hbU2 d3.lt, _, d4.below hbU2 d4.lt, ?_, hvm⟩
      rw [HP.out]
      exact ownsRow_stp r2 hst (fun b hb => by have := (ownBlock_ge r2 b hb).2; omega)
end Go.Proofs.Ythoemokkfijfeaa
