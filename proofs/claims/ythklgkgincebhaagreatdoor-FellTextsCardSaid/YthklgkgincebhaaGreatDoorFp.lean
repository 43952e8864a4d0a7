/- Fell: the hull of the program. -/
import Derived.Test.YthklgkgincebhaaGreatDoorFo
set_option linter.unusedSimpArgs false
set_option linter.unusedVariables false
namespace Go.Proofs.YthklgkgincebhaaGreatDoor
open Go.RowKit Go.Shelf

theorem ob_eq {g n c b : Nat} (h : (Value.slice (some ⟨g, 0, none⟩) n c).ownBlock = some b) : g = b := by injection h
def HulP (l : List Sp) (w : World) (e : Ending) (w' : World) : Prop := ∃ v s, e = .returned v ∧ s.Perm l ∧ Asc s ∧ OwnP w.heap.size w' v (hul s) ∧ Below w.heap.size w w'
set_option maxHeartbeats 4000000 in
theorem p_hull (A : Option Addr) (l : List Sp) (c : Nat) (w : World) (h12 : l.length ≤ 24) (hbd : ∀ x ∈ l, Bd 10000 x) (hnd : l.Nodup) (hR : Rd Sp.cs 2 w A l) :
    Calls Tryz.prog 42 #[.slice A l.length c] w (HulP l w) := by
  have x0 := (Blk.new w 63 #[.slice A l.length c]).alloc (.cells #[.slice A l.length c] 63)
  have x1 := Blk.new (w.alloc (.cells #[.slice A l.length c] 63)) 63 #[.slice A l.length c]
  rw [World.size_alloc] at x1
  have B1 := bl_alloc (bl_alloc (below_refl w) (.cells #[.slice A l.length c] 63)) (.cells #[.slice A l.length c] 63)
  have HSF := Lib.hid (c_SortedFunc (w.heap.size + 1) A l c _ h12 hbd hnd x1 (hR.on B1))
  have HBD := Lib.hid hbd
  clear hbd hnd hR x1
  go_enter Tryz.func42, Tryz.ntmps42
  go_wp2_with fail
  refine (c_Values A l.length c _).mono ?_
  rintro e w1 ⟨rfl, rfl⟩
  go_wp2_with fail
  refine HSF.out.mono ?_
  rintro e w2 ⟨v, s, rfl, hp, ha, ho, hb⟩
  have hsl : s.length ≤ 24 := by rw [hp.length_eq]; exact h12
  have HSB := Lib.hid (show ∀ x ∈ s, Bd 10000 x from fun x hx => HBD.out x (hp.mem_iff.1 hx))
  have B2 : Below w.heap.size w w2 := below_tr B1 hb
  have x2 := x0.below hb x0.lt
  have ho2 : OwnP (w.heap.size + 2) w2 v s := by have := ho; rw [World.size_alloc, World.size_alloc] at this; exact this
  have hz2 : w.heap.size + 2 ≤ w2.heap.size := by have := hb.size; rw [World.size_alloc, World.size_alloc] at this; exact this
  have HP := Lib.hid hp
  have HA := Lib.hid ha
  clear hp ha ho hb B1 x0 HSF HBD h12
  unfold OwnP at ho2
  obtain ⟨ad, cp, rfl⟩ := own_slice ho2
  have q2 := x2.cell 0
  have f2 := x2.frozen 0
  simp only [List.getElem?_toArray, List.getElem?_cons_zero] at q2
  have zx2 := x2.lt
  have x3 : Blk (w2.setCell ⟨w.heap.size, 0, none⟩ (.slice ad s.length cp)) w.heap.size 63 #[.slice ad s.length cp] := x2.set_ 0 _
  have B3 := B2.setCell (p := ⟨w.heap.size, 0, none⟩) (Nat.le_refl _) (.slice ad s.length cp)
  have ho3 := own_far (p := ⟨w.heap.size, 0, none⟩) (u := .slice ad s.length cp) ho2 (fun b hb => by have := (own_ge ho2 b hb).1; show b ≠ w.heap.size; omega)
  have hz3 : w.heap.size + 2 ≤ (w2.setCell ⟨w.heap.size, 0, none⟩ (.slice ad s.length cp)).heap.size := by simpa [World.setCell] using hz2
  by_cases hn : s.length < 2
  · have hni : (s.length : Int) < 2 := by omega
    have HH := Lib.hid (show hul s = s by unfold hul; rw [if_pos hn])
    have HO := Lib.hid ho3
    have HB := Lib.hid B3
    clear ho2 ho3 B2 B3 hn x3
    go_wp2
    go_ret
    exact ⟨_, s, rfl, HP.out, HA.out, by unfold OwnP; rw [HH.out]; exact own_base HO.out (by omega), HB.out⟩
  · have hni : ¬ (s.length : Int) < 2 := by omega
    have HH := Lib.hid (show hul s = (chn s).tail.reverse ++ (chn s.reverse).tail.reverse by
      unfold hul; rw [if_neg hn]
      have e : ∀ q : List Sp, q.reverse.dropLast = q.tail.reverse := fun q => by cases q <;> simp
      rw [e, e])
    have hsp : 0 < s.length := by omega
    obtain ⟨g, cap, cur, e5, hgb, hbk, _⟩ := own_row Sp.cs_len ho3 hsp
    injection e5 with a1 a2 a3
    subst a1
    subst a3
    have hz3' : (w2.setCell ⟨w.heap.size, 0, none⟩ (.slice (some ⟨g, 0, none⟩) s.length cp)).heap.size = w2.heap.size := by simp [World.setCell]
    have hgl : g < w2.heap.size := by have := hbk.lt; rwa [hz3'] at this
    have y0 := Blk.new (w2.setCell ⟨w.heap.size, 0, none⟩ (.slice (some ⟨g, 0, none⟩) s.length cp)) 63 #[.slice none 0 0]
    rw [hz3'] at y0
    have x4 := x3.alloc (.cells #[.slice none 0 0] 63)
    have ba4 := below_alloc (w2.setCell ⟨w.heap.size, 0, none⟩ (.slice (some ⟨g, 0, none⟩) s.length cp)) (.cells #[.slice none 0 0] 63)
    have ho4 := own_on ho3 ba4
    have rd4 := own_rd' Sp.cs_len ho4
    have B4 := below_tr B3 ba4
    have hz4 : ((w2.setCell ⟨w.heap.size, 0, none⟩ (.slice (some ⟨g, 0, none⟩) s.length cp)).alloc (.cells #[.slice none 0 0] 63)).heap.size = w2.heap.size + 1 := by rw [World.size_alloc, hz3']
    have HS1 := Lib.hid (p_side (w2.heap.size + 1) w2.heap.size w.heap.size (.slice none 0 0) [] s g cp _ y0 x4 (World.ownsRow_nil _ _ _ _) rd4 (fun e => by rw [e] at hsp; cases hsp) (by omega) (by omega) (by omega) (by omega) (by omega) (by omega) (by simp) (by omega) HSB.out)
    have HO4 := Lib.hid ho4
    have HB4 := Lib.hid B4
    have HX4 := Lib.hid x4
    have HZ4 := Lib.hid hz4
    have HZ2 := Lib.hid hz2
    clear ho2 ho3 B2 B3 x3 hz3 hz3' y0 x4 ba4 ho4 rd4 B4 hz4 hbk a2 hz2
    go_wp2_with fail
    refine HS1.out.mono ?_
    rintro e w5 ⟨rfl, ⟨v5, hv5, ho5⟩, st5⟩
    have hz2 := HZ2.out
    have hz45 := st5.size
    rw [HZ4.out] at hz45
    have x5 := st5.blk HX4.out (by omega)
    have row5 := ownsRow_stp HO4.out st5 (fun b hb => by have := ob_eq hb; rintro (h | h) <;> omega)
    rw [List.nil_append] at ho5
    have q5 := x5.cell 0
    simp only [List.getElem?_toArray, List.getElem?_cons_zero] at q5
    have B5 := HB4.out.trans (st5.toBelow (B := w.heap.size) (by rw [HZ4.out]; omega) (fun b hb e => by omega))
    have HR5 := Lib.hid (c_Reverse _ _ s w5 hsp (by omega) row5)
    have HV5 := Lib.hid hv5
    have HO5 := Lib.hid ho5
    have HX5 := Lib.hid x5
    have HB5 := Lib.hid B5
    have HZ5 := Lib.hid hz45
    clear hv5 ho5 st5 x5 row5 B5 hz45 HS1 HB4 HX4 HO4
    go_wp2_with fail
    refine HR5.out.mono ?_
    rintro e w6 ⟨rfl, ho6, st6⟩
    unfold OwnP at ho6
    have hz45 := HZ5.out
    have hz56 := st6.size
    have x6 := st6.blk HX5.out (by intro e; have := ob_eq e; omega)
    have v6 := st6.blk HV5.out (by intro e; have := ob_eq e; omega)
    have o6 := ownsRow_stp HO5.out st6 (fun b hb e => by have := ob_eq e; have := (own_ge HO5.out b hb).1; omega)
    have B6 := HB5.out.trans (st6.toBelow (B := w.heap.size) HB5.out.size (fun b hb e => by have := ob_eq e; omega))
    have ho6' : w6.ownsRow (w.heap.size + 2) 32 2 (.slice (some ⟨g, 0, none⟩) s.reverse.length cp) s.reverse.length (fl Sp.cs s.reverse) := by rw [List.length_reverse] at ho6 ⊢; exact ho6
    have rd6 := own_rd' Sp.cs_len ho6'
    have x6' : Blk w6 w.heap.size 63 #[.slice (some ⟨g, 0, none⟩) s.reverse.length cp] := by rw [List.length_reverse]; exact x6
    have hcl : (chn s).length ≤ s.length := by have := fold_len s []; simpa [chn] using this
    have HS6 := Lib.hid (p_side (w2.heap.size + 1) w2.heap.size w.heap.size v5 (chn s).tail.reverse s.reverse g cp w6 v6 x6' o6 rd6 (fun e => by rw [List.reverse_eq_nil_iff] at e; rw [e] at hsp; cases hsp) (by omega) (by omega) (by omega) (by omega) (by omega) (by omega) (by simp; omega) (by simp; omega) (fun x hx => HSB.out x (by simpa using hx)))
    have HB6 := Lib.hid B6
    have HZ6 := Lib.hid (show w2.heap.size + 1 ≤ w6.heap.size by omega)
    clear ho6 ho6' st6 x6 x6' v6 o6 B6 rd6 hcl hz56 HR5 HV5 HO5 HX5 HB5
    go_wp2_with fail
    refine HS6.out.mono ?_
    rintro e w7 ⟨rfl, ⟨v7, hv7, ho7⟩, st7⟩
    rw [← HH.out] at ho7
    obtain ⟨ad7, cp7, rfl⟩ := own_slice ho7
    have q7 := hv7.cell 0
    simp only [List.getElem?_toArray, List.getElem?_cons_zero] at q7
    have B7 := HB6.out.trans (st7.toBelow (B := w.heap.size) HB6.out.size (fun b hb e => by omega))
    have HO7 := Lib.hid (own_base (base' := w.heap.size) ho7 (by omega))
    have HB7 := Lib.hid B7
    clear hv7 ho7 st7 B7 HS6
    go_wp2
    go_ret
    exact ⟨_, s, rfl, HP.out, HA.out, HO7.out, HB7.out⟩
end Go.Proofs.YthklgkgincebhaaGreatDoor
