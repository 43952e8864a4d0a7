/- Stack: what stands above a bed, by the iterator. -/
import Derived.Test.YtoelekhkgknneaaDoorSd
namespace Go.Proofs.YtoelekhkgknneaaDoor
open Go.RowKit Go.Shelf
attribute [local go_sem] Oper.semAt_some

theorem s_beds (A : Option Addr) (n c : Nat) (w : World) : Calls Tryd.prog 132 #[.slice A n c] w fun e w' => e = .returned (.func (.func 156) #[] #[.pointer (some ⟨w.heap.size, 0, none⟩)]) ∧ w.alloc (.cells #[.slice A n c] 39) = w' := by
  go_enter Tryd.func132, Tryd.ntmps132
  go_wp2
  go_ret
  exact ⟨rfl, rfl⟩

set_option maxHeartbeats 1000000 in
theorem s_at (A : Option Addr) (l : List Course) (c : Nat) (bed : Nat) (w : World) (hv : validC l = true) (hbed : bed < l.length) (hR : Rd Course.cs 6 w A l) :
    Calls Tryd.prog 95 #[.slice A l.length c, .int .i64 bed] w fun e w' =>
      e = .returned (.agg #[.int .i64 (wts (l.drop bed)), .int .i64 (es (l.drop bed)), .int .i64 (ns (l.drop bed)), .int .i64 (hs (l.drop bed)), .int .i64 (push (l.drop bed))]) ∧ Below w.heap.size w w' := by
  have HV := Lib.hid hv
  obtain ⟨_, hl1, hl2⟩ := valid_all hv
  clear hv
  refine (callsIn_wide (n := 5)).1 ?_
  refine callsIn_of_wp_marks Tryd.func95 rfl trivial ?_ rfl
  simp only [Tryd.ntmps95, List.size_toArray, List.length_cons, List.length_nil, Nat.reduceAdd, Nat.reduceSub, Array.replicate_succ, Array.replicate_zero, List.push_toArray, List.append_toArray, List.nil_append, List.cons_append]
  gi_wp2
  refine ⟨trivial, ?_⟩
  refine (callsIn_wide.2 (s_beds A l.length c _)).mono ?_
  rintro e w1 ⟨rfl, rfl⟩
  gi_wp2
  generalize hW0 : ((w.alloc (.cells #[.int .i64 bed] 3)).alloc (.cells #[.int .i64 0, .int .i64 0, .int .i64 0, .int .i64 0, .int .i64 0] 133)).alloc (.cells #[.slice A l.length c] 39) = W0
  have hS : W0.heap.size = w.heap.size + 3 := by rw [← hW0]; simp
  have b0 : Blk W0 w.heap.size 3 #[.int .i64 bed] := by rw [← hW0]; exact ((Blk.new _ _ _).alloc _).alloc _
  have b1 : Blk W0 (w.heap.size + 1) 133 #[.int .i64 0, .int .i64 0, .int .i64 0, .int .i64 0, .int .i64 0] := by
    have h := (Blk.new (w.alloc (.cells #[.int .i64 bed] 3)) 133 #[.int .i64 0, .int .i64 0, .int .i64 0, .int .i64 0, .int .i64 0]).alloc (.cells #[.slice A l.length c] 39)
    rw [← hW0]; rwa [World.size_alloc] at h
  have b2 : Blk W0 (w.heap.size + 2) 39 #[.slice A l.length c] := by
    have h := Blk.new ((w.alloc (.cells #[.int .i64 bed] 3)).alloc (.cells #[.int .i64 0, .int .i64 0, .int .i64 0, .int .i64 0, .int .i64 0] 133)) 39 #[.slice A l.length c]
    rw [← hW0]; rwa [World.size_alloc, World.size_alloc] at h
  have hB0 : Below w.heap.size w W0 := by rw [← hW0]; exact below_tr (below_tr (below_alloc _ _) (below_alloc _ _)) (below_alloc _ _)
  clear hW0
  refine wp_range (by omega) (gf := 156) (lb := #[.pointer (some ⟨w.heap.size + 1 + 1, 0, none⟩)]) rfl enters91 (encs := bedE l) (xs := (List.range l.length).reverse) (R := fun b => b < w.heap.size ∨ b = w.heap.size + 2)
    (beds_seq _ (by omega) (w.heap.size + 2) A l c _ _ HV.out (b2.cell 0) (hR.on hB0) (.inr rfl) ?h3) (Stp.refl _ _) (fun _ => rfl) ?h4
    (fun pre _ W => (∀ x ∈ pre, x ≠ bed) ∧ (Below W0.heap.size W0 W ∧ W0.heap.size ≤ W.heap.size))
    (fun k _ _ W => (k = Code.ret) ∧ (Below w.heap.size w W ∧ w.heap.size ≤ W.heap.size) ∧ Blk W (w.heap.size + 1) 133 #[.int .i64 (wts (l.drop bed)), .int .i64 (es (l.drop bed)), .int .i64 (ns (l.drop bed)), .int .i64 (hs (l.drop bed)), .int .i64 (push (l.drop bed))])
    ?h5 ?h6 ?h7 ?round ?done ?stop
  case h3 =>
    rintro ad rfl
    obtain ⟨b', off', e, hlt, _⟩ := hR (by rintro rfl; simp at hl1)
    cases e; exact .inl hlt
  case h4 => intro b hb; rcases hb with hb | hb <;> omega
  case h5 => exact (abide_pure _).and (abide_below (by omega))
  case h6 => exact fun k => (abide_pure _).and ((abide_below (by omega)).and (abide_blk _ (by omega)))
  case h7 => exact ⟨fun x hx => by simp at hx, Below.refl _ _, Nat.le_refl _⟩
  case round =>
    rintro L pre x rest M W hxs ⟨hI, hI2, hI3⟩ hM hsz
    simp only [bedE, setAll2, List.setIfInBounds_toArray, List.set_cons_zero, List.set_cons_succ]
    gi_wp2
    refine ⟨(Stp.refl _ _).alloc _, fun W2 hsz2 hst2 => ?_⟩
    have hl1 : w.heap.size < W0.heap.size := by omega
    have hl2 : w.heap.size + 1 < W0.heap.size := by omega
    have d0 := (((b0.below hI2 hl1).alloc _).below (Stp.toBelow hst2 (B := W0.heap.size) (by rw [World.size_alloc]; omega) (fun b hb => by omega)) hl1)
    have d1 := (((b1.below hI2 hl2).alloc _).below (Stp.toBelow hst2 (B := W0.heap.size) (by rw [World.size_alloc]; omega) (fun b hb => by omega)) hl2)
    have d2 := hst2.blk (Blk.new W _ _) (by omega)
    have hB2 := (hI2.alloc (by omega) _).trans (Stp.toBelow hst2 (B := W0.heap.size) (by rw [World.size_alloc]; omega) (fun b hb => by omega))
    rw [World.size_alloc] at hsz2
    clear hst2
    have e0 := d0.cell 0
    have e1 := d1.cell 0
    have e2 := d1.cell 1
    have e3 := d1.cell 2
    have e4 := d1.cell 3
    have e5 := d1.cell 4
    have f1 := d1.frozen 0
    have f2 := d1.frozen 1
    have f3 := d1.frozen 2
    have f4 := d1.frozen 3
    have f5 := d1.frozen 4
    have g0 := d2.cell 0
    have g1 := d2.cell 1
    have g2 := d2.cell 2
    have g3 := d2.cell 3
    have g4 := d2.cell 4
    simp only [List.getElem?_toArray, List.getElem?_cons_zero, List.getElem?_cons_succ] at e0 e1 e2 e3 e4 e5 g0 g1 g2 g3 g4
    by_cases hx : x = bed
    · subst hx
      gi_wp2
      have hN : ¬ (M (w.heap.size + 1) ∨ (w.heap.size + 1 < w.heap.size ∨ w.heap.size + 1 = w.heap.size + 2) ∨ w.heap.size + 1 + 2 = W0.heap.size + 2 ∨ w.heap.size + 1 + 1 = W0.heap.size + 2) := by
        rintro (h | h | h | h)
        · have := (hM _ h).1; omega
        all_goals omega
      refine ⟨?_, rfl, ⟨?_, ?_⟩, ?_⟩
      · exact (((((Stp.refl _ _).setCell (.inl hN) _).setCell (.inl hN) _).setCell (.inl hN) _).setCell (.inl hN) _).setCell (.inl hN) _
      · exact (((((hB0.trans (hB2.mono (by omega))).setCell (by simp) _).setCell (by simp) _).setCell (by simp) _).setCell (by simp) _).setCell (by simp) _
      · simp [World.setCell]; omega
      · exact ((((d1.set_ 0 _).set_ 1 _).set_ 2 _).set_ 3 _).set_ 4 _
    · have hx2 : ((x : Int) == (bed : Int)) = false := by simp; omega
      gi_wp2
      refine ⟨Stp.refl _ _, fun y hy => ?_, hB2, by omega⟩
      rcases List.mem_append.1 hy with h | h
      · exact hI y h
      · simp at h; omega
  case done =>
    rintro M W ⟨hI, _⟩ _
    exact absurd rfl (hI bed (by simp; omega))
  case stop =>
    rintro k pre rest M W _ ⟨rfl, ⟨hB, hz⟩, hbl⟩ hK
    gi_wp2
    refine ⟨by simp, .inl ⟨_, _, rfl, run_takeDeferred hK, ?_⟩⟩
    exact ⟨_, res_c rfl rfl (load_above (Stp.blk (Stp.putObj (Stp.refl (fun b => b = W0.heap.size) W) (.inl rfl) (.deferred none)) hbl (by omega))), rfl, hB.trans ((Stp.putObj (Stp.refl (fun b => b = W0.heap.size) W) (.inl rfl) (.deferred none)).toBelow hz (fun b hb => by omega))⟩
end Go.Proofs.YtoelekhkgknneaaDoor
