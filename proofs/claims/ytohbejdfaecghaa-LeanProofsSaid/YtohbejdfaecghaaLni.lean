/- Lean: Proof by the program. -/
import Derived.Test.YtohbejdfaecghaaLnh
set_option linter.unusedSimpArgs false
set_option linter.unusedVariables false
namespace Go.Proofs.Ytohbejdfaecghaa
open Go.RowKit Go.Shelf
attribute [local go_sem] Oper.semAt_some

theorem load_arr3 {W : World} {b : Nat} {x y z : Value} (h : Blk W b 49 #[x, y, z]) : (loadVar 49 ⟨b, 0, none⟩).run Try.prog W = .ok (.agg #[x, y, z]) W := by
  have c0 := h.cell 0
  have c1 := h.cell 1
  have c2 := h.cell 2
  simp only [List.getElem?_toArray, List.getElem?_cons_zero, List.getElem?_cons_succ] at c0 c1 c2
  go_simp
theorem load_err {W : World} {b : Nat} {x : Value} (h : Blk W b 31 #[x]) : (loadVar 31 ⟨b, 0, none⟩).run Try.prog W = .ok x W := by
  have c0 := h.cell 0
  simp only [List.getElem?_toArray, List.getElem?_cons_zero, List.getElem?_cons_succ] at c0
  go_simp
section
variable {fn : Func} {p q : Tmp} {ty ty' : TypeId} {tmps : Array Value} {P : Program} {w : World} {a a' : Addr} {x x' : Value}
theorem res_cc (h : fn.results = #[.cell p ty, .cell q ty']) (hp : tmps.getD p undef = .pointer (some a)) (hl : (loadVar ty a).run P w = .ok x w) (hp' : tmps.getD q undef = .pointer (some a')) (hl' : (loadVar ty' a').run P w = .ok x' w) :
    (results fn tmps).run P w = .ok (.tuple #[x, x']) w := by
  simp only [results, h]
  simp at hp hp'
  simp [Sem.run_bind, Result.andThen, hp, hp', asAddr, hl, hl']
end
theorem prf_some {l : List Pt} {t : Trip} (hv : vldP l = true) (h : fndP l (trips l.length) = some t) : prfL l = (t, 0) := by
  unfold prfL; rw [if_pos hv, h]
theorem prf_none {l : List Pt} (hv : vldP l = true) (h : fndP l (trips l.length) = none) : prfL l = ((0, 0, 0), 8) := by
  unfold prfL; rw [if_pos hv, h]
theorem blk1 {W : World} {g : Nat} {t : TypeId} {a : Value} (h : Blk W g t #[a]) : W.cell? ⟨g, 0, none⟩ = some a ∧ W.frozen? ⟨g, 0, none⟩ = false := ⟨h.cell 0, h.frozen 0⟩
set_option maxHeartbeats 4000000 in
set_option maxRecDepth 20000 in
theorem p_Proof (A : Option Addr) (l : List Pt) (c : Nat) (w : World) (hn : l.length ≤ 100000) (hR : Rd Pt.cs 2 w A l) :
    Calls Try.prog 51 #[.slice A l.length c] w fun e w' => e = .returned (.tuple #[trV (prfL l).1, .int .i64 (prfL l).2]) ∧ Below w.heap.size w w' := by
  have HN := fun W (h : Below w.heap.size w W) => p_Nearest A l c W hn (hR.on h)
  have B0 : Below w.heap.size w (((w.alloc (.cells #[.slice A l.length c] 42)).alloc (.cells #[.int .i64 0, .int .i64 0, .int .i64 0] 49)).alloc (.cells #[.int .i64 0] 31)) := by (repeat' (first | assumption | exact below_refl _ | refine bl_alloc ?_ _ | refine Below.setCell ?_ ?_ _ | refine below_draw ?_ | refine below_drewN ?_ _ | refine below_tr ?_ (by assumption))) <;> (first | omega | (simp; done) | (simp; omega))
  have b0 : Blk (((w.alloc (.cells #[.slice A l.length c] 42)).alloc (.cells #[.int .i64 0, .int .i64 0, .int .i64 0] 49)).alloc (.cells #[.int .i64 0] 31)) w.heap.size 42 #[.slice A l.length c] := ((Blk.new _ _ _).alloc _).alloc _
  have b1 : Blk (((w.alloc (.cells #[.slice A l.length c] 42)).alloc (.cells #[.int .i64 0, .int .i64 0, .int .i64 0] 49)).alloc (.cells #[.int .i64 0] 31)) (w.heap.size + 1) 49 #[.int .i64 0, .int .i64 0, .int .i64 0] := (blk_second _ _ _ _).alloc _
  have b2 : Blk (((w.alloc (.cells #[.slice A l.length c] 42)).alloc (.cells #[.int .i64 0, .int .i64 0, .int .i64 0] 49)).alloc (.cells #[.int .i64 0] 31)) (w.heap.size + 2) 31 #[.int .i64 0] := by
    rw [show w.heap.size + 2 = (w.alloc (.cells #[.slice A l.length c] 42)).heap.size + 1 by simp]; exact blk_second _ _ _ _
  have s0 : w.heap.size + 3 = (((w.alloc (.cells #[.slice A l.length c] 42)).alloc (.cells #[.int .i64 0, .int .i64 0, .int .i64 0] 49)).alloc (.cells #[.int .i64 0] 31)).heap.size := by simp
  cases hv : vldP l
  · rw [show prfL l = ((0, 0, 0), 1) by simp [prfL, hv]]
    rw [show nearL l = ((0, 0, 0), 1) by simp [nearL, hv]] at HN
    have HN := Lib.hid HN
    have B0 := Lib.hid B0
    clear hR b0 b1 b2 s0
    go_enter Try.func51, Try.ntmps51
    go_wp2_with (go_at_call 37; ((with_reducible refine (HN.out _ B0.out).mono ?_); rintro e w1 ⟨rfl, hb1⟩; obtain ⟨hc1, hf1⟩ := bcell hb1; have hz1 := hb1.size; (try simp [sz_drew, sz_drewN] at hz1); (try simp only [sz_drew, sz_drewN] at hc1 hf1); have z1_0 : w.heap.size < w1.heap.size := (by omega); have z1_1 : w.heap.size + 1 < w1.heap.size := (by omega); have z1_2 : w.heap.size + 1 + 1 < w1.heap.size := (by omega)))
    have yz0 : w1.cell? ⟨w.heap.size + 1, 0, none⟩ = some (.int .i64 0) := by go_simp
    have yf0 : w1.frozen? ⟨w.heap.size + 1, 0, none⟩ = false := by go_simp
    have yz1 : w1.cell? ⟨w.heap.size + 1, 1, none⟩ = some (.int .i64 0) := by go_simp
    have yf1 : w1.frozen? ⟨w.heap.size + 1, 1, none⟩ = false := by go_simp
    have yz2 : w1.cell? ⟨w.heap.size + 1, 2, none⟩ = some (.int .i64 0) := by go_simp
    have yf2 : w1.frozen? ⟨w.heap.size + 1, 2, none⟩ = false := by go_simp
    have ye : w1.cell? ⟨w.heap.size + 1 + 1, 0, none⟩ = some (.int .i64 0) := by go_simp
    have yf : w1.frozen? ⟨w.heap.size + 1 + 1, 0, none⟩ = false := by go_simp
    (refine bodyPost_ret (v := .tuple #[trV (0, 0, 0), .int .i64 1]) (by simp [results, Try.results51, go_sem, *]) rfl ⟨rfl, ?_⟩; (repeat' (first | assumption | exact below_refl _ | refine bl_alloc ?_ _ | refine Below.setCell ?_ ?_ _ | refine below_draw ?_ | refine below_drewN ?_ _ | refine below_tr ?_ (by assumption))) <;> (first | omega | (simp; done) | (simp; omega)))
  · obtain ⟨h1, h2⟩ := vld_len hv
    rw [show nearL l = (nearP l, 0) by simp [nearL, hv]] at HN
    have HP := fun (i j k : Nat) W (h : Below w.heap.size w W) (h1 : i < j) (h2' : j < k) (h3 : k < l.length) => p_proves (nearP l).1 (nearP l).2.1 (nearP l).2.2 A l c i j k W (lb_of (vld_in (near_vld hv))) (vld_sp hv) (hR.on h) h2 (by omega) (by omega) h3
    have HFs := Lib.hid (fun t => prf_some (l := l) (t := t) hv)
    have HFn := Lib.hid (prf_none hv)
    have HS := fun (ts : List Trip) (t : Trip) (h : fndP l ts = none) (ht : prvB ((nearP l).1, (nearP l).2.1, (nearP l).2.2) l t = false) => fnd_snoc h ht
    have HH := fun (ts r : List Trip) (t : Trip) (h : fndP l ts = none) (ht : prvB ((nearP l).1, (nearP l).2.1, (nearP l).2.2) l t = true) => fnd_hit (r := r) h ht
    generalize prvB ((nearP l).1, (nearP l).2.1, (nearP l).2.2) l = PB at *
    generalize nearP l = N at *
    obtain ⟨x0, x1, x2⟩ := N
    dsimp only at HN HP
    have HN := Lib.hid HN
    have HP := Lib.hid HP
    have HS := Lib.hid HS
    have HH := Lib.hid HH
    refine (callsIn_wide (n := 5)).1 ?_
    refine callsIn_of_wp_marks Try.func51 rfl trivial ?_ rfl
    simp only [Try.ntmps51, List.size_toArray, List.length_cons, List.length_nil, Nat.reduceAdd, Nat.reduceSub, Array.replicate_succ, Array.replicate_zero, List.push_toArray, List.append_toArray, List.nil_append, List.cons_append]
    gi_wp2
    refine ⟨trivial, ?_⟩
    refine (callsIn_wide.2 (HN.out _ B0)).mono ?_
    rintro e w1 ⟨rfl, hb1⟩
    have B1 : Below w.heap.size w w1 := below_tr B0 hb1
    have c0 := b0.below hb1 b0.lt
    have c1 := b1.below hb1 b1.lt
    have c2 := b2.below hb1 b2.lt
    have hsz := hb1.size
    rw [← s0] at hsz
    clear hb1 b0 b1 b2 s0 B0
    have q0 := (blk1 c0).1
    have y0 := c0.lt
    gi_wp2
    refine ⟨trivial, ?_⟩
    refine (callsIn_wide.2 (p_triples l.length _)).mono ?_
    rintro e w2 ⟨rfl, rfl⟩
    gi_wp2
    obtain ⟨W0, hW0⟩ : ∃ W0, ((w1.alloc (.cells #[.int .i64 x0, .int .i64 x1, .int .i64 x2] 30)).alloc (.cells #[.int .i64 l.length] 3)) = W0 := ⟨_, rfl⟩
    rw [hW0]
    have hS : W0.heap.size = w1.heap.size + 2 := by rw [← hW0]; simp
    have d0 : Blk W0 w.heap.size 42 #[.slice A l.length c] := by rw [← hW0]; exact (c0.alloc _).alloc _
    have d1 : Blk W0 (w.heap.size + 1) 49 #[.int .i64 0, .int .i64 0, .int .i64 0] := by rw [← hW0]; exact (c1.alloc _).alloc _
    have d2 : Blk W0 (w.heap.size + 2) 31 #[.int .i64 0] := by rw [← hW0]; exact (c2.alloc _).alloc _
    have d3 : Blk W0 w1.heap.size 30 #[.int .i64 x0, .int .i64 x1, .int .i64 x2] := by rw [← hW0]; exact (Blk.new _ _ _).alloc _
    have d4 : Blk W0 (w1.heap.size + 1) 3 #[.int .i64 l.length] := by rw [← hW0]; exact blk_second _ _ _ _
    have BB : Below w.heap.size w W0 := by rw [← hW0]; (repeat' (first | assumption | exact below_refl _ | refine bl_alloc ?_ _ | refine Below.setCell ?_ ?_ _ | refine below_draw ?_ | refine below_drewN ?_ _ | refine below_tr ?_ (by assumption))) <;> (first | omega | (simp; done) | (simp; omega))
    clear hW0 c0 c1 c2 q0
    have hT : w.heap.size + 2 < w1.heap.size := by omega
    clear B1 y0 hsz
    generalize w1.heap.size = T at *
    refine wp_range (by omega) (gf := 95) (lb := #[.pointer (some ⟨T + 1, 0, none⟩)]) rfl enters_trips (encs := tripE) (xs := trips l.length) (R := fun b => b < w.heap.size ∨ b = T + 1)
      (trip_seq _ (by omega) (T + 1) l.length (by omega) _ W0 (d4.cell 0) (.inr rfl)) (Stp.refl _ _) (fun _ => rfl) (by rintro b (hb | hb) <;> omega)
      (fun pre _ W => (fndP l pre = none) ∧ (Below w.heap.size w W ∧ w.heap.size ≤ W.heap.size) ∧ Blk W w.heap.size 42 #[.slice A l.length c] ∧ Blk W (w.heap.size + 1) 49 #[.int .i64 0, .int .i64 0, .int .i64 0] ∧
        Blk W (w.heap.size + 2) 31 #[.int .i64 0] ∧ Blk W T 30 #[.int .i64 x0, .int .i64 x1, .int .i64 x2])
      (fun k pre _ W => ∃ t : Trip, (k = Code.ret ∧ fndP l (trips l.length) = some t) ∧ (Below w.heap.size w W ∧ w.heap.size ≤ W.heap.size) ∧ Blk W (w.heap.size + 1) 49 #[.int .i64 t.1, .int .i64 t.2.1, .int .i64 t.2.2] ∧ Blk W (w.heap.size + 2) 31 #[.int .i64 0])
      ?h5 ?h6 ?h7 ?round ?done ?stop
    case h5 => exact (abide_pure _).and ((abide_below (by omega)).and ((abide_blk _ (by omega)).and ((abide_blk _ (by omega)).and ((abide_blk _ (by omega)).and (abide_blk _ (by omega))))))
    case h6 => exact fun k => Abide.ex fun t => (abide_pure _).and ((abide_below (by omega)).and ((abide_blk _ (by omega)).and (abide_blk _ (by omega))))
    case h7 => exact ⟨rfl, ⟨BB, by omega⟩, d0, d1, d2, d3⟩
    case stop =>
      rintro k pre rest M W _ ⟨t, ⟨rfl, ht⟩, ⟨hB, hz⟩, g1, g2⟩ hK
      have HPR := Lib.hid (HFs.out t ht)
      gi_wp2
      refine ⟨by simp, .inl ⟨_, _, rfl, run_takeDeferred hK, ?_⟩⟩
      have hst := Stp.putObj (Stp.refl (fun b => b = W0.heap.size) W) (.inl rfl) (.deferred none)
      exact ⟨_, res_cc rfl rfl (load_arr3 (hst.blk g1 (by omega))) rfl (load_err (hst.blk g2 (by omega))), by rw [HPR.out], hB.trans (hst.toBelow hz (fun b hb => by omega))⟩
    case done =>
      rintro M W ⟨hf, ⟨hB, hz⟩, g0, g1, g2, g3⟩ hK
      have HPR := Lib.hid (HFn.out hf)
      obtain ⟨u0, u1, u2, v0, v1, v2⟩ := blk3 g1
      obtain ⟨u3, v3⟩ := blk1 g2
      have u3' : W.cell? ⟨w.heap.size + 1 + 1, 0, none⟩ = some (.int .i64 0) := u3
      have v3' : W.frozen? ⟨w.heap.size + 1 + 1, 0, none⟩ = false := v3
      gi_wp2
      obtain ⟨W4, hW4⟩ : ∃ W4, W4 = ((((W.setCell ⟨w.heap.size + 1, 0, none⟩ (.int .i64 0)).setCell ⟨w.heap.size + 1, 1, none⟩ (.int .i64 0)).setCell ⟨w.heap.size + 1, 2, none⟩ (.int .i64 0)).setCell ⟨w.heap.size + 1 + 1, 0, none⟩ (.int .i64 8)) := ⟨_, rfl⟩
      rw [← hW4]
      have k1 : Blk W4 (w.heap.size + 1) 49 #[.int .i64 0, .int .i64 0, .int .i64 0] := by rw [hW4]; exact (((g1.set_ 0 _).set_ 1 _).set_ 2 _).far (by simp) _
      have k2 : Blk W4 (w.heap.size + 2) 31 #[.int .i64 8] := by rw [hW4]; exact (((g2.far (by simp) _).far (by simp) _).far (by simp) _).set_ 0 _
      have kB : Below w.heap.size w W4 := by rw [hW4]; exact (((hB.setCell (by simp) _).setCell (by simp) _).setCell (by simp) _).setCell (by simp; omega) _
      have kz : w.heap.size ≤ W4.heap.size := kB.size
      have kK : W4.heap[W0.heap.size]? = some (.deferred (some [])) := by
        rw [hW4]
        exact (Below.heap_setCell _ _ _ _ (by simp; omega)).trans ((Below.heap_setCell _ _ _ _ (by simp; omega)).trans ((Below.heap_setCell _ _ _ _ (by simp; omega)).trans ((Below.heap_setCell _ _ _ _ (by simp; omega)).trans hK)))
      clear hW4
      refine ⟨by simp, .inl ⟨_, _, rfl, run_takeDeferred kK, ?_⟩⟩
      have hst := Stp.putObj (Stp.refl (fun b => b = W0.heap.size) W4) (.inl rfl) (.deferred none)
      exact ⟨_, res_cc rfl rfl (load_arr3 (hst.blk k1 (by omega))) rfl (load_err (hst.blk k2 (by omega))), by rw [HPR.out]; rfl, kB.trans (hst.toBelow kz (fun b hb => by omega))⟩
    case round =>
      rintro L pre x rest M W hxs ⟨hf, ⟨hB, hz⟩, g0, g1, g2, g3⟩ hM hsz
      simp only [tripE, setAll1, List.setIfInBounds_toArray, List.set_cons_zero, List.set_cons_succ]
      gi_wp2
      refine ⟨(Stp.refl _ _).alloc _, fun W2 hsz2 hst2 => ?_⟩
      rw [World.size_alloc] at hsz2
      obtain ⟨i, j, k⟩ := x
      obtain ⟨hij, hjk, hkl⟩ : i < j ∧ j < k ∧ k < l.length := trips_mem (by rw [hxs]; simp)
      dsimp only at *
      have e0 := hst2.blk (g0.alloc _) (by omega)
      have e1 := hst2.blk (g1.alloc _) (by omega)
      have e2 := hst2.blk (g2.alloc _) (by omega)
      have e3 := hst2.blk (g3.alloc _) (by omega)
      have e5 := hst2.blk (Blk.new W _ _) (by omega)
      have hB2 : Below w.heap.size w W2 := (hB.alloc (by omega) _).trans (Stp.toBelow hst2 (by rw [World.size_alloc]; omega) (fun b hb => by omega))
      have z0 := (blk1 e0).1
      obtain ⟨z1, z2, z3, _, _, _⟩ := blk3 e3
      obtain ⟨z4, z5, z6, _, _, _⟩ := blk3 e5
      have HX := Lib.hid hxs
      have HSZ := Lib.hid hsz2
      clear hxs g0 g1 g2 g3
      cases hpb : PB (i, j, k)
      · have HS2 := Lib.hid (HS.out _ (i, j, k) hf hpb)
        have HPB := Lib.hid hpb
        clear hpb hsz2
        gi_wp2
        refine ⟨trivial, ?_⟩
        refine (CallsIn.inRound L (callsIn_wide.2 (calls_bool HPB.out (HP.out i j k _ hB2 hij hjk hkl)))).mono ?_
        rintro e w5 ⟨rfl, hb5⟩
        gi_wp2
        have h2 := HSZ.out
        refine ⟨(Stp.of_below hb5).mono (fun b hb hn => absurd hn (by omega)), HS2.out, ⟨below_tr hB2 hb5, by have := hb5.size; omega⟩, e0.below hb5 e0.lt, e1.below hb5 e1.lt, e2.below hb5 e2.lt, e3.below hb5 e3.lt⟩
      · have HH2 := Lib.hid (HH.out _ rest (i, j, k) hf hpb)
        have HPB := Lib.hid hpb
        clear hpb hsz2
        gi_wp2
        refine ⟨trivial, ?_⟩
        refine (CallsIn.inRound L (callsIn_wide.2 (calls_bool HPB.out (HP.out i j k _ hB2 hij hjk hkl)))).mono ?_
        rintro e w5 ⟨rfl, hb5⟩
        have f1 := e1.below hb5 e1.lt
        have f2 := e2.below hb5 e2.lt
        have f5 := e5.below hb5 e5.lt
        obtain ⟨u0, u1, u2, v0, v1, v2⟩ := blk3 f1
        obtain ⟨u3, v3⟩ := blk1 f2
        have u3' : w5.cell? ⟨w.heap.size + 1 + 1, 0, none⟩ = some (.int .i64 0) := u3
        have v3' : w5.frozen? ⟨w.heap.size + 1 + 1, 0, none⟩ = false := v3
        obtain ⟨o0, o1, o2, _, _, _⟩ := blk3 f5
        gi_wp2
        have h2 := HSZ.out
        have hN1 : ¬ (M (w.heap.size + 1) ∨ (w.heap.size + 1 < w.heap.size ∨ w.heap.size + 1 = T + 1) ∨ w.heap.size + 1 + 2 = W0.heap.size + 2 ∨ w.heap.size + 1 + 1 = W0.heap.size + 2) := by
          rintro (h | h | h | h)
          · have := (hM _ h).1; omega
          all_goals omega
        have hN2 : ¬ (M (w.heap.size + 1 + 1) ∨ (w.heap.size + 1 + 1 < w.heap.size ∨ w.heap.size + 1 + 1 = T + 1) ∨ w.heap.size + 1 + 1 + 2 = W0.heap.size + 2 ∨ w.heap.size + 1 + 1 + 1 = W0.heap.size + 2) := by
          rintro (h | h | h | h)
          · have := (hM _ h).1; omega
          all_goals omega
        refine ⟨?_, (i, j, k), ⟨rfl, by rw [HX.out]; exact HH2.out⟩, ⟨?_, ?_⟩, ?_, ?_⟩
        · exact (((((Stp.of_below hb5).mono (fun b hb hn => absurd hn (by omega))).setCell (.inl hN1) _).setCell (.inl hN1) _).setCell (.inl hN1) _).setCell (.inl hN2) _
        · exact ((((below_tr hB2 hb5).setCell (by simp) _).setCell (by simp) _).setCell (by simp) _).setCell (by simp; omega) _
        · have := hb5.size; simp [World.setCell]; omega
        · exact (((f1.set_ 0 _).set_ 1 _).set_ 2 _).far (by simp) _
        · exact (((f2.far (by simp) _).far (by simp) _).far (by simp) _).set_ 0 _
end Go.Proofs.Ytohbejdfaecghaa
