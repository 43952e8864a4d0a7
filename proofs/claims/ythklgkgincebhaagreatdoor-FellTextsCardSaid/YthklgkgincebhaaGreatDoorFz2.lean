/- Fell: the direction of a fall, by the program. -/
import Derived.Test.YthklgkgincebhaaGreatDoorFz1
import Derived.Deep.DeepCutAuto
import Derived.Outline
set_option linter.unusedSimpArgs false
set_option linter.unusedVariables false
namespace Go.Proofs.YthklgkgincebhaaGreatDoor
open Go.RowKit

/-- all that lies below W's end is as in W, but for block T -/
def Kx (w W : World) (T : Nat) (w' : World) : Prop :=
  (∀ b o, b < W.heap.size → b ≠ T → w'.cell? ⟨b, o, none⟩ = W.cell? ⟨b, o, none⟩) ∧ (∀ b o, b < W.heap.size → w'.frozen? ⟨b, o, none⟩ = W.frozen? ⟨b, o, none⟩) ∧ W.heap.size ≤ w'.heap.size ∧ Below w.heap.size w w'
section
variable {w W w' w'' : World} {T : Nat}
theorem kx_refl (h : Below w.heap.size w W) : Kx w W T W := ⟨fun _ _ _ _ => rfl, fun _ _ _ => rfl, Nat.le_refl _, h⟩
theorem kx_draw (h : Kx w W T w') : Kx w W T w'.drew := ⟨h.1, h.2.1, h.2.2.1, below_draw h.2.2.2⟩
theorem kx_step (h : Kx w W T w') (hb : Below w'.heap.size w' w'') : Kx w W T w'' :=
  ⟨fun b o h1 h2 => ((bcell hb).1 b o (Nat.lt_of_lt_of_le h1 h.2.2.1)).trans (h.1 b o h1 h2), fun b o h1 => ((bcell hb).2 b o (Nat.lt_of_lt_of_le h1 h.2.2.1)).trans (h.2.1 b o h1), Nat.le_trans h.2.2.1 hb.size, below_tr h.2.2.2 hb⟩
theorem kx_set {i : Nat} {v : Value} (h : Kx w W T w') (hT : w.heap.size ≤ T) : Kx w W T (w'.setCell ⟨T, i, none⟩ v) :=
  ⟨fun b o h1 h2 => by rw [World.cell?_setCell_far _ _ _ _ (show T ≠ b from fun e => h2 e.symm)]; exact h.1 b o h1 h2, fun b o h1 => by rw [World.frozen?_setCell]; exact h.2.1 b o h1, by rw [World.size_setCell]; exact h.2.2.1, h.2.2.2.setCell hT _⟩
end
def dirOK (l : List Sp) (w d : Sp) : Prop := DirP l w d
theorem beside_cases {a b s : Sp} : bsB s a b = false ↔ ¬ (cr a b s < 0 ∧ 0 < dt a b s ∧ dt a b s < dq b a a) := by
  rw [← Bool.not_eq_true, bsB_iff]; rfl
set_option maxHeartbeats 8000000 in
set_option maxRecDepth 20000 in
theorem p_direction (A : Option Addr) (l : List Sp) (c : Nat) (s : Sp) (w : World) (h12 : l.length ≤ 24) (hne : l ≠ []) (hbd : ∀ x ∈ l, Bd 10000 x) (hnd : l.Nodup) (hs : Bd 10000 s) (hw : ¬ Held l s) (hR : Rd Sp.cs 2 w A l) :
    Calls Tryz.prog 29 #[.slice A l.length c, spV s] w fun e w' => ∃ d, e = .returned (spV d) ∧ DirP l s d ∧ Below w.heap.size w w' := by
  have HBD := Lib.hid hbd
  have HS := Lib.hid hs
  obtain ⟨W1, hW1⟩ : ∃ W1, W1 = (w.alloc (.cells (spA s) 32)).alloc (.cells #[.int .i64 0, .int .i64 0] 32) := ⟨_, rfl⟩
  have x0 : Blk W1 w.heap.size 32 (spA s) := by rw [hW1]; exact (Blk.new w 32 (spA s)).alloc (.cells #[.int .i64 0, .int .i64 0] 32)
  have y0 : Blk W1 (w.heap.size + 1) 32 #[.int .i64 0, .int .i64 0] := by
    have := Blk.new (w.alloc (.cells (spA s) 32)) 32 #[.int .i64 0, .int .i64 0]
    rw [World.size_alloc] at this
    rw [hW1]; exact this
  have B0 : Below w.heap.size w W1 := by rw [hW1]; exact bl_alloc (bl_alloc (below_refl w) (.cells (spA s) 32)) (.cells #[.int .i64 0, .int .i64 0] 32)
  have HH := Lib.hid (p_hull A l c W1 h12 hbd hnd (hR.on B0))
  have hdec := fun d => (Iff.rfl : DirP l s d ↔ DirP l s d)
  obtain ⟨OK, hOK⟩ : ∃ OK : Sp → Prop, OK = DirP l s := ⟨_, rfl⟩
  rw [show (fun e w' => ∃ d, e = Ending.returned (spV d) ∧ DirP l s d ∧ Below w.heap.size w w') = (fun e w' => ∃ d, e = Ending.returned (spV d) ∧ OK d ∧ Below w.heap.size w w') by rw [hOK]]
  have HW := Lib.hid (show l ≠ [] ∧ ¬ Held l s ∧ OK = DirP l s from ⟨hne, hw, hOK⟩)
  have HZ1 := Lib.hid (show w.heap.size + 2 ≤ W1.heap.size by rw [hW1]; simp)
  clear hbd hnd hR hs hne hw hOK hdec
  go_enter Tryz.func29, Tryz.ntmps29
  go_wp2_with fail
  rw [show ((w.alloc (.cells #[.int .i64 s.x, .int .i64 s.y] 32)).alloc (.cells #[.int .i64 0, .int .i64 0] 32)) = W1 from hW1.symm]
  clear hW1
  refine HH.out.mono ?_
  rintro e w1 ⟨v, q, rfl, hp, ha, ho, hb⟩
  have HEDGE := Lib.hid (fun i (hi : i < (hul q).length) (hB : bsB s (gl (hul q) i) (gl (hul q) ((i + 1) % (hul q).length)) = true) => (show Nz ⟨(gl (hul q) ((i + 1) % (hul q).length)).y - (gl (hul q) i).y, -((gl (hul q) ((i + 1) % (hul q).length)).x - (gl (hul q) i).x)⟩ ∧ OK (shZ ⟨(gl (hul q) ((i + 1) % (hul q).length)).y - (gl (hul q) i).y, -((gl (hul q) ((i + 1) % (hul q).length)).x - (gl (hul q) i).x)⟩) from (by
    have := fall_edge hp ha hi (bsB_iff.1 hB)
    exact ⟨this.2, by rw [HW.out.2.2]; exact ⟨_, this.1, this.2, rfl⟩⟩)))
  have HCOR := Lib.hid (fun (hno : ∀ i, i < (hul q).length → bsB s (gl (hul q) i) (gl (hul q) ((i + 1) % (hul q).length)) = false) => (show ∃ x ∈ hul q, crnB (hul q) s x = true from (by
    obtain ⟨x, hx, hq⟩ := fall_corner hp ha HW.out.1 HW.out.2.1 (fun i hi hB => by have := hno i hi; rw [bsB_iff.2 hB] at this; cases this)
    exact ⟨x, hx, crnB_iff.2 hq⟩)))
  have HCO2 := Lib.hid (fun x (hx : x ∈ hul q) (hc : crnB (hul q) s x = true) => (show Nz (vec s x) ∧ OK (shZ (vec s x)) from (by
    have := fall_corner2 hp ha HW.out.2.1 hx (crnB_iff.1 hc)
    exact ⟨this.2, by rw [HW.out.2.2]; exact ⟨_, this.1, this.2, rfl⟩⟩)))
  have HQB := Lib.hid (show ∀ x ∈ hul q, Bd 10000 x from fun x hx => HBD.out x (hp.mem_iff.1 (hul_sub ha x hx)))
  have hqp : 0 < (hul q).length := by
    rcases Nat.eq_zero_or_pos (hul q).length with e | e
    · exfalso
      obtain ⟨x, hx, _⟩ := HCOR.out (fun i hi => absurd hi (by omega))
      rw [List.length_eq_zero_iff] at e
      rw [e] at hx; cases hx
    · exact e
  have hql : (hul q).length ≤ 1000 := by
    have h1 := nodup_len (hul_nodup ha) (hul_sub ha)
    have h2 := hp.length_eq
    omega
  have hge : ∀ b, v.ownBlock = some b → w.heap.size + 1 < b := fun b hb' => by have := (own_ge ho b hb').1; have := HZ1.out; omega
  have B1 := below_tr B0 hb
  have x1 := x0.below hb x0.lt
  have y1 := y0.below hb y0.lt
  have ho1 := own_base (base' := w.heap.size) ho B0.size
  clear hp ha ho hb B0 x0 y0 HH h12 HW HBD
  generalize hul q = h at *
  clear q
  obtain ⟨g, cap, cur, rfl, hgb, hbk, _⟩ := own_row Sp.cs_len ho1 hqp
  have hgT := hge g rfl
  clear hbk hge HZ1
  have B2 := bl_alloc B1 (.cells #[.slice (some ⟨g, 0, none⟩) h.length cap] 63)
  have x2 := x1.alloc (.cells #[.slice (some ⟨g, 0, none⟩) h.length cap] 63)
  have y2 := y1.alloc (.cells #[.slice (some ⟨g, 0, none⟩) h.length cap] 63)
  have z2 := Blk.new w1 63 #[.slice (some ⟨g, 0, none⟩) h.length cap]
  have ho2 := own_on ho1 (bl_alloc (below_refl w1) (.cells #[.slice (some ⟨g, 0, none⟩) h.length cap] 63))
  have hn1 : (1 : Int) ≤ (h.length : Int) := by omega
  have hn2 : (h.length : Int) ≤ 1000 := by omega
  have n0 : ¬ (h.length : Int) = 0 := by omega
  have k0 : ¬ h.length = 0 := by omega
  have m0 : ((h.length : Int) == 0) = false := by simpa using n0
  clear B1 x1 y1 ho1
  go_wp2_with fail
  generalize w1.alloc (.cells #[.slice (some ⟨g, 0, none⟩) h.length cap] 63) = W2 at *
  generalize w1.heap.size = b2 at *
  go_wp2_with fail
  go_loopw [17] (fun i wr => ∃ k : Nat, k ≤ h.length ∧ i = .int .i64 k ∧ Below w.heap.size w wr ∧ Blk wr w.heap.size 32 (spA s) ∧ Blk wr (w.heap.size + 1) 32 #[.int .i64 0, .int .i64 0] ∧ Blk wr b2 63 #[.slice (some ⟨g, 0, none⟩) h.length cap] ∧ wr.ownsRow w.heap.size 32 2 (.slice (some ⟨g, 0, none⟩) h.length cap) h.length (fl Sp.cs h) ∧ Hid (∀ i, i < k → bsB s (gl h i) (gl h ((i + 1) % h.length)) = false)) (fun i _ => h.length - (intOf i).toNat)
  case atStart => exact ⟨0, by omega, rfl, B2, x2, y2, z2, ho2, Lib.hid (fun i hi => absurd hi (by omega))⟩
  case round =>
    clear B2 x2 y2 z2 ho2
    obtain ⟨k, hk, rfl, hbw, xb, yb, zb, hrow, HI⟩ := hrel
    have kk0 : (0 : Int) ≤ (k : Int) := Int.natCast_nonneg _
    by_cases hlt : k < h.length
    · have kk1 : (k : Int) < (h.length : Int) := by omega
      obtain ⟨r, hr⟩ : ∃ r : Nat, r = (k + 1) % h.length := ⟨_, rfl⟩
      have hrl : r < h.length := by rw [hr]; exact Nat.mod_lt _ hqp
      have hmod : ((k : Int) + 1).tmod (h.length : Int) = (r : Int) := by rw [hr]; rw [Int.tmod_eq_emod_of_nonneg (by omega)]; rw [Int.natCast_emod]; rfl
      have hw1 : IntKind.i64.wrap ((k : Int) + 1) = (k : Int) + 1 := fits_wrap (by omega)
      have r0 : (0 : Int) ≤ (r : Int) := Int.natCast_nonneg _
      have r1 : (r : Int) < (h.length : Int) := by omega
      obtain ⟨a, ha⟩ := get_lt hlt
      obtain ⟨b, hb⟩ := get_lt hrl
      obtain ⟨c0, c1, zg⟩ := own_at hrow ha
      have ba := HQB.out a (List.mem_of_getElem? ha)
      have bb := HQB.out b (List.mem_of_getElem? hb)
      have bs := HS.out
      have bv : Bd 20000 (vec b a) := vec_bd (m := 10000) (n := 10000) bb ba
      have bu : Bd 20000 (vec s a) := vec_bd (m := 10000) (n := 10000) bs ba
      have HYES := Lib.hid (fun (hB : cr a b s < 0 ∧ 0 < dt a b s ∧ dt a b s < dq b a a) => (show Nz ⟨(vec b a).y, -(vec b a).x⟩ ∧ OK (shZ ⟨(vec b a).y, -(vec b a).x⟩) from (by
        have := HEDGE.out k hlt (by rw [← hr, gl_of ha, gl_of hb]; exact bsB_iff.2 hB)
        rw [← hr, gl_of ha, gl_of hb] at this
        exact this)))
      have HNO := Lib.hid (fun (hB : ¬ (cr a b s < 0 ∧ 0 < dt a b s ∧ dt a b s < dq b a a)) => (show ∀ i, i < k + 1 → bsB s (gl h i) (gl h ((i + 1) % h.length)) = false from (by
        intro i hi
        by_cases e : i = k
        · subst e; rw [← hr, gl_of ha, gl_of hb]; exact beside_cases.2 hB
        · exact HI.out i (by omega))))
      have HL1 := Lib.hid (fun W => p_less b a W (bb.mono (by omega)) (ba.mono (by omega)))
      have HL2 := Lib.hid (fun W => p_less s a W (bs.mono (by omega)) (ba.mono (by omega)))
      have HC := Lib.hid (fun W => p_cross (vec b a) (vec s a) W (bv.mono (by omega)) (bu.mono (by omega)))
      have HD1 := Lib.hid (fun W => p_dot (vec b a) (vec s a) W (bv.mono (by omega)) (bu.mono (by omega)))
      have HD2 := Lib.hid (fun W => p_dot (vec b a) (vec b a) W (bv.mono (by omega)) (bv.mono (by omega)))
      rw [vcr_crR] at HC
      rw [vdot_dt] at HD1
      rw [vdot_dqs] at HD2
      generalize vec b a = v at *
      generalize vec s a = p at *
      generalize cr a b s = C at *
      generalize dt a b s = T at *
      generalize dq b a a = Q at *
      have xs := Blk.new wr 32 (spA a)
      have hbw2 := bl_alloc hbw (.cells (spA a) 32)
      have xb2 := xb.alloc (.cells (spA a) 32)
      have yb2 := yb.alloc (.cells (spA a) 32)
      have zb2 := zb.alloc (.cells (spA a) 32)
      have hrow2 := own_on hrow (bl_alloc (below_refl wr) (.cells (spA a) 32))
      have HR := Lib.hid hr
      have HBR := Lib.hid hb
      clear ha hb ba bb bs hr HI HEDGE HCOR HCO2
      go_wp2_with fail
      have d0 := (own_at hrow2 HBR.out).1
      have d1 := (own_at hrow2 HBR.out).2.1
      have zg2 := (own_at hrow2 HBR.out).2.2
      have e0 := zb2.cell 0
      simp only [List.getElem?_toArray, List.getElem?_cons_zero, List.getElem?_cons_succ] at e0
      have ez := zb2.lt
      clear c0 c1 zg xb yb zb hrow hbw
      generalize wr.heap.size = ga at *
      generalize wr.alloc (.cells (spA a) 32) = wq at *
      go_region
      have qb := Blk.new wq 32 (spA b)
      have B5 : Below w.heap.size w ((wq.alloc (.cells (spA b) 32)).drew) := below_draw (bl_alloc hbw2 _)
      have x5 := xb2.alloc (.cells (spA b) 32)
      have y5 := yb2.alloc (.cells (spA b) 32)
      have z5 := zb2.alloc (.cells (spA b) 32)
      have p5 := xs.alloc (.cells (spA b) 32)
      have hrow5 := own_on hrow2 (below_draw (bl_alloc (below_refl wq) (.cells (spA b) 32)))
      generalize wq.heap.size = gq at *
      go_upto_region 7 with fail
      have hsz5 : ((wq.alloc (.cells (spA b) 32)).drew).heap = (wq.alloc (.cells (spA b) 32)).heap := rfl
      have qb5 : Blk ((wq.alloc (.cells (spA b) 32)).drew) gq 32 (spA b) := qb
      have x5' : Blk ((wq.alloc (.cells (spA b) 32)).drew) w.heap.size 32 (spA s) := x5
      have y5' : Blk ((wq.alloc (.cells (spA b) 32)).drew) (w.heap.size + 1) 32 #[.int .i64 0, .int .i64 0] := y5
      have z5' : Blk ((wq.alloc (.cells (spA b) 32)).drew) b2 63 #[.slice (some ⟨g, 0, none⟩) h.length cap] := z5
      have p5' : Blk ((wq.alloc (.cells (spA b) 32)).drew) ga 32 (spA a) := p5
      clear qb x5 y5 z5 p5 hsz5 xb2 yb2 zb2 xs hrow2 hbw2 d0 d1 zg2 e0 ez
      generalize (wq.alloc (.cells (spA b) 32)).drew = W5 at *
      clear wq
      have a0 := p5'.cell 0
      have a1 := p5'.cell 1
      have b0 := qb5.cell 0
      have b1 := qb5.cell 1
      have s0 := x5'.cell 0
      have s1 := x5'.cell 1
      simp only [List.getElem?_toArray, List.getElem?_cons_zero, List.getElem?_cons_succ] at a0 a1 b0 b1 s0 s1
      have la := p5'.lt
      have lb := qb5.lt
      have lx := x5'.lt
      go_cut [9, 10] (fun s7 s8 wx => ∃ gm hm : Nat, s7 = .pointer (some ⟨gm, 0, none⟩) ∧ s8 = .pointer (some ⟨hm, 0, none⟩) ∧ wx.cell? ⟨gm, 0, none⟩ = some (.int .i64 v.x) ∧ wx.cell? ⟨gm, 1, none⟩ = some (.int .i64 v.y) ∧ wx.cell? ⟨hm, 0, none⟩ = some (.int .i64 p.x) ∧ wx.cell? ⟨hm, 1, none⟩ = some (.int .i64 p.y) ∧ gm < wx.heap.size ∧ hm < wx.heap.size ∧ Below W5.heap.size W5 wx)
      case first =>
        go_region_held3 (fun w' => (∀ b o, b < W5.heap.size → w'.cell? ⟨b, o, none⟩ = W5.cell? ⟨b, o, none⟩) ∧ (∀ b o, b < W5.heap.size → w'.frozen? ⟨b, o, none⟩ = W5.frozen? ⟨b, o, none⟩) ∧ Below W5.heap.size W5 w') ((first | assumption | (refine kp_of ?_; (repeat' (first | assumption | exact below_refl _ | refine bl_alloc ?_ _ | refine Below.setCell ?_ ?_ _ | refine below_draw ?_ | refine below_drewN ?_ _ | refine below_tr ?_ (by assumption))) <;> (first | omega | (simp; done) | (simp; omega))))) ((first | (go_at_call 44; ((with_reducible refine (HL1.out _).mono ?_); rintro e w3 ⟨rfl, hb3⟩; obtain ⟨hc3, hf3⟩ := bcell hb3; have hz3 := hb3.size; (try simp [sz_drew, sz_drewN] at hz3); (try simp only [sz_drew, sz_drewN] at hc3 hf3); (try (refine (fun (y3_0 : W5.heap.size  < w3.heap.size) => ?_) ?_; rotate_left; omega)); (try (refine (fun (v3_0 : W5.heap.size  ≤ w3.heap.size) => ?_) ?_; rotate_left; omega)); (try (refine (fun (y3_1 : W5.heap.size + 1 < w3.heap.size) => ?_) ?_; rotate_left; omega)); (try (refine (fun (v3_1 : W5.heap.size + 1 ≤ w3.heap.size) => ?_) ?_; rotate_left; omega)))) | (go_at_call 44; ((with_reducible refine (HL2.out _).mono ?_); rintro e w4 ⟨rfl, hb4⟩; obtain ⟨hc4, hf4⟩ := bcell hb4; have hz4 := hb4.size; (try simp [sz_drew, sz_drewN] at hz4); (try simp only [sz_drew, sz_drewN] at hc4 hf4); (try (refine (fun (y4_0 : W5.heap.size  < w4.heap.size) => ?_) ?_; rotate_left; omega)); (try (refine (fun (v4_0 : W5.heap.size  ≤ w4.heap.size) => ?_) ?_; rotate_left; omega)); (try (refine (fun (y4_1 : W5.heap.size + 1 < w4.heap.size) => ?_) ?_; rotate_left; omega)); (try (refine (fun (v4_1 : W5.heap.size + 1 ≤ w4.heap.size) => ?_) ?_; rotate_left; omega)); (try (refine (fun (y4_2 : w3.heap.size  < w4.heap.size) => ?_) ?_; rotate_left; omega)); (try (refine (fun (v4_2 : w3.heap.size  ≤ w4.heap.size) => ?_) ?_; rotate_left; omega)); (try (refine (fun (y4_3 : w3.heap.size + 1 < w4.heap.size) => ?_) ?_; rotate_left; omega)); (try (refine (fun (v4_3 : w3.heap.size + 1 ≤ w4.heap.size) => ?_) ?_; rotate_left; omega))))))
        all_goals go_wp2
        all_goals go_meet
        all_goals (have L2 : ∀ n : Nat, n < n + 1 + 1 := fun n => by omega)
        all_goals exact ⟨_, _, rfl, rfl, by (first | (go_simp; done) | (go_simp; refine World.cell?_setCell_same (u := .int .i64 0) _ _ _ ?_; go_simp)), by (first | (go_simp; done) | (go_simp; refine World.cell?_setCell_same (u := .int .i64 0) _ _ _ ?_; go_simp)), by (first | (go_simp; done) | (go_simp; refine World.cell?_setCell_same (u := .int .i64 0) _ _ _ ?_; go_simp)), by (first | (go_simp; done) | (go_simp; refine World.cell?_setCell_same (u := .int .i64 0) _ _ _ ?_; go_simp)), by (simp [World.setCell] <;> omega), by (simp [World.setCell] <;> omega), by (repeat' (first | assumption | exact below_refl _ | refine bl_alloc ?_ _ | refine Below.setCell ?_ ?_ _ | refine below_draw ?_ | refine below_drewN ?_ _ | refine below_tr ?_ (by assumption))) <;> (first | omega | (simp; done) | (simp; omega))⟩
      case rest =>
        obtain ⟨gm, hm, rfl, rfl, g0, g1, h0, h1, gl', hl', hbx⟩ := hcut
        obtain ⟨wx, hwx⟩ : ∃ wx : World, wx = wc := ⟨wc, rfl⟩
        rw [← hwx] at g0 g1 h0 h1 gl' hl' hbx ⊢
        clear hwx
        have BX := below_tr B5 hbx
        have x6 := x5'.below hbx x5'.lt
        have y6 := y5'.below hbx y5'.lt
        have z6 := z5'.below hbx z5'.lt
        have hrow6 := own_on hrow5 hbx
        clear a0 a1 b0 b1 s0 s1 la lb lx x5' y5' z5' p5' qb5 hrow5 hbx B5 HL1 HL2
        go_wp2_with (go_at_call 43; ((with_reducible refine (HC.out _).mono ?_); rintro e w6 ⟨rfl, hb6⟩; obtain ⟨hc6, hf6⟩ := bcell hb6; have hz6 := hb6.size; (try simp [sz_drew, sz_drewN] at hz6); (try simp only [sz_drew, sz_drewN] at hc6 hf6)))
        have BW := below_tr BX hb6
        have x7 := x6.below hb6 x6.lt
        have y7 := y6.below hb6 y6.lt
        have z7 := z6.below hb6 z6.lt
        have hrow7 := own_on hrow6 hb6
        have e0 : w6.cell? ⟨gm, 0, none⟩ = some (.int .i64 v.x) := by rw [(bcell hb6).1 _ _ gl']; exact g0
        have e1 : w6.cell? ⟨gm, 1, none⟩ = some (.int .i64 v.y) := by rw [(bcell hb6).1 _ _ gl']; exact g1
        have f0 : w6.cell? ⟨hm, 0, none⟩ = some (.int .i64 p.x) := by rw [(bcell hb6).1 _ _ hl']; exact h0
        have f1 : w6.cell? ⟨hm, 1, none⟩ = some (.int .i64 p.y) := by rw [(bcell hb6).1 _ _ hl']; exact h1
        have el : gm < w6.heap.size := Nat.lt_of_lt_of_le gl' hb6.size
        have fl' : hm < w6.heap.size := Nat.lt_of_lt_of_le hl' hb6.size
        clear g0 g1 h0 h1 gl' hl' x6 y6 z6 hrow6 BX hb6 hc6 hf6 hz6 HC
        by_cases hC : C < 0
        · have hdC : decide (C < 0) = true := decide_eq_true hC
          by_cases hT : 0 < T
          · have hdT : decide (0 < T) = true := decide_eq_true hT
            by_cases hQ : T < Q
            · have hdQ : decide (T < Q) = true := decide_eq_true hQ
              have HQ := Lib.hid (HYES.out ⟨hC, hT, hQ⟩)
              have HSH := Lib.hid (fun W => p_shortest ⟨v.y, -v.x⟩ W (by unfold Bd at *; dsimp only; omega) HQ.out.1)
              have HOK := Lib.hid HQ.out.2
              have hwn : IntKind.i64.wrap (-v.x) = -v.x := fits_wrap (by unfold Bd at bv; omega)
              clear HNO HYES HQ
              generalize shZ ⟨v.y, -v.x⟩ = dd at *
              have r0 := y7.cell 0
              have r1 := y7.cell 1
              have q0 := y7.frozen 0
              have q1 := y7.frozen 1
              simp only [List.getElem?_toArray, List.getElem?_cons_zero, List.getElem?_cons_succ] at r0 r1
              have ly := y7.lt
              go_region_held3 (fun w' => (∀ b o, b < w6.heap.size → w'.cell? ⟨b, o, none⟩ = w6.cell? ⟨b, o, none⟩) ∧ (∀ b o, b < w6.heap.size → w'.frozen? ⟨b, o, none⟩ = w6.frozen? ⟨b, o, none⟩) ∧ Below w6.heap.size w6 w') ((first | assumption | (refine kp_of ?_; (repeat' (first | assumption | exact below_refl _ | refine bl_alloc ?_ _ | refine Below.setCell ?_ ?_ _ | refine below_draw ?_ | refine below_drewN ?_ _ | refine below_tr ?_ (by assumption))) <;> (first | omega | (simp; done) | (simp; omega))))) ((first | (go_at_call 45; ((with_reducible refine (HD1.out _).mono ?_); rintro e w8 ⟨rfl, hb8⟩; obtain ⟨hc8, hf8⟩ := bcell hb8; have hz8 := hb8.size; (try simp [sz_drew, sz_drewN] at hz8); (try simp only [sz_drew, sz_drewN] at hc8 hf8))) | (go_at_call 45; ((with_reducible refine (HD2.out _).mono ?_); rintro e w9 ⟨rfl, hb9⟩; obtain ⟨hc9, hf9⟩ := bcell hb9; have hz9 := hb9.size; (try simp [sz_drew, sz_drewN] at hz9); (try simp only [sz_drew, sz_drewN] at hc9 hf9)))))
              all_goals
                go_wp2_with fail
                refine (HSH.out _).mono ?_
                rintro e w10 ⟨rfl, hb10⟩
                have B10 : Below w6.heap.size w6 w10 := by (repeat' (first | assumption | exact below_refl _ | refine bl_alloc ?_ _ | refine Below.setCell ?_ ?_ _ | refine below_draw ?_ | refine below_drewN ?_ _ | refine below_tr ?_ (by assumption))) <;> (first | omega | (simp; done) | (simp; omega))
                have y10 := y7.below B10 ly
                have t0 := y10.cell 0
                have t1 := y10.cell 1
                have u0 := y10.frozen 0
                have u1 := y10.frozen 1
                simp only [List.getElem?_toArray, List.getElem?_cons_zero, List.getElem?_cons_succ] at t0 t1
                have ly10 := y10.lt
                have BT := below_tr BW B10
                clear r0 r1 q0 q1
                go_wp2
                refine bodyPost_ret (v := spV dd) (by simp [results, Tryz.results29, go_sem, *]) rfl ⟨_, rfl, HOK.out, ?_⟩
                (repeat' (first | assumption | exact below_refl _ | refine bl_alloc ?_ _ | refine Below.setCell ?_ ?_ _ | refine below_draw ?_ | refine below_drewN ?_ _ | refine below_tr ?_ (by assumption))) <;> (first | omega | (simp; done) | (simp; omega))
            · have hdQ : decide (T < Q) = false := decide_eq_false hQ
              have HI2 := Lib.hid (HNO.out (fun hB => hQ hB.2.2))
              clear HNO HYES
              go_region_held3 (fun w' => (∀ b o, b < w6.heap.size → w'.cell? ⟨b, o, none⟩ = w6.cell? ⟨b, o, none⟩) ∧ (∀ b o, b < w6.heap.size → w'.frozen? ⟨b, o, none⟩ = w6.frozen? ⟨b, o, none⟩) ∧ Below w6.heap.size w6 w') ((first | assumption | (refine kp_of ?_; (repeat' (first | assumption | exact below_refl _ | refine bl_alloc ?_ _ | refine Below.setCell ?_ ?_ _ | refine below_draw ?_ | refine below_drewN ?_ _ | refine below_tr ?_ (by assumption))) <;> (first | omega | (simp; done) | (simp; omega))))) ((first | (go_at_call 45; ((with_reducible refine (HD1.out _).mono ?_); rintro e w8 ⟨rfl, hb8⟩; obtain ⟨hc8, hf8⟩ := bcell hb8; have hz8 := hb8.size; (try simp [sz_drew, sz_drewN] at hz8); (try simp only [sz_drew, sz_drewN] at hc8 hf8))) | (go_at_call 45; ((with_reducible refine (HD2.out _).mono ?_); rintro e w9 ⟨rfl, hb9⟩; obtain ⟨hc9, hf9⟩ := bcell hb9; have hz9 := hb9.size; (try simp [sz_drew, sz_drewN] at hz9); (try simp only [sz_drew, sz_drewN] at hc9 hf9)))))
              all_goals go_wp2
              all_goals (
                go_roundw
                case rel => exact ⟨k + 1, by omega, by go_num, below_tr BW (by (repeat' (first | assumption | exact below_refl _ | refine bl_alloc ?_ _ | refine Below.setCell ?_ ?_ _ | refine below_draw ?_ | refine below_drewN ?_ _ | refine below_tr ?_ (by assumption))) <;> (first | omega | (simp; done) | (simp; omega))), x7.below (by (repeat' (first | assumption | exact below_refl _ | refine bl_alloc ?_ _ | refine Below.setCell ?_ ?_ _ | refine below_draw ?_ | refine below_drewN ?_ _ | refine below_tr ?_ (by assumption))) <;> (first | omega | (simp; done) | (simp; omega))) x7.lt, y7.below (by (repeat' (first | assumption | exact below_refl _ | refine bl_alloc ?_ _ | refine Below.setCell ?_ ?_ _ | refine below_draw ?_ | refine below_drewN ?_ _ | refine below_tr ?_ (by assumption))) <;> (first | omega | (simp; done) | (simp; omega))) y7.lt, z7.below (by (repeat' (first | assumption | exact below_refl _ | refine bl_alloc ?_ _ | refine Below.setCell ?_ ?_ _ | refine below_draw ?_ | refine below_drewN ?_ _ | refine below_tr ?_ (by assumption))) <;> (first | omega | (simp; done) | (simp; omega))) z7.lt, own_on hrow7 (by (repeat' (first | assumption | exact below_refl _ | refine bl_alloc ?_ _ | refine Below.setCell ?_ ?_ _ | refine below_draw ?_ | refine below_drewN ?_ _ | refine below_tr ?_ (by assumption))) <;> (first | omega | (simp; done) | (simp; omega))), HI2.out⟩
                case measure => simp [intOf]; omega)
          · have hdT : decide (0 < T) = false := decide_eq_false hT
            have HI2 := Lib.hid (HNO.out (fun hB => hT hB.2.1))
            clear HNO HYES
            refine wp_region_noPanic ?_
            refine wp_region_held_drew (S := (fun w' => (∀ b o, b < w6.heap.size → w'.cell? ⟨b, o, none⟩ = w6.cell? ⟨b, o, none⟩) ∧ (∀ b o, b < w6.heap.size → w'.frozen? ⟨b, o, none⟩ = w6.frozen? ⟨b, o, none⟩) ∧ Below w6.heap.size w6 w')) (by kernel_rfl) (kq_draw kq_refl) (fun hS0 => ?_)
            refine wpAnyH_take (i := 0) (oi := { dst := some 39, op := _, type := _, pos := _, after := _, guard := none }) (v := ?gv1) rfl (by kernel_rfl) (by kernel_rfl) (by kernel_rfl) (fun _ _ _ h => h) (Or.inl ⟨by rfl, ?gy1⟩) (by assumption) ?_
            case gy1 => (intro w' hSw; go_simp; try with_reducible rfl)
            try simp only [Act.put, List.setIfInBounds_toArray, List.set_cons_zero, List.set_cons_succ]
            refine wpAnyH_take (i := 1) (oi := { dst := some 40, op := _, type := _, pos := _, after := _, guard := none }) (v := ?gv2) rfl (by kernel_rfl) (by kernel_rfl) (by kernel_rfl) (fun _ _ _ h => h) (Or.inl ⟨by rfl, ?gy2⟩) (by assumption) ?_
            case gy2 => (intro w' hSw; go_simp; try with_reducible rfl)
            try simp only [Act.put, List.setIfInBounds_toArray, List.set_cons_zero, List.set_cons_succ]
            refine wpAnyH_take (i := 2) (oi := { dst := some 41, op := _, type := _, pos := _, after := _, guard := none }) (v := ?gv3) rfl (by kernel_rfl) (by kernel_rfl) (by kernel_rfl) (fun _ _ _ h => h) (Or.inl ⟨by rfl, ?gy3⟩) (by assumption) ?_
            case gy3 => (intro w' hSw; go_simp; try with_reducible rfl)
            try simp only [Act.put, List.setIfInBounds_toArray, List.set_cons_zero, List.set_cons_succ]
            refine wpAnyH_take (i := 3) (oi := { dst := some 42, op := _, type := _, pos := _, after := _, guard := some (2, true) }) (v := ?gv4) rfl (by kernel_rfl) (by kernel_rfl) (by kernel_rfl) (fun _ _ _ h => h) (Or.inl ⟨by rfl, ?gy4⟩) (by assumption) ?_
            case gy4 => (intro w' hSw; go_simp; try with_reducible rfl)
            try simp only [Act.put, List.setIfInBounds_toArray, List.set_cons_zero, List.set_cons_succ]
            refine wpAnyH_take (i := 4) (oi := { dst := some 43, op := _, type := _, pos := _, after := _, guard := some (2, true) }) (v := ?gv5) rfl (by kernel_rfl) (by kernel_rfl) (by kernel_rfl) (fun _ _ _ h => h) (Or.inl ⟨by rfl, ?gy5⟩) (by assumption) ?_
            case gy5 => (intro w' hSw; go_simp; try with_reducible rfl)
            try simp only [Act.put, List.setIfInBounds_toArray, List.set_cons_zero, List.set_cons_succ]
            refine wpAnyH_ready (rs := [5]) (by kernel_rfl) (by simp) ?_
            refine AllReadyH.cons rfl (fun K hK => ?_) AllReadyH.nil
            go_simp
            (go_at_call 45; ((with_reducible refine (HD1.out _).mono ?_); rintro e w8 ⟨rfl, hb8⟩; obtain ⟨hc8, hf8⟩ := bcell hb8; have hz8 := hb8.size; (try simp [sz_drew, sz_drewN] at hz8); (try simp only [sz_drew, sz_drewN] at hc8 hf8)))
            refine hK.out _ _ (by ((show Kq w6 _); (repeat' (first | assumption | exact kq_refl | refine kq_draw ?_ | refine kq_drewN ?_ | refine kq_alloc ?_ | refine kq_set ?_ ?_ | refine kq_step ?_ (by assumption))); (all_goals (first | omega | (simp; omega))))) (fun hS1 => ?_)
            clear hK K
            try simp only [Act.put, List.setIfInBounds_toArray, List.set_cons_zero, List.set_cons_succ]
            refine wpAnyH_take (i := 6) (oi := { dst := some 45, op := _, type := _, pos := _, after := _, guard := some (2, true) }) (v := ?gv6) rfl (by kernel_rfl) (by kernel_rfl) (by kernel_rfl) (fun _ _ _ h => h) (Or.inl ⟨by rfl, ?gy6⟩) (by assumption) ?_
            case gy6 => (intro w' hSw; go_simp; try with_reducible rfl)
            try simp only [Act.put, List.setIfInBounds_toArray, List.set_cons_zero, List.set_cons_succ]
            refine wpAnyH_take (i := 7) (oi := { dst := some 46, op := _, type := _, pos := _, after := _, guard := none }) (v := ?gv7) rfl (by kernel_rfl) (by kernel_rfl) (by kernel_rfl) (fun _ _ _ h => h) (Or.inl ⟨by rfl, ?gy7⟩) (by assumption) ?_
            case gy7 => (intro w' hSw; go_simp; try with_reducible rfl)
            try simp only [Act.put, List.setIfInBounds_toArray, List.set_cons_zero, List.set_cons_succ]
            refine wpAnyH_take (i := 8) (oi := { dst := some 47, op := _, type := _, pos := _, after := _, guard := none }) (v := ?gv8) rfl (by kernel_rfl) (by kernel_rfl) (by kernel_rfl) (fun _ _ _ h => h) (Or.inl ⟨by rfl, ?gy8⟩) (by assumption) ?_
            case gy8 => (intro w' hSw; go_simp; try with_reducible rfl)
            try simp only [Act.put, List.setIfInBounds_toArray, List.set_cons_zero, List.set_cons_succ]
            refine wpAnyH_take (i := 9) (oi := { dst := some 48, op := _, type := _, pos := _, after := _, guard := some (8, true) }) (v := undef) rfl (by kernel_rfl) (by kernel_rfl) (by kernel_rfl) (fun _ _ _ h => h) (Or.inr ⟨by rfl, rfl⟩) (by assumption) ?_
            try simp only [Act.put, List.setIfInBounds_toArray, List.set_cons_zero, List.set_cons_succ]
            refine wpAnyH_take (i := 10) (oi := { dst := some 49, op := _, type := _, pos := _, after := _, guard := some (8, true) }) (v := undef) rfl (by kernel_rfl) (by kernel_rfl) (by kernel_rfl) (fun _ _ _ h => h) (Or.inr ⟨by rfl, rfl⟩) (by assumption) ?_
            try simp only [Act.put, List.setIfInBounds_toArray, List.set_cons_zero, List.set_cons_succ]
            refine wpAnyH_take (i := 11) (oi := { dst := some 50, op := _, type := _, pos := _, after := _, guard := some (8, true) }) (v := undef) rfl (by kernel_rfl) (by kernel_rfl) (by kernel_rfl) (fun _ _ _ h => h) (Or.inr ⟨by rfl, rfl⟩) (by assumption) ?_
            try simp only [Act.put, List.setIfInBounds_toArray, List.set_cons_zero, List.set_cons_succ]
            refine wpAnyH_take (i := 12) (oi := { dst := some 51, op := _, type := _, pos := _, after := _, guard := some (8, true) }) (v := undef) rfl (by kernel_rfl) (by kernel_rfl) (by kernel_rfl) (fun _ _ _ h => h) (Or.inr ⟨by rfl, rfl⟩) (by assumption) ?_
            try simp only [Act.put, List.setIfInBounds_toArray, List.set_cons_zero, List.set_cons_succ]
            refine wpAnyH_take (i := 13) (oi := { dst := some 52, op := _, type := _, pos := _, after := _, guard := some (8, true) }) (v := undef) rfl (by kernel_rfl) (by kernel_rfl) (by kernel_rfl) (fun _ _ _ h => h) (Or.inr ⟨by rfl, rfl⟩) (by assumption) ?_
            try simp only [Act.put, List.setIfInBounds_toArray, List.set_cons_zero, List.set_cons_succ]
            refine wpAnyH_take (i := 14) (oi := { dst := some 53, op := _, type := _, pos := _, after := _, guard := some (8, true) }) (v := undef) rfl (by kernel_rfl) (by kernel_rfl) (by kernel_rfl) (fun _ _ _ h => h) (Or.inr ⟨by rfl, rfl⟩) (by assumption) ?_
            try simp only [Act.put, List.setIfInBounds_toArray, List.set_cons_zero, List.set_cons_succ]
            refine wpAnyH_take (i := 15) (oi := { dst := some 54, op := _, type := _, pos := _, after := _, guard := some (8, true) }) (v := undef) rfl (by kernel_rfl) (by kernel_rfl) (by kernel_rfl) (fun _ _ _ h => h) (Or.inr ⟨by rfl, rfl⟩) (by assumption) ?_
            try simp only [Act.put, List.setIfInBounds_toArray, List.set_cons_zero, List.set_cons_succ]
            refine wpAnyH_take (i := 16) (oi := { dst := some 55, op := _, type := _, pos := _, after := _, guard := none }) (v := ?gv9) rfl (by kernel_rfl) (by kernel_rfl) (by kernel_rfl) (fun _ _ _ h => h) (Or.inl ⟨by rfl, ?gy9⟩) (by assumption) ?_
            case gy9 => (intro w' hSw; go_simp; try with_reducible rfl)
            try simp only [Act.put, List.setIfInBounds_toArray, List.set_cons_zero, List.set_cons_succ]
            refine wpAnyH_done (by kernel_rfl) (NoPanic.normal ?_) _
            go_wp2
            go_roundw
            case rel => exact ⟨k + 1, by omega, by go_num, below_tr BW (by (repeat' (first | assumption | exact below_refl _ | refine bl_alloc ?_ _ | refine Below.setCell ?_ ?_ _ | refine below_draw ?_ | refine below_drewN ?_ _ | refine below_tr ?_ (by assumption))) <;> (first | omega | (simp; done) | (simp; omega))), x7.below (by (repeat' (first | assumption | exact below_refl _ | refine bl_alloc ?_ _ | refine Below.setCell ?_ ?_ _ | refine below_draw ?_ | refine below_drewN ?_ _ | refine below_tr ?_ (by assumption))) <;> (first | omega | (simp; done) | (simp; omega))) x7.lt, y7.below (by (repeat' (first | assumption | exact below_refl _ | refine bl_alloc ?_ _ | refine Below.setCell ?_ ?_ _ | refine below_draw ?_ | refine below_drewN ?_ _ | refine below_tr ?_ (by assumption))) <;> (first | omega | (simp; done) | (simp; omega))) y7.lt, z7.below (by (repeat' (first | assumption | exact below_refl _ | refine bl_alloc ?_ _ | refine Below.setCell ?_ ?_ _ | refine below_draw ?_ | refine below_drewN ?_ _ | refine below_tr ?_ (by assumption))) <;> (first | omega | (simp; done) | (simp; omega))) z7.lt, own_on hrow7 (by (repeat' (first | assumption | exact below_refl _ | refine bl_alloc ?_ _ | refine Below.setCell ?_ ?_ _ | refine below_draw ?_ | refine below_drewN ?_ _ | refine below_tr ?_ (by assumption))) <;> (first | omega | (simp; done) | (simp; omega))), HI2.out⟩
            case measure => simp [intOf]; omega
        · have hdC : decide (C < 0) = false := decide_eq_false hC
          have HI2 := Lib.hid (HNO.out (fun hB => hC hB.1))
          clear HNO HYES
          go_quiet (fail)
          go_wp2
          go_roundw
          case rel => exact ⟨k + 1, by omega, by go_num, below_drewN BW _, x7.drewN _, y7.drewN _, z7.drewN _, hrow7, HI2.out⟩
          case measure => simp [intOf]; omega
    · obtain rfl : k = h.length := by omega
      have HX := Lib.hid (HCOR.out HI.out)
      obtain ⟨j, x, hj, hjx, hcx⟩ := idx_found (p := crnB h s) h 0 HX.out
      have hxm := List.mem_of_getElem? hjx
      have hjl := (List.getElem?_eq_some_iff.1 hjx).1
      have bs := HS.out
      have bx := HQB.out x hxm
      have HQ := Lib.hid (HCO2.out x hxm hcx)
      have bu : Bd 20000 (vec s x) := vec_bd (m := 10000) (n := 10000) bs bx
      have HI := Lib.hid (c_indexS (some ⟨g, 0, none⟩) h cap (crnB h s) 48 #[.pointer (some ⟨b2, 0, none⟩), .pointer (some ⟨w.heap.size, 0, none⟩)] wr (by omega) (own_rd' Sp.cs_len hrow) (enters_of Tryz.func48 (by kernel_rfl) rfl) (fun W y hW hy => p_dir1 y s h (some ⟨g, 0, none⟩) cap b2 w.heap.size W (by omega) (HQB.out y hy) bs HQB.out (zb.below hW zb.lt) (xb.below hW xb.lt) ((own_rd' Sp.cs_len hrow).on hW)))
      rw [hj, Nat.zero_add] at HI
      have HL := Lib.hid (fun W => p_less s x W (bs.mono (by omega)) (bx.mono (by omega)))
      have HSH := Lib.hid (fun W => p_shortest (vec s x) W (bu.mono (by omega)) HQ.out.1)
      have HOK := Lib.hid HQ.out.2
      have HJX := Lib.hid hjx
      have j0 : (0 : Int) ≤ (j : Int) := Int.natCast_nonneg _
      have j1 : (j : Int) < (h.length : Int) := by omega
      clear HEDGE HCOR HCO2 HX hj hjx hcx hxm bs bx HQ bu
      generalize vec s x = V at *
      generalize shZ V = dd at *
      have ze := zb.cell 0
      simp only [List.getElem?_toArray, List.getElem?_cons_zero, List.getElem?_cons_succ] at ze
      have lz := zb.lt
      go_wp2_with fail
      refine HI.out.mono ?_
      rintro e w6 ⟨rfl, hb6⟩
      have BW := below_tr hbw hb6
      have x7 := xb.below hb6 xb.lt
      have y7 := yb.below hb6 yb.lt
      have z7 := zb.below hb6 zb.lt
      have hrow7 := own_on hrow hb6
      have d0 := (own_at hrow7 HJX.out).1
      have d1 := (own_at hrow7 HJX.out).2.1
      have zg := (own_at hrow7 HJX.out).2.2
      have e0 := z7.cell 0
      have s0 := x7.cell 0
      have s1 := x7.cell 1
      have r0 := y7.cell 0
      have r1 := y7.cell 1
      have q0 := y7.frozen 0
      have q1 := y7.frozen 1
      simp only [List.getElem?_toArray, List.getElem?_cons_zero, List.getElem?_cons_succ] at e0 s0 s1 r0 r1
      have lx := x7.lt
      have ly := y7.lt
      have lz7 := z7.lt
      have nx : w.heap.size ≠ w.heap.size + 1 := by omega
      have nz : b2 ≠ w.heap.size + 1 := fun e => by have := z7.cell 0; have := y7.cell 0; have e2 := z7; rw [e] at e2; have := e2.symm.trans y7; simp at this
      have ng : g ≠ w.heap.size + 1 := by omega
      clear xb yb zb hrow hbw hb6 ze lz HI
      go_wp2_with fail
      go_region_held3 (fun w' => (∀ b o, b < w6.heap.size → b ≠ (w.heap.size + 1) → w'.cell? ⟨b, o, none⟩ = w6.cell? ⟨b, o, none⟩) ∧ (∀ b o, b < w6.heap.size → w'.frozen? ⟨b, o, none⟩ = w6.frozen? ⟨b, o, none⟩) ∧ w6.heap.size ≤ w'.heap.size ∧ Below w.heap.size w w') (((show Kx w w6 ((w.heap.size + 1)) _); (repeat' (first | assumption | exact kx_refl (by assumption) | refine kx_set ?_ ?_ | refine kx_draw ?_ | refine kx_step ?_ (by assumption))); (all_goals (first | omega | (simp; omega))))) ((first | (go_at_call 44; ((with_reducible refine (HL.out _).mono ?_); rintro e w8 ⟨rfl, hb8⟩; obtain ⟨hc8, hf8⟩ := bcell hb8; have hz8 := hb8.size; (try simp [sz_drew, sz_drewN] at hz8); (try simp only [sz_drew, sz_drewN] at hc8 hf8))) | (go_at_call 46; ((with_reducible refine (HSH.out _).mono ?_); rintro e w9 ⟨rfl, hb9⟩; have B9 : Below w6.heap.size w6 w9 := (by (repeat' (first | assumption | exact below_refl _ | refine bl_alloc ?_ _ | refine Below.setCell ?_ ?_ _ | refine below_draw ?_ | refine below_drewN ?_ _ | refine below_tr ?_ (by assumption))) <;> (first | omega | (simp; done) | (simp; omega))); have t0 := ((bcell B9).1 _ 0 ly).trans r0; have t1 := ((bcell B9).1 _ 1 ly).trans r1; have u0 := ((bcell B9).2 _ 0 ly).trans q0; have u1 := ((bcell B9).2 _ 1 ly).trans q1; have ly9 := Nat.lt_of_lt_of_le ly B9.size))))
      all_goals
        go_wp2
        refine bodyPost_ret (v := spV dd) (by simp [results, Tryz.results29, go_sem, *]) rfl ⟨_, rfl, HOK.out, ?_⟩
        (repeat' (first | assumption | exact below_refl _ | refine bl_alloc ?_ _ | refine Below.setCell ?_ ?_ _ | refine below_draw ?_ | refine below_drewN ?_ _ | refine below_tr ?_ (by assumption))) <;> (first | omega | (simp; done) | (simp; omega))
end Go.Proofs.YthklgkgincebhaaGreatDoor
