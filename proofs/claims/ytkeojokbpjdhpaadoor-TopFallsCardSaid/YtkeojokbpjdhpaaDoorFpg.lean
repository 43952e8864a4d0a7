/- Fell: Hit by the program (for seats without the reference's). -/
import Derived.Test.YtkeojokbpjdhpaaDoorFza
import Derived.Test.YtkeojokbpjdhpaaDoorFzd
import Derived.Test.YtkeojokbpjdhpaaDoorFaw
import Derived.Test.YtkeojokbpjdhpaaDoorFpd
import Derived.Laws.StructEq
set_option linter.unusedSimpArgs false
set_option linter.unusedVariables false
namespace Go.Proofs.YtkeojokbpjdhpaaDoor
open Go.RowKit

def hiE (z : Zn) (l : List Sp) : Int := if vZn z = true then (if thB l = true then 0 else 7) else 1
def hiL (z : Zn) (l : List Sp) : List Int := if hiE z l = 0 then fZ (htP z l) l.length else []
def HiP (z : Zn) (l : List Sp) (w : World) (e : Ending) (w' : World) : Prop := ∃ A c, e = .returned (.tuple #[.slice A (hiL z l).length c, .int .i64 (hiE z l)]) ∧ Rd zC 1 w' A (hiL z l) ∧ Below w.heap.size w w'
theorem hiL_len (z : Zn) (l : List Sp) : (hiL z l).length ≤ l.length := by
  unfold hiL; split
  · exact fZ_len _ _
  · simp
theorem got_hi {z : Zn} {l : List Sp} {w : World} {A : Option Addr} {c : Nat} (he : hiE z l = 0) (h : GotW w (.slice A (fN (htP z l) l.length).length c) (fZ (htP z l) l.length)) : (fN (htP z l) l.length).length = (hiL z l).length ∧ Rd zC 1 w A (hiL z l) := by
  obtain ⟨A', c', e, hr⟩ := h
  injection e with e1 e2 e3
  subst e1
  have hL : hiL z l = fZ (htP z l) l.length := by unfold hiL; rw [if_pos he]
  rw [hL]
  exact ⟨e2, hr⟩
set_option maxHeartbeats 2000000 in
theorem p_Hit (z : Zn) (A : Option Addr) (l : List Sp) (c : Nat) (w : World) (hl : l.length ≤ 100000) (hR : Rd Sp.cs 2 w A l) :
    Calls Tryd.prog 29 #[znV z, .slice A l.length c] w (HiP z l w) := by
  have HV := Lib.hid (fun W => p_ValidZone z W)
  have HT := Lib.hid (fun W (hb : Below w.heap.size w W) => p_things A l c W hl (hR.on hb))
  have x0 := Blk.new w 48 (znC z)
  have B0 := bl_alloc (below_refl w) (.cells (znC z) 48)
  unfold HiP
  cases hv : vZn z
  · have HE := Lib.hid (show hiE z l = 1 by unfold hiE; rw [hv]; rfl)
    have HL := Lib.hid (show hiL z l = [] by unfold hiL; rw [HE.out]; rfl)
    rw [hv] at HV
    clear hv
    go_enter Tryd.func29, Tryd.ntmps29
    go_wp2_with fail
    refine (HV.out _).mono ?_
    rintro e w1 ⟨rfl, hb1⟩
    go_wp2
    go_ret2
    exact ⟨none, 0, by rw [HE.out, HL.out]; rfl, by rw [HL.out]; exact fun h => absurd rfl h, below_tr B0 hb1⟩
  rw [hv] at HV
  cases ht : thB l
  · have HE := Lib.hid (show hiE z l = 7 by unfold hiE; rw [hv, ht]; rfl)
    have HL := Lib.hid (show hiL z l = [] by unfold hiL; rw [HE.out]; rfl)
    rw [ht] at HT
    clear hv ht
    go_enter Tryd.func29, Tryd.ntmps29
    go_wp2_with fail
    refine (HV.out _).mono ?_
    rintro e w1 ⟨rfl, hb1⟩
    have B1 := below_tr B0 hb1
    go_wp2_with fail
    refine (HT.out _ B1).mono ?_
    rintro e w2 ⟨rfl, hb2⟩
    go_wp2
    go_ret2
    exact ⟨none, 0, by rw [HE.out, HL.out]; rfl, by rw [HL.out]; exact fun h => absurd rfl h, below_tr B1 hb2⟩
  have hvv := vzn hv
  have HH := Lib.hid (fun W (hb : Below w.heap.size w W) => p_hit z A l c W (vzn_bd hv) hvv.2.2.2.2.2.1 hvv.2.2.2.2.2.2 hl (thB_bd ht) (hR.on hb))
  have hE : hiE z l = 0 := by unfold hiE; rw [hv, ht]; rfl
  have HE := Lib.hid hE
  have HG := Lib.hid (fun W A' c' (h : GotW W (.slice A' (fN (htP z l) l.length).length c') (fZ (htP z l) l.length)) => got_hi hE h)
  rw [ht] at HT
  clear hv ht hvv hE
  unfold HitP at HH
  generalize fZ (htP z l) l.length = L2 at *
  generalize fN (htP z l) l.length = L at *
  go_enter Tryd.func29, Tryd.ntmps29
  go_wp2_with fail
  refine (HV.out _).mono ?_
  rintro e w1 ⟨rfl, hb1⟩
  have B1 := below_tr B0 hb1
  go_wp2_with fail
  refine (HT.out _ B1).mono ?_
  rintro e w2 ⟨rfl, hb2⟩
  have B2 := below_tr B1 hb2
  have x2 := (x0.below hb1 x0.lt).below hb2 (x0.below hb1 x0.lt).lt
  have q0 := x2.cell 0
  have q1 := x2.cell 1
  have q2 := x2.cell 2
  have q3 := x2.cell 3
  have q4 := x2.cell 4
  have q5 := x2.cell 5
  simp only [List.getElem?_toArray, List.getElem?_cons_zero, List.getElem?_cons_succ] at q0 q1 q2 q3 q4 q5
  have zl := x2.lt
  go_wp2_with fail
  refine (HH.out _ B2).mono ?_
  rintro e w3 ⟨A3, c3, rfl, hg, hb3⟩
  obtain ⟨g1, g2⟩ := HG.out _ _ _ hg
  go_wp2
  go_ret2
  exact ⟨A3, c3, by rw [HE.out, ← g1]; rfl, g2, below_tr B2 hb3⟩
end Go.Proofs.YtkeojokbpjdhpaaDoor
namespace Go.Proofs.YtkeojokbpjdhpaaDoor
open Go.RowKit

theorem thM_app (M : List Bool) (a : List Int) (d : Int) : thM M (a ++ [d]) = (thM M a).bind fun m => dsB m d := by unfold thM; rw [List.foldl_append]; rfl
theorem runs_thM {l : List Pr} {s : Sp} {ds M} (h : Runs l s ds M) : thM (List.replicate l.length true) ds = some M ∧ ∀ d ∈ ds, 0 ≤ d ∧ d ≤ 2 * (l.length : Int) - 1 := by
  induction h with
  | nil => exact ⟨rfl, fun d hd => by cases hd⟩
  | @step ds M i h1 h2 h3 h4 ih =>
    refine ⟨?_, fun d hd => ?_⟩
    · rw [thM_app, ih.1]; exact dsB_even h3
    · rcases List.mem_append.1 hd with hd | hd
      · exact ih.2 d hd
      · have := h1.len; simp only [List.mem_singleton] at hd; omega
theorem mM_count (M : List Bool) : (mM M).length = M.count true := by
  have e : M = (List.range M.length).map fun i => M.getD i false := List.ext_getElem (by simp) fun i h1 h2 => by simp [List.getD, h1]
  have h : ((List.range M.length).map fun i => M.getD i false).count true = (mM M).length := by
    unfold mM
    rw [List.count_eq_countP, List.countP_map, List.countP_eq_length_filter]
    congr 2
    funext i
    simp [Function.comp]
  rw [← h, ← e]
theorem plans_after {l : List Pr} {s t : Sp} {ds : List Int} (hl : l.length ≤ 24) (h : Plans l s t ds) : ∃ M, M.length = l.length ∧ aftO l ds = some M ∧ fallM l s t M = true ∧ lsB l.length ds = true ∧ (mM M).length + ds.length = l.length := by
  obtain ⟨ds0, M0, i, h1, h2, h3, h4, rfl⟩ := h
  obtain ⟨a1, a2⟩ := runs_thM h1
  have hlen := h1.len
  have hc := runs_count h1
  have hs := count_set h2 h3
  refine ⟨M0.set i false, by rw [List.length_set]; exact hlen, ?_, h4, ?_, ?_⟩
  · unfold aftO; rw [thM_app, a1]; exact dsB_even h3
  · unfold lsB
    rw [Bool.and_eq_true, decide_eq_true_eq, List.all_eq_true]
    refine ⟨by simp; omega, fun d hd => wn_iff.2 ?_⟩
    rcases List.mem_append.1 hd with hd | hd
    · exact a2 d hd
    · simp only [List.mem_singleton] at hd; omega
  · rw [mM_count]; simp; omega
def RL (l : List Pr) (M : List Bool) : List Pr := (mM M).map (prAt l)
theorem RL_spots (l : List Pr) (M : List Bool) : spL (RL l M) = lfS l M := by unfold spL RL lfS; rw [List.map_map]; rfl
theorem RL_sub {l : List Pr} {M : List Bool} (h : M.length = l.length) : (RL l M).Sublist l := by
  have h1 : (mM M).Sublist (List.range l.length) := by unfold mM; rw [h]; exact List.filter_sublist
  have h2 : (List.range l.length).map (prAt l) = l := List.ext_getElem (by simp) fun i h1 h2 => by simp at h1; simp [prAt, h1]
  have := h1.map (prAt l)
  rwa [h2] at this
theorem zone_none {L : List Sp} {s d q : Sp} (h : DirP L s d) (hq : q ∈ L) (r n : Int) : inZ ⟨s, ⟨s.x + d.x, s.y + d.y⟩, r, n⟩ q = false := by
  have h1 := dirP_away h hq
  have h2 : alz ⟨s, ⟨s.x + d.x, s.y + d.y⟩, r, n⟩ q < 0 := by
    unfold alz vdot vec at *
    dsimp only at *
    have e1 : s.x + d.x - s.x = d.x := by omega
    have e2 : s.y + d.y - s.y = d.y := by omega
    rw [e1, e2]
    have e3 : d.x * (q.x - s.x) = - (d.x * (s.x - q.x)) := by rw [← Int.mul_neg]; congr 1; omega
    have e4 : d.y * (q.y - s.y) = - (d.y * (s.y - q.y)) := by rw [← Int.mul_neg]; congr 1; omega
    omega
  unfold inZ okz
  rw [decide_eq_false (by omega)]; rfl
theorem hit_none {z : Zn} {L : List Sp} (hv : vZn z = true) (ht : thB L = true) (h : ∀ q ∈ L, inZ z q = false) : hiE z L = 0 ∧ hiL z L = [] := by
  have h1 : hiE z L = 0 := by unfold hiE; rw [if_pos hv, if_pos ht]
  refine ⟨h1, ?_⟩
  unfold hiL
  rw [if_pos h1]
  unfold fZ fN
  rw [List.filter_eq_nil_iff.2 fun k hk => ?_]; rfl
  rw [List.mem_range] at hk
  unfold htP
  have : gl L k ∈ L := by unfold gl; simp [List.getD, hk]
  rw [h _ this]; simp
theorem wid_none {f t : Sp} {r w : Int} {L : List Sp} {n E : Int} (hv : vZn ⟨f, t, r, w⟩ = true) (ht : thB L = true) (h : ∀ q ∈ L, ∀ n, inZ ⟨f, t, r, n⟩ q = false) (hw : WiP f t r L n E) : n = 1000 ∧ E = 0 := by
  obtain ⟨a1, a2, a3, a4, a5, _, _⟩ := vzn hv
  have e0 : wdE f t r L = 0 := by
    unfold wdE
    rw [if_pos (by rw [a1, a2, ht]; simp [wn]; exact ⟨a4, a5⟩), if_neg (fun e => a3 (Sp.ext' e.1 e.2))]
  rcases hw with ⟨q, _⟩ | ⟨_, hw⟩
  · exact absurd e0 q
  · rcases hw with ⟨rfl, _, _, _, rfl | q⟩ | ⟨_, _, q⟩
    · exact ⟨rfl, rfl⟩
    · exact absurd (fun x hx => h x hx _) q
    · exact absurd (fun x hx => h x hx _) q
theorem spots_th {L : List Pr} (hv : vP L = true) : thB (spL L) = true := by
  unfold thB
  rw [Bool.and_eq_true, decide_eq_true_eq, List.all_eq_true]
  refine ⟨by rw [spL_len]; have := vP_len hv; omega, fun x hx => ?_⟩
  obtain ⟨p, hp, rfl⟩ := List.mem_map.1 hx
  exact (vP_iff.1 hv).1 p hp
/-- what is left when the stack falls -/
def FallQ (st : Bool) (s t : Sp) (R : List Pr) : Prop := vP R = true ∧ R.length ≤ 6 ∧ ¬ Held (spL R) s ∧ (st = true → spL R ≠ [] ∧ twZ (spL R) s t = true)
theorem fallQ_plan {l : List Pr} {s t : Sp} {M : List Bool} (hv : vP l = true) (hl : l.length ≤ 6) (hM : M.length = l.length) (h : fallM l s t M = true) : FallQ true s t (RL l M) := by
  have hs := RL_sub hM
  unfold fallM at h
  simp only [Bool.and_eq_true, Bool.not_eq_true', decide_eq_true_eq] at h
  obtain ⟨h1, h2, h3⟩ := h
  refine ⟨vP_sub hs hv, Nat.le_trans hs.length_le hl, fun q => ?_, fun _ => ⟨?_, ?_⟩⟩
  · rw [RL_spots, ← heldB_iff, h1] at q; cases q
  · rw [RL_spots]; exact List.length_pos_iff.1 h2
  · rw [RL_spots]; exact h3
end Go.Proofs.YtkeojokbpjdhpaaDoor
namespace Go.Proofs.YtkeojokbpjdhpaaDoor
open Go.RowKit Go.Shelf

def drZ (l : List Pr) (s : Sp) : Sp := if drE l s = 0 then dirZ (spL l) s else ⟨0, 0⟩
theorem drE_zero {l : List Pr} {s : Sp} (h : drE l s = 0) : vP l = true ∧ isS s = true ∧ ¬ Held (spL l) s ∧ spL l ≠ [] := by
  unfold drE at h
  split at h
  · rename_i h1
    obtain ⟨h2, h3⟩ := stE_z h1
    rcases (flE_cases (l := l) (s := s)) with k | ⟨_, k2, k3⟩
    · exact absurd h k
    · exact ⟨h2, h3, k2, k3⟩
  · rename_i h1; exact absurd h h1
theorem p_DirectionZ (A : Option Addr) (l : List Pr) (c : Nat) (s : Sp) (w : World) (hl : l.length ≤ 100000) (h12 : vP l = true → l.length ≤ 24) (hR : Rd Pr.cs 3 w A l) :
    Calls Tryd.prog 25 #[.slice A l.length c, spV s] w fun e w' => e = .returned (.tuple #[spV (drZ l s), .int .i64 (drE l s)]) ∧ Below w.heap.size w w' := by
  refine (p_Direction A l c s w hl h12 hR).mono ?_
  rintro e w' ⟨d, rfl, h1, h2, hb⟩
  refine ⟨?_, hb⟩
  unfold drZ
  by_cases h : drE l s = 0
  · obtain ⟨a1, a2, a3, a4⟩ := drE_zero h
    rw [if_pos h, dirP_uniq (h1 h) (dirZ_dir (vP_bd a1) (vP_nodup a1) a4 a3)]
  · rw [if_neg h, h2 h]

theorem fl_snocSp (l : List Sp) (x : Sp) : fl Sp.cs (l ++ [x]) = fl Sp.cs l ++ Sp.cs x := by simp [fl]
def aw6 : List Pr := [⟨⟨0, 0⟩, false⟩]
theorem aw6_dir : drZ aw6 ⟨4, 6⟩ = ⟨2, 3⟩ ∧ drE aw6 ⟨4, 6⟩ = 0 := by decide
theorem rd_oneP (w : World) : Rd Pr.cs 3 (w.alloc (.cells #[.int .i64 0, .int .i64 0, .bool false] 43)) (some ⟨w.heap.size, 0, none⟩) aw6 := by
  refine row_rd (cur := #[.int .i64 0, .int .i64 0, .bool false]) (Blk.new w 43 _) ?_
  intro k x hx r u hu
  match k, hx with
  | 0, hx => cases hx; match r, hu with
    | 0, hu => cases hu; rfl
    | 1, hu => cases hu; rfl
    | 2, hu => cases hu; rfl
set_option maxHeartbeats 4000000 in
theorem l_awake6 (w : World) : Calls Tryd.prog 22 #[] w fun e w' => e = .returned (.bool true) ∧ Below w.heap.size w w' := by
  have B0 := bl_alloc (below_refl w) (.cells #[.int .i64 0, .int .i64 0, .bool false] 43)
  have HD := Lib.hid (p_DirectionZ (some ⟨w.heap.size, 0, none⟩) aw6 1 ⟨4, 6⟩ _ (by decide) (fun _ => by decide) (rd_oneP w))
  rw [aw6_dir.1, aw6_dir.2] at HD
  go_enter Tryd.func22, Tryd.ntmps22
  go_wp2_with fail
  refine HD.out.mono ?_
  rintro e w1 ⟨rfl, hb1⟩
  have B1 := below_tr B0 hb1
  go_wp2
  go_ret
  exact ⟨rfl, by (repeat' (first | assumption | exact below_refl _ | refine bl_alloc ?_ _ | refine Below.setCell ?_ ?_ _ | refine below_draw ?_ | refine below_drewN ?_ _ | refine below_tr ?_ (by assumption))) <;> (first | omega | (simp; done) | (simp; omega))⟩
set_option maxHeartbeats 8000000 in
set_option maxRecDepth 20000 in
theorem l_TopFalls (A : Option Addr) (l : List Pr) (c : Nat) (s t : Sp) (reach wide : Int) (w : World) (hl : l.length ≤ 100000) (hT : Tab w) (hR : Rd Pr.cs 3 w A l) (hr : (Lit.int .i64 reach).wf = true) (hw : (Lit.int .i64 wide).wf = true) :
    Calls Tryd.prog 5 #[.slice A l.length c, spV s, spV t, .int .i64 reach, .int .i64 wide] w fun e w' => e = .returned (.bool true) ∧ Below w.heap.size w w' := by
  obtain ⟨W1, hW1⟩ : ∃ W1, W1 = (w.alloc (.cells (spA s) 24)).alloc (.cells (spA t) 24) := ⟨_, rfl⟩
  have x0 : Blk W1 w.heap.size 24 (spA s) := by rw [hW1]; exact (Blk.new w 24 (spA s)).alloc (.cells (spA t) 24)
  have y0 : Blk W1 (w.heap.size + 1) 24 (spA t) := by
    have := Blk.new (w.alloc (.cells (spA s) 24)) 24 (spA t)
    rw [World.size_alloc] at this
    rw [hW1]; exact this
  have B0 : Below w.heap.size w W1 := by rw [hW1]; exact bl_alloc (bl_alloc (below_refl w) (.cells (spA s) 24)) (.cells (spA t) 24)
  have HAW := Lib.hid l_awake6
  have HV := Lib.hid (fun W (hb : Below w.heap.size w W) => r_Valid A l c W hl (hR.on hb))
  have HIS := Lib.hid (fun b (h : isS s = b) W => r_IsSpotV h W)
  have HIT := Lib.hid (fun b (h : isS t = b) W => r_IsSpotV h W)
  have l0 : (0 : Int) ≤ (l.length : Int) := Int.natCast_nonneg _
  have p0 := x0.cell 0
  have p1 := x0.cell 1
  have r0 := y0.cell 0
  have r1 := y0.cell 1
  simp only [List.getElem?_toArray, List.getElem?_cons_zero, List.getElem?_cons_succ] at p0 p1 r0 r1
  have lx := x0.lt
  have ly := y0.lt
  go_enter Tryd.func5, Tryd.ntmps5
  go_upto_region 1 with fail
  rw [show ((w.alloc (.cells #[.int .i64 s.x, .int .i64 s.y] 24)).alloc (.cells #[.int .i64 t.x, .int .i64 t.y] 24)) = W1 from hW1.symm]
  clear hW1
  by_cases h6 : l.length ≤ 6
  · have h6' : ¬ (6 : Int) < (l.length : Int) := by omega
    cases hv : vP l
    · rw [hv] at HV
      go_wp2_with fail
      refine (HV.out _ B0).mono ?_
      rintro e w1 ⟨rfl, hb1⟩
      go_wp2_with fail
      refine (HAW.out _).mono ?_
      rintro e wz ⟨rfl, hbz⟩
      go_wp2
      go_ret
      exact ⟨rfl, by (repeat' (first | assumption | exact below_refl _ | refine bl_alloc ?_ _ | refine Below.setCell ?_ ?_ _ | refine below_draw ?_ | refine below_drewN ?_ _ | refine below_tr ?_ (by assumption))) <;> (first | omega | (simp; done) | (simp; omega))⟩
    · rw [hv] at HV
      cases hs : isS s
      · have HS := Lib.hid (HIS.out _ hs)
        clear hv hs
        go_wp2_with fail
        refine (HV.out _ B0).mono ?_
        rintro e w1 ⟨rfl, hb1⟩
        have x1 := x0.below hb1 x0.lt
        have p0 := x1.cell 0
        have p1 := x1.cell 1
        simp only [List.getElem?_toArray, List.getElem?_cons_zero, List.getElem?_cons_succ] at p0 p1
        have lx1 := x1.lt
        go_wp2_with fail
        refine (HS.out _).mono ?_
        rintro e w2 ⟨rfl, hb2⟩
        go_wp2_with fail
        refine (HAW.out _).mono ?_
        rintro e wz ⟨rfl, hbz⟩
        go_wp2
        go_ret
        exact ⟨rfl, by (repeat' (first | assumption | exact below_refl _ | refine bl_alloc ?_ _ | refine Below.setCell ?_ ?_ _ | refine below_draw ?_ | refine below_drewN ?_ _ | refine below_tr ?_ (by assumption))) <;> (first | omega | (simp; done) | (simp; omega))⟩
      · have HS := Lib.hid (HIS.out _ hs)
        cases ht : isS t
        · have HT := Lib.hid (HIT.out _ ht)
          clear hv hs ht
          go_wp2_with fail
          refine (HV.out _ B0).mono ?_
          rintro e w1 ⟨rfl, hb1⟩
          have x1 := x0.below hb1 x0.lt
          have p0 := x1.cell 0
          have p1 := x1.cell 1
          simp only [List.getElem?_toArray, List.getElem?_cons_zero, List.getElem?_cons_succ] at p0 p1
          have lx1 := x1.lt
          go_wp2_with fail
          refine (HS.out _).mono ?_
          rintro e w2 ⟨rfl, hb2⟩
          have y2 := (y0.below hb1 y0.lt).below hb2 (y0.below hb1 y0.lt).lt
          have r0 := y2.cell 0
          have r1 := y2.cell 1
          simp only [List.getElem?_toArray, List.getElem?_cons_zero, List.getElem?_cons_succ] at r0 r1
          have ly2 := y2.lt
          go_wp2_with fail
          refine (HT.out _).mono ?_
          rintro e w3 ⟨rfl, hb3⟩
          go_wp2_with fail
          refine (HAW.out _).mono ?_
          rintro e wz ⟨rfl, hbz⟩
          go_wp2
          go_ret
          exact ⟨rfl, by (repeat' (first | assumption | exact below_refl _ | refine bl_alloc ?_ _ | refine Below.setCell ?_ ?_ _ | refine below_draw ?_ | refine below_drewN ?_ _ | refine below_tr ?_ (by assumption))) <;> (first | omega | (simp; done) | (simp; omega))⟩
        · have HT := Lib.hid (HIT.out _ ht)
          have HSD := Lib.hid (fun (W : World) (hb : Below w.heap.size w W) => p_Stands A l c s W hl (fun h => vP_len h) (hR.on hb))
          have he1 : stE l s = 0 := by unfold stE askE; simp [hv, hs]
          have he2 : askE l [s, t] = 0 := by unfold askE; simp [hv, hs, ht]
          have hd1 : stD l s = heldB (spL l) s := by unfold stD; rw [if_pos he1]
          rw [he1, hd1] at HSD
          have HPL := Lib.hid (fun (W : World) (hb : Below w.heap.size w W) => p_Plan A l c s t W hl (TabAt.on hT hb) (hR.on hb))
          have HHB := Lib.hid (show heldB (spL l) s = false → FallQ false s t l from fun h => ⟨hv, h6, fun q => (by have := heldB_iff.2 q; rw [h] at this; cases this), fun q => (by cases q)⟩)
          have HVV := Lib.hid hv
          have HAS := Lib.hid he2
          have HSS := Lib.hid hs
          have HTT := Lib.hid ht
          clear he1 hd1 he2 hv hs ht
          obtain ⟨V, hVV⟩ : ∃ V, V = heldB (spL l) s := ⟨_, rfl⟩
          rw [← hVV] at HSD HHB
          have HVE := Lib.hid hVV
          clear hVV
          go_wp2_with fail
          refine (HV.out _ B0).mono ?_
          rintro e w1 ⟨rfl, hb1⟩
          have x1 := x0.below hb1 x0.lt
          replace p0 := x1.cell 0
          replace p1 := x1.cell 1
          simp only [List.getElem?_toArray, List.getElem?_cons_zero, List.getElem?_cons_succ] at p0 p1
          replace lx := x1.lt
          go_wp2_with fail
          refine (HS.out _).mono ?_
          rintro e w2 ⟨rfl, hb2⟩
          have y2 := (y0.below hb1 y0.lt).below hb2 (y0.below hb1 y0.lt).lt
          replace r0 := y2.cell 0
          replace r1 := y2.cell 1
          simp only [List.getElem?_toArray, List.getElem?_cons_zero, List.getElem?_cons_succ] at r0 r1
          replace ly := y2.lt
          go_wp2_with fail
          refine (HT.out _).mono ?_
          rintro e w3 ⟨rfl, hb3⟩
          have x3 := (x1.below hb2 x1.lt).below hb3 (x1.below hb2 x1.lt).lt
          have y3 := y2.below hb3 y2.lt
          have B3 : Below w.heap.size w w3 := by (repeat' (first | assumption | exact below_refl _ | refine bl_alloc ?_ _ | refine Below.setCell ?_ ?_ _ | refine below_draw ?_ | refine below_drewN ?_ _ | refine below_tr ?_ (by assumption))) <;> (first | omega | (simp; done) | (simp; omega))
          replace p0 := x3.cell 0
          replace p1 := x3.cell 1
          simp only [List.getElem?_toArray, List.getElem?_cons_zero, List.getElem?_cons_succ] at p0 p1
          replace lx := x3.lt
          clear x0 y0 B0 x1 y2 hb1 hb2 hb3 r0 r1 ly HV HS HT HIS HIT
          go_wp2_with fail
          refine (HSD.out _ B3).mono ?_
          rintro e w4 ⟨rfl, hb4⟩
          have B4 := below_tr B3 hb4
          have x4 := x3.below hb4 x3.lt
          have y4 := y3.below hb4 y3.lt
          replace p0 := x4.cell 0
          replace p1 := x4.cell 1
          have r0 := y4.cell 0
          have r1 := y4.cell 1
          simp only [List.getElem?_toArray, List.getElem?_cons_zero, List.getElem?_cons_succ] at p0 p1 r0 r1
          replace lx := x4.lt
          have ly := y4.lt
          have z4 := B4.size
          clear x3 y3 B3 hb4 HSD
          cases V
          · have HQ := Lib.hid (HHB.out rfl)
            clear HHB HPL HAS HVE
            have hRN := hR.on B4
            have hlR : l.length ≤ 100000 := hl
            have HDR := Lib.hid (p_DirectionZ A l c s w4 hlR (fun h => vP_len h) hRN)
            have hQv := HQ.out.1
            have hQn := HQ.out.2.2.1
            have hse : stE l s = 0 := by unfold stE askE; simp [hQv, HSS.out]
            have hhb : heldB (spL l) s = false := by
              cases h : heldB (spL l) s
              · rfl
              · exact absurd (heldB_iff.1 h) hQn
            by_cases hR0 : l.length = 0
            · have hdr : drE l s = 8 := by unfold drE flE; rw [if_pos hse, if_neg (by rw [hhb]; simp), if_pos hR0]
              have hdz : drZ l s = ⟨0, 0⟩ := by unfold drZ; rw [if_neg (by omega)]
              rw [hdr, hdz] at HDR
              have HR0 := Lib.hid hR0
              clear hR0 hse hhb hdr hdz hQv hQn HQ
              go_wp2_with fail
              refine HDR.out.mono ?_
              rintro e wd ⟨rfl, hbd⟩
              have BD := below_tr B4 hbd
              have hR0 := HR0.out
              go_wp2_with fail
              refine (HAW.out _).mono ?_
              rintro e wz ⟨rfl, hbz⟩
              go_wp2
              go_ret
              exact ⟨rfl, by (repeat' (first | assumption | exact below_refl _ | refine bl_alloc ?_ _ | refine Below.setCell ?_ ?_ _ | refine below_draw ?_ | refine below_drewN ?_ _ | refine below_tr ?_ (by assumption))) <;> (first | omega | (simp; done) | (simp; omega))⟩
            · have hne : spL l ≠ [] := fun e => hR0 (by rw [← spL_len, e]; rfl)
              have hdr : drE l s = 0 := by unfold drE flE; rw [if_pos hse, if_neg (by rw [hhb]; simp), if_neg (fun e => hne (List.length_eq_zero_iff.1 (by rw [spL_len]; exact e)))]
              have hdz : drZ l s = dirZ (spL l) s := by unfold drZ; rw [if_pos hdr]
              have hdp : DirP (spL l) s (dirZ (spL l) s) := dirZ_dir (vP_bd hQv) (vP_nodup hQv) hne hQn
              obtain ⟨d1, d2, d3, d4⟩ := dirP_bd (vP_bd hQv) (vP_nodup hQv) hne hQn (isS_bd HSS.out) hdp
              rw [hdr, hdz] at HDR
              have HZN := Lib.hid (fun q (hq : q ∈ spL l) r n => zone_none hdp hq r n)
              have HTH := Lib.hid (spots_th hQv)
              obtain ⟨s1, s2, s3, s4⟩ := isS_bd HSS.out
              obtain ⟨t1, t2, t3, t4⟩ := isS_bd HTT.out
              generalize dirZ (spL l) s = d at *
              have HDT := Lib.hid (fun W => r_Dot d ⟨t.x - s.x, t.y - s.y⟩ W ⟨by omega, by omega, by omega, by omega⟩ ⟨by show _ ≤ t.x - s.x; omega, by show t.x - s.x ≤ _; omega, by show _ ≤ t.y - s.y; omega, by show t.y - s.y ≤ _; omega⟩)
              clear hdp hdr hdz hne hhb hse hQn HQ hR0
              go_wp2_with fail
              refine HDR.out.mono ?_
              rintro e wd ⟨rfl, hbd⟩
              have BD := below_tr B4 hbd
              have xd := x4.below hbd x4.lt
              have yd := y4.below hbd y4.lt
              replace p0 := xd.cell 0
              replace p1 := xd.cell 1
              replace r0 := yd.cell 0
              replace r1 := yd.cell 1
              simp only [List.getElem?_toArray, List.getElem?_cons_zero, List.getElem?_cons_succ] at p0 p1 r0 r1
              replace lx := xd.lt
              replace ly := yd.lt
              have hRD := hRN.on hbd
              have dd := Blk.new wd 24 (spA d)
              clear x4 y4 B4 hbd HDR hRN
              go_wp2_with fail
              refine (HDT.out _).mono ?_
              rintro e we ⟨rfl, hbe⟩
              have BE := below_tr (bl_alloc BD (.cells (spA d) 24)) hbe
              have xe := (xd.alloc (.cells (spA d) 24)).below hbe (xd.alloc (.cells (spA d) 24)).lt
              have de := dd.below hbe dd.lt
              have hRE := (hRD.on (below_alloc wd (.cells (spA d) 24))).on hbe
              replace p0 := xe.cell 0
              replace p1 := xe.cell 1
              replace r0 := de.cell 0
              replace r1 := de.cell 1
              simp only [List.getElem?_toArray, List.getElem?_cons_zero, List.getElem?_cons_succ] at p0 p1 r0 r1
              replace lx := xe.lt
              replace ly := de.lt
              clear xd yd dd hbe HDT hRD BD
              generalize vdot d ⟨t.x - s.x, t.y - s.y⟩ = q at *
              have BZ := bl_alloc BE (.cells (znC ⟨s, ⟨s.x + d.x, s.y + d.y⟩, reach, wide⟩) 48)
              have zz := Blk.new we 48 (znC ⟨s, ⟨s.x + d.x, s.y + d.y⟩, reach, wide⟩)
              have hRZ := hRE.on (below_alloc we (.cells (znC ⟨s, ⟨s.x + d.x, s.y + d.y⟩, reach, wide⟩) 48))
              cases hvz : vZn ⟨s, ⟨s.x + d.x, s.y + d.y⟩, reach, wide⟩
              · have HV1 := Lib.hid (fun W => hvz ▸ p_ValidZone ⟨s, ⟨s.x + d.x, s.y + d.y⟩, reach, wide⟩ W)
                have HV2 := Lib.hid (fun W => hvz ▸ r_ValidZone ⟨s, ⟨s.x + d.x, s.y + d.y⟩, reach, wide⟩ W)
                clear hvz
                go_wp2_with fail
                refine (HV1.out _).mono ?_
                rintro e wf ⟨rfl, hbf⟩
                have zf := zz.below hbf zz.lt
                have BF := below_tr BZ hbf
                have q0 := zf.cell 0
                have q1 := zf.cell 1
                have q2 := zf.cell 2
                have q3 := zf.cell 3
                have q4 := zf.cell 4
                have q5 := zf.cell 5
                simp only [List.getElem?_toArray, List.getElem?_cons_zero, List.getElem?_cons_succ] at q0 q1 q2 q3 q4 q5
                have lz := zf.lt
                clear p0 p1 r0 r1 lx ly xe de hRE hRZ zz hbf BZ BE
                go_wp2_with fail
                refine (HV2.out _).mono ?_
                rintro e wg ⟨rfl, hbg⟩
                go_wp2_with fail
                refine (HAW.out _).mono ?_
                rintro e wz ⟨rfl, hbz⟩
                go_wp2
                go_ret
                exact ⟨rfl, by (repeat' (first | assumption | exact below_refl _ | refine bl_alloc ?_ _ | refine Below.setCell ?_ ?_ _ | refine below_draw ?_ | refine below_drewN ?_ _ | refine below_tr ?_ (by assumption))) <;> (first | omega | (simp; done) | (simp; omega))⟩
              · have HV1 := Lib.hid (fun W => hvz ▸ p_ValidZone ⟨s, ⟨s.x + d.x, s.y + d.y⟩, reach, wide⟩ W)
                obtain ⟨he0, hl0⟩ := hit_none (L := spL l) hvz HTH.out (fun q hq => HZN.out q hq _ _)
                have HHI := Lib.hid (fun (W : World) (A : Option Addr) (c : Nat) (hR : Rd Sp.cs 2 W A (spL l)) => p_Hit ⟨s, ⟨s.x + d.x, s.y + d.y⟩, reach, wide⟩ A (spL l) c W (by rw [spL_len]; exact hlR) hR)
                unfold HiP at HHI
                rw [he0, hl0] at HHI
                have HWI := Lib.hid (fun (W : World) (A : Option Addr) (c : Nat) (hR : Rd Sp.cs 2 W A (spL l)) => p_Widest s ⟨s.x + d.x, s.y + d.y⟩ reach A (spL l) c W (by rw [spL_len]; exact hlR) hR)
                have HWN := Lib.hid (fun n E (h : WiP s ⟨s.x + d.x, s.y + d.y⟩ reach (spL l) n E) => wid_none (w := wide) hvz HTH.out (fun q hq n => HZN.out q hq _ _) h)
                clear hvz he0 hl0
                go_wp2_with fail
                refine (HV1.out _).mono ?_
                rintro e wf ⟨rfl, hbf⟩
                have zf := zz.below hbf zz.lt
                have BF := below_tr BZ hbf
                have hRF := hRZ.on hbf
                clear p0 p1 r0 r1 lx ly xe de hRE hRZ zz hbf BZ BE HV1
                obtain ⟨i9, hi, hi1, hi2, hi3⟩ := info_spot
                have hSL := spL_len l
                have hR24 := vP_len hQv
                have HSP := Lib.hid (fun k x (h : l[k]? = some x) => (show (spL l).take (k + 1) = (spL l).take k ++ [x.a] by unfold spL; rw [List.take_add_one, List.getElem?_map, h]; rfl))
                have zfl := BF.size
                go_wp2
                go_loopw [23, 24] (fun v i wr => ∃ k : Nat, k ≤ l.length ∧ i = .int .i64 k ∧ Below wf.heap.size wf wr ∧ wr.ownsRow wf.heap.size 24 2 v k (fl Sp.cs ((spL l).take k))) (fun _ i _ => l.length - (intOf i).toNat)
                case atStart => exact ⟨0, by omega, rfl, below_refl _, by simp [fl]; exact World.ownsRow_nil wf _ _ _⟩
                case round =>
                  obtain ⟨k, hk, rfl, hbw, hown⟩ := hrel
                  obtain ⟨ad9, cp9, rfl⟩ := ownsRow_slice hown
                  have k0 : (0 : Int) ≤ (k : Int) := Int.natCast_nonneg _
                  have hws := hbw.size
                  by_cases hlt : k < l.length
                  · have k1 : (k : Int) < (l.length : Int) := by omega
                    obtain ⟨p, b2, off2, hp, hA2, hb2, e0, e1, e2⟩ := rdP (hRF.on hbw) hlt
                    have HS := Lib.hid (HSP.out k p hp)
                    rename World => wr
                    clear hp hSL
                    subst hA2
                    go_wp2_with (at_builtin; refine wpList_append_own _ rfl _ _ 50 rfl wf.heap.size 24 i9 (.agg #[.int .i64 0, .int .i64 0]) 2 16 (by kernel_rfl) hi hi1 hi2 hi3 rfl (by omega) _ _ _ rfl (hown.alloc _) ⟨wr.heap.size, 0, none⟩ 1 1 (Sp.cs p.a) rfl rfl (cells_new wr (Sp.cs p.a) 24) (spC_one p.a) (by unfold maxLen; omega) (by omega) (by simp; omega) ?_; intro v' w9 hown9 hgrow _)
                    go_roundw
                    case rel => exact ⟨k + 1, by omega, by go_num, bl_app hbw hown hgrow (Nat.le_refl _) hbw.size, by rw [HS.out, fl_snocSp]; exact hown9⟩
                    case measure => simp [intOf]; omega
                  · obtain rfl : k = l.length := by omega
                    rename World => wh
                    have hown7 : wh.ownsRow wf.heap.size 24 2 (.slice ad9 (spL l).length cp9) (spL l).length (fl Sp.cs (spL l)) := by
                      have := hown
                      rw [← hSL, List.take_length] at this
                      exact this
                    have hRS := own_rd' Sp.cs_len hown7
                    have BH := below_tr BF hbw
                    have zh := zf.below hbw zf.lt
                    have HI := Lib.hid (HHI.out wh ad9 cp9 hRS)
                    rw [← hSL]
                    have q0 := zh.cell 0
                    have q1 := zh.cell 1
                    have q2 := zh.cell 2
                    have q3 := zh.cell 3
                    have q4 := zh.cell 4
                    have q5 := zh.cell 5
                    simp only [List.getElem?_toArray, List.getElem?_cons_zero, List.getElem?_cons_succ] at q0 q1 q2 q3 q4 q5
                    have lz := zh.lt
                    clear hSL hown hown7 hlt zf BF hbw
                    go_wp2_with fail
                    refine HI.out.mono ?_
                    rintro e wi ⟨Ai, ci, rfl, _, hbi⟩
                    have zi := zh.below hbi zh.lt
                    have BI := below_tr BH hbi
                    have WI := Lib.hid (HWI.out wi ad9 cp9 (hRS.on hbi))
                    replace q0 := zi.cell 0
                    replace q1 := zi.cell 1
                    replace q2 := zi.cell 2
                    replace q3 := zi.cell 3
                    replace q4 := zi.cell 4
                    replace q5 := zi.cell 5
                    simp only [List.getElem?_toArray, List.getElem?_cons_zero, List.getElem?_cons_succ] at q0 q1 q2 q3 q4 q5
                    replace lz := zi.lt
                    clear HI zh BH hbi
                    go_wp2_with fail
                    refine WI.out.mono ?_
                    rintro e wj ⟨n9, E9, rfl, hwp, hbj⟩
                    obtain ⟨rfl, rfl⟩ := HWN.out _ _ hwp
                    have BJ := below_tr BI hbj
                    go_wp2_with fail
                    refine (HAW.out _).mono ?_
                    rintro e wz ⟨rfl, hbz⟩
                    go_wp2
                    go_ret
                    exact ⟨rfl, by (repeat' (first | assumption | exact below_refl _ | refine bl_alloc ?_ _ | refine Below.setCell ?_ ?_ _ | refine below_draw ?_ | refine below_drewN ?_ _ | refine below_tr ?_ (by assumption))) <;> (first | omega | (simp; done) | (simp; omega))⟩
          · have hh : heldB (spL l) s = true := HVE.out.symm
            have HP := Lib.hid (HPL.out w4 B4)
            clear HHB HPL
            go_wp2_with fail
            refine HP.out.mono ?_
            rintro e w5 ⟨hb5, hp5⟩
            have B5 := below_tr B4 hb5
            rcases hp5 with ⟨q, _⟩ | ⟨_, q, _⟩ | ⟨_, _, q, _⟩ | ⟨_, _, _, ⟨_, rfl⟩ | ⟨ds, g, cp, hpl, hli, rfl⟩⟩
            · exact absurd HAS.out q
            · rw [hh] at q; cases q
            · omega
            · go_wp2_with fail
              refine (HAW.out _).mono ?_
              rintro e wz ⟨rfl, hbz⟩
              go_wp2
              go_ret
              exact ⟨rfl, by (repeat' (first | assumption | exact below_refl _ | refine bl_alloc ?_ _ | refine Below.setCell ?_ ?_ _ | refine below_draw ?_ | refine below_drewN ?_ _ | refine below_tr ?_ (by assumption))) <;> (first | omega | (simp; done) | (simp; omega))⟩
            · obtain ⟨M, hM, hao, hfm, hls, hcn⟩ := plans_after (by omega) hpl.1
              have ha1 : aftE l ds = 0 := by unfold aftE; rw [if_pos HVV.out, if_pos hls, hao]
              have ha2 : aftL l ds = nZ (mM M) := by
                unfold aftL
                rw [if_pos ha1]
                have : afM l ds = M := by unfold afM; unfold aftO at hao; rw [hao]; rfl
                rw [this]
              have hdl : ds.length ≤ 100000 := by omega
              have HQ := Lib.hid (fallQ_plan HVV.out h6 hM hfm)
              have HAF := Lib.hid (p_After A (some ⟨g, 0, none⟩) l ds c cp w5 (by omega) hdl (TabAt.on hT B5) (hR.on B5) hli.rd)
              unfold AftP at HAF
              rw [ha1, ha2] at HAF
              have HLZ := Lib.hid (show ∀ k, k < (nZ (mM M)).length → ∃ j, (nZ (mM M))[k]? = some ((j : Nat) : Int) ∧ j < l.length ∧ (RL l M)[k]? = some (prAt l j) from fun k hk => by
                have hk' : k < (mM M).length := by unfold nZ at hk; rwa [List.length_map] at hk
                obtain ⟨j, hj⟩ := get_lt hk'
                refine ⟨j, by unfold nZ; rw [List.getElem?_map, hj]; rfl, ?_, by unfold RL; rw [List.getElem?_map, hj]; rfl⟩
                have := (mem_mM.1 (List.mem_of_getElem? hj)).1
                omega)
              have hRL : (RL l M).length = (nZ (mM M)).length := by unfold RL nZ; rw [List.length_map, List.length_map]
              have hNL : (nZ (mM M)).length = (mM M).length := by unfold nZ; rw [List.length_map]
              have hm6 : (nZ (mM M)).length ≤ 6 := by omega
              have hd6 : ds.length ≤ 6 := by omega
              have HCN := Lib.hid (show ((nZ (mM M)).length : Int) + (ds.length : Int) = (l.length : Int) by omega)
              clear hNL hcn
              generalize nZ (mM M) = LZ at *
              generalize RL l M = RR at *
              have x5 := x4.below hb5 x4.lt
              have y5 := y4.below hb5 y4.lt
              clear hpl hao hfm hls ha1 ha2 HP hh x4 y4 p0 p1 r0 r1 lx ly
              go_wp2_with fail
              refine HAF.out.mono ?_
              rintro e w6 ⟨v6, rfl, ho6, hb6⟩
              obtain ⟨A6, c6, rfl, hR6⟩ := own_ints ho6
              have B6 := below_tr B5 hb6
              have x6 := x5.below hb6 x5.lt
              have y6 := y5.below hb6 y5.lt
              have hcn' := HCN.out
              have ld0 : (0 : Int) ≤ (LZ.length : Int) := Int.natCast_nonneg _
              have ld1 : (0 : Int) ≤ (ds.length : Int) := Int.natCast_nonneg _
              clear x5 y5 B5 hb5 hb6 hli
              obtain ⟨i0, hi, hi1, hi2, hi3⟩ := info_prop
              have z6 := B6.size
              have hSN := Lib.hid (fun k x (h : RR[k]? = some x) => (show RR.take (k + 1) = RR.take k ++ [x] by rw [List.take_add_one, h]; rfl))
              go_wp2
              go_loopw [11, 18] (fun v i wr => ∃ k : Nat, k ≤ LZ.length ∧ i = .int .i64 k ∧ Below w6.heap.size w6 wr ∧ wr.ownsRow w6.heap.size 43 3 v k (fl Pr.cs (RR.take k))) (fun _ i _ => LZ.length - (intOf i).toNat)
              case atStart => exact ⟨0, by omega, rfl, below_refl _, by simp [fl]; exact World.ownsRow_nil w6 _ _ _⟩
              case round =>
                obtain ⟨k, hk, rfl, hbw, hown⟩ := hrel
                obtain ⟨ad, cp7, rfl⟩ := ownsRow_slice hown
                have k0 : (0 : Int) ≤ (k : Int) := Int.natCast_nonneg _
                have hws := hbw.size
                by_cases hlt : k < LZ.length
                · have k1 : (k : Int) < (LZ.length : Int) := by omega
                  obtain ⟨j, hj1, hj2, hj3⟩ := HLZ.out k hlt
                  obtain ⟨x, b1, off1, hx, rfl, hb1, c0⟩ := rd_int (hR6.on hbw) hlt
                  obtain rfl : x = (j : Int) := by rw [hj1] at hx; injection hx with hx; exact hx.symm
                  have j0 : (0 : Int) ≤ (j : Int) := Int.natCast_nonneg _
                  have j1 : (j : Int) < (l.length : Int) := by omega
                  obtain ⟨p, b2, off2, hp, rfl, hb2, d0, d1, d2⟩ := rdP (hR.on (below_tr B6 hbw)) hj2
                  have HS := Lib.hid (hSN.out k p (by rw [hj3]; unfold prAt; rw [hp]; rfl))
                  rename World => wr
                  clear hx hp hj1 hj3
                  go_wp2_with (at_builtin; refine wpList_append_own _ rfl _ _ 22 rfl w6.heap.size 43 i0 (.agg #[.int .i64 0, .int .i64 0, .bool false]) 3 24 (by kernel_rfl) hi hi1 hi2 hi3 rfl (by omega) _ _ _ rfl (hown.alloc _) ⟨wr.heap.size, 0, none⟩ 1 1 (Pr.cs p) rfl rfl (cells_new wr (Pr.cs p) 43) (prC_oneP p) (by unfold maxLen; omega) (by omega) (by simp; omega) ?_; intro v' w9 hown9 hgrow _)
                  go_roundw
                  case rel => exact ⟨k + 1, by omega, by go_num, bl_app hbw hown hgrow (Nat.le_refl _) hbw.size, by rw [HS.out, fl_snocPr]; exact hown9⟩
                  case measure => simp [intOf]; omega
                · obtain rfl : k = LZ.length := by omega
                  rename World => w7
                  have BN := below_tr B6 hbw
                  have x7 := x6.below hbw x6.lt
                  have y7 := y6.below hbw y6.lt
                  have hown7 : w7.ownsRow w6.heap.size 43 3 (.slice ad RR.length cp7) RR.length (fl Pr.cs RR) := by
                    have := hown
                    rw [← hRL, List.take_length] at this
                    exact this
                  have hRN := own_rd' Pr.cs_len hown7
                  have hlR : RR.length ≤ 100000 := by omega
                  have HRL := Lib.hid hRL
                  have p0 := x7.cell 0
                  have p1 := x7.cell 1
                  have r0 := y7.cell 0
                  have r1 := y7.cell 1
                  simp only [List.getElem?_toArray, List.getElem?_cons_zero, List.getElem?_cons_succ] at p0 p1 r0 r1
                  have lx := x7.lt
                  have ly := y7.lt
                  rw [← hRL]
                  clear hRL hcn' HCN x6 y6 B6 hown hown7 hlt hm6 hd6 HLZ hR6
                  have HDR := Lib.hid (p_DirectionZ ad RR cp7 s w7 hlR (fun h => vP_len h) hRN)
                  have hQv := HQ.out.1
                  have hQn := HQ.out.2.2.1
                  have hse : stE RR s = 0 := by unfold stE askE; simp [hQv, HSS.out]
                  have hhb : heldB (spL RR) s = false := by
                    cases h : heldB (spL RR) s
                    · rfl
                    · exact absurd (heldB_iff.1 h) hQn
                  by_cases hR0 : RR.length = 0
                  · exact absurd (List.length_eq_zero_iff.1 (by rw [spL_len]; exact hR0)) (HQ.out.2.2.2 rfl).1
                  · have hne : spL RR ≠ [] := fun e => hR0 (by rw [← spL_len, e]; rfl)
                    have hdr : drE RR s = 0 := by unfold drE flE; rw [if_pos hse, if_neg (by rw [hhb]; simp), if_neg (fun e => hne (List.length_eq_zero_iff.1 (by rw [spL_len]; exact e)))]
                    have hdz : drZ RR s = dirZ (spL RR) s := by unfold drZ; rw [if_pos hdr]
                    have hdp : DirP (spL RR) s (dirZ (spL RR) s) := dirZ_dir (vP_bd hQv) (vP_nodup hQv) hne hQn
                    obtain ⟨d1, d2, d3, d4⟩ := dirP_bd (vP_bd hQv) (vP_nodup hQv) hne hQn (isS_bd HSS.out) hdp
                    have htw : 0 < vdot (dirZ (spL RR) s) ⟨t.x - s.x, t.y - s.y⟩ := by have := (HQ.out.2.2.2 rfl).2; unfold twZ at this; exact of_decide_eq_true this
                    rw [hdr, hdz] at HDR
                    have HZN := Lib.hid (fun q (hq : q ∈ spL RR) r n => zone_none hdp hq r n)
                    have HTH := Lib.hid (spots_th hQv)
                    obtain ⟨s1, s2, s3, s4⟩ := isS_bd HSS.out
                    obtain ⟨t1, t2, t3, t4⟩ := isS_bd HTT.out
                    generalize dirZ (spL RR) s = d at *
                    have HDT := Lib.hid (fun W => r_Dot d ⟨t.x - s.x, t.y - s.y⟩ W ⟨by omega, by omega, by omega, by omega⟩ ⟨by show _ ≤ t.x - s.x; omega, by show t.x - s.x ≤ _; omega, by show _ ≤ t.y - s.y; omega, by show t.y - s.y ≤ _; omega⟩)
                    clear hdp hdr hdz hne hhb hse hQn HQ hR0
                    go_wp2_with fail
                    refine HDR.out.mono ?_
                    rintro e wd ⟨rfl, hbd⟩
                    have BD := below_tr BN hbd
                    have xd := x7.below hbd x7.lt
                    have yd := y7.below hbd y7.lt
                    replace p0 := xd.cell 0
                    replace p1 := xd.cell 1
                    replace r0 := yd.cell 0
                    replace r1 := yd.cell 1
                    simp only [List.getElem?_toArray, List.getElem?_cons_zero, List.getElem?_cons_succ] at p0 p1 r0 r1
                    replace lx := xd.lt
                    replace ly := yd.lt
                    have hRD := hRN.on hbd
                    have dd := Blk.new wd 24 (spA d)
                    clear x7 y7 BN hbd HDR hRN
                    go_wp2_with fail
                    refine (HDT.out _).mono ?_
                    rintro e we ⟨rfl, hbe⟩
                    have BE := below_tr (bl_alloc BD (.cells (spA d) 24)) hbe
                    have xe := (xd.alloc (.cells (spA d) 24)).below hbe (xd.alloc (.cells (spA d) 24)).lt
                    have de := dd.below hbe dd.lt
                    have hRE := (hRD.on (below_alloc wd (.cells (spA d) 24))).on hbe
                    replace p0 := xe.cell 0
                    replace p1 := xe.cell 1
                    replace r0 := de.cell 0
                    replace r1 := de.cell 1
                    simp only [List.getElem?_toArray, List.getElem?_cons_zero, List.getElem?_cons_succ] at p0 p1 r0 r1
                    replace lx := xe.lt
                    replace ly := de.lt
                    clear xd yd dd hbe HDT hRD BD
                    generalize vdot d ⟨t.x - s.x, t.y - s.y⟩ = q at *
                    have htw' : ¬ q ≤ 0 := by omega
                    have BZ := bl_alloc BE (.cells (znC ⟨s, ⟨s.x + d.x, s.y + d.y⟩, reach, wide⟩) 48)
                    have zz := Blk.new we 48 (znC ⟨s, ⟨s.x + d.x, s.y + d.y⟩, reach, wide⟩)
                    have hRZ := hRE.on (below_alloc we (.cells (znC ⟨s, ⟨s.x + d.x, s.y + d.y⟩, reach, wide⟩) 48))
                    cases hvz : vZn ⟨s, ⟨s.x + d.x, s.y + d.y⟩, reach, wide⟩
                    · have HV1 := Lib.hid (fun W => hvz ▸ p_ValidZone ⟨s, ⟨s.x + d.x, s.y + d.y⟩, reach, wide⟩ W)
                      have HV2 := Lib.hid (fun W => hvz ▸ r_ValidZone ⟨s, ⟨s.x + d.x, s.y + d.y⟩, reach, wide⟩ W)
                      clear hvz
                      go_wp2_with fail
                      refine (HV1.out _).mono ?_
                      rintro e wf ⟨rfl, hbf⟩
                      have zf := zz.below hbf zz.lt
                      have BF := below_tr BZ hbf
                      have q0 := zf.cell 0
                      have q1 := zf.cell 1
                      have q2 := zf.cell 2
                      have q3 := zf.cell 3
                      have q4 := zf.cell 4
                      have q5 := zf.cell 5
                      simp only [List.getElem?_toArray, List.getElem?_cons_zero, List.getElem?_cons_succ] at q0 q1 q2 q3 q4 q5
                      have lz := zf.lt
                      clear p0 p1 r0 r1 lx ly xe de hRE hRZ zz hbf BZ BE
                      go_wp2_with fail
                      refine (HV2.out _).mono ?_
                      rintro e wg ⟨rfl, hbg⟩
                      go_wp2_with fail
                      refine (HAW.out _).mono ?_
                      rintro e wz ⟨rfl, hbz⟩
                      go_wp2
                      go_ret
                      exact ⟨rfl, by (repeat' (first | assumption | exact below_refl _ | refine bl_alloc ?_ _ | refine Below.setCell ?_ ?_ _ | refine below_draw ?_ | refine below_drewN ?_ _ | refine below_tr ?_ (by assumption))) <;> (first | omega | (simp; done) | (simp; omega))⟩
                    · have HV1 := Lib.hid (fun W => hvz ▸ p_ValidZone ⟨s, ⟨s.x + d.x, s.y + d.y⟩, reach, wide⟩ W)
                      obtain ⟨he0, hl0⟩ := hit_none (L := spL RR) hvz HTH.out (fun q hq => HZN.out q hq _ _)
                      have HHI := Lib.hid (fun (W : World) (A : Option Addr) (c : Nat) (hR : Rd Sp.cs 2 W A (spL RR)) => p_Hit ⟨s, ⟨s.x + d.x, s.y + d.y⟩, reach, wide⟩ A (spL RR) c W (by rw [spL_len]; exact hlR) hR)
                      unfold HiP at HHI
                      rw [he0, hl0] at HHI
                      have HWI := Lib.hid (fun (W : World) (A : Option Addr) (c : Nat) (hR : Rd Sp.cs 2 W A (spL RR)) => p_Widest s ⟨s.x + d.x, s.y + d.y⟩ reach A (spL RR) c W (by rw [spL_len]; exact hlR) hR)
                      have HWN := Lib.hid (fun n E (h : WiP s ⟨s.x + d.x, s.y + d.y⟩ reach (spL RR) n E) => wid_none (w := wide) hvz HTH.out (fun q hq n => HZN.out q hq _ _) h)
                      clear hvz he0 hl0
                      go_wp2_with fail
                      refine (HV1.out _).mono ?_
                      rintro e wf ⟨rfl, hbf⟩
                      have zf := zz.below hbf zz.lt
                      have BF := below_tr BZ hbf
                      have hRF := hRZ.on hbf
                      clear p0 p1 r0 r1 lx ly xe de hRE hRZ zz hbf BZ BE HV1
                      obtain ⟨i9, hi, hi1, hi2, hi3⟩ := info_spot
                      have hSL := spL_len RR
                      have hR24 := vP_len hQv
                      have HSP := Lib.hid (fun k x (h : RR[k]? = some x) => (show (spL RR).take (k + 1) = (spL RR).take k ++ [x.a] by unfold spL; rw [List.take_add_one, List.getElem?_map, h]; rfl))
                      have zfl := BF.size
                      go_wp2
                      go_loopw [23, 24] (fun v i wr => ∃ k : Nat, k ≤ RR.length ∧ i = .int .i64 k ∧ Below wf.heap.size wf wr ∧ wr.ownsRow wf.heap.size 24 2 v k (fl Sp.cs ((spL RR).take k))) (fun _ i _ => RR.length - (intOf i).toNat)
                      case atStart => exact ⟨0, by omega, rfl, below_refl _, by simp [fl]; exact World.ownsRow_nil wf _ _ _⟩
                      case round =>
                        obtain ⟨k, hk, rfl, hbw, hown⟩ := hrel
                        obtain ⟨ad9, cp9, rfl⟩ := ownsRow_slice hown
                        have k0 : (0 : Int) ≤ (k : Int) := Int.natCast_nonneg _
                        have hws := hbw.size
                        by_cases hlt : k < RR.length
                        · have k1 : (k : Int) < (RR.length : Int) := by omega
                          obtain ⟨p, b2, off2, hp, hA2, hb2, e0, e1, e2⟩ := rdP (hRF.on hbw) hlt
                          have HS := Lib.hid (HSP.out k p hp)
                          rename World => wr
                          clear hp hSL
                          subst hA2
                          go_wp2_with (at_builtin; refine wpList_append_own _ rfl _ _ 50 rfl wf.heap.size 24 i9 (.agg #[.int .i64 0, .int .i64 0]) 2 16 (by kernel_rfl) hi hi1 hi2 hi3 rfl (by omega) _ _ _ rfl (hown.alloc _) ⟨wr.heap.size, 0, none⟩ 1 1 (Sp.cs p.a) rfl rfl (cells_new wr (Sp.cs p.a) 24) (spC_one p.a) (by unfold maxLen; omega) (by omega) (by simp; omega) ?_; intro v' w9 hown9 hgrow _)
                          go_roundw
                          case rel => exact ⟨k + 1, by omega, by go_num, bl_app hbw hown hgrow (Nat.le_refl _) hbw.size, by rw [HS.out, fl_snocSp]; exact hown9⟩
                          case measure => simp [intOf]; omega
                        · obtain rfl : k = RR.length := by omega
                          rename World => wh
                          have hown7 : wh.ownsRow wf.heap.size 24 2 (.slice ad9 (spL RR).length cp9) (spL RR).length (fl Sp.cs (spL RR)) := by
                            have := hown
                            rw [← hSL, List.take_length] at this
                            exact this
                          have hRS := own_rd' Sp.cs_len hown7
                          have BH := below_tr BF hbw
                          have zh := zf.below hbw zf.lt
                          have HI := Lib.hid (HHI.out wh ad9 cp9 hRS)
                          rw [← hSL]
                          have q0 := zh.cell 0
                          have q1 := zh.cell 1
                          have q2 := zh.cell 2
                          have q3 := zh.cell 3
                          have q4 := zh.cell 4
                          have q5 := zh.cell 5
                          simp only [List.getElem?_toArray, List.getElem?_cons_zero, List.getElem?_cons_succ] at q0 q1 q2 q3 q4 q5
                          have lz := zh.lt
                          clear hSL hown hown7 hlt zf BF hbw
                          go_wp2_with fail
                          refine HI.out.mono ?_
                          rintro e wi ⟨Ai, ci, rfl, _, hbi⟩
                          have zi := zh.below hbi zh.lt
                          have BI := below_tr BH hbi
                          have WI := Lib.hid (HWI.out wi ad9 cp9 (hRS.on hbi))
                          replace q0 := zi.cell 0
                          replace q1 := zi.cell 1
                          replace q2 := zi.cell 2
                          replace q3 := zi.cell 3
                          replace q4 := zi.cell 4
                          replace q5 := zi.cell 5
                          simp only [List.getElem?_toArray, List.getElem?_cons_zero, List.getElem?_cons_succ] at q0 q1 q2 q3 q4 q5
                          replace lz := zi.lt
                          clear HI zh BH hbi
                          go_wp2_with fail
                          refine WI.out.mono ?_
                          rintro e wj ⟨n9, E9, rfl, hwp, hbj⟩
                          obtain ⟨rfl, rfl⟩ := HWN.out _ _ hwp
                          have BJ := below_tr BI hbj
                          go_wp2_with fail
                          refine (HAW.out _).mono ?_
                          rintro e wz ⟨rfl, hbz⟩
                          go_wp2
                          go_ret
                          exact ⟨rfl, by (repeat' (first | assumption | exact below_refl _ | refine bl_alloc ?_ _ | refine Below.setCell ?_ ?_ _ | refine below_draw ?_ | refine below_drewN ?_ _ | refine below_tr ?_ (by assumption))) <;> (first | omega | (simp; done) | (simp; omega))⟩
  · have h6' : (6 : Int) < (l.length : Int) := by omega
    go_wp2_with fail
    refine (HAW.out _).mono ?_
    rintro e wz ⟨rfl, hbz⟩
    go_wp2
    go_ret
    exact ⟨rfl, by (repeat' (first | assumption | exact below_refl _ | refine bl_alloc ?_ _ | refine Below.setCell ?_ ?_ _ | refine below_draw ?_ | refine below_drewN ?_ _ | refine below_tr ?_ (by assumption))) <;> (first | omega | (simp; done) | (simp; omega))⟩
end Go.Proofs.YtkeojokbpjdhpaaDoor
namespace Go.Proofs.YtkeojokbpjdhpaaDoor
open Go.RowKit Go.Shelf

set_option maxHeartbeats 4000000 in
set_option maxRecDepth 20000 in
theorem l_TopMany (A : Option Addr) (l : List Pr) (c : Nat) (s t : Sp) (reach wide : Int) (w : World) (h6 : 6 < l.length) :
    Calls Tryd.prog 5 #[.slice A l.length c, spV s, spV t, .int .i64 reach, .int .i64 wide] w fun e w' => e = .returned (.bool true) ∧ Below w.heap.size w w' := by
  have HAW := Lib.hid l_awake6
  have h6' : (6 : Int) < (l.length : Int) := by omega
  go_enter Tryd.func5, Tryd.ntmps5
  go_wp2_with fail
  refine (HAW.out _).mono ?_
  rintro e wz ⟨rfl, hbz⟩
  go_wp2
  go_ret
  exact ⟨rfl, by (repeat' (first | assumption | exact below_refl _ | refine bl_alloc ?_ _ | refine Below.setCell ?_ ?_ _ | refine below_draw ?_ | refine below_drewN ?_ _ | refine below_tr ?_ (by assumption))) <;> (first | omega | (simp; done) | (simp; omega))⟩
theorem f_TopFalls (A : Option Addr) (l : List Pr) (c : Nat) (s t : Sp) (reach wide : Int) (w : World) (hT : Tab w) (hl : l.length ≤ maxLen) (hR : Rd Pr.cs 3 w A l) (_ : ∀ x ∈ l, True) (_ : True) (_ : True) (hr : (Lit.int .i64 reach).wf = true) (hw : (Lit.int .i64 wide).wf = true) :
    Calls Tryd.prog 5 #[.slice A l.length c, .agg s.cs.toArray, .agg t.cs.toArray, .int .i64 reach, .int .i64 wide] w fun e w' => e = .returned (.bool true) ∧ Below w.heap.size w w' := by
  by_cases h6 : l.length ≤ 6
  · exact l_TopFalls A l c s t reach wide w (by omega) hT hR hr hw
  · exact l_TopMany A l c s t reach wide w (by omega)
end Go.Proofs.YtkeojokbpjdhpaaDoor
