/- The parts of the proof, part 32. -/
import Derived.Test.YtgemlddincnfcaaGreatDoorQ0
import Derived.Test.YtgemlddincnfcaaGreatDoorQ30
import Derived.Test.YtgemlddincnfcaaGreatDoorQ31
set_option maxHeartbeats 16000000
set_option maxRecDepth 20000
set_option linter.unusedSimpArgs false
set_option linter.unusedVariables false
namespace Go.Proofs.YtgemlddincnfcaaGreatDoor.Fi
open Go.RowKit Go.Lib Tx
theorem wpList_load_rowG {P : Program} {ops : Array Oper} {rest : List Oper} {o : Oper} {a : Act} {w : World} {Q : Exit -> Act -> World -> Prop} (hw : Region.wanted o (yielded ops a.tmps) = true) (ty : TypeId) (x : Operand) (ho : o.op = .load ty x)
  (g : Nat) (hx : a.eval x = .pointer (some ⟨g, 0, none⟩)) (t : TypeId) (cs : Array Value) (fr : Nat × Nat) (d : TypeDesc) (hg : w.heap[g]? = some (.cells cs t fr))
  (hu : P.underlying ty = some d) (hd : (match d with | .struct _ | .array _ _ => true | _ => false) = true) (hi : (P.info? ty).map (·.size) = some cs.size)
  (h : wpList P ops Q rest (a.put o.dst (.agg cs)) w) : wpList P ops Q (o :: rest) a w :=
 wpList_step fun K hK => by rw [if_pos hw]; exact wp_load_row ty x ho g hx t cs fr d hg hu hd hi (hK _ _ h)
structure Alo (w0 : World) (x : Su) (R : Nat -> Prop) (w : World) (b : Nat) (ys : Sl (Sl G.Lk)) (L : LS) (T : Nat -> Prop) : Prop where
 hd : Hd w0 w b L T
 xe : L.val.x = x
 got : Got R w Sl.cs 1 ys
 ft : ∀ g, Foot b L g -> ¬ R g
 top : ∀ g, R g -> g < w.heap.size
section
variable {w0 w w' : World} {x : Su} {R : Nat -> Prop} {b : Nat} {ys : Sl (Sl G.Lk)} {L L' : LS} {T T' : Nat -> Prop}
theorem Alo.below (h : Alo w0 x R w b ys L T) (hb : Below w.heap.size w w') : Alo w0 x R w' b ys L T :=
 ⟨h.hd.below hb, h.xe, h.got.on hb, h.ft, fun g hg => Nat.lt_of_lt_of_le (h.top g hg) hb.size⟩
theorem Alo.step {c : Cm} (h : Alo w0 x R w b ys L T) (hc : CmOk c) (hv : L'.val = (doC c L.val).2) (hf : Fut w b L T w' L' T') : Alo w0 x R w' b ys L' T' := by
 refine ⟨h.hd.step hc hv hf, by rw [hv, doC_x]; exact h.xe, h.got.stp hf.stp (fun g hg hq => h.ft g hq hg), fun g hg hr => ?_, fun g hg => Nat.lt_of_lt_of_le (h.top g hg) hf.stp.size⟩
 rcases hf.ff g hg with h1 | h1
 ·exact h.ft g h1 hr
 ·have := h.top g hr
  omega
theorem Alo.len (h : Alo w0 x R w b ys L T) {n : Nat} (hn : x.stk.length = n) : L.sites.l.length = n := by
 have h1 := h.hd.inv.sl
 rw [h.xe, hn] at h1
 have h2 : L.val.sites.length = L.sites.l.length := List.length_map ..
 omega
theorem vsite {k : Nat} {s : LSi} (h : L.sites.l[k]? = some s) : L.val.sites[k]? = some s.val := by
 show (L.sites.l.map LSi.val)[k]? = _
 rw [List.getElem?_map, h]
 rfl
theorem vrig {k : Nat} {r : LRg} (h : L.rigs.l[k]? = some r) : L.val.rigs[k]? = some r.val := by
 show (L.rigs.l.map LRg.val)[k]? = _
 rw [List.getElem?_map, h]
 rfl
theorem Alo.down {x0 : St} {k : Nat} {s : LSi} (h : Alo w0 x R w b ys L T) (hD : Dn x0 L.val k) (hs : L.sites.l[k]? = some s) (h0 : 0 < s.men) (hl : L.val.lines.length < 2000) :
  Calls Tryz.prog 26 #[.pointer (some ⟨b, 0, none⟩), .int .i64 (k : Nat), .int .i64 s.men] w fun e w' => e = .returned (.int .i64 0) ∧ ∃ L' T', Hid (Alo w0 x R w' b ys L' T' ∧ Dn x0 L'.val (k + 1)) := by
 have hm := h.hd.inv.menL s (List.mem_of_getElem? hs)
 have hk := (List.getElem?_eq_some_iff.1 hs).1
 have hk8 : L.sites.l.length <= 8 := h.hd.inv.slen
 have hc : CmOk (.down (k : Int) s.men) := ⟨⟨by omega, by omega⟩, ⟨by omega, by omega⟩⟩
 have hd := hD.down (vsite hs) h0 hl
 refine (f_DownA h.hd.at_ h.hd.inv h.hd.lw (k : Int) s.men hc.1 hc.2).mono ?_
 rintro e w' ⟨rfl, L', T', hv, hf⟩
 have hd2 : Dn x0 (doC (.down (k : Int) s.men) L.val).2 (k + 1) := hd.2
 exact ⟨by rw [show (doC (.down (k : Int) s.men) L.val).1 = 0 from hd.1], L', T', Lib.hid ⟨h.step hc hv hf, by rw [hv]; exact hd2⟩⟩
theorem Alo.day {x0 : St} (h : Alo w0 x R w b ys L T) (hD : Dn x0 L.val x0.sites.length) (hl : L.val.lines.length < 2000) (hd : L.val.day < 100000) :
  Calls Tryz.prog 27 #[.pointer (some ⟨b, 0, none⟩)] w fun e w' => e = .returned (.int .i64 0) ∧ ∃ L' T', Hid (Alo w0 x R w' b ys L' T' ∧ Calm x0.rigs (x0.lines.length + x0.sites.length + 1) L'.val 0) := by
 have hc := hD.calm hl hd
 refine (f_DayA h.hd.at_ h.hd.inv h.hd.lw).mono ?_
 rintro e w' ⟨rfl, L', T', hv, hf⟩
 exact ⟨by rw [hc.1], L', T', Lib.hid ⟨h.step (c := .day) trivial hv hf, by rw [hv]; exact hc.2⟩⟩
theorem Alo.strike {Q : List Rig} {n k : Nat} {r : LRg} (h : Alo w0 x R w b ys L T) (hC : Calm Q n L.val k) (hr : L.rigs.l[k]? = some r) (h0 : 0 < r.lk.l.length) (hl : L.val.lines.length < 2000) :
  Calls Tryz.prog 28 #[.pointer (some ⟨b, 0, none⟩), .int .i64 (k : Nat)] w fun e w' => e = .returned (.int .i64 0) ∧ ∃ L' T', Hid (Alo w0 x R w' b ys L' T' ∧ Calm Q n L'.val (k + 1)) := by
 have hk := (List.getElem?_eq_some_iff.1 hr).1
 have hk8 := h.hd.inv.rl
 have hkl : L.val.rigs.length = L.rigs.l.length := List.length_map ..
 have hc : CmOk (.strike (k : Int)) := ⟨by omega, by omega⟩
 have hd := hC.strike (vrig hr) h0 hl
 refine (f_StrikeA h.hd.at_ h.hd.inv h.hd.lw (k : Int) hc).mono ?_
 rintro e w' ⟨rfl, L', T', hv, hf⟩
 exact ⟨by rw [hd.1], L', T', Lib.hid ⟨h.step hc hv hf, by rw [hv]; exact hd.2⟩⟩
theorem Alo.cut {n j k : Nat} {s : LSi} (h : Alo w0 x R w b ys L T) (hB : Bare n L.val j) (hs : L.sites.l[k]? = some s) (h0 : s.fel = false) (hl : L.val.lines.length < 2000) :
  Calls Tryz.prog 29 #[.pointer (some ⟨b, 0, none⟩), .int .i64 (k : Nat)] w fun e w' => ∃ E : Int, e = .returned (.int .i64 E) ∧ (E = 0 ∨ E = 11) ∧ ∃ L' T', Hid (Alo w0 x R w' b ys L' T' ∧ Bare n L'.val (j + 1) ∧ ∃ t, L'.sites.l[k]? = some t ∧ t.fel = decide (E = 0)) := by
 have hk := (List.getElem?_eq_some_iff.1 hs).1
 have hk8 : L.sites.l.length <= 8 := h.hd.inv.slen
 have hc : CmOk (.cut (k : Int)) := ⟨by omega, by omega⟩
 obtain ⟨h1, h2, t, h3, h4⟩ := hB.cut (vsite hs) h0 hl
 refine (f_FellA h.hd.at_ h.hd.inv h.hd.lw (k : Int) hc).mono ?_
 rintro e w' ⟨rfl, L', T', hv, hf⟩
 rw [← hv] at h2 h3
 have h5 : (L'.sites.l.map LSi.val)[k]? = some t := h3
 rw [List.getElem?_map] at h5
 cases hs' : L'.sites.l[k]? with
 | none => rw [hs'] at h5; cases h5
 | some s' =>
  rw [hs'] at h5
  have h6 : s'.val = t := Option.some.inj h5
  exact ⟨_, rfl, h1, L', T', Lib.hid ⟨h.step hc hv hf, h2, s', hs', by rw [← h4, ← h6]; rfl⟩⟩
end
theorem jntA_eq {x : LSu} {y : Su} (h : x.val = y) {k : Nat} {j : Sl Jt} (hj : x.jnt.l[k]? = some j) : y.jnt.getD k [] = j.l := by
 rw [← h]
 show (x.jnt.l.map (·.l)).getD k [] = _
 rw [List.getD_eq_getElem?_getD, List.getElem?_map, hj]
 rfl
theorem r3_within (n lo hi : Int) (w : World) :
  Calls Tryz.prog 136 #[.int .i64 n, .int .i64 lo, .int .i64 hi] w fun e w' => e = .returned (.bool (wn n lo hi)) ∧ w = w' := by
 by_cases h1 : lo <= n
 ·have t1 : decide (lo <= n) = true := by simpa using h1
  go_enter Tryz.func136, Tryz.ntmps136
  go_wp2
  go_ret
  exact ⟨ret_bool (by simp [wn, h1]), rfl⟩
 ·have t1 : decide (lo <= n) = false := by simpa using h1
  go_enter Tryz.func136, Tryz.ntmps136
  go_wp2
  go_ret
  exact ⟨ret_bool (by unfold wn; rw [t1]; rfl), rfl⟩
theorem r3_withinV {n lo hi : Int} {b : Bool} (h : wn n lo hi = b) (w : World) :
  Calls Tryz.prog 136 #[.int .i64 n, .int .i64 lo, .int .i64 hi] w fun e w' => e = .returned (.bool b) ∧ w = w' := h ▸ r3_within n lo hi w
theorem r9_within (n lo hi : Int) (w : World) :
  Calls Tryz.prog 141 #[.int .i64 n, .int .i64 lo, .int .i64 hi] w fun e w' => e = .returned (.bool (wn n lo hi)) ∧ w = w' := by
 by_cases h1 : lo <= n
 ·have t1 : decide (lo <= n) = true := by simpa using h1
  go_enter Tryz.func141, Tryz.ntmps141
  go_wp2
  go_ret
  exact ⟨ret_bool (by simp [wn, h1]), rfl⟩
 ·have t1 : decide (lo <= n) = false := by simpa using h1
  go_enter Tryz.func141, Tryz.ntmps141
  go_wp2
  go_ret
  exact ⟨ret_bool (by unfold wn; rw [t1]; rfl), rfl⟩
theorem r9_withinV {n lo hi : Int} {b : Bool} (h : wn n lo hi = b) (w : World) :
  Calls Tryz.prog 141 #[.int .i64 n, .int .i64 lo, .int .i64 hi] w fun e w' => e = .returned (.bool b) ∧ w = w' := h ▸ r9_within n lo hi w
theorem r10_within (n lo hi : Int) (w : World) :
  Calls Tryz.prog 88 #[.int .i64 n, .int .i64 lo, .int .i64 hi] w fun e w' => e = .returned (.bool (wn n lo hi)) ∧ w = w' := by
 by_cases h1 : lo <= n
 ·have t1 : decide (lo <= n) = true := by simpa using h1
  go_enter Tryz.func88, Tryz.ntmps88
  go_wp2
  go_ret
  exact ⟨ret_bool (by simp [wn, h1]), rfl⟩
 ·have t1 : decide (lo <= n) = false := by simpa using h1
  go_enter Tryz.func88, Tryz.ntmps88
  go_wp2
  go_ret
  exact ⟨ret_bool (by unfold wn; rw [t1]; rfl), rfl⟩
theorem r10_withinV {n lo hi : Int} {b : Bool} (h : wn n lo hi = b) (w : World) :
  Calls Tryz.prog 88 #[.int .i64 n, .int .i64 lo, .int .i64 hi] w fun e w' => e = .returned (.bool b) ∧ w = w' := h ▸ r10_within n lo hi w
theorem r9_ValidRateV {r : Rt} {b : Bool} (h : vRt r = b) (w : World) : Calls Tryz.prog 94 #[rtV r] w fun e w' => e = .returned (.bool b) ∧ Below w.heap.size w w' := by
 have HB := Lib.hid (show (wn r.hi 1 200000 && (wn r.lo 0 1000000 && (wn r.ab 0 1000000 && wn r.co 0 1000000))) = b from h)
 rcases (show wn r.hi 1 200000 = false ∨ wn r.hi 1 200000 = true ∧ wn r.lo 0 1000000 = false ∨ wn r.hi 1 200000 = true ∧ wn r.lo 0 1000000 = true ∧ wn r.ab 0 1000000 = false ∨ wn r.hi 1 200000 = true ∧ wn r.lo 0 1000000 = true ∧ wn r.ab 0 1000000 = true from by
  cases wn r.hi 1 200000 <;> cases wn r.lo 0 1000000 <;> cases wn r.ab 0 1000000 <;> decide) with h1 | ⟨h1, h2⟩ | ⟨h1, h2, h3⟩ | ⟨h1, h2, h3⟩
 rotate_left 3
 ·cases h4 : wn r.co 0 1000000
  all_goals
   have HE := HB.out
   rw [h1, h2, h3, h4] at HE
   subst HE
   go_enter Tryz.func94, Tryz.ntmps94
   go_wp2_with (first | (go_at_call 141; ((with_reducible refine (r9_withinV h1 _).mono ?_); rintro e w' ⟨rfl, rfl⟩)) | (go_at_call 141; ((with_reducible refine (r9_withinV h2 _).mono ?_); rintro e w' ⟨rfl, rfl⟩)) | (go_at_call 141; ((with_reducible refine (r9_withinV h3 _).mono ?_); rintro e w' ⟨rfl, rfl⟩)) | (go_at_call 141; ((with_reducible refine (r9_withinV h4 _).mono ?_); rintro e w' ⟨rfl, rfl⟩)))
   go_ret
   exact ⟨rfl, bl_alloc (below_refl _) _⟩
 all_goals
  have HE : false = b := by rw [← HB.out]; simp [*]
  subst HE
  go_enter Tryz.func94, Tryz.ntmps94
  go_wp2_with (first | (go_at_call 141; ((with_reducible refine (r9_withinV h1 _).mono ?_); rintro e w' ⟨rfl, rfl⟩)) | (go_at_call 141; ((with_reducible refine (r9_withinV h2 _).mono ?_); rintro e w' ⟨rfl, rfl⟩)) | (go_at_call 141; ((with_reducible refine (r9_withinV h3 _).mono ?_); rintro e w' ⟨rfl, rfl⟩)))
  go_ret
  exact ⟨rfl, bl_alloc (below_refl _) _⟩
theorem r3_ValidClimbV {c : Cl} {b : Bool} (h : vCl c = b) (w : World) : Calls Tryz.prog 91 #[clV c] w fun e w' => e = .returned (.bool b) ∧ Below w.heap.size w w' := by
 have HB := Lib.hid (show (wn c.fi 1 200000 && (wn c.ga 1 200000 && (wn c.tp 1 200000 && (wn c.le 1 200000 && (wn c.la 0 (c.le - 1) && wn c.st 1 1000000))))) = b from h)
 have HL := Lib.hid (show wn c.la 0 (c.le - 1) = (decide (0 <= c.la) && decide (c.la < c.le)) by unfold wn; rw [show decide (c.la <= c.le - 1) = decide (c.la < c.le) from decide_eq_decide.2 (by omega)])
 rcases (show wn c.fi 1 200000 = false ∨ wn c.fi 1 200000 = true ∧ wn c.ga 1 200000 = false ∨ wn c.fi 1 200000 = true ∧ wn c.ga 1 200000 = true ∧ wn c.tp 1 200000 = false ∨ wn c.fi 1 200000 = true ∧ wn c.ga 1 200000 = true ∧ wn c.tp 1 200000 = true ∧ wn c.le 1 200000 = false ∨ wn c.fi 1 200000 = true ∧ wn c.ga 1 200000 = true ∧ wn c.tp 1 200000 = true ∧ wn c.le 1 200000 = true from by
  cases wn c.fi 1 200000 <;> cases wn c.ga 1 200000 <;> cases wn c.tp 1 200000 <;> cases wn c.le 1 200000 <;> decide) with h1 | ⟨h1, h2⟩ | ⟨h1, h2, h3⟩ | ⟨h1, h2, h3, h4⟩ | ⟨h1, h2, h3, h4⟩
 rotate_left 4
 ·have HE := HB.out
  rw [h1, h2, h3, h4, HL.out] at HE
  by_cases h5 : 0 <= c.la
  rotate_left
  ·have q5 : decide (0 <= c.la) = false := decide_eq_false h5
   rw [q5] at HE
   obtain rfl : false = b := HE
   go_enter Tryz.func91, Tryz.ntmps91
   go_wp2_with (first | (go_at_call 136; ((with_reducible refine (r3_withinV h1 _).mono ?_); rintro e w' ⟨rfl, rfl⟩)) | (go_at_call 136; ((with_reducible refine (r3_withinV h2 _).mono ?_); rintro e w' ⟨rfl, rfl⟩)) | (go_at_call 136; ((with_reducible refine (r3_withinV h3 _).mono ?_); rintro e w' ⟨rfl, rfl⟩)) | (go_at_call 136; ((with_reducible refine (r3_withinV h4 _).mono ?_); rintro e w' ⟨rfl, rfl⟩)))
   go_ret
   exact ⟨rfl, bl_alloc (below_refl _) _⟩
  have q5 : decide (0 <= c.la) = true := decide_eq_true h5
  by_cases h6 : c.la < c.le
  rotate_left
  ·have q6 : decide (c.la < c.le) = false := decide_eq_false h6
   rw [q5, q6] at HE
   obtain rfl : false = b := HE
   go_enter Tryz.func91, Tryz.ntmps91
   go_wp2_with (first | (go_at_call 136; ((with_reducible refine (r3_withinV h1 _).mono ?_); rintro e w' ⟨rfl, rfl⟩)) | (go_at_call 136; ((with_reducible refine (r3_withinV h2 _).mono ?_); rintro e w' ⟨rfl, rfl⟩)) | (go_at_call 136; ((with_reducible refine (r3_withinV h3 _).mono ?_); rintro e w' ⟨rfl, rfl⟩)) | (go_at_call 136; ((with_reducible refine (r3_withinV h4 _).mono ?_); rintro e w' ⟨rfl, rfl⟩)))
   go_ret
   exact ⟨rfl, bl_alloc (below_refl _) _⟩
  have q6 : decide (c.la < c.le) = true := decide_eq_true h6
  rw [q5, q6] at HE
  cases h7 : wn c.st 1 1000000
  all_goals
   rw [h7] at HE
   subst HE
   go_enter Tryz.func91, Tryz.ntmps91
   go_wp2_with (first | (go_at_call 136; ((with_reducible refine (r3_withinV h1 _).mono ?_); rintro e w' ⟨rfl, rfl⟩)) | (go_at_call 136; ((with_reducible refine (r3_withinV h2 _).mono ?_); rintro e w' ⟨rfl, rfl⟩)) | (go_at_call 136; ((with_reducible refine (r3_withinV h3 _).mono ?_); rintro e w' ⟨rfl, rfl⟩)) | (go_at_call 136; ((with_reducible refine (r3_withinV h4 _).mono ?_); rintro e w' ⟨rfl, rfl⟩)) | (go_at_call 136; ((with_reducible refine (r3_withinV h7 _).mono ?_); rintro e w' ⟨rfl, rfl⟩)))
   go_ret
   exact ⟨rfl, bl_alloc (below_refl _) _⟩
 all_goals
  have HE : false = b := by rw [← HB.out]; simp [*]
  subst HE
  go_enter Tryz.func91, Tryz.ntmps91
  go_wp2_with (first | (go_at_call 136; ((with_reducible refine (r3_withinV h1 _).mono ?_); rintro e w' ⟨rfl, rfl⟩)) | (go_at_call 136; ((with_reducible refine (r3_withinV h2 _).mono ?_); rintro e w' ⟨rfl, rfl⟩)) | (go_at_call 136; ((with_reducible refine (r3_withinV h3 _).mono ?_); rintro e w' ⟨rfl, rfl⟩)) | (go_at_call 136; ((with_reducible refine (r3_withinV h4 _).mono ?_); rintro e w' ⟨rfl, rfl⟩)))
  go_ret
  exact ⟨rfl, bl_alloc (below_refl _) _⟩
theorem r3_ValidJoints (A : Option Addr) (l : List Jt) (c : Nat) (w : World) (hl : l.length <= 100000) (hR : Rd Jt.cs 2 w A l) :
  Calls Tryz.prog 90 #[.slice A l.length c] w fun e w' => e = .returned (.bool (vJ l)) ∧ Below w.heap.size w w' := by
 go_enter Tryz.func90, Tryz.ntmps90
 go_wp2
 go_loopw [3] (fun i wr => ∃ k : Nat, k <= l.length ∧ i = .int .i64 k ∧ Below w.heap.size w wr ∧ Hid ((List.range k).all (okJ l) = true)) (fun i _ => l.length - (RowKit.intOf i).toNat)
 case atStart => exact ⟨0, by omega, rfl, below_refl _, Lib.hid rfl⟩
 case round =>
  obtain ⟨k, hk, rfl, hbw, HI⟩ := hrel
  have k0 := nn k
  by_cases hlt : k < l.length
  ·have k1 : (k : Int) < (l.length : Int) := by omega
   obtain ⟨x, b, off, hx, rfl, hb, c0, c1⟩ := rdJ (hR.on hbw) hlt
   have HX := Lib.hid (jAt_of hx)
   cases h1 : wn x.h 1 200000
   ·have HE := Lib.hid (vJ_no hlt (by unfold okJ; rw [HX.out, h1]; rfl))
    obtain ⟨XH, XS⟩ := x
    dsimp only at *
    clear hx
    go_wp2
    go_quiet ((go_at_call 136; with_reducible exact quiet_left (r3_withinV h1 _)))
    go_wp2
    go_ret
    exact ⟨ret_bool HE.out.symm, below_drewN hbw _⟩
   by_cases hk0 : 0 < k
   ·obtain ⟨y, b', off', hy, e', hb', d0, d1⟩ := rdJ (hR.on hbw) (show k - 1 < l.length by omega)
    cases e'
    have hw1 : IntKind.i64.wrap ((k : Int) - 1) = ((k - 1 : Nat) : Int) := by rw [fits_wrap ⟨by omega, by omega⟩]; omega
    have q0 : (0 : Int) <= ((k - 1 : Nat) : Int) := Int.natCast_nonneg _
    have q1 : ((k - 1 : Nat) : Int) < (l.length : Int) := by omega
    have HY := Lib.hid (jAt_of hy)
    by_cases h2 : x.h <= y.h
    ·have HE := Lib.hid (vJ_no hlt (by unfold okJ; rw [HX.out, HY.out, h1, decide_eq_false (show ¬ k = 0 by omega), decide_eq_false (show ¬ y.h < x.h by omega)]; rfl))
     obtain ⟨XH, XS⟩ := x
     dsimp only at *
     clear hx hy
     go_wp2
     go_quiet ((go_at_call 136; with_reducible exact quiet_left (r3_withinV h1 _)))
     go_wp2
     go_ret
     exact ⟨ret_bool HE.out.symm, below_drewN hbw _⟩
    ·have HO := Lib.hid (all_stepJ HI.out (show okJ l k = true by unfold okJ; rw [HX.out, HY.out, h1, decide_eq_true (show y.h < x.h by omega), Bool.or_true]; rfl))
     have n2 : decide (x.h <= y.h) = false := decide_eq_false h2
     obtain ⟨XH, XS⟩ := x
     dsimp only at *
     clear hx hy
     go_wp2
     go_quiet ((go_at_call 136; with_reducible exact quiet_left (r3_withinV h1 _)))
     go_wp2
     go_roundw
     case rel => exact ⟨k + 1, by omega, by go_num, below_drewN hbw _, HO⟩
     case measure => simp [RowKit.intOf]; omega
   ·have hk00 : k = 0 := by omega
    have n8 : decide (0 < k) = false := decide_eq_false hk0
    have HO := Lib.hid (all_stepJ HI.out (show okJ l k = true by unfold okJ; rw [HX.out, h1, decide_eq_true hk00]; rfl))
    obtain ⟨XH, XS⟩ := x
    dsimp only at *
    clear hx hk00
    go_wp2
    go_quiet ((go_at_call 136; with_reducible exact quiet_left (r3_withinV h1 _)))
    go_wp2
    go_roundw
    case rel => exact ⟨k + 1, by omega, by go_num, below_drewN hbw _, HO⟩
    case measure => simp [RowKit.intOf]; omega
  ·obtain rfl : k = l.length := by omega
   have HE := Lib.hid (vJ_yes HI.out)
   go_wp2
   go_ret
   exact ⟨ret_bool (by rw [HE.out]; simp; omega), hbw⟩
theorem r10_ValidSetup {T : Nat -> Prop} (x : LSu) (w : World) (hS : SuOk T w x) (hW : SuW x) : Calls Tryz.prog 46 #[.agg x.cs.toArray] w fun e w' => e = .returned (.bool (vSu x.val)) ∧ Below w.heap.size w w' := by
 have x0 := Blk.new w 97 x.cs.toArray
 have B0 := bl_alloc (below_refl w) (.cells x.cs.toArray 97)
 have lw := x0.lt
 obtain ⟨V0, hV0⟩ : ∃ V0, vSu x.val = V0 := ⟨_, rfl⟩
 have HAL := Lib.hid (su_all (x := x))
 have HNO := Lib.hid (fun k y z => @su_no x k y z)
 rw [hV0] at HAL HNO ⊢
 clear hV0
 obtain ⟨CA, hCA⟩ : ∃ CA, x.cs.toArray = CA := ⟨_, rfl⟩
 have HCC := Lib.hid (show ∀ (i : Nat) (v : Value), x.cs[i]? = some v -> (w.alloc (.cells x.cs.toArray 97)).cell? ⟨w.heap.size, i, none⟩ = some v from fun i v hv => by rw [x0.cell i]; simpa using hv)
 rw [hCA] at B0 lw HCC ⊢
 clear x0 hCA
 have HSU := Lib.hid (fun W (h : Below w.heap.size w W) => hS.on h)
 have HSW := Lib.hid hW
 obtain ⟨n, hn⟩ : ∃ n, x.stk.l.length = n := ⟨_, rfl⟩
 obtain ⟨m, hm⟩ : ∃ m, x.jnt.l.length = m := ⟨_, rfl⟩
 have hsl := hW.sl
 have hjl := hW.jl
 rw [hn] at hsl
 rw [hm] at hjl
 rw [hn, hm] at HAL
 have HNn := Lib.hid hn
 have HMm := Lib.hid hm
 clear hS hW
 go_enter Tryz.func46, Tryz.ntmps46
 go_upto_region 1 with fail
 generalize w.alloc (.cells CA 97) = W0 at *
 have c0 : W0.cell? ⟨w.heap.size, 0, none⟩ = some (.slice x.stk.a x.stk.l.length x.stk.c) := HCC.out 0 _ rfl
 have c1 : W0.cell? ⟨w.heap.size, 1, none⟩ = some (.slice x.jnt.a x.jnt.l.length x.jnt.c) := HCC.out 1 _ rfl
 rw [hn] at c0
 rw [hm] at c1
 clear hn hm
 have HC := Lib.hid (show ∀ W (h : Below W0.heap.size W0 W) (i : Nat) (v : Value), x.cs[i]? = some v -> W.cell? ⟨w.heap.size, i, none⟩ = some v from fun W h i v hv => ((bcell h).1 w.heap.size i lw).trans (HCC.out i v hv))
 clear HCC
 cases hwn : wn (n : Int) 1 8
 ·have HX : V0 = false := by rw [HAL.out, hwn]; rfl
  subst HX
  clear HAL
  go_wp2_with (go_at_call 88; ((with_reducible refine (r10_withinV hwn _).mono ?_); rintro e w' ⟨rfl, rfl⟩))
  go_ret
  exact ⟨rfl, B0⟩
 by_cases hmn : m = n
 rotate_left
 ·have HX : V0 = false := by rw [HAL.out, hwn, decide_eq_false hmn]; rfl
  subst HX
  have g2 : ((m : Int) == (n : Int)) = false := beq_eq_false_iff_ne.2 (by omega)
  clear HAL
  go_wp2_with (go_at_call 88; ((with_reducible refine (r10_withinV hwn _).mono ?_); rintro e w' ⟨rfl, rfl⟩))
  go_ret
  exact ⟨rfl, B0⟩
 subst hmn
 go_wp2_with (go_at_call 88; ((with_reducible refine (r10_withinV hwn _).mono ?_); rintro e w' ⟨rfl, rfl⟩))
 go_loopw [3] (fun i wr => ∃ k : Nat, k <= m ∧ i = .int .i64 k ∧ Below W0.heap.size W0 wr ∧ Hid ((x.stk.l.take k).all (fun y => S.validC y.l) = true ∧ (x.jnt.l.take k).all (fun y => vJ y.l) = true)) (fun i _ => m - (RowKit.intOf i).toNat)
 case atStart => exact ⟨0, Nat.zero_le _, rfl, below_refl _, Lib.hid ⟨rfl, rfl⟩⟩
 case round =>
  obtain ⟨k, hk, rfl, hbw, HI⟩ := hrel
  have k0 := nn k
  have BW := below_tr B0 hbw
  have e0 := ((bcell hbw).1 w.heap.size 0 lw).trans c0
  have e1 := ((bcell hbw).1 w.heap.size 1 lw).trans c1
  by_cases hlt : k < m
  ·have k1 : (k : Int) < (m : Int) := by omega
   obtain ⟨y, hy⟩ := get_lt (l := x.stk.l) (k := k) (by rw [HNn.out]; omega)
   obtain ⟨z, hz⟩ := get_lt (l := x.jnt.l) (k := k) (by rw [HMm.out]; omega)
   obtain ⟨b1, o1, ha1, lb1, _⟩ := (HSU.out wr BW).stk.rd.get hy
   obtain ⟨b2, o2, ha2, lb2, _⟩ := (HSU.out wr BW).jnt.rd.get hz
   have cy : wr.cell? ⟨b1, o1 + k, none⟩ = some (.slice y.a y.l.length y.c) := rd_slc (ha1 ▸ (HSU.out wr BW).stk.rd) hy
   have cz : wr.cell? ⟨b2, o2 + k, none⟩ = some (.slice z.a z.l.length z.c) := rd_slc (ha2 ▸ (HSU.out wr BW).jnt.rd) hz
   rw [ha1] at e0
   rw [ha2] at e1
   have HSV := Lib.hid (fun v (hv : S.validC y.l = v) W (h : Below w.heap.size w W) => (show Calls Tryz.prog 89 #[.slice y.a y.l.length y.c] W fun e w' => e = .returned (.bool v) ∧ Below W.heap.size W w' from hv ▸ S.r_valid y.a y.l y.c W (HSW.out.sc y (List.mem_of_getElem? hy)) ((HSU.out W h).stks y (List.mem_of_getElem? hy)).rd))
   have HJV := Lib.hid (fun v (hv : vJ z.l = v) W (h : Below w.heap.size w W) => (show Calls Tryz.prog 90 #[.slice z.a z.l.length z.c] W fun e w' => e = .returned (.bool v) ∧ Below W.heap.size W w' from hv ▸ r3_ValidJoints z.a z.l z.c W (HSW.out.jc z (List.mem_of_getElem? hz)) ((HSU.out W h).jnts z (List.mem_of_getElem? hz)).rd))
   have HY := Lib.hid hy
   have HZ := Lib.hid hz
   clear hy hz ha1 ha2 HAL
   cases hv1 : S.validC y.l
   ·have HX : V0 = false := HNO.out k y z HY.out HZ.out (.inl hv1)
    subst HX
    go_wp2_with (go_at_call 89; ((with_reducible refine (HSV.out _ hv1 _ BW).mono ?_); rintro e w2 ⟨rfl, hb2⟩))
    go_ret
    exact ⟨rfl, below_tr BW hb2⟩
   cases hv2 : vJ z.l
   ·have HX : V0 = false := HNO.out k y z HY.out HZ.out (.inr hv2)
    subst HX
    go_wp2_with (first | (go_at_call 89; ((with_reducible refine (HSV.out _ hv1 _ BW).mono ?_); rintro e w2 ⟨rfl, hb2⟩; have B2 := below_tr BW hb2; have f1 := ((bcell hb2).1 w.heap.size 1 (Nat.lt_of_lt_of_le lw hbw.size)).trans e1; have fz := cell_on cz hb2)) | (go_at_call 90; ((with_reducible refine (HJV.out _ hv2 _ B2).mono ?_); rintro e w3 ⟨rfl, hb3⟩)))
    go_ret
    exact ⟨rfl, below_tr B2 hb3⟩
   have HV1 := Lib.hid hv1
   have HV2 := Lib.hid hv2
   go_wp2_with (first | (go_at_call 89; ((with_reducible refine (HSV.out _ hv1 _ BW).mono ?_); rintro e w2 ⟨rfl, hb2⟩; have B2 := below_tr BW hb2; have f1 := ((bcell hb2).1 w.heap.size 1 (Nat.lt_of_lt_of_le lw hbw.size)).trans e1; have fz := cell_on cz hb2)) | (go_at_call 90; ((with_reducible refine (HJV.out _ hv2 _ B2).mono ?_); rintro e w3 ⟨rfl, hb3⟩)))
   go_roundw
   case rel => exact ⟨k + 1, by omega, by go_num, below_tr hbw (below_tr hb2 hb3), Lib.hid ⟨all_snoc HY.out HI.out.1 HV1.out, all_snoc HZ.out HI.out.2 HV2.out⟩⟩
   case measure => simp [RowKit.intOf]; omega
  ·obtain rfl : k = m := by omega
   have HAX := Lib.hid (show V0 = (vCl x.cl && (G.vldG x.gear.l && (V.vRu x.ru && (vRt x.rt && wn x.men 1 16)))) by
    have h1 := HI.out.1
    have h2 := HI.out.2
    rw [List.take_of_length_le (by rw [HNn.out]; omega)] at h1
    rw [List.take_of_length_le (by rw [HMm.out]; omega)] at h2
    rw [HAL.out, hwn, h1, h2]
    simp)
   have HGV := Lib.hid (fun v W (h : Below W0.heap.size W0 W) (hv : G.vldG x.gear.l = v) => (show Calls Tryz.prog 92 #[.slice x.gear.a x.gear.l.length x.gear.c] W fun e w' => e = .returned (.bool v) ∧ Below W.heap.size W w' from hv ▸ G.r_Valid x.gear.a x.gear.l x.gear.c W HSW.out.gl (HSU.out W (below_tr B0 h)).gear.rd HSW.out.gw))
   have HRU := Lib.hid (fun v W (hv : V.vRu x.ru = v) => (show Calls Tryz.prog 93 #[V.ruV x.ru] W fun e w' => e = .returned (.bool v) ∧ Below W.heap.size W w' from hv ▸ V.r_ValidRule x.ru W))
   have d2 := HC.out wr hbw 2 _ rfl
   have d3 := HC.out wr hbw 3 _ rfl
   have d4 := HC.out wr hbw 4 _ rfl
   have d5 := HC.out wr hbw 5 _ rfl
   have d6 := HC.out wr hbw 6 _ rfl
   have d7 := HC.out wr hbw 7 _ rfl
   clear HI HAL c0 c1 e1
   rcases (show vCl x.cl = false ∨ vCl x.cl = true ∧ G.vldG x.gear.l = false ∨ vCl x.cl = true ∧ G.vldG x.gear.l = true ∧ V.vRu x.ru = false ∨ vCl x.cl = true ∧ G.vldG x.gear.l = true ∧ V.vRu x.ru = true ∧ vRt x.rt = false ∨ vCl x.cl = true ∧ G.vldG x.gear.l = true ∧ V.vRu x.ru = true ∧ vRt x.rt = true from by
    cases vCl x.cl <;> cases G.vldG x.gear.l <;> cases V.vRu x.ru <;> cases vRt x.rt <;> decide) with hv0 | ⟨hv0, hv1⟩ | ⟨hv0, hv1, hv2⟩ | ⟨hv0, hv1, hv2, hv3⟩ | ⟨hv0, hv1, hv2, hv3⟩
   rotate_left 4
   ·cases hv4 : wn x.men 1 16
    all_goals
     have HX := HAX.out
     rw [hv0, hv1, hv2, hv3, hv4] at HX
     subst HX
     go_wp2_with (first
    | (go_at_call 91; ((with_reducible refine (r3_ValidClimbV hv0 _).mono ?_); rintro e w2 ⟨rfl, hb2⟩; have B2 := below_tr hbw hb2; have d8 := HC.out w2 B2 8 _ rfl))
    | (go_at_call 92; ((with_reducible refine (HGV.out _ _ B2 hv1).mono ?_); rintro e w3 ⟨rfl, hb3⟩; have B3 := below_tr B2 hb3; have d9 := HC.out w3 B3 9 _ rfl; have d10 := HC.out w3 B3 10 _ rfl; have d11 := HC.out w3 B3 11 _ rfl))
    | (go_at_call 93; ((with_reducible refine (HRU.out _ _ hv2).mono ?_); rintro e w4 ⟨rfl, hb4⟩; have B4 := below_tr B3 hb4; have d12 := HC.out w4 B4 12 _ rfl; have d13 := HC.out w4 B4 13 _ rfl; have d14 := HC.out w4 B4 14 _ rfl; have d15 := HC.out w4 B4 15 _ rfl))
    | (go_at_call 94; ((with_reducible refine (r9_ValidRateV hv3 _).mono ?_); rintro e w5 ⟨rfl, hb5⟩; have B5 := below_tr B4 hb5; have d16 := HC.out w5 B5 16 _ rfl))
    | (go_at_call 88; ((with_reducible refine (r10_withinV hv4 _).mono ?_); rintro e w' ⟨rfl, rfl⟩)))
     go_ret
     exact ⟨rfl, below_tr B0 B5⟩
   all_goals
    have HX : V0 = false := by rw [HAX.out]; simp [*]
    subst HX
    go_wp2_with (first
    | (go_at_call 91; ((with_reducible refine (r3_ValidClimbV hv0 _).mono ?_); rintro e w2 ⟨rfl, hb2⟩; have B2 := below_tr hbw hb2; have d8 := HC.out w2 B2 8 _ rfl))
    | (go_at_call 92; ((with_reducible refine (HGV.out _ _ B2 hv1).mono ?_); rintro e w3 ⟨rfl, hb3⟩; have B3 := below_tr B2 hb3; have d9 := HC.out w3 B3 9 _ rfl; have d10 := HC.out w3 B3 10 _ rfl; have d11 := HC.out w3 B3 11 _ rfl))
    | (go_at_call 93; ((with_reducible refine (HRU.out _ _ hv2).mono ?_); rintro e w4 ⟨rfl, hb4⟩; have B4 := below_tr B3 hb4; have d12 := HC.out w4 B4 12 _ rfl; have d13 := HC.out w4 B4 13 _ rfl; have d14 := HC.out w4 B4 14 _ rfl; have d15 := HC.out w4 B4 15 _ rfl))
    | (go_at_call 94; ((with_reducible refine (r9_ValidRateV hv3 _).mono ?_); rintro e w5 ⟨rfl, hb5⟩; have B5 := below_tr B4 hb5; have d16 := HC.out w5 B5 16 _ rfl))
    | (go_at_call 88; ((with_reducible refine (r10_withinV hv4 _).mono ?_); rintro e w' ⟨rfl, rfl⟩)))
    go_ret
    first | exact ⟨rfl, below_tr B0 B5⟩ | exact ⟨rfl, below_tr B0 B4⟩ | exact ⟨rfl, below_tr B0 B3⟩ | exact ⟨rfl, below_tr B0 B2⟩
theorem FirmAt.flt {b : Nat} {L : LS} {T : Nat -> Prop} {w : World} (h : FirmAt w b L T) : ∀ g, Foot b L g -> g < w.heap.size := by
 rintro g (rfl | hg)
 ·exact h.blk.lt
 ·exact (own_ge h.row g hg).2
def LgP (SM : Prop) (e : Ending) : Prop := ∃ r : Bool, e = .returned (.bool r) ∧ (r = false -> SM)
structure NwQ (x : LSu) (w : World) (b : Nat) (L : LS) (T : Nat -> Prop) (w' : World) : Prop where
 bel : Below w.heap.size w w'
 at_ : FirmAt w' b L T
 val : L.val = new x.val
 inv : Inv L.val
 tt : ∀ g, T g -> w.heap.size <= g ∧ g < w'.heap.size
 ft : ∀ g, Foot b L g -> w.heap.size <= g
theorem f_NewT {T : Nat -> Prop} (x : LSu) (w : World) (hS : SuOk T w x) (hW : SuW x) (hv : vSu x.val = true) : Calls Tryz.prog 8 #[.agg x.cs.toArray] w fun e w' => ∃ b L T, e = .returned (.tuple #[.pointer (some ⟨b, 0, none⟩), .int .i64 0]) ∧ Hid (NwQ x w b L T w') := by
 refine (f_New x w hS hW).mono ?_
 rintro e w' ⟨hb, hn⟩
 rw [hv] at hn
 obtain ⟨b, L, T, rfl, hF, hval, hT, hft⟩ := hn
 exact ⟨b, L, _, rfl, Lib.hid ⟨hb, hF.cut, hval, by rw [hval]; exact inv_new hv, fun g hg => ⟨hT g hg.1, hg.2⟩, hft⟩⟩
def lstU : Su := ⟨[[⟨1, 1, 0, 1, 0, 0⟩]], [[]], ⟨1, 1, 1, 1, 0, 1⟩, [], ⟨1, 1, 1⟩, ⟨0, 1, 0, 0⟩, 1⟩
theorem lst_ok : vSu lstU = true := by decide +kernel
theorem lst_day : (doC .day (new lstU)).1 = 0 ∧ (doC .day (new lstU)).2.day = 1 := by decide +kernel
theorem f_awake10 (w : World) (hL : LdW w) : Calls Tryz.prog 17 #[] w fun e w' => e = .returned (.bool true) ∧ Below w.heap.size w w' := by
 have b0 := ((Blk.new w 99 #[.int .i64 1, .int .i64 1, .int .i64 0, .int .i64 1, .int .i64 0, .int .i64 0]).alloc (.cells #[.slice (some ⟨w.heap.size, 0, none⟩) 1 1] 75)).alloc (.cells #[.slice none 0 0] 60)
 have b1 := (Blk.new (w.alloc (.cells #[.int .i64 1, .int .i64 1, .int .i64 0, .int .i64 1, .int .i64 0, .int .i64 0] 99)) 75 #[.slice (some ⟨w.heap.size, 0, none⟩) 1 1]).alloc (.cells #[.slice none 0 0] 60)
 have b2 := Blk.new ((w.alloc (.cells #[.int .i64 1, .int .i64 1, .int .i64 0, .int .i64 1, .int .i64 0, .int .i64 0] 99)).alloc (.cells #[.slice (some ⟨w.heap.size, 0, none⟩) 1 1] 75)) 60 #[.slice none 0 0]
 have B0 : Below w.heap.size w (((w.alloc (.cells #[.int .i64 1, .int .i64 1, .int .i64 0, .int .i64 1, .int .i64 0, .int .i64 0] 99)).alloc (.cells #[.slice (some ⟨w.heap.size, 0, none⟩) 1 1] 75)).alloc (.cells #[.slice none 0 0] 60)) := bl
 simp only [World.size_alloc] at b1 b2
 have HNW := Lib.hid (show Calls Tryz.prog 8 #[.agg #[.slice (some ⟨w.heap.size + 1, 0, none⟩) 1 1, .slice (some ⟨w.heap.size + 1 + 1, 0, none⟩) 1 1, .int .i64 1, .int .i64 1, .int .i64 1, .int .i64 1, .int .i64 0, .int .i64 1, .slice none 0 0, .int .i64 1, .int .i64 1, .int .i64 1, .int .i64 0, .int .i64 1, .int .i64 0, .int .i64 0, .int .i64 1]]
   (((w.alloc (.cells #[.int .i64 1, .int .i64 1, .int .i64 0, .int .i64 1, .int .i64 0, .int .i64 0] 99)).alloc (.cells #[.slice (some ⟨w.heap.size, 0, none⟩) 1 1] 75)).alloc (.cells #[.slice none 0 0] 60))
   fun e w' => ∃ b, e = .returned (.tuple #[.pointer (some ⟨b, 0, none⟩), .int .i64 0]) ∧ Hid (Below w.heap.size w w' ∧ ∃ L T, FirmAt w' b L T ∧ Inv L.val ∧ L.val = new lstU ∧ ∀ g, Foot b L g -> w.heap.size <= g) from by
  have hS : SuOk (fun _ => True) _ (⟨⟨some ⟨w.heap.size + 1, 0, none⟩, [⟨some ⟨w.heap.size, 0, none⟩, [⟨1, 1, 0, 1, 0, 0⟩], 1⟩], 1⟩, ⟨some ⟨w.heap.size + 1 + 1, 0, none⟩, [⟨none, [], 0⟩], 1⟩, ⟨1, 1, 1, 1, 0, 1⟩, ⟨none, [], 0⟩, ⟨1, 1, 1⟩, ⟨0, 1, 0, 0⟩, 1⟩ : LSu) :=
   ⟨own_blk (fun _ => rfl) b1 (by simp [maxLen]), fun y hy => by simp at hy; subst hy; exact own_blk (α := S.Course) (enc := S.Course.cs) (l := [⟨1, 1, 0, 1, 0, 0⟩]) (fun _ => rfl) b0 (by simp [maxLen]),
    own_blk (fun _ => rfl) b2 (by simp [maxLen]), fun y hy => by simp at hy; subst hy; exact got_nil _ _ _ _, got_nil _ _ _ _⟩
  refine (f_NewT _ _ hS ⟨by simp, by simp, by simp, by simp, (show (-9223372036854775808 : Int) <= 1 ∧ (1 : Int) <= 9223372036854775807 by decide), by simp, by simp⟩ lst_ok).mono ?_
  rintro e w' ⟨b, L, T, rfl, n⟩
  exact ⟨b, rfl, Lib.hid ⟨below_tr B0 n.out.bel, L, T, n.out.at_, n.out.inv, n.out.val, fun g hg => Nat.le_trans B0.size (n.out.ft g hg)⟩⟩)
 have HDY := Lib.hid (fun b W (h : Below w.heap.size w W ∧ ∃ L T, FirmAt W b L T ∧ Inv L.val ∧ L.val = new lstU ∧ ∀ g, Foot b L g -> w.heap.size <= g) => (show Calls Tryz.prog 27 #[.pointer (some ⟨b, 0, none⟩)] W fun e w' => e = .returned (.int .i64 0) ∧ Hid (Below w.heap.size w w' ∧ ∃ L T, FirmAt w' b L T ∧ L.day = 1) from by
  obtain ⟨hb, L, T, hF, hI, hv, hft⟩ := h
  refine (f_DayA hF hI (hL.on hb)).mono ?_
  rintro e w' ⟨rfl, L', T', hv', hf⟩
  rw [hv] at hv' ⊢
  exact ⟨by rw [lst_day.1], Lib.hid ⟨below_stp hb hf.stp (fun g hg e => by have := hft g e; omega) hb.size, L', T', hf.at_, by have := lst_day.2; rw [← hv'] at this; exact this⟩⟩))
 have HNO := Lib.hid (fun b W (h : Below w.heap.size w W ∧ ∃ L T, FirmAt W b L T ∧ L.day = 1) => (show Calls Tryz.prog 14 #[.pointer (some ⟨b, 0, none⟩)] W fun e w' => e = .returned (.int .i64 1) ∧ W = w' from by
  obtain ⟨_, L, T, hF, hd⟩ := h
  exact hd ▸ f_NowA hF))
 clear b0 b1 b2 B0 hL
 go_enter Tryz.func17, Tryz.ntmps17
 go_wp2_with (first
  | (go_at_call 8; ((with_reducible refine HNW.out.mono ?_); rintro e w2 ⟨b, rfl, n2⟩))
  | (go_at_call 27; ((with_reducible refine (HDY.out _ _ n2.out).mono ?_); rintro e w3 ⟨rfl, n3⟩))
  | (go_at_call 14; ((with_reducible refine (HNO.out _ _ n3.out).mono ?_); rintro e w' ⟨rfl, rfl⟩)))
 go_ret
 exact ⟨rfl, n3.out.1⟩
structure Hvy (x : LSu) : Prop where
 w : SuW x
 v : vSu x.val = true
 s : x.stk.l.length <= 8
theorem f_heavy10 {T : Nat -> Prop} (x : LSu) (w : World) (hS : SuOk T w x) (hle : I64 x.cl.le) (hgw : ∀ i ∈ x.gear.l, G.IW i) :
  Calls Tryz.prog 16 #[.agg x.cs.toArray] w fun e w' => LgP (Hvy x) e ∧ Below w.heap.size w w' := by
 have x0 := Blk.new w 32 x.cs.toArray
 have B0 := bl_alloc (below_refl w) (.cells x.cs.toArray 32)
 have c0 : (w.alloc (.cells x.cs.toArray 32)).cell? ⟨w.heap.size, 0, none⟩ = some (.slice x.stk.a x.stk.l.length x.stk.c) := x0.cell 0
 have c1 : (w.alloc (.cells x.cs.toArray 32)).cell? ⟨w.heap.size, 1, none⟩ = some (.slice x.jnt.a x.jnt.l.length x.jnt.c) := x0.cell 1
 have c8 : (w.alloc (.cells x.cs.toArray 32)).cell? ⟨w.heap.size, 8, none⟩ = some (.slice x.gear.a x.gear.l.length x.gear.c) := x0.cell 8
 have lb := x0.lt
 have hCs := su_cs x
 have hst := hS.stk.rd.on B0
 have hjn := hS.jnt.rd.on B0
 have HVS := Lib.hid (fun W (h : Below w.heap.size w W) (hW : SuW x) v (hv : vSu x.val = v) => (show Calls Tryz.prog 46 #[.agg x.cs.toArray] W fun e w' => e = .returned (.bool v) ∧ Below W.heap.size W w' from hv ▸ r10_ValidSetup x W (hS.on h) hW))
 have HSW := Lib.hid (fun (h1 : x.stk.l.length <= 8) (h2 : ∀ y ∈ x.stk.l, y.l.length <= 6) (h3 : x.jnt.l.length <= 8) (h4 : ∀ y ∈ x.jnt.l, y.l.length <= 10) (h5 : x.gear.l.length <= 64) => (show SuW x from ⟨by omega, fun y hy => by have := h2 y hy; omega, by omega, fun y hy => by have := h4 y hy; omega, hle, by omega, hgw⟩))
 have HHV := Lib.hid (fun h1 h2 h3 => Hvy.mk (x := x) h1 h2 h3)
 obtain ⟨V0, hV0⟩ : ∃ V0, vSu x.val = V0 := ⟨_, rfl⟩
 have HV0 := Lib.hid hV0
 clear hV0 hS hle hgw
 obtain ⟨CA, hCA⟩ : ∃ CA, CA = x.cs.toArray := ⟨_, rfl⟩
 rw [← hCA] at B0 c0 c1 c8 lb hst hjn hCs x0 HVS ⊢
 clear hCA
 generalize Hvy x = SM at *
 obtain ⟨⟨sa, sl, sc⟩, ⟨ja, jl, jc⟩, cl, ⟨ga, gl, gc⟩, ru, rt, mn⟩ := x
 dsimp only at *
 go_enter Tryz.func16, Tryz.ntmps16
 go_upto_region 1 with fail
 generalize w.alloc (.cells CA 32) = w1 at *
 rcases (by omega : (8 : Int) < (sl.length : Int) ∨ (¬ (8 : Int) < (sl.length : Int) ∧ (8 : Int) < (jl.length : Int)) ∨ (¬ (8 : Int) < (sl.length : Int) ∧ ¬ (8 : Int) < (jl.length : Int) ∧ (64 : Int) < (gl.length : Int)) ∨ (¬ (8 : Int) < (sl.length : Int) ∧ ¬ (8 : Int) < (jl.length : Int) ∧ ¬ (64 : Int) < (gl.length : Int))) with h1 | ⟨h1, h2⟩ | ⟨h1, h2, h3⟩ | ⟨h1, h2, h3⟩
 ·go_wp2
  go_ret
  exact ⟨⟨true, rfl, fun h => by cases h⟩, B0⟩
 ·go_wp2
  go_ret
  exact ⟨⟨true, rfl, fun h => by cases h⟩, B0⟩
 ·go_wp2
  go_ret
  exact ⟨⟨true, rfl, fun h => by cases h⟩, B0⟩
 go_wp2
 go_loop [3] (fun i => ∃ k : Nat, k <= sl.length ∧ i = .int .i64 k ∧ Hid (∀ y ∈ sl.take k, y.l.length <= 6)) (fun i => sl.length - (RowKit.intOf i).toNat)
 case atStart => exact ⟨0, by omega, rfl, Lib.hid (by simp)⟩
 case round =>
  obtain ⟨k, hk, rfl, HK⟩ := hrel
  have k0 := nn k
  by_cases hlt : k < sl.length
  ·have k1 : (k : Int) < (sl.length : Int) := by omega
   obtain ⟨y, hy⟩ := get_lt hlt
   obtain ⟨b, off, rfl, hb, hc⟩ := hst.get hy
   have d0 : w1.cell? ⟨b, off + k, none⟩ = some (.slice y.a y.l.length y.c) := by have := hc 0 _ rfl; simpa using this
   have HK2 := Lib.hid (fun (h : y.l.length <= 6) => (show ∀ z ∈ sl.take (k + 1), z.l.length <= 6 from fun z hz => by
    rw [List.take_add_one, hy] at hz
    rcases List.mem_append.1 hz with hz | hz
    ·exact HK.out z hz
    ·simp at hz; rw [hz]; exact h))
   clear hc hy HK
   by_cases g1 : (6 : Int) < (y.l.length : Int)
   ·go_wp2
    go_ret
    exact ⟨⟨true, rfl, fun h => by cases h⟩, B0⟩
   ·have HK3 := Lib.hid (HK2.out (by omega))
    go_wp2
    go_round
    case rel => exact ⟨k + 1, by omega, by go_num, HK3⟩
    case measure => simp [RowKit.intOf]; omega
  ·obtain rfl : k = sl.length := by omega
   have HS := Lib.hid (show ∀ y ∈ sl, y.l.length <= 6 by have := HK.out; rwa [List.take_length] at this)
   clear HK
   go_wp2
   go_loop [4] (fun i => ∃ k : Nat, k <= jl.length ∧ i = .int .i64 k ∧ Hid (∀ y ∈ jl.take k, y.l.length <= 10)) (fun i => jl.length - (RowKit.intOf i).toNat)
   case atStart => exact ⟨0, by omega, rfl, Lib.hid (by simp)⟩
   case round =>
    obtain ⟨k, hk, rfl, HK⟩ := hrel
    have k0 := nn k
    by_cases hlt : k < jl.length
    ·have k1 : (k : Int) < (jl.length : Int) := by omega
     obtain ⟨y, hy⟩ := get_lt hlt
     obtain ⟨b, off, rfl, hb, hc⟩ := hjn.get hy
     have d0 : w1.cell? ⟨b, off + k, none⟩ = some (.slice y.a y.l.length y.c) := by have := hc 0 _ rfl; simpa using this
     have HK2 := Lib.hid (fun (h : y.l.length <= 10) => (show ∀ z ∈ jl.take (k + 1), z.l.length <= 10 from fun z hz => by
      rw [List.take_add_one, hy] at hz
      rcases List.mem_append.1 hz with hz | hz
      ·exact HK.out z hz
      ·simp at hz; rw [hz]; exact h))
     clear hc hy HK
     by_cases g1 : (10 : Int) < (y.l.length : Int)
     ·go_wp2
      go_ret
      exact ⟨⟨true, rfl, fun h => by cases h⟩, B0⟩
     ·have HK3 := Lib.hid (HK2.out (by omega))
      go_wp2
      go_round
      case rel => exact ⟨k + 1, by omega, by go_num, HK3⟩
      case measure => simp [RowKit.intOf]; omega
    ·obtain rfl : k = jl.length := by omega
     have HJ := Lib.hid (show ∀ y ∈ jl, y.l.length <= 10 by have := HK.out; rwa [List.take_length] at this)
     have HW := Lib.hid (HSW.out (by omega) HS.out (by omega) HJ.out (by omega))
     have HV := Lib.hid (HVS.out w1 B0 HW.out V0 HV0.out)
     have HL := Lib.hid (show sl.length <= 8 by omega)
     clear HK HS HJ HSW HVS hst hjn
     cases V0
     all_goals
      go_wp2_with (first | (refine wpList_load_row rfl 32 _ rfl w.heap.size rfl 32 CA (0, 0) _ x0 Tryz.underlying32 rfl hCs ?_) | (go_at_call 46; go_loud ((with_reducible refine HV.out.mono ?_); rintro e w3 ⟨rfl, hb3⟩)))
      go_ret
      first | exact ⟨⟨true, rfl, fun h => by cases h⟩, below_tr B0 hb3⟩ | exact ⟨⟨false, rfl, fun _ => HHV.out HW.out HV0.out HL.out⟩, below_tr B0 hb3⟩
theorem getD_i64 {l : List Int} (h : ∀ x ∈ l, I64 x) (i : Nat) : I64 (l.getD i 0) := by
 rw [List.getD_eq_getElem?_getD]
 cases hx : l[i]? with
 | none => exact ⟨by decide, by decide⟩
 | some x => exact h x (List.mem_of_getElem? hx)
theorem sng_ok {w : List UInt8} {n : Int} {c : Cm} (hn : I64 n) (h : sngO w n = some c) : CmOk c := by
 unfold sngO at h
 repeat' split at h
 all_goals first | (cases h; done) | (cases h; exact hn)
theorem bts_le {s : List UInt8} (h : s.length <= 100000) : (bts s).size <= maxLen := by rw [bts_size]; unfold maxLen; omega
theorem cmd_ok {s : List UInt8} {c : Cm} (hs : s.length <= 100000) (h : cmdO s = some c) : CmOk c := by
 have hP : ∀ p ∈ cutZ 32 s, p.length <= 100000 := fun p hp => Nat.le_trans (cut_szZ 32 s p hp) hs
 have hN : (cutZ 32 s).length <= 100001 := by have := cutZ_len 32 s; omega
 unfold cmdO at h
 split at h
 ·cases h
 ·rename_i w r hc
  rw [hc] at hP hN
  have hr : ∀ p ∈ r, p.length <= 100000 := fun p hp => hP p (List.mem_cons_of_mem _ hp)
  have h0 : (r.getD 0 []).length <= 100000 := by
   cases r with
   | nil => simp
   | cons p q => exact hr p (List.mem_cons_self ..)
  rw [List.length_cons] at hN
  split at h
  ·cases h
  split at h
  ·split at h
   ·rename_i n l h1 h2
    cases h
    have e1 := (nms_some h1).2 n (List.mem_singleton_self n)
    have e2 := lks_some (fun p hp => hr p (List.mem_of_mem_drop hp)) h2
    refine ⟨e1, ?_, e2.2⟩
    rw [e2.1, List.length_drop]
    omega
   ·cases h
  split at h
  ·cases h
   exact bts_le h0
  split at h
  ·cases h
   exact bts_le h0
  split at h
  ·cases h
  ·rename_i n hn
   have e := nms_some hn
   split at h
   ·cases h
    refine ⟨getD_i64 e.2 0, ?_, fun x hx => e.2 x (List.mem_of_mem_drop hx)⟩
    rw [List.length_drop, e.1]
    omega
   split at h
   ·cases h
    exact trivial
   split at h
   ·exact sng_ok (getD_i64 e.2 0) h
   split at h
   ·cases h
    exact ⟨getD_i64 e.2 0, getD_i64 e.2 1⟩
   split at h
   ·cases h
    exact ⟨getD_i64 e.2 0, getD_i64 e.2 1⟩
   ·cases h
theorem lin_safe (br : St -> Int -> List UInt8) {x : St} {s : List UInt8} (hs : s.length <= 100000) (hI : Inv x) (hS : Safe x) : Inv (linR br x s).2 ∧ Safe (linR br x s).2 := by
 unfold linR
 split
 ·exact ⟨hI, hS⟩
 split
 ·exact ⟨hI, hS⟩
 split
 ·exact ⟨hI, hS⟩
 ·rename_i c hc
  exact ⟨inv_doC hI (cmd_ok hs hc), safe_doC hI hS⟩
theorem lins_safe (br : St -> Int -> List UInt8) : ∀ (P : List (List UInt8)) (x : St), (∀ p ∈ P, p.length <= 100000) -> Inv x -> Safe x -> Safe (linsR br x P).2
 | [], _, _, _, hS => hS
 | p :: P, x, hP, hI, hS => by
  have h := lin_safe br (hP p (List.mem_cons_self ..)) hI hS
  exact lins_safe br P _ (fun q hq => hP q (List.mem_cons_of_mem _ hq)) h.1 h.2
theorem doR_safe (br : St -> Int -> List UInt8) {x : St} {s : List UInt8} (hs : s.length <= 100000) (hI : Inv x) (hS : Safe x) : Safe (doR br x s).2 := by
 unfold doR
 split
 ·exact hS
 ·exact lins_safe br _ _ (fun p hp => Nat.le_trans (cut_szZ 10 s p hp) hs) hI hS
theorem linR_x (br : St -> Int -> List UInt8) {x : St} {s : List UInt8} : (linR br x s).2.x = x.x := by
 unfold linR
 split
 ·rfl
 split
 ·rfl
 split
 ·rfl
 ·exact doC_x
theorem linsR_x (br : St -> Int -> List UInt8) : ∀ (P : List (List UInt8)) (x : St), (linsR br x P).2.x = x.x
 | [], _ => rfl
 | p :: P, x => by
  show (linsR br (linR br x p).2 P).2.x = x.x
  rw [linsR_x br P, linR_x]
theorem doR_x (br : St -> Int -> List UInt8) {x : St} {s : List UInt8} : (doR br x s).2.x = x.x := by
 unfold doR
 split
 ·rfl
 ·exact linsR_x br _ _
end Go.Proofs.YtgemlddincnfcaaGreatDoor.Fi
