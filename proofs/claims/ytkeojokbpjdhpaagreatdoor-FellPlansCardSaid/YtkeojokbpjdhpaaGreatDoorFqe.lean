/- Fell: plans by the reference: the search deed by deed. -/
import Derived.Test.YtkeojokbpjdhpaaGreatDoorFqa
import Derived.Test.YtkeojokbpjdhpaaGreatDoorFwd
import Derived.Test.YtkeojokbpjdhpaaGreatDoorFgv
import Derived.Test.YtkeojokbpjdhpaaGreatDoorFgd
import Derived.Test.YtkeojokbpjdhpaaGreatDoorFaw
import Derived.Test.YtkeojokbpjdhpaaGreatDoorFdec
import Derived.Maps.AppendAt
import Derived.Laws.OwnMore
import Derived.Deep.DeepCutAuto
set_option linter.unusedSimpArgs false
set_option linter.unusedVariables false
namespace Go.Proofs.YtkeojokbpjdhpaaGreatDoor
open Go.RowKit Go.Shelf

section
variable {P : Program}
/-- append of what a slice holds, nil or not, onto a row of one's own -/
theorem step_append_b {ops : Array Oper} {o : Oper} {a : Act} {w : World} {K : Act → World → Prop} {Q : Exit → Act → World → Prop} {E : Prop} (hgd : o.guard = none) (s x : Operand) (t : TypeId)
    (ho : o.op = .call { callee := .builtin .append, args := #[s, x], argTypes := #[t, t] })
    (base : Nat) (e : TypeId) (i : TypeInfo) (z : Value) (size bytes : Nat) (ht : P.underlying t = some (.slice e)) (hi : P.info? e = some i) (hz : i.zero = some z)
    (hsize : i.size = size) (hby : i.bytes = bytes) (hzs : z.cells.size = size) (hsz : 0 < size)
    (v : Value) (n : Nat) (xs : List Value) (hs : a.eval s = v) (hown : w.ownsRow base e size v n xs)
    (B : Option Addr) (m c : Nat) (news : List Value) (hx : a.eval x = .slice B m c) (hB : B = none → m = 0 ∧ c = 0) (hl : news.length = m * size) (hnews : ∀ ad, B = some ad → ∀ j u, news[j]? = some u → w.cell? (ad.add j) = some u) (h1 : ∀ u ∈ news, u.oneCell' = true)
    (h63 : n + m ≤ maxLen) (hbytes : (n + m) * bytes ≤ 140737488355328) (hbase : base ≤ w.heap.size)
    (h : ∀ v' w', w'.ownsRow base e size v' (n + m) (xs ++ news) → Below base w w' → (∀ g t cur, Blk w g t cur → some g ≠ v.ownBlock → Blk w' g t cur) → K (a.put o.dst v') w') :
    if Region.wanted o (yielded ops a.tmps) = true then Oper.wp P o a w K Q else E := by
  have hw : Region.wanted o (yielded ops a.tmps) = true := by simp [Region.wanted, hgd]
  rw [if_pos hw]
  cases B with
  | none =>
    obtain ⟨rfl, rfl⟩ := hB rfl
    have hn0 : news = [] := List.length_eq_zero_iff.1 (by rw [hl, Nat.zero_mul])
    subst hn0
    have hr := Go.run_append_owned_none (P := P) (w := w) base t o.type e i size ht hi v n xs hown
    unfold Oper.wp execOp
    simp only [ho, resolve, invoke, builtin, Sem.run_bind, Sem.run_pure, Result.andThen_ok, List.map_toArray, List.map_cons, List.map_nil, hs, hx, hr]
    exact h v w (by simpa using hown) ((below_refl w).mono hbase) (fun _ _ _ q _ => q)
  | some ad =>
    obtain ⟨v', w', hr, h2, h3, _, _⟩ := Go.run_append_own_at (P := P) w base t o.type e i z size bytes ht hi hz hsize hby hzs hsz v n xs hown ad m c news hl (hnews ad rfl) h1 h63 hbytes hbase
    unfold Oper.wp execOp
    simp only [ho, resolve, invoke, builtin, Sem.run_bind, Sem.run_pure, Result.andThen_ok, List.map_toArray, List.map_cons, List.map_nil, hs, hx, hr]
    exact h v' w' h2 (bl_grown ((below_refl w).mono hbase) h3 (fun r hr => (own_ge hown r hr).1) hbase) (fun _ _ _ q hn => q.grown h3 hn)
end
theorem own0 {w : World} {g base : Nat} {t : TypeId} {sz : Nat} (h : Blk w g t #[]) (hb : base ≤ g) : w.ownsRow base t sz (.slice (some ⟨g, 0, none⟩) 0 0) 0 [] :=
  ⟨by simp, .inr ⟨g, 0, #[], rfl, hb, h, Nat.le_refl _, by simp [maxLen], by simp, by simp⟩⟩
theorem news_blk {w : World} {g : Nat} {t : TypeId} {cs : Array Value} (h : Blk w g t cs) : ∀ ad, (some ⟨g, 0, none⟩ : Option Addr) = some ad → ∀ j u, cs.toList[j]? = some u → w.cell? (ad.add j) = some u := fun ad had j u hu => by
  cases had
  exact World.news_of_block h j u hu

theorem rd_snoc {w : World} {base n c : Nat} {a : Option Addr} {ds : List Int} {x : Int} (h : w.ownsRow base 3 1 (.slice a n c) n ([] ++ fl zC ds ++ [Value.int .i64 x])) (hn : n = (ds ++ [x]).length) : Rd zC 1 w a (ds ++ [x]) ∧ (a = none → n = 0 ∧ c = 0) := by
  have hfl : [] ++ fl zC ds ++ [Value.int .i64 x] = fl zC (ds ++ [x]) := by simp [fl, zC]
  rw [hfl] at h
  refine ⟨?_, fun e => ?_⟩
  · subst hn; exact own_rd' zC_len h
  · subst e
    rcases h.2 with ⟨e, _⟩ | ⟨_, _, _, e, _⟩
    · injection e with _ e1 e2; exact ⟨e1, e2⟩
    · injection e with e1; cases e1
theorem rd_news {w : World} {ad : Addr} {ds : List Int} (h : Rd zC 1 w (some ad) ds) : ∀ j u, (fl zC ds)[j]? = some u → w.cell? (ad.add j) = some u := by
  by_cases hne : ds = []
  · subst hne; intro j u hu; simp [fl] at hu
  · obtain ⟨b, off, e, _⟩ := h hne
    cases e
    exact rd_fl zC_len h
theorem blkA1 (w : World) (o : Obj) (t : TypeId) (cs : Array Value) : Blk ((w.alloc o).alloc (.cells cs t)).drew (w.heap.size + 1) t cs := by
  have z := Blk.new (w.alloc o) t cs
  rw [World.size_alloc] at z
  exact z.drew
theorem blkA0 (w : World) (o : Obj) (t : TypeId) (cs : Array Value) : Blk ((w.alloc (.cells cs t)).alloc o).drew w.heap.size t cs := ((Blk.new w t cs).alloc o).drew
theorem tw_ask {l : List Pr} {s t : Sp} {M : List Bool} (hv : vP l = true) (hs : isS s = true) (ht : isS t = true) (hM : M.length = l.length) : askE (lfK l M l.length) [s, t] = 0 := by
  have h1 : lfK l M l.length = RL l M := by unfold lfK RL mM; rw [hM]
  have h2 := vP_sub (RL_sub hM) hv
  unfold askE
  rw [h1, if_pos h2]
  simp [hs, ht]
theorem tw_fall {l : List Pr} {s t : Sp} {M : List Bool} (hv : vP l = true) (hs : isS s = true) (ht : isS t = true) (hM : M.length = l.length) : (decide (twE (lfK l M l.length) s t = 0) && twD (lfK l M l.length) s t) = fallM l s t M := by
  have h0 := tw_ask hv hs ht hM
  have h3 : spL (lfK l M l.length) = lfS l M := lfK_spots hM
  have h4 : (lfK l M l.length).length = (lfS l M).length := by rw [← h3, spL_len]
  unfold twD twE fallM
  rw [if_pos h0]
  unfold flE
  rw [h3, h4]
  cases heldB (lfS l M) s
  · by_cases h : (lfS l M).length = 0
    · rw [if_neg (by simp), if_pos h, h]; simp
    · rw [if_neg (by simp), if_neg h, if_pos rfl, decide_eq_true (by omega : 0 < (lfS l M).length)]; simp
  · rw [if_pos rfl]; simp

/-- the result of the search -/
def PlaP (o : Option (List Int)) (w : World) (e : Ending) (w' : World) : Prop := ∃ v b, e = .returned (.tuple #[v, .bool b]) ∧ Below w.heap.size w w' ∧
  match o with
  | none => b = false
  | some d => b = true ∧ ∃ A c, v = .slice A d.length c ∧ Rd zC 1 w' A d
theorem plaP_no {w w' : World} {v : Value} (h : Below w.heap.size w w') : PlaP none w (.returned (.tuple #[v, .bool false])) w' := ⟨v, false, rfl, h, rfl⟩

set_option maxHeartbeats 8000000 in
set_option maxRecDepth 20000 in
theorem r_planned (A : Option Addr) (l : List Pr) (c : Nat) (s t : Sp) (hv : vP l = true) (hs : isS s = true) (ht : isS t = true) : ∀ (more : Nat) (B : Option Addr) (n d : Nat) (ds : List Int) (M : List Bool) (w : World), n = ds.length → (B = none → n = 0 ∧ d = 0) → more + ds.length ≤ 100 → thM (List.replicate l.length true) ds = some M → (∀ x ∈ ds, 0 ≤ x ∧ x < 2 * (l.length : Int)) → Rd Pr.cs 3 w A l → Rd zC 1 w B ds →
    Calls Tryz.prog 25 #[.slice A l.length c, spV s, spV t, .slice B n d, .int .i64 more] w (PlaP (plF l s t more ds M) w) := by
  intro more
  induction more with
  | zero =>
    intro B n d ds M w hn hB0 hm hth hls hR hB
    subst hn
    have hl := vP_len hv
    have hml := thM_len' hth
    obtain ⟨W1, hW1⟩ : ∃ W1, W1 = (w.alloc (.cells (spA s) 24)).alloc (.cells (spA t) 24) := ⟨_, rfl⟩
    have x0 : Blk W1 w.heap.size 24 (spA s) := by rw [hW1]; exact (Blk.new w 24 (spA s)).alloc (.cells (spA t) 24)
    have y0 : Blk W1 (w.heap.size + 1) 24 (spA t) := by
      have := Blk.new (w.alloc (.cells (spA s) 24)) 24 (spA t)
      rw [World.size_alloc] at this
      rw [hW1]; exact this
    have B0 : Below w.heap.size w W1 := by rw [hW1]; exact bl_alloc (bl_alloc (below_refl w) (.cells (spA s) 24)) (.cells (spA t) 24)
    have HT := Lib.hid (r_there A B l.length c d ds W1 (by omega) (by omega) hls (hB.on B0))
    rw [hth] at HT
    unfold TheP at HT
    dsimp only at HT
    have hok := lfS_ok hv hml
    have hsp := lfK_spots (l := l) hml
    have HLF := Lib.hid (fun (W : World) (g : Nat) (hb : Below w.heap.size w W) (hg : Blk W g 4 (bA M)) => r_left A l M c g W (by omega) hml (hR.on hb) hg)
    have HSP := Lib.hid (fun (W : World) (A : Option Addr) (c : Nat) (hR : Rd Pr.cs 3 W A (lfK l M l.length)) => r_spots A (lfK l M l.length) c W (by have := lfK_len l M l.length; omega) hR)
    rw [hsp] at HSP
    have HH := Lib.hid (fun (W : World) (A : Option Addr) (c : Nat) (hR : Rd Sp.cs 2 W A (lfS l M)) => r_held A (lfS l M) c s W (by have := hok.1; omega) hok.2.1 (isS_bd hs) hR)
    have HTW := Lib.hid (fun (W : World) (A : Option Addr) (c : Nat) (hR : Rd Pr.cs 3 W A (lfK l M l.length)) => r_Towards A (lfK l M l.length) c s t W (by have := lfK_len l M l.length; omega) hR)
    have HFM := Lib.hid (tw_fall hv hs ht hml)
    have HPL : plF l s t 0 ds M = if fallM l s t M = true then some ds else none := rfl
    rw [HPL, ← HFM.out]
    have HLN := Lib.hid (lfK_len l M l.length)
    clear hth hls hok hsp hml HFM HPL
    generalize lfK l M l.length = R at *
    generalize lfS l M = S at *
    generalize heldB S s = V at *
    have p0 := x0.cell 0
    have p1 := x0.cell 1
    have r0 := y0.cell 0
    have r1 := y0.cell 1
    simp only [List.getElem?_toArray, List.getElem?_cons_zero, List.getElem?_cons_succ] at p0 p1 r0 r1
    by_cases hE : twE R s t = 0
    · rw [hE] at HTW
      have hE2 : decide (twE R s t = 0) = true := decide_eq_true hE
      rw [hE2, Bool.true_and]
      clear hE hE2
      generalize twD R s t = D at *
      obtain ⟨O, hO⟩ : ∃ O, O = (if D = true then some ds else none) := ⟨_, rfl⟩
      rw [← hO]
      have HOO := Lib.hid hO
      clear hO
      go_enter Tryz.func25, Tryz.ntmps25
      go_wp2_with fail
      rw [show ((w.alloc (.cells #[.int .i64 s.x, .int .i64 s.y] 24)).alloc (.cells #[.int .i64 t.x, .int .i64 t.y] 24)) = W1 from hW1.symm]
      clear hW1
      refine HT.out.mono ?_
      rintro e w1 ⟨g, rfl, hg, hgw, hb1⟩
      have BX := below_tr B0 hb1
      have x1 := x0.below hb1 x0.lt
      have y1 := y0.below hb1 y0.lt
      clear x0 y0 B0 hb1 hgw HT p0 p1 r0 r1
      go_wp2_with fail
      refine (HLF.out _ g BX hg).mono ?_
      rintro e w2 ⟨v2, rfl, ho2, hb2⟩
      obtain ⟨A2, c2, rfl, hR2⟩ := own_rd Pr.cs_len ho2
      have BY := below_tr BX hb2
      have x2 := x1.below hb2 x1.lt
      have y2 := y1.below hb2 y1.lt
      have p0 := x2.cell 0
      have p1 := x2.cell 1
      have r0 := y2.cell 0
      have r1 := y2.cell 1
      simp only [List.getElem?_toArray, List.getElem?_cons_zero, List.getElem?_cons_succ] at p0 p1 r0 r1
      have lx := x2.lt
      have ly := y2.lt
      have HSP2 := Lib.hid (fun (W : World) (hb : Below w2.heap.size w2 W) => HSP.out W A2 c2 (hR2.on hb))
      clear x1 y1 BX hb2 ho2 HLF hg HSP
      go_wp2_with fail
      refine wp_region_noPanic ?_
      refine wp_region_held_drew (S := (fun w' => (∀ b o, b < w2.heap.size → w'.cell? ⟨b, o, none⟩ = w2.cell? ⟨b, o, none⟩) ∧ (∀ b o, b < w2.heap.size → w'.frozen? ⟨b, o, none⟩ = w2.frozen? ⟨b, o, none⟩) ∧ Below w2.heap.size w2 w')) (by kernel_rfl) (kq_draw kq_refl) (fun hS0 => ?_)
      refine wpAnyH_take (i := 0) (oi := { dst := some 30, op := _, type := _, pos := _, after := _, guard := none }) (v := ?gv1) rfl (by kernel_rfl) (by kernel_rfl) (by kernel_rfl) (fun _ _ _ h => h) (Or.inl ⟨by rfl, ?gy1⟩) (by assumption) ?_
      case gy1 => (intro w' hSw; go_simp; try with_reducible rfl)
      try simp only [Act.put, List.setIfInBounds_toArray, List.set_cons_zero, List.set_cons_succ]
      refine wpAnyH_take (i := 2) (oi := { dst := some 32, op := _, type := _, pos := _, after := _, guard := none }) (v := ?gv2) rfl (by kernel_rfl) (by kernel_rfl) (by kernel_rfl) (fun _ _ _ h => h) (Or.inl ⟨by rfl, ?gy2⟩) (by assumption) ?_
      case gy2 => (intro w' hSw; go_simp; try with_reducible rfl)
      try simp only [Act.put, List.setIfInBounds_toArray, List.set_cons_zero, List.set_cons_succ]
      refine wpAnyH_ready (rs := [1]) (by kernel_rfl) (by simp) ?_
      refine AllReadyH.cons rfl (fun K hK => ?_) AllReadyH.nil
      go_simp
      (go_at_call 24; ((with_reducible refine (HSP2.out _ (by (repeat' (first | assumption | exact below_refl _ | refine bl_alloc ?_ _ | refine Below.setCell ?_ ?_ _ | refine below_draw ?_ | refine below_drewN ?_ _ | refine below_tr ?_ (by assumption))) <;> (first | omega | (simp; done) | (simp; omega)))).mono ?_); rintro e w3 ⟨v3, rfl, ho3, hb3⟩; obtain ⟨A3, c3, rfl, hR3⟩ := own_rd Sp.cs_len ho3; obtain ⟨hc3, hf3⟩ := bcell hb3; have hz3 := hb3.size; (try simp [sz_drew, sz_drewN] at hz3); (try simp only [sz_drew, sz_drewN] at hc3 hf3)))
      refine hK.out _ _ (by ((show Kq w2 _); (repeat' (first | assumption | exact kq_refl | refine kq_draw ?_ | refine kq_drewN ?_ | refine kq_alloc ?_ | refine kq_set ?_ ?_ | refine kq_step ?_ (by assumption))); (all_goals (first | omega | (simp; omega))))) (fun hS1 => ?_)
      clear hK K
      try simp only [Act.put, List.setIfInBounds_toArray, List.set_cons_zero, List.set_cons_succ]
      refine wpAnyH_ready (rs := [3]) (by kernel_rfl) (by simp) ?_
      refine AllReadyH.cons rfl (fun K hK => ?_) AllReadyH.nil
      go_simp
      (go_at_call 23; ((with_reducible refine (HH.out _ _ _ hR3).mono ?_); rintro e w4 ⟨rfl, hb4⟩; obtain ⟨hc4, hf4⟩ := bcell hb4; have hz4 := hb4.size; (try simp [sz_drew, sz_drewN] at hz4); (try simp only [sz_drew, sz_drewN] at hc4 hf4)))
      refine hK.out _ _ (by ((show Kq w2 _); (repeat' (first | assumption | exact kq_refl | refine kq_draw ?_ | refine kq_drewN ?_ | refine kq_alloc ?_ | refine kq_set ?_ ?_ | refine kq_step ?_ (by assumption))); (all_goals (first | omega | (simp; omega))))) (fun hS2 => ?_)
      clear hK K
      try simp only [Act.put, List.setIfInBounds_toArray, List.set_cons_zero, List.set_cons_succ]
      refine wpAnyH_take (i := 4) (oi := { dst := some 15, op := _, type := _, pos := _, after := _, guard := none }) (v := ?gv3) rfl (by kernel_rfl) (by kernel_rfl) (by kernel_rfl) (fun _ _ _ h => h) (Or.inl ⟨by rfl, ?gy3⟩) (by assumption) ?_
      case gy3 => (intro w' hSw; go_simp; try with_reducible rfl)
      try simp only [Act.put, List.setIfInBounds_toArray, List.set_cons_zero, List.set_cons_succ]
      refine wpAnyH_done (by kernel_rfl) (NoPanic.normal ?_) _
      have B24 : Below w2.heap.size w2 w4 := by (repeat' (first | assumption | exact below_refl _ | refine bl_alloc ?_ _ | refine Below.setCell ?_ ?_ _ | refine below_draw ?_ | refine below_drewN ?_ _ | refine below_tr ?_ (by assumption))) <;> (first | omega | (simp; done) | (simp; omega))
      have BZ := below_tr BY B24
      have x4 := x2.below B24 x2.lt
      have y4 := y2.below B24 y2.lt
      have HTW2 := Lib.hid (HTW.out w4 A2 c2 (hR2.on B24))
      clear hb3 hb4 hc3 hf3 hc4 hf4 hz3 hz4 ho3 hR3 x2 y2 B24 p0 p1 r0 r1 lx ly HSP2 HH HTW hS0 hS1 hS2 hR2 BY
      have p0 := x4.cell 0
      have p1 := x4.cell 1
      have r0 := y4.cell 0
      have r1 := y4.cell 1
      simp only [List.getElem?_toArray, List.getElem?_cons_zero, List.getElem?_cons_succ] at p0 p1 r0 r1
      have lx := x4.lt
      have ly := y4.lt
      go_wp2_with fail
      refine HTW2.out.mono ?_
      rintro e w5 ⟨rfl, hb5⟩
      have BW := below_tr BZ hb5
      have hB5 := hB.on BW
      go_wp2
      go_ret2
      rw [HOO.out]
      cases D
      · rw [if_neg (by simp)]; exact plaP_no BW
      · rw [if_pos rfl]; exact ⟨_, _, rfl, BW, rfl, B, d, rfl, hB5⟩
    · have hE2 : decide (twE R s t = 0) = false := decide_eq_false hE
      rw [hE2, Bool.false_and, if_neg (by simp)]
      clear hE2
      generalize twE R s t = EE at *
      generalize twD R s t = D at *
      have hEB : (EE == 0) = false := by simpa using hE
      go_enter Tryz.func25, Tryz.ntmps25
      go_wp2_with fail
      rw [show ((w.alloc (.cells #[.int .i64 s.x, .int .i64 s.y] 24)).alloc (.cells #[.int .i64 t.x, .int .i64 t.y] 24)) = W1 from hW1.symm]
      clear hW1
      refine HT.out.mono ?_
      rintro e w1 ⟨g, rfl, hg, hgw, hb1⟩
      have BX := below_tr B0 hb1
      have x1 := x0.below hb1 x0.lt
      have y1 := y0.below hb1 y0.lt
      clear x0 y0 B0 hb1 hgw HT p0 p1 r0 r1
      go_wp2_with fail
      refine (HLF.out _ g BX hg).mono ?_
      rintro e w2 ⟨v2, rfl, ho2, hb2⟩
      obtain ⟨A2, c2, rfl, hR2⟩ := own_rd Pr.cs_len ho2
      have BY := below_tr BX hb2
      have x2 := x1.below hb2 x1.lt
      have y2 := y1.below hb2 y1.lt
      have p0 := x2.cell 0
      have p1 := x2.cell 1
      have r0 := y2.cell 0
      have r1 := y2.cell 1
      simp only [List.getElem?_toArray, List.getElem?_cons_zero, List.getElem?_cons_succ] at p0 p1 r0 r1
      have lx := x2.lt
      have ly := y2.lt
      have HSP2 := Lib.hid (fun (W : World) (hb : Below w2.heap.size w2 W) => HSP.out W A2 c2 (hR2.on hb))
      clear x1 y1 BX hb2 ho2 HLF hg HSP
      go_wp2_with fail
      refine wp_region_noPanic ?_
      refine wp_region_held_drew (S := (fun w' => (∀ b o, b < w2.heap.size → w'.cell? ⟨b, o, none⟩ = w2.cell? ⟨b, o, none⟩) ∧ (∀ b o, b < w2.heap.size → w'.frozen? ⟨b, o, none⟩ = w2.frozen? ⟨b, o, none⟩) ∧ Below w2.heap.size w2 w')) (by kernel_rfl) (kq_draw kq_refl) (fun hS0 => ?_)
      refine wpAnyH_take (i := 0) (oi := { dst := some 30, op := _, type := _, pos := _, after := _, guard := none }) (v := ?gv4) rfl (by kernel_rfl) (by kernel_rfl) (by kernel_rfl) (fun _ _ _ h => h) (Or.inl ⟨by rfl, ?gy4⟩) (by assumption) ?_
      case gy4 => (intro w' hSw; go_simp; try with_reducible rfl)
      try simp only [Act.put, List.setIfInBounds_toArray, List.set_cons_zero, List.set_cons_succ]
      refine wpAnyH_take (i := 2) (oi := { dst := some 32, op := _, type := _, pos := _, after := _, guard := none }) (v := ?gv5) rfl (by kernel_rfl) (by kernel_rfl) (by kernel_rfl) (fun _ _ _ h => h) (Or.inl ⟨by rfl, ?gy5⟩) (by assumption) ?_
      case gy5 => (intro w' hSw; go_simp; try with_reducible rfl)
      try simp only [Act.put, List.setIfInBounds_toArray, List.set_cons_zero, List.set_cons_succ]
      refine wpAnyH_ready (rs := [1]) (by kernel_rfl) (by simp) ?_
      refine AllReadyH.cons rfl (fun K hK => ?_) AllReadyH.nil
      go_simp
      (go_at_call 24; ((with_reducible refine (HSP2.out _ (by (repeat' (first | assumption | exact below_refl _ | refine bl_alloc ?_ _ | refine Below.setCell ?_ ?_ _ | refine below_draw ?_ | refine below_drewN ?_ _ | refine below_tr ?_ (by assumption))) <;> (first | omega | (simp; done) | (simp; omega)))).mono ?_); rintro e w3 ⟨v3, rfl, ho3, hb3⟩; obtain ⟨A3, c3, rfl, hR3⟩ := own_rd Sp.cs_len ho3; obtain ⟨hc3, hf3⟩ := bcell hb3; have hz3 := hb3.size; (try simp [sz_drew, sz_drewN] at hz3); (try simp only [sz_drew, sz_drewN] at hc3 hf3)))
      refine hK.out _ _ (by ((show Kq w2 _); (repeat' (first | assumption | exact kq_refl | refine kq_draw ?_ | refine kq_drewN ?_ | refine kq_alloc ?_ | refine kq_set ?_ ?_ | refine kq_step ?_ (by assumption))); (all_goals (first | omega | (simp; omega))))) (fun hS1 => ?_)
      clear hK K
      try simp only [Act.put, List.setIfInBounds_toArray, List.set_cons_zero, List.set_cons_succ]
      refine wpAnyH_ready (rs := [3]) (by kernel_rfl) (by simp) ?_
      refine AllReadyH.cons rfl (fun K hK => ?_) AllReadyH.nil
      go_simp
      (go_at_call 23; ((with_reducible refine (HH.out _ _ _ hR3).mono ?_); rintro e w4 ⟨rfl, hb4⟩; obtain ⟨hc4, hf4⟩ := bcell hb4; have hz4 := hb4.size; (try simp [sz_drew, sz_drewN] at hz4); (try simp only [sz_drew, sz_drewN] at hc4 hf4)))
      refine hK.out _ _ (by ((show Kq w2 _); (repeat' (first | assumption | exact kq_refl | refine kq_draw ?_ | refine kq_drewN ?_ | refine kq_alloc ?_ | refine kq_set ?_ ?_ | refine kq_step ?_ (by assumption))); (all_goals (first | omega | (simp; omega))))) (fun hS2 => ?_)
      clear hK K
      try simp only [Act.put, List.setIfInBounds_toArray, List.set_cons_zero, List.set_cons_succ]
      refine wpAnyH_take (i := 4) (oi := { dst := some 15, op := _, type := _, pos := _, after := _, guard := none }) (v := ?gv6) rfl (by kernel_rfl) (by kernel_rfl) (by kernel_rfl) (fun _ _ _ h => h) (Or.inl ⟨by rfl, ?gy6⟩) (by assumption) ?_
      case gy6 => (intro w' hSw; go_simp; try with_reducible rfl)
      try simp only [Act.put, List.setIfInBounds_toArray, List.set_cons_zero, List.set_cons_succ]
      refine wpAnyH_done (by kernel_rfl) (NoPanic.normal ?_) _
      have B24 : Below w2.heap.size w2 w4 := by (repeat' (first | assumption | exact below_refl _ | refine bl_alloc ?_ _ | refine Below.setCell ?_ ?_ _ | refine below_draw ?_ | refine below_drewN ?_ _ | refine below_tr ?_ (by assumption))) <;> (first | omega | (simp; done) | (simp; omega))
      have BZ := below_tr BY B24
      have x4 := x2.below B24 x2.lt
      have y4 := y2.below B24 y2.lt
      have HTW2 := Lib.hid (HTW.out w4 A2 c2 (hR2.on B24))
      clear hb3 hb4 hc3 hf3 hc4 hf4 hz3 hz4 ho3 hR3 x2 y2 B24 p0 p1 r0 r1 lx ly HSP2 HH HTW hS0 hS1 hS2 hR2 BY
      have p0 := x4.cell 0
      have p1 := x4.cell 1
      have r0 := y4.cell 0
      have r1 := y4.cell 1
      simp only [List.getElem?_toArray, List.getElem?_cons_zero, List.getElem?_cons_succ] at p0 p1 r0 r1
      have lx := x4.lt
      have ly := y4.lt
      go_wp2_with fail
      refine HTW2.out.mono ?_
      rintro e w5 ⟨rfl, hb5⟩
      have BW := below_tr BZ hb5
      go_wp2
      go_ret2
      exact plaP_no BW
  | succ more ih =>
    intro B n d ds M w hn hB0 hm hth hls hR hB
    subst hn
    have hl := vP_len hv
    have hml := thM_len' hth
    obtain ⟨W1, hW1⟩ : ∃ W1, W1 = (w.alloc (.cells (spA s) 24)).alloc (.cells (spA t) 24) := ⟨_, rfl⟩
    have x0 : Blk W1 w.heap.size 24 (spA s) := by rw [hW1]; exact (Blk.new w 24 (spA s)).alloc (.cells (spA t) 24)
    have y0 : Blk W1 (w.heap.size + 1) 24 (spA t) := by
      have := Blk.new (w.alloc (.cells (spA s) 24)) 24 (spA t)
      rw [World.size_alloc] at this
      rw [hW1]; exact this
    have B0 : Below w.heap.size w W1 := by rw [hW1]; exact bl_alloc (bl_alloc (below_refl w) (.cells (spA s) 24)) (.cells (spA t) 24)
    have HT := Lib.hid (r_there A B l.length c d ds W1 (by omega) (by omega) hls (hB.on B0))
    rw [hth] at HT
    unfold TheP at HT
    dsimp only at HT
    have hok := lfS_ok hv hml
    have hsp := lfK_spots (l := l) hml
    have HLF := Lib.hid (fun (W : World) (g : Nat) (hb : Below w.heap.size w W) (hg : Blk W g 4 (bA M)) => r_left A l M c g W (by omega) hml (hR.on hb) hg)
    have HSP := Lib.hid (fun (W : World) (A : Option Addr) (c : Nat) (hR : Rd Pr.cs 3 W A (lfK l M l.length)) => r_spots A (lfK l M l.length) c W (by have := lfK_len l M l.length; omega) hR)
    rw [hsp] at HSP
    have HH := Lib.hid (fun (W : World) (A : Option Addr) (c : Nat) (hR : Rd Sp.cs 2 W A (lfS l M)) => r_held A (lfS l M) c s W (by have := hok.1; omega) hok.2.1 (isS_bd hs) hR)
    have HPL : plF l s t (more + 1) ds M = if stM l s M = true then (List.range l.length).findSome? (fun i => if M.getD i false = true then plF l s t more (ds ++ [2 * (i : Int)]) (M.set i false) else none) else none := rfl
    have HIH := Lib.hid (fun (i : Nat) (hi : i < l.length) (hg : M.getD i false = true) (B' : Option Addr) (n' d' : Nat) (hn' : n' = (ds ++ [2 * (i : Int)]).length) (hB' : B' = none → n' = 0 ∧ d' = 0) (W : World) (hb : Below w.heap.size w W) (hRB : Rd zC 1 W B' (ds ++ [2 * (i : Int)])) =>
      ih B' n' d' (ds ++ [2 * (i : Int)]) (M.set i false) W hn' hB' (by rw [List.length_append]; simp only [List.length_cons, List.length_nil]; omega) (by rw [thM_app, hth]; exact dsB_even hg) (fun x hx => by
        rcases List.mem_append.1 hx with h | h
        · exact hls x h
        · simp only [List.mem_singleton] at h; omega) (hR.on hb) hRB)
    have HLN := Lib.hid (lfK_len l M l.length)
    have hst : stM l s M = heldB (lfS l M) s := rfl
    rw [HPL, hst]
    have hdl : ds.length ≤ 100 := by omega
    have hm1 : more ≤ 100 := by omega
    clear hth hls hok hsp ih HPL hst hm
    obtain ⟨G, hG⟩ : ∃ G : Nat → Option (List Int), G = fun i => if M.getD i false = true then plF l s t more (ds ++ [2 * (i : Int)]) (M.set i false) else none := ⟨_, rfl⟩
    have HG1 := Lib.hid (fun i (h : M.getD i false = true) => (show plF l s t more (ds ++ [2 * (i : Int)]) (M.set i false) = G i by rw [hG]; dsimp only; rw [if_pos h]))
    have HG2 := Lib.hid (fun i (h : M.getD i false = false) => (show G i = none by rw [hG]; dsimp only; rw [if_neg (by rw [h]; simp)]))
    rw [← hG]
    clear hG
    have HFN := Lib.hid (fun (h : ∀ j, j < l.length → G j = none) => fs_no h)
    have HFY := Lib.hid (fun k dd (hk : k < l.length) (h : ∀ j, j < k → G j = none) (h2 : G k = some dd) => fs_yes hk h h2)
    generalize hFO : (List.range l.length).findSome? G = O at *
    clear hFO
    generalize lfK l M l.length = R at *
    generalize lfS l M = S at *
    have p0 := x0.cell 0
    have p1 := x0.cell 1
    have r0 := y0.cell 0
    have r1 := y0.cell 1
    simp only [List.getElem?_toArray, List.getElem?_cons_zero, List.getElem?_cons_succ] at p0 p1 r0 r1
    obtain ⟨ii, hi, hi1, hi2, hi3⟩ := info_int2
    have mz : ((more : Int) + 1 == 0) = false := by
      have : ¬ ((more : Int) + 1 = 0) := by omega
      simpa using this
    have mz2 : ((more + 1 : Nat) : Int) = (more : Int) + 1 := by omega
    rw [mz2]
    cases hV : heldB S s
    · rw [hV] at HH
      rw [if_neg (by simp)]
      clear hV
      go_enter Tryz.func25, Tryz.ntmps25
      go_wp2_with fail
      rw [show ((w.alloc (.cells #[.int .i64 s.x, .int .i64 s.y] 24)).alloc (.cells #[.int .i64 t.x, .int .i64 t.y] 24)) = W1 from hW1.symm]
      clear hW1
      refine HT.out.mono ?_
      rintro e w1 ⟨g, rfl, hg, hgw, hb1⟩
      have BX := below_tr B0 hb1
      have x1 := x0.below hb1 x0.lt
      have y1 := y0.below hb1 y0.lt
      clear x0 y0 B0 hb1 hgw HT p0 p1 r0 r1
      go_wp2_with fail
      refine (HLF.out _ g BX hg).mono ?_
      rintro e w2 ⟨v2, rfl, ho2, hb2⟩
      obtain ⟨A2, c2, rfl, hR2⟩ := own_rd Pr.cs_len ho2
      have BY := below_tr BX hb2
      have x2 := x1.below hb2 x1.lt
      have p0 := x2.cell 0
      have p1 := x2.cell 1
      simp only [List.getElem?_toArray, List.getElem?_cons_zero, List.getElem?_cons_succ] at p0 p1
      have lx := x2.lt
      have HSP2 := Lib.hid (fun (W : World) (hb : Below w2.heap.size w2 W) => HSP.out W A2 c2 (hR2.on hb))
      clear x1 y1 BX hb2 ho2 HLF hg HSP
      go_wp2_with fail
      refine wp_region_noPanic ?_
      refine wp_region_held_drew (S := (fun w' => (∀ b o, b < w2.heap.size → w'.cell? ⟨b, o, none⟩ = w2.cell? ⟨b, o, none⟩) ∧ (∀ b o, b < w2.heap.size → w'.frozen? ⟨b, o, none⟩ = w2.frozen? ⟨b, o, none⟩) ∧ Below w2.heap.size w2 w')) (by kernel_rfl) (kq_draw kq_refl) (fun hS0 => ?_)
      refine wpAnyH_take (i := 0) (oi := { dst := some 30, op := _, type := _, pos := _, after := _, guard := none }) (v := ?gv7) rfl (by kernel_rfl) (by kernel_rfl) (by kernel_rfl) (fun _ _ _ h => h) (Or.inl ⟨by rfl, ?gy7⟩) (by assumption) ?_
      case gy7 => (intro w' hSw; go_simp; try with_reducible rfl)
      try simp only [Act.put, List.setIfInBounds_toArray, List.set_cons_zero, List.set_cons_succ]
      refine wpAnyH_take (i := 2) (oi := { dst := some 32, op := _, type := _, pos := _, after := _, guard := none }) (v := ?gv8) rfl (by kernel_rfl) (by kernel_rfl) (by kernel_rfl) (fun _ _ _ h => h) (Or.inl ⟨by rfl, ?gy8⟩) (by assumption) ?_
      case gy8 => (intro w' hSw; go_simp; try with_reducible rfl)
      try simp only [Act.put, List.setIfInBounds_toArray, List.set_cons_zero, List.set_cons_succ]
      refine wpAnyH_ready (rs := [1]) (by kernel_rfl) (by simp) ?_
      refine AllReadyH.cons rfl (fun K hK => ?_) AllReadyH.nil
      go_simp
      (go_at_call 24; ((with_reducible refine (HSP2.out _ (by (repeat' (first | assumption | exact below_refl _ | refine bl_alloc ?_ _ | refine Below.setCell ?_ ?_ _ | refine below_draw ?_ | refine below_drewN ?_ _ | refine below_tr ?_ (by assumption))) <;> (first | omega | (simp; done) | (simp; omega)))).mono ?_); rintro e w3 ⟨v3, rfl, ho3, hb3⟩; obtain ⟨A3, c3, rfl, hR3⟩ := own_rd Sp.cs_len ho3; obtain ⟨hc3, hf3⟩ := bcell hb3; have hz3 := hb3.size; (try simp [sz_drew, sz_drewN] at hz3); (try simp only [sz_drew, sz_drewN] at hc3 hf3)))
      refine hK.out _ _ (by ((show Kq w2 _); (repeat' (first | assumption | exact kq_refl | refine kq_draw ?_ | refine kq_drewN ?_ | refine kq_alloc ?_ | refine kq_set ?_ ?_ | refine kq_step ?_ (by assumption))); (all_goals (first | omega | (simp; omega))))) (fun hS1 => ?_)
      clear hK K
      try simp only [Act.put, List.setIfInBounds_toArray, List.set_cons_zero, List.set_cons_succ]
      refine wpAnyH_ready (rs := [3]) (by kernel_rfl) (by simp) ?_
      refine AllReadyH.cons rfl (fun K hK => ?_) AllReadyH.nil
      go_simp
      (go_at_call 23; ((with_reducible refine (HH.out _ _ _ hR3).mono ?_); rintro e w4 ⟨rfl, hb4⟩; obtain ⟨hc4, hf4⟩ := bcell hb4; have hz4 := hb4.size; (try simp [sz_drew, sz_drewN] at hz4); (try simp only [sz_drew, sz_drewN] at hc4 hf4)))
      refine hK.out _ _ (by ((show Kq w2 _); (repeat' (first | assumption | exact kq_refl | refine kq_draw ?_ | refine kq_drewN ?_ | refine kq_alloc ?_ | refine kq_set ?_ ?_ | refine kq_step ?_ (by assumption))); (all_goals (first | omega | (simp; omega))))) (fun hS2 => ?_)
      clear hK K
      try simp only [Act.put, List.setIfInBounds_toArray, List.set_cons_zero, List.set_cons_succ]
      refine wpAnyH_take (i := 4) (oi := { dst := some 15, op := _, type := _, pos := _, after := _, guard := none }) (v := ?gv9) rfl (by kernel_rfl) (by kernel_rfl) (by kernel_rfl) (fun _ _ _ h => h) (Or.inl ⟨by rfl, ?gy9⟩) (by assumption) ?_
      case gy9 => (intro w' hSw; go_simp; try with_reducible rfl)
      try simp only [Act.put, List.setIfInBounds_toArray, List.set_cons_zero, List.set_cons_succ]
      refine wpAnyH_done (by kernel_rfl) (NoPanic.normal ?_) _
      have B24 : Below w2.heap.size w2 w4 := by (repeat' (first | assumption | exact below_refl _ | refine bl_alloc ?_ _ | refine Below.setCell ?_ ?_ _ | refine below_draw ?_ | refine below_drewN ?_ _ | refine below_tr ?_ (by assumption))) <;> (first | omega | (simp; done) | (simp; omega))
      have BZ := below_tr BY B24
      clear hb3 hb4 hc3 hf3 hc4 hf4 hz3 hz4 ho3 hR3 x2 B24 p0 p1 lx HSP2 HH hS0 hS1 hS2 hR2 BY
      go_wp2
      go_ret2
      exact plaP_no BZ
    · rw [hV] at HH
      rw [if_pos rfl]
      clear hV
      go_enter Tryz.func25, Tryz.ntmps25
      go_wp2_with fail
      rw [show ((w.alloc (.cells #[.int .i64 s.x, .int .i64 s.y] 24)).alloc (.cells #[.int .i64 t.x, .int .i64 t.y] 24)) = W1 from hW1.symm]
      clear hW1
      refine HT.out.mono ?_
      rintro e w1 ⟨g, rfl, hg, hgw, hb1⟩
      have BX := below_tr B0 hb1
      have x1 := x0.below hb1 x0.lt
      have y1 := y0.below hb1 y0.lt
      clear x0 y0 B0 hb1 hgw HT p0 p1 r0 r1
      go_wp2_with fail
      refine (HLF.out _ g BX hg).mono ?_
      rintro e w2 ⟨v2, rfl, ho2, hb2⟩
      obtain ⟨A2, c2, rfl, hR2⟩ := own_rd Pr.cs_len ho2
      have BY := below_tr BX hb2
      have x2 := x1.below hb2 x1.lt
      have y2 := y1.below hb2 y1.lt
      have g2 := hg.below hb2 hg.lt
      have p0 := x2.cell 0
      have p1 := x2.cell 1
      simp only [List.getElem?_toArray, List.getElem?_cons_zero, List.getElem?_cons_succ] at p0 p1
      have lx := x2.lt
      have HSP2 := Lib.hid (fun (W : World) (hb : Below w2.heap.size w2 W) => HSP.out W A2 c2 (hR2.on hb))
      clear x1 y1 BX hb2 ho2 HLF hg HSP
      go_wp2_with fail
      refine wp_region_noPanic ?_
      refine wp_region_held_drew (S := (fun w' => (∀ b o, b < w2.heap.size → w'.cell? ⟨b, o, none⟩ = w2.cell? ⟨b, o, none⟩) ∧ (∀ b o, b < w2.heap.size → w'.frozen? ⟨b, o, none⟩ = w2.frozen? ⟨b, o, none⟩) ∧ Below w2.heap.size w2 w')) (by kernel_rfl) (kq_draw kq_refl) (fun hS0 => ?_)
      refine wpAnyH_take (i := 0) (oi := { dst := some 30, op := _, type := _, pos := _, after := _, guard := none }) (v := ?gv10) rfl (by kernel_rfl) (by kernel_rfl) (by kernel_rfl) (fun _ _ _ h => h) (Or.inl ⟨by rfl, ?gy10⟩) (by assumption) ?_
      case gy10 => (intro w' hSw; go_simp; try with_reducible rfl)
      try simp only [Act.put, List.setIfInBounds_toArray, List.set_cons_zero, List.set_cons_succ]
      refine wpAnyH_take (i := 2) (oi := { dst := some 32, op := _, type := _, pos := _, after := _, guard := none }) (v := ?gv11) rfl (by kernel_rfl) (by kernel_rfl) (by kernel_rfl) (fun _ _ _ h => h) (Or.inl ⟨by rfl, ?gy11⟩) (by assumption) ?_
      case gy11 => (intro w' hSw; go_simp; try with_reducible rfl)
      try simp only [Act.put, List.setIfInBounds_toArray, List.set_cons_zero, List.set_cons_succ]
      refine wpAnyH_ready (rs := [1]) (by kernel_rfl) (by simp) ?_
      refine AllReadyH.cons rfl (fun K hK => ?_) AllReadyH.nil
      go_simp
      (go_at_call 24; ((with_reducible refine (HSP2.out _ (by (repeat' (first | assumption | exact below_refl _ | refine bl_alloc ?_ _ | refine Below.setCell ?_ ?_ _ | refine below_draw ?_ | refine below_drewN ?_ _ | refine below_tr ?_ (by assumption))) <;> (first | omega | (simp; done) | (simp; omega)))).mono ?_); rintro e w3 ⟨v3, rfl, ho3, hb3⟩; obtain ⟨A3, c3, rfl, hR3⟩ := own_rd Sp.cs_len ho3; obtain ⟨hc3, hf3⟩ := bcell hb3; have hz3 := hb3.size; (try simp [sz_drew, sz_drewN] at hz3); (try simp only [sz_drew, sz_drewN] at hc3 hf3)))
      refine hK.out _ _ (by ((show Kq w2 _); (repeat' (first | assumption | exact kq_refl | refine kq_draw ?_ | refine kq_drewN ?_ | refine kq_alloc ?_ | refine kq_set ?_ ?_ | refine kq_step ?_ (by assumption))); (all_goals (first | omega | (simp; omega))))) (fun hS1 => ?_)
      clear hK K
      try simp only [Act.put, List.setIfInBounds_toArray, List.set_cons_zero, List.set_cons_succ]
      refine wpAnyH_ready (rs := [3]) (by kernel_rfl) (by simp) ?_
      refine AllReadyH.cons rfl (fun K hK => ?_) AllReadyH.nil
      go_simp
      (go_at_call 23; ((with_reducible refine (HH.out _ _ _ hR3).mono ?_); rintro e w4 ⟨rfl, hb4⟩; obtain ⟨hc4, hf4⟩ := bcell hb4; have hz4 := hb4.size; (try simp [sz_drew, sz_drewN] at hz4); (try simp only [sz_drew, sz_drewN] at hc4 hf4)))
      refine hK.out _ _ (by ((show Kq w2 _); (repeat' (first | assumption | exact kq_refl | refine kq_draw ?_ | refine kq_drewN ?_ | refine kq_alloc ?_ | refine kq_set ?_ ?_ | refine kq_step ?_ (by assumption))); (all_goals (first | omega | (simp; omega))))) (fun hS2 => ?_)
      clear hK K
      try simp only [Act.put, List.setIfInBounds_toArray, List.set_cons_zero, List.set_cons_succ]
      refine wpAnyH_take (i := 4) (oi := { dst := some 15, op := _, type := _, pos := _, after := _, guard := none }) (v := ?gv12) rfl (by kernel_rfl) (by kernel_rfl) (by kernel_rfl) (fun _ _ _ h => h) (Or.inl ⟨by rfl, ?gy12⟩) (by assumption) ?_
      case gy12 => (intro w' hSw; go_simp; try with_reducible rfl)
      try simp only [Act.put, List.setIfInBounds_toArray, List.set_cons_zero, List.set_cons_succ]
      refine wpAnyH_done (by kernel_rfl) (NoPanic.normal ?_) _
      have B24 : Below w2.heap.size w2 w4 := by (repeat' (first | assumption | exact below_refl _ | refine bl_alloc ?_ _ | refine Below.setCell ?_ ?_ _ | refine below_draw ?_ | refine below_drewN ?_ _ | refine below_tr ?_ (by assumption))) <;> (first | omega | (simp; done) | (simp; omega))
      have BZ := below_tr BY B24
      have x4 := x2.below B24 x2.lt
      have y4 := y2.below B24 y2.lt
      have g4 := g2.below B24 g2.lt
      clear hb3 hb4 hc3 hf3 hc4 hf4 hz3 hz4 ho3 hR3 x2 y2 g2 B24 p0 p1 lx HSP2 HH hS0 hS1 hS2 hR2 BY HLN
      have lx := x4.lt
      have ly := y4.lt
      have lg := g4.lt
      go_wp2
      go_loopw [18] (fun i wr => ∃ k : Nat, k ≤ l.length ∧ i = .int .i64 k ∧ Below w4.heap.size w4 wr ∧ Hid (∀ j, j < k → G j = none)) (fun i _ => l.length - (intOf i).toNat)
      case atStart => exact ⟨0, by omega, rfl, below_refl _, Lib.hid (fun j hj => by omega)⟩
      case round =>
        obtain ⟨k, hk, rfl, hbw, HN⟩ := hrel
        have k0 : (0 : Int) ≤ (k : Int) := Int.natCast_nonneg _
        rename World => wr
        by_cases hlt : k < l.length
        · have k1 : (k : Int) < (l.length : Int) := by omega
          have x5 := x4.below hbw x4.lt
          have y5 := y4.below hbw y4.lt
          have g5 := g4.below hbw g4.lt
          have q0 := blk_get g5 (show k < M.length by omega)
          have p0 := x5.cell 0
          have p1 := x5.cell 1
          have r0 := y5.cell 0
          have r1 := y5.cell 1
          simp only [List.getElem?_toArray, List.getElem?_cons_zero, List.getElem?_cons_succ] at p0 p1 r0 r1
          have lx5 := x5.lt
          have ly5 := y5.lt
          have lg5 := g5.lt
          cases hgk : M.getD k false
          · rw [hgk] at q0
            have HN2 := Lib.hid (show ∀ j, j < k + 1 → G j = none from fun j hj => by
              by_cases e : j = k
              · rw [e]; exact HG2.out k hgk
              · exact HN.out j (by omega))
            clear hgk x4 y4 g4 lx ly lg x5 y5 g5
            go_wp2
            go_roundw
            case rel => exact ⟨k + 1, by omega, by go_num, hbw, Lib.hid HN2.out⟩
            case measure => simp [intOf]; omega
          · rw [hgk] at q0
            have HC := Lib.hid (HIH.out k hlt hgk)
            rw [HG1.out k hgk] at HC
            have HNX := Lib.hid (show G k = none → ∀ j, j < k + 1 → G j = none from fun h j hj => by
              by_cases e : j = k
              · rw [e]; exact h
              · exact HN.out j (by omega))
            have HYX := Lib.hid (fun dd (h : G k = some dd) => HFY.out k dd hlt HN.out h)
            have BWR := below_tr BZ hbw
            have hBR := hB.on BWR
            have hk2 : IntKind.i64.wrap (2 * (k : Int)) = 2 * (k : Int) := fits_wrap ⟨by omega, by omega⟩
            have hmw : IntKind.i64.wrap (more : Int) = (more : Int) := fits_wrap ⟨by omega, by omega⟩
            clear hgk x4 y4 g4 lx ly lg HIH HN
            generalize G k = o at *
            go_wp2_with fail
            refine wp_region_noPanic ?_
            refine wp_region_held_drew (S := (fun w' => (∀ b o, b < wr.heap.size → w'.cell? ⟨b, o, none⟩ = wr.cell? ⟨b, o, none⟩) ∧ (∀ b o, b < wr.heap.size → w'.frozen? ⟨b, o, none⟩ = wr.frozen? ⟨b, o, none⟩) ∧ Below wr.heap.size wr w')) (by kernel_rfl) (kq_draw kq_refl) (fun hS0 => ?_)
            refine wpAnyH_take (i := 0) (oi := { dst := some 63, op := _, type := _, pos := _, after := _, guard := none }) (v := ?gv13) rfl (by kernel_rfl) (by kernel_rfl) (by kernel_rfl) (fun _ _ _ h => h) (Or.inl ⟨by rfl, ?gy13⟩) (by assumption) ?_
            case gy13 => (intro w' hSw; go_simp; try with_reducible rfl)
            try simp only [Act.put, List.setIfInBounds_toArray, List.set_cons_zero, List.set_cons_succ]
            refine wpAnyH_take (i := 1) (oi := { dst := some 64, op := _, type := _, pos := _, after := _, guard := none }) (v := ?gv14) rfl (by kernel_rfl) (by kernel_rfl) (by kernel_rfl) (fun _ _ _ h => h) (Or.inl ⟨by rfl, ?gy14⟩) (by assumption) ?_
            case gy14 => (intro w' hSw; go_simp; try with_reducible rfl)
            try simp only [Act.put, List.setIfInBounds_toArray, List.set_cons_zero, List.set_cons_succ]
            refine wpAnyH_take (i := 2) (oi := { dst := some 65, op := _, type := _, pos := _, after := _, guard := none }) (v := ?gv15) rfl (by kernel_rfl) (by kernel_rfl) (by kernel_rfl) (fun _ _ _ h => h) (Or.inl ⟨by rfl, ?gy15⟩) (by assumption) ?_
            case gy15 => (intro w' hSw; go_simp; try with_reducible rfl)
            try simp only [Act.put, List.setIfInBounds_toArray, List.set_cons_zero, List.set_cons_succ]
            refine wpAnyH_take (i := 4) (oi := { dst := some 67, op := _, type := _, pos := _, after := _, guard := none }) (v := ?gv16) rfl (by kernel_rfl) (by kernel_rfl) (by kernel_rfl) (fun _ _ _ h => h) (Or.inl ⟨by rfl, ?gy16⟩) (by assumption) ?_
            case gy16 => (intro w' hSw; go_simp; try with_reducible rfl)
            try simp only [Act.put, List.setIfInBounds_toArray, List.set_cons_zero, List.set_cons_succ]
            refine wpAnyH_take (i := 6) (oi := { dst := some 69, op := _, type := _, pos := _, after := _, guard := none }) (v := ?gv17) rfl (by kernel_rfl) (by kernel_rfl) (by kernel_rfl) (fun _ _ _ h => h) (Or.inl ⟨by rfl, ?gy17⟩) (by assumption) ?_
            case gy17 => (intro w' hSw; go_simp; try with_reducible rfl)
            try simp only [Act.put, List.setIfInBounds_toArray, List.set_cons_zero, List.set_cons_succ]
            refine wpAnyH_take (i := 7) (oi := { dst := some 70, op := _, type := _, pos := _, after := _, guard := none }) (v := ?gv18) rfl (by kernel_rfl) (by kernel_rfl) (by kernel_rfl) (fun _ _ _ h => h) (Or.inl ⟨by rfl, ?gy18⟩) (by assumption) ?_
            case gy18 => (intro w' hSw; go_simp; try with_reducible rfl)
            try simp only [Act.put, List.setIfInBounds_toArray, List.set_cons_zero, List.set_cons_succ]
            refine wpAnyH_take (i := 10) (oi := { dst := some 73, op := _, type := _, pos := _, after := _, guard := none }) (v := ?gv19) rfl (by kernel_rfl) (by kernel_rfl) (by kernel_rfl) (fun _ _ _ h => h) (Or.inl ⟨by rfl, ?gy19⟩) (by assumption) ?_
            case gy19 => (intro w' hSw; go_simp; try with_reducible rfl)
            try simp only [Act.put, List.setIfInBounds_toArray, List.set_cons_zero, List.set_cons_succ]
            refine wpAnyH_take (i := 11) (oi := { dst := some 74, op := _, type := _, pos := _, after := _, guard := none }) (v := ?gv20) rfl (by kernel_rfl) (by kernel_rfl) (by kernel_rfl) (fun _ _ _ h => h) (Or.inl ⟨by rfl, ?gy20⟩) (by assumption) ?_
            case gy20 => (intro w' hSw; go_simp; try with_reducible rfl)
            try simp only [Act.put, List.setIfInBounds_toArray, List.set_cons_zero, List.set_cons_succ]
            refine wpAnyH_ready (rs := [3, 8]) (by kernel_rfl) (by simp) ?_
            refine AllReadyH.cons rfl (fun K hK => ?_) (AllReadyH.cons rfl (fun K hK => ?_) AllReadyH.nil)
            go_simp
            refine hK.out _ _ (by ((show Kq wr _); (repeat' (first | assumption | exact kq_refl | refine kq_draw ?_ | refine kq_drewN ?_ | refine kq_alloc ?_ | refine kq_set ?_ ?_ | refine kq_step ?_ (by assumption))); (all_goals (first | omega | (simp; omega))))) (fun hS1 => ?_)
            clear hK K
            try simp only [Act.put, List.setIfInBounds_toArray, List.set_cons_zero, List.set_cons_succ]
            refine wpAnyH_ready (rs := [5, 8]) (by kernel_rfl) (by simp) ?_
            refine AllReadyH.cons rfl (fun K hK => ?_) (AllReadyH.cons rfl (fun K hK => ?_) AllReadyH.nil)
            ((refine step_append_b (by rfl) _ _ _ (by rfl) wr.heap.size 3 ii (.int .i64 0) 1 8 Tryz.underlying25 hi hi1 hi2 hi3 rfl (by omega) _ 0 [] (by rfl) (by first | exact own0 (Blk.new _ _ _) (by simp) | exact own0 (blkA0 _ _ _ _) (by simp) | exact own0 (blkA1 _ _ _ _) (by simp)) B ds.length d (fl zC ds) (by rfl) hB0 (by rw [fl_length zC_len]) (fun ad e => by subst e; exact rd_news (hBR.on (by (repeat' (first | assumption | exact below_refl _ | refine bl_alloc ?_ _ | refine Below.setCell ?_ ?_ _ | refine below_draw ?_ | refine below_drewN ?_ _ | refine below_tr ?_ (by assumption))) <;> (first | omega | (simp; done) | (simp; omega))))) (zC_one ds) (by unfold maxLen; omega) (by omega) (by first | (simp; done) | (simp; omega)) ?_); intro v6 w6 hown6 hbl6 hkp6; rw [Nat.zero_add] at hown6; obtain ⟨a6, c6, rfl⟩ := own_slice hown6; have hb6 : Below wr.heap.size wr w6 := (Below.trans (by (repeat' (first | assumption | exact below_refl _ | refine bl_alloc ?_ _ | refine Below.setCell ?_ ?_ _ | refine below_draw ?_ | refine below_drewN ?_ _ | refine below_tr ?_ (by assumption))) <;> (first | omega | (simp; done) | (simp; omega))) hbl6); have hq6 := kq_of hb6)
            refine hK.out _ _ (by ((show Kq wr _); (repeat' (first | assumption | exact kq_refl | refine kq_draw ?_ | refine kq_drewN ?_ | refine kq_alloc ?_ | refine kq_set ?_ ?_ | refine kq_step ?_ (by assumption))); (all_goals (first | omega | (simp; omega))))) (fun hS2 => ?_)
            clear hK K
            try simp only [Act.put, List.setIfInBounds_toArray, List.set_cons_zero, List.set_cons_succ]
            refine wpAnyH_ready (rs := [8]) (by kernel_rfl) (by simp) ?_
            refine AllReadyH.cons rfl (fun K hK => ?_) AllReadyH.nil
            go_simp
            refine hK.out _ _ (by ((show Kq wr _); (repeat' (first | assumption | exact kq_refl | refine kq_draw ?_ | refine kq_drewN ?_ | refine kq_alloc ?_ | refine kq_set ?_ ?_ | refine kq_step ?_ (by assumption))); (all_goals (first | omega | (simp; omega))))) (fun hS3 => ?_)
            clear hK K
            try simp only [Act.put, List.setIfInBounds_toArray, List.set_cons_zero, List.set_cons_succ]
            refine wpAnyH_ready (rs := [9]) (by kernel_rfl) (by simp) ?_
            refine AllReadyH.cons rfl (fun K hK => ?_) AllReadyH.nil
            ((first | ((refine step_append_b (by rfl) _ _ _ (by rfl) wr.heap.size 3 ii (.int .i64 0) 1 8 Tryz.underlying25 hi hi1 hi2 hi3 rfl (by omega) (.slice a6 ds.length c6) ds.length ([] ++ fl zC ds) (by rfl) (by first | exact hown6 | exact hown6.alloc _) (some ⟨w6.heap.size, 0, none⟩) 1 1 [Value.int .i64 (2 * (k : Int))] (by rfl) (fun e => by cases e) rfl (by refine news_blk (cs := #[Value.int .i64 (2 * (k : Int))]) (t := 3) ?_; first | exact Blk.new _ _ _ | exact hkp6 _ _ _ (blkA1 _ _ _ _) (fun e => absurd (ob_eq e.symm) (by omega)) | exact hkp6 _ _ _ (blkA0 _ _ _ _) (fun e => absurd (ob_eq e.symm) (by omega))) (fun u hu => by simp at hu; subst hu; rfl) (by unfold maxLen; omega) (by omega) (by first | exact hb6.size | (have := hb6.size; simp; omega)) ?_)) | ((refine step_append_b (by rfl) _ _ _ (by rfl) wr.heap.size 3 ii (.int .i64 0) 1 8 Tryz.underlying25 hi hi1 hi2 hi3 rfl (by omega) (.slice a6 ds.length c6) ds.length ([] ++ fl zC ds) (by rfl) (by first | exact hown6 | exact hown6.alloc _) (some ⟨wr.heap.size + 1, 0, none⟩) 1 1 [Value.int .i64 (2 * (k : Int))] (by rfl) (fun e => by cases e) rfl (by refine news_blk (cs := #[Value.int .i64 (2 * (k : Int))]) (t := 3) ?_; first | exact Blk.new _ _ _ | exact hkp6 _ _ _ (blkA1 _ _ _ _) (fun e => absurd (ob_eq e.symm) (by omega)) | exact hkp6 _ _ _ (blkA0 _ _ _ _) (fun e => absurd (ob_eq e.symm) (by omega))) (fun u hu => by simp at hu; subst hu; rfl) (by unfold maxLen; omega) (by omega) (by first | exact hb6.size | (have := hb6.size; simp; omega)) ?_)) | ((refine step_append_b (by rfl) _ _ _ (by rfl) wr.heap.size 3 ii (.int .i64 0) 1 8 Tryz.underlying25 hi hi1 hi2 hi3 rfl (by omega) (.slice a6 ds.length c6) ds.length ([] ++ fl zC ds) (by rfl) (by first | exact hown6 | exact hown6.alloc _) (some ⟨wr.heap.size, 0, none⟩) 1 1 [Value.int .i64 (2 * (k : Int))] (by rfl) (fun e => by cases e) rfl (by refine news_blk (cs := #[Value.int .i64 (2 * (k : Int))]) (t := 3) ?_; first | exact Blk.new _ _ _ | exact hkp6 _ _ _ (blkA1 _ _ _ _) (fun e => absurd (ob_eq e.symm) (by omega)) | exact hkp6 _ _ _ (blkA0 _ _ _ _) (fun e => absurd (ob_eq e.symm) (by omega))) (fun u hu => by simp at hu; subst hu; rfl) (by unfold maxLen; omega) (by omega) (by first | exact hb6.size | (have := hb6.size; simp; omega)) ?_))); intro v7 w7 hown7 hbl7 hkp7; obtain ⟨a7, c7, rfl⟩ := own_slice hown7; have hb7 : Below wr.heap.size wr w7 := (Below.trans (by (repeat' (first | assumption | exact below_refl _ | refine bl_alloc ?_ _ | refine Below.setCell ?_ ?_ _ | refine below_draw ?_ | refine below_drewN ?_ _ | refine below_tr ?_ (by assumption))) <;> (first | omega | (simp; done) | (simp; omega))) hbl7); have hq7 := kq_of hb7; obtain ⟨hR7, hn7⟩ := rd_snoc hown7 (by simp))
            refine hK.out _ _ (by ((show Kq wr _); (repeat' (first | assumption | exact kq_refl | refine kq_draw ?_ | refine kq_drewN ?_ | refine kq_alloc ?_ | refine kq_set ?_ ?_ | refine kq_step ?_ (by assumption))); (all_goals (first | omega | (simp; omega))))) (fun hS4 => ?_)
            clear hK K
            try simp only [Act.put, List.setIfInBounds_toArray, List.set_cons_zero, List.set_cons_succ]
            refine wpAnyH_ready (rs := [12]) (by kernel_rfl) (by simp) ?_
            refine AllReadyH.cons rfl (fun K hK => ?_) AllReadyH.nil
            go_simp
            (go_at_call 25; ((with_reducible refine (HC.out a7 (ds.length + 1) c7 (by simp) hn7 _ (below_tr BWR (by (repeat' (first | assumption | exact below_refl _ | refine bl_alloc ?_ _ | refine Below.setCell ?_ ?_ _ | refine below_draw ?_ | refine below_drewN ?_ _ | refine below_tr ?_ (by assumption))) <;> (first | omega | (simp; done) | (simp; omega)))) (hR7.on (by (repeat' (first | assumption | exact below_refl _ | refine bl_alloc ?_ _ | refine Below.setCell ?_ ?_ _ | refine below_draw ?_ | refine below_drewN ?_ _ | refine below_tr ?_ (by assumption))) <;> (first | omega | (simp; done) | (simp; omega))))).mono ?_); rintro e w8 ⟨v8, b8, rfl, hb8, hp8⟩; obtain ⟨hc8, hf8⟩ := bcell hb8; have hz8 := hb8.size; (try simp [sz_drew, sz_drewN] at hz8); (try simp only [sz_drew, sz_drewN] at hc8 hf8)))
            refine hK.out _ _ (by ((show Kq wr _); (repeat' (first | assumption | exact kq_refl | refine kq_draw ?_ | refine kq_drewN ?_ | refine kq_alloc ?_ | refine kq_set ?_ ?_ | refine kq_step ?_ (by assumption))); (all_goals (first | omega | (simp; omega))))) (fun hS5 => ?_)
            clear hK K
            try simp only [Act.put, List.setIfInBounds_toArray, List.set_cons_zero, List.set_cons_succ]
            refine wpAnyH_take (i := 13) (oi := { dst := some 62, op := _, type := _, pos := _, after := _, guard := none }) (v := ?gv21) rfl (by kernel_rfl) (by kernel_rfl) (by kernel_rfl) (fun _ _ _ h => h) (Or.inl ⟨by rfl, ?gy21⟩) (by assumption) ?_
            case gy21 => (intro w' hSw; go_simp; try with_reducible rfl)
            try simp only [Act.put, List.setIfInBounds_toArray, List.set_cons_zero, List.set_cons_succ]
            refine wpAnyH_take (i := 14) (oi := { dst := some 76, op := _, type := _, pos := _, after := _, guard := none }) (v := ?gv22) rfl (by kernel_rfl) (by kernel_rfl) (by kernel_rfl) (fun _ _ _ h => h) (Or.inl ⟨by rfl, ?gy22⟩) (by assumption) ?_
            case gy22 => (intro w' hSw; go_simp; try with_reducible rfl)
            try simp only [Act.put, List.setIfInBounds_toArray, List.set_cons_zero, List.set_cons_succ]
            refine wpAnyH_take (i := 15) (oi := { dst := some 77, op := _, type := _, pos := _, after := _, guard := none }) (v := ?gv23) rfl (by kernel_rfl) (by kernel_rfl) (by kernel_rfl) (fun _ _ _ h => h) (Or.inl ⟨by rfl, ?gy23⟩) (by assumption) ?_
            case gy23 => (intro w' hSw; go_simp; try with_reducible rfl)
            try simp only [Act.put, List.setIfInBounds_toArray, List.set_cons_zero, List.set_cons_succ]
            refine wpAnyH_take (i := 16) (oi := { dst := some 19, op := _, type := _, pos := _, after := _, guard := none }) (v := ?gv24) rfl (by kernel_rfl) (by kernel_rfl) (by kernel_rfl) (fun _ _ _ h => h) (Or.inl ⟨by rfl, ?gy24⟩) (by assumption) ?_
            case gy24 => (intro w' hSw; go_simp; try with_reducible rfl)
            try simp only [Act.put, List.setIfInBounds_toArray, List.set_cons_zero, List.set_cons_succ]
            refine wpAnyH_take (i := 17) (oi := { dst := some 20, op := _, type := _, pos := _, after := _, guard := none }) (v := ?gv25) rfl (by kernel_rfl) (by kernel_rfl) (by kernel_rfl) (fun _ _ _ h => h) (Or.inl ⟨by rfl, ?gy25⟩) (by assumption) ?_
            case gy25 => (intro w' hSw; go_simp; try with_reducible rfl)
            try simp only [Act.put, List.setIfInBounds_toArray, List.set_cons_zero, List.set_cons_succ]
            refine wpAnyH_done (by kernel_rfl) (NoPanic.normal ?_) _
            rotate_left
            go_simp
            refine hK.out _ _ (by ((show Kq wr _); (repeat' (first | assumption | exact kq_refl | refine kq_draw ?_ | refine kq_drewN ?_ | refine kq_alloc ?_ | refine kq_set ?_ ?_ | refine kq_step ?_ (by assumption))); (all_goals (first | omega | (simp; omega))))) (fun hS2 => ?_)
            clear hK K
            try simp only [Act.put, List.setIfInBounds_toArray, List.set_cons_zero, List.set_cons_succ]
            refine wpAnyH_ready (rs := [5]) (by kernel_rfl) (by simp) ?_
            refine AllReadyH.cons rfl (fun K hK => ?_) AllReadyH.nil
            ((refine step_append_b (by rfl) _ _ _ (by rfl) wr.heap.size 3 ii (.int .i64 0) 1 8 Tryz.underlying25 hi hi1 hi2 hi3 rfl (by omega) _ 0 [] (by rfl) (by first | exact own0 (Blk.new _ _ _) (by simp) | exact own0 (blkA0 _ _ _ _) (by simp) | exact own0 (blkA1 _ _ _ _) (by simp)) B ds.length d (fl zC ds) (by rfl) hB0 (by rw [fl_length zC_len]) (fun ad e => by subst e; exact rd_news (hBR.on (by (repeat' (first | assumption | exact below_refl _ | refine bl_alloc ?_ _ | refine Below.setCell ?_ ?_ _ | refine below_draw ?_ | refine below_drewN ?_ _ | refine below_tr ?_ (by assumption))) <;> (first | omega | (simp; done) | (simp; omega))))) (zC_one ds) (by unfold maxLen; omega) (by omega) (by first | (simp; done) | (simp; omega)) ?_); intro v6 w6 hown6 hbl6 hkp6; rw [Nat.zero_add] at hown6; obtain ⟨a6, c6, rfl⟩ := own_slice hown6; have hb6 : Below wr.heap.size wr w6 := (Below.trans (by (repeat' (first | assumption | exact below_refl _ | refine bl_alloc ?_ _ | refine Below.setCell ?_ ?_ _ | refine below_draw ?_ | refine below_drewN ?_ _ | refine below_tr ?_ (by assumption))) <;> (first | omega | (simp; done) | (simp; omega))) hbl6); have hq6 := kq_of hb6)
            refine hK.out _ _ (by ((show Kq wr _); (repeat' (first | assumption | exact kq_refl | refine kq_draw ?_ | refine kq_drewN ?_ | refine kq_alloc ?_ | refine kq_set ?_ ?_ | refine kq_step ?_ (by assumption))); (all_goals (first | omega | (simp; omega))))) (fun hS3 => ?_)
            clear hK K
            try simp only [Act.put, List.setIfInBounds_toArray, List.set_cons_zero, List.set_cons_succ]
            refine wpAnyH_ready (rs := [9]) (by kernel_rfl) (by simp) ?_
            refine AllReadyH.cons rfl (fun K hK => ?_) AllReadyH.nil
            ((first | ((refine step_append_b (by rfl) _ _ _ (by rfl) wr.heap.size 3 ii (.int .i64 0) 1 8 Tryz.underlying25 hi hi1 hi2 hi3 rfl (by omega) (.slice a6 ds.length c6) ds.length ([] ++ fl zC ds) (by rfl) (by first | exact hown6 | exact hown6.alloc _) (some ⟨w6.heap.size, 0, none⟩) 1 1 [Value.int .i64 (2 * (k : Int))] (by rfl) (fun e => by cases e) rfl (by refine news_blk (cs := #[Value.int .i64 (2 * (k : Int))]) (t := 3) ?_; first | exact Blk.new _ _ _ | exact hkp6 _ _ _ (blkA1 _ _ _ _) (fun e => absurd (ob_eq e.symm) (by omega)) | exact hkp6 _ _ _ (blkA0 _ _ _ _) (fun e => absurd (ob_eq e.symm) (by omega))) (fun u hu => by simp at hu; subst hu; rfl) (by unfold maxLen; omega) (by omega) (by first | exact hb6.size | (have := hb6.size; simp; omega)) ?_)) | ((refine step_append_b (by rfl) _ _ _ (by rfl) wr.heap.size 3 ii (.int .i64 0) 1 8 Tryz.underlying25 hi hi1 hi2 hi3 rfl (by omega) (.slice a6 ds.length c6) ds.length ([] ++ fl zC ds) (by rfl) (by first | exact hown6 | exact hown6.alloc _) (some ⟨wr.heap.size + 1, 0, none⟩) 1 1 [Value.int .i64 (2 * (k : Int))] (by rfl) (fun e => by cases e) rfl (by refine news_blk (cs := #[Value.int .i64 (2 * (k : Int))]) (t := 3) ?_; first | exact Blk.new _ _ _ | exact hkp6 _ _ _ (blkA1 _ _ _ _) (fun e => absurd (ob_eq e.symm) (by omega)) | exact hkp6 _ _ _ (blkA0 _ _ _ _) (fun e => absurd (ob_eq e.symm) (by omega))) (fun u hu => by simp at hu; subst hu; rfl) (by unfold maxLen; omega) (by omega) (by first | exact hb6.size | (have := hb6.size; simp; omega)) ?_)) | ((refine step_append_b (by rfl) _ _ _ (by rfl) wr.heap.size 3 ii (.int .i64 0) 1 8 Tryz.underlying25 hi hi1 hi2 hi3 rfl (by omega) (.slice a6 ds.length c6) ds.length ([] ++ fl zC ds) (by rfl) (by first | exact hown6 | exact hown6.alloc _) (some ⟨wr.heap.size, 0, none⟩) 1 1 [Value.int .i64 (2 * (k : Int))] (by rfl) (fun e => by cases e) rfl (by refine news_blk (cs := #[Value.int .i64 (2 * (k : Int))]) (t := 3) ?_; first | exact Blk.new _ _ _ | exact hkp6 _ _ _ (blkA1 _ _ _ _) (fun e => absurd (ob_eq e.symm) (by omega)) | exact hkp6 _ _ _ (blkA0 _ _ _ _) (fun e => absurd (ob_eq e.symm) (by omega))) (fun u hu => by simp at hu; subst hu; rfl) (by unfold maxLen; omega) (by omega) (by first | exact hb6.size | (have := hb6.size; simp; omega)) ?_))); intro v7 w7 hown7 hbl7 hkp7; obtain ⟨a7, c7, rfl⟩ := own_slice hown7; have hb7 : Below wr.heap.size wr w7 := (Below.trans (by (repeat' (first | assumption | exact below_refl _ | refine bl_alloc ?_ _ | refine Below.setCell ?_ ?_ _ | refine below_draw ?_ | refine below_drewN ?_ _ | refine below_tr ?_ (by assumption))) <;> (first | omega | (simp; done) | (simp; omega))) hbl7); have hq7 := kq_of hb7; obtain ⟨hR7, hn7⟩ := rd_snoc hown7 (by simp))
            refine hK.out _ _ (by ((show Kq wr _); (repeat' (first | assumption | exact kq_refl | refine kq_draw ?_ | refine kq_drewN ?_ | refine kq_alloc ?_ | refine kq_set ?_ ?_ | refine kq_step ?_ (by assumption))); (all_goals (first | omega | (simp; omega))))) (fun hS4 => ?_)
            clear hK K
            try simp only [Act.put, List.setIfInBounds_toArray, List.set_cons_zero, List.set_cons_succ]
            refine wpAnyH_ready (rs := [12]) (by kernel_rfl) (by simp) ?_
            refine AllReadyH.cons rfl (fun K hK => ?_) AllReadyH.nil
            go_simp
            (go_at_call 25; ((with_reducible refine (HC.out a7 (ds.length + 1) c7 (by simp) hn7 _ (below_tr BWR (by (repeat' (first | assumption | exact below_refl _ | refine bl_alloc ?_ _ | refine Below.setCell ?_ ?_ _ | refine below_draw ?_ | refine below_drewN ?_ _ | refine below_tr ?_ (by assumption))) <;> (first | omega | (simp; done) | (simp; omega)))) (hR7.on (by (repeat' (first | assumption | exact below_refl _ | refine bl_alloc ?_ _ | refine Below.setCell ?_ ?_ _ | refine below_draw ?_ | refine below_drewN ?_ _ | refine below_tr ?_ (by assumption))) <;> (first | omega | (simp; done) | (simp; omega))))).mono ?_); rintro e w8 ⟨v8, b8, rfl, hb8, hp8⟩; obtain ⟨hc8, hf8⟩ := bcell hb8; have hz8 := hb8.size; (try simp [sz_drew, sz_drewN] at hz8); (try simp only [sz_drew, sz_drewN] at hc8 hf8)))
            refine hK.out _ _ (by ((show Kq wr _); (repeat' (first | assumption | exact kq_refl | refine kq_draw ?_ | refine kq_drewN ?_ | refine kq_alloc ?_ | refine kq_set ?_ ?_ | refine kq_step ?_ (by assumption))); (all_goals (first | omega | (simp; omega))))) (fun hS5 => ?_)
            clear hK K
            try simp only [Act.put, List.setIfInBounds_toArray, List.set_cons_zero, List.set_cons_succ]
            refine wpAnyH_take (i := 13) (oi := { dst := some 62, op := _, type := _, pos := _, after := _, guard := none }) (v := ?gv26) rfl (by kernel_rfl) (by kernel_rfl) (by kernel_rfl) (fun _ _ _ h => h) (Or.inl ⟨by rfl, ?gy26⟩) (by assumption) ?_
            case gy26 => (intro w' hSw; go_simp; try with_reducible rfl)
            try simp only [Act.put, List.setIfInBounds_toArray, List.set_cons_zero, List.set_cons_succ]
            refine wpAnyH_take (i := 14) (oi := { dst := some 76, op := _, type := _, pos := _, after := _, guard := none }) (v := ?gv27) rfl (by kernel_rfl) (by kernel_rfl) (by kernel_rfl) (fun _ _ _ h => h) (Or.inl ⟨by rfl, ?gy27⟩) (by assumption) ?_
            case gy27 => (intro w' hSw; go_simp; try with_reducible rfl)
            try simp only [Act.put, List.setIfInBounds_toArray, List.set_cons_zero, List.set_cons_succ]
            refine wpAnyH_take (i := 15) (oi := { dst := some 77, op := _, type := _, pos := _, after := _, guard := none }) (v := ?gv28) rfl (by kernel_rfl) (by kernel_rfl) (by kernel_rfl) (fun _ _ _ h => h) (Or.inl ⟨by rfl, ?gy28⟩) (by assumption) ?_
            case gy28 => (intro w' hSw; go_simp; try with_reducible rfl)
            try simp only [Act.put, List.setIfInBounds_toArray, List.set_cons_zero, List.set_cons_succ]
            refine wpAnyH_take (i := 16) (oi := { dst := some 19, op := _, type := _, pos := _, after := _, guard := none }) (v := ?gv29) rfl (by kernel_rfl) (by kernel_rfl) (by kernel_rfl) (fun _ _ _ h => h) (Or.inl ⟨by rfl, ?gy29⟩) (by assumption) ?_
            case gy29 => (intro w' hSw; go_simp; try with_reducible rfl)
            try simp only [Act.put, List.setIfInBounds_toArray, List.set_cons_zero, List.set_cons_succ]
            refine wpAnyH_take (i := 17) (oi := { dst := some 20, op := _, type := _, pos := _, after := _, guard := none }) (v := ?gv30) rfl (by kernel_rfl) (by kernel_rfl) (by kernel_rfl) (fun _ _ _ h => h) (Or.inl ⟨by rfl, ?gy30⟩) (by assumption) ?_
            case gy30 => (intro w' hSw; go_simp; try with_reducible rfl)
            try simp only [Act.put, List.setIfInBounds_toArray, List.set_cons_zero, List.set_cons_succ]
            refine wpAnyH_done (by kernel_rfl) (NoPanic.normal ?_) _
            rotate_left
            go_simp
            refine hK.out _ _ (by ((show Kq wr _); (repeat' (first | assumption | exact kq_refl | refine kq_draw ?_ | refine kq_drewN ?_ | refine kq_alloc ?_ | refine kq_set ?_ ?_ | refine kq_step ?_ (by assumption))); (all_goals (first | omega | (simp; omega))))) (fun hS1 => ?_)
            clear hK K
            try simp only [Act.put, List.setIfInBounds_toArray, List.set_cons_zero, List.set_cons_succ]
            refine wpAnyH_ready (rs := [3]) (by kernel_rfl) (by simp) ?_
            refine AllReadyH.cons rfl (fun K hK => ?_) AllReadyH.nil
            go_simp
            refine hK.out _ _ (by ((show Kq wr _); (repeat' (first | assumption | exact kq_refl | refine kq_draw ?_ | refine kq_drewN ?_ | refine kq_alloc ?_ | refine kq_set ?_ ?_ | refine kq_step ?_ (by assumption))); (all_goals (first | omega | (simp; omega))))) (fun hS2 => ?_)
            clear hK K
            try simp only [Act.put, List.setIfInBounds_toArray, List.set_cons_zero, List.set_cons_succ]
            refine wpAnyH_ready (rs := [5]) (by kernel_rfl) (by simp) ?_
            refine AllReadyH.cons rfl (fun K hK => ?_) AllReadyH.nil
            ((refine step_append_b (by rfl) _ _ _ (by rfl) wr.heap.size 3 ii (.int .i64 0) 1 8 Tryz.underlying25 hi hi1 hi2 hi3 rfl (by omega) _ 0 [] (by rfl) (by first | exact own0 (Blk.new _ _ _) (by simp) | exact own0 (blkA0 _ _ _ _) (by simp) | exact own0 (blkA1 _ _ _ _) (by simp)) B ds.length d (fl zC ds) (by rfl) hB0 (by rw [fl_length zC_len]) (fun ad e => by subst e; exact rd_news (hBR.on (by (repeat' (first | assumption | exact below_refl _ | refine bl_alloc ?_ _ | refine Below.setCell ?_ ?_ _ | refine below_draw ?_ | refine below_drewN ?_ _ | refine below_tr ?_ (by assumption))) <;> (first | omega | (simp; done) | (simp; omega))))) (zC_one ds) (by unfold maxLen; omega) (by omega) (by first | (simp; done) | (simp; omega)) ?_); intro v6 w6 hown6 hbl6 hkp6; rw [Nat.zero_add] at hown6; obtain ⟨a6, c6, rfl⟩ := own_slice hown6; have hb6 : Below wr.heap.size wr w6 := (Below.trans (by (repeat' (first | assumption | exact below_refl _ | refine bl_alloc ?_ _ | refine Below.setCell ?_ ?_ _ | refine below_draw ?_ | refine below_drewN ?_ _ | refine below_tr ?_ (by assumption))) <;> (first | omega | (simp; done) | (simp; omega))) hbl6); have hq6 := kq_of hb6)
            refine hK.out _ _ (by ((show Kq wr _); (repeat' (first | assumption | exact kq_refl | refine kq_draw ?_ | refine kq_drewN ?_ | refine kq_alloc ?_ | refine kq_set ?_ ?_ | refine kq_step ?_ (by assumption))); (all_goals (first | omega | (simp; omega))))) (fun hS3 => ?_)
            clear hK K
            try simp only [Act.put, List.setIfInBounds_toArray, List.set_cons_zero, List.set_cons_succ]
            refine wpAnyH_ready (rs := [9]) (by kernel_rfl) (by simp) ?_
            refine AllReadyH.cons rfl (fun K hK => ?_) AllReadyH.nil
            ((first | ((refine step_append_b (by rfl) _ _ _ (by rfl) wr.heap.size 3 ii (.int .i64 0) 1 8 Tryz.underlying25 hi hi1 hi2 hi3 rfl (by omega) (.slice a6 ds.length c6) ds.length ([] ++ fl zC ds) (by rfl) (by first | exact hown6 | exact hown6.alloc _) (some ⟨w6.heap.size, 0, none⟩) 1 1 [Value.int .i64 (2 * (k : Int))] (by rfl) (fun e => by cases e) rfl (by refine news_blk (cs := #[Value.int .i64 (2 * (k : Int))]) (t := 3) ?_; first | exact Blk.new _ _ _ | exact hkp6 _ _ _ (blkA1 _ _ _ _) (fun e => absurd (ob_eq e.symm) (by omega)) | exact hkp6 _ _ _ (blkA0 _ _ _ _) (fun e => absurd (ob_eq e.symm) (by omega))) (fun u hu => by simp at hu; subst hu; rfl) (by unfold maxLen; omega) (by omega) (by first | exact hb6.size | (have := hb6.size; simp; omega)) ?_)) | ((refine step_append_b (by rfl) _ _ _ (by rfl) wr.heap.size 3 ii (.int .i64 0) 1 8 Tryz.underlying25 hi hi1 hi2 hi3 rfl (by omega) (.slice a6 ds.length c6) ds.length ([] ++ fl zC ds) (by rfl) (by first | exact hown6 | exact hown6.alloc _) (some ⟨wr.heap.size + 1, 0, none⟩) 1 1 [Value.int .i64 (2 * (k : Int))] (by rfl) (fun e => by cases e) rfl (by refine news_blk (cs := #[Value.int .i64 (2 * (k : Int))]) (t := 3) ?_; first | exact Blk.new _ _ _ | exact hkp6 _ _ _ (blkA1 _ _ _ _) (fun e => absurd (ob_eq e.symm) (by omega)) | exact hkp6 _ _ _ (blkA0 _ _ _ _) (fun e => absurd (ob_eq e.symm) (by omega))) (fun u hu => by simp at hu; subst hu; rfl) (by unfold maxLen; omega) (by omega) (by first | exact hb6.size | (have := hb6.size; simp; omega)) ?_)) | ((refine step_append_b (by rfl) _ _ _ (by rfl) wr.heap.size 3 ii (.int .i64 0) 1 8 Tryz.underlying25 hi hi1 hi2 hi3 rfl (by omega) (.slice a6 ds.length c6) ds.length ([] ++ fl zC ds) (by rfl) (by first | exact hown6 | exact hown6.alloc _) (some ⟨wr.heap.size, 0, none⟩) 1 1 [Value.int .i64 (2 * (k : Int))] (by rfl) (fun e => by cases e) rfl (by refine news_blk (cs := #[Value.int .i64 (2 * (k : Int))]) (t := 3) ?_; first | exact Blk.new _ _ _ | exact hkp6 _ _ _ (blkA1 _ _ _ _) (fun e => absurd (ob_eq e.symm) (by omega)) | exact hkp6 _ _ _ (blkA0 _ _ _ _) (fun e => absurd (ob_eq e.symm) (by omega))) (fun u hu => by simp at hu; subst hu; rfl) (by unfold maxLen; omega) (by omega) (by first | exact hb6.size | (have := hb6.size; simp; omega)) ?_))); intro v7 w7 hown7 hbl7 hkp7; obtain ⟨a7, c7, rfl⟩ := own_slice hown7; have hb7 : Below wr.heap.size wr w7 := (Below.trans (by (repeat' (first | assumption | exact below_refl _ | refine bl_alloc ?_ _ | refine Below.setCell ?_ ?_ _ | refine below_draw ?_ | refine below_drewN ?_ _ | refine below_tr ?_ (by assumption))) <;> (first | omega | (simp; done) | (simp; omega))) hbl7); have hq7 := kq_of hb7; obtain ⟨hR7, hn7⟩ := rd_snoc hown7 (by simp))
            refine hK.out _ _ (by ((show Kq wr _); (repeat' (first | assumption | exact kq_refl | refine kq_draw ?_ | refine kq_drewN ?_ | refine kq_alloc ?_ | refine kq_set ?_ ?_ | refine kq_step ?_ (by assumption))); (all_goals (first | omega | (simp; omega))))) (fun hS4 => ?_)
            clear hK K
            try simp only [Act.put, List.setIfInBounds_toArray, List.set_cons_zero, List.set_cons_succ]
            refine wpAnyH_ready (rs := [12]) (by kernel_rfl) (by simp) ?_
            refine AllReadyH.cons rfl (fun K hK => ?_) AllReadyH.nil
            go_simp
            (go_at_call 25; ((with_reducible refine (HC.out a7 (ds.length + 1) c7 (by simp) hn7 _ (below_tr BWR (by (repeat' (first | assumption | exact below_refl _ | refine bl_alloc ?_ _ | refine Below.setCell ?_ ?_ _ | refine below_draw ?_ | refine below_drewN ?_ _ | refine below_tr ?_ (by assumption))) <;> (first | omega | (simp; done) | (simp; omega)))) (hR7.on (by (repeat' (first | assumption | exact below_refl _ | refine bl_alloc ?_ _ | refine Below.setCell ?_ ?_ _ | refine below_draw ?_ | refine below_drewN ?_ _ | refine below_tr ?_ (by assumption))) <;> (first | omega | (simp; done) | (simp; omega))))).mono ?_); rintro e w8 ⟨v8, b8, rfl, hb8, hp8⟩; obtain ⟨hc8, hf8⟩ := bcell hb8; have hz8 := hb8.size; (try simp [sz_drew, sz_drewN] at hz8); (try simp only [sz_drew, sz_drewN] at hc8 hf8)))
            refine hK.out _ _ (by ((show Kq wr _); (repeat' (first | assumption | exact kq_refl | refine kq_draw ?_ | refine kq_drewN ?_ | refine kq_alloc ?_ | refine kq_set ?_ ?_ | refine kq_step ?_ (by assumption))); (all_goals (first | omega | (simp; omega))))) (fun hS5 => ?_)
            clear hK K
            try simp only [Act.put, List.setIfInBounds_toArray, List.set_cons_zero, List.set_cons_succ]
            refine wpAnyH_take (i := 13) (oi := { dst := some 62, op := _, type := _, pos := _, after := _, guard := none }) (v := ?gv31) rfl (by kernel_rfl) (by kernel_rfl) (by kernel_rfl) (fun _ _ _ h => h) (Or.inl ⟨by rfl, ?gy31⟩) (by assumption) ?_
            case gy31 => (intro w' hSw; go_simp; try with_reducible rfl)
            try simp only [Act.put, List.setIfInBounds_toArray, List.set_cons_zero, List.set_cons_succ]
            refine wpAnyH_take (i := 14) (oi := { dst := some 76, op := _, type := _, pos := _, after := _, guard := none }) (v := ?gv32) rfl (by kernel_rfl) (by kernel_rfl) (by kernel_rfl) (fun _ _ _ h => h) (Or.inl ⟨by rfl, ?gy32⟩) (by assumption) ?_
            case gy32 => (intro w' hSw; go_simp; try with_reducible rfl)
            try simp only [Act.put, List.setIfInBounds_toArray, List.set_cons_zero, List.set_cons_succ]
            refine wpAnyH_take (i := 15) (oi := { dst := some 77, op := _, type := _, pos := _, after := _, guard := none }) (v := ?gv33) rfl (by kernel_rfl) (by kernel_rfl) (by kernel_rfl) (fun _ _ _ h => h) (Or.inl ⟨by rfl, ?gy33⟩) (by assumption) ?_
            case gy33 => (intro w' hSw; go_simp; try with_reducible rfl)
            try simp only [Act.put, List.setIfInBounds_toArray, List.set_cons_zero, List.set_cons_succ]
            refine wpAnyH_take (i := 16) (oi := { dst := some 19, op := _, type := _, pos := _, after := _, guard := none }) (v := ?gv34) rfl (by kernel_rfl) (by kernel_rfl) (by kernel_rfl) (fun _ _ _ h => h) (Or.inl ⟨by rfl, ?gy34⟩) (by assumption) ?_
            case gy34 => (intro w' hSw; go_simp; try with_reducible rfl)
            try simp only [Act.put, List.setIfInBounds_toArray, List.set_cons_zero, List.set_cons_succ]
            refine wpAnyH_take (i := 17) (oi := { dst := some 20, op := _, type := _, pos := _, after := _, guard := none }) (v := ?gv35) rfl (by kernel_rfl) (by kernel_rfl) (by kernel_rfl) (fun _ _ _ h => h) (Or.inl ⟨by rfl, ?gy35⟩) (by assumption) ?_
            case gy35 => (intro w' hSw; go_simp; try with_reducible rfl)
            try simp only [Act.put, List.setIfInBounds_toArray, List.set_cons_zero, List.set_cons_succ]
            refine wpAnyH_done (by kernel_rfl) (NoPanic.normal ?_) _
            rotate_left
            all_goals
              have B8 : Below wr.heap.size wr w8 := by (repeat' (first | assumption | exact below_refl _ | refine bl_alloc ?_ _ | refine Below.setCell ?_ ?_ _ | refine below_draw ?_ | refine below_drewN ?_ _ | refine below_tr ?_ (by assumption))) <;> (first | omega | (simp; done) | (simp; omega))
              have BW8 := below_tr BWR B8
              have BN8 := below_tr hbw B8
              cases o with
              | none =>
                dsimp only at hp8
                subst hp8
                have HN2 := Lib.hid (HNX.out rfl)
                clear HC HNX HYX hb6 hb7 hb8 hc8 hf8 hown6 hown7 hkp6 hkp7 hbl6 hbl7 hq6 hq7
                go_wp2
                go_roundw
                case rel => exact ⟨k + 1, by omega, by go_num, BN8, Lib.hid HN2.out⟩
                case measure => simp [intOf]; omega
              | some dd =>
                dsimp only at hp8
                obtain ⟨rfl, A9, c9, rfl, hR9⟩ := hp8
                have HO2 := Lib.hid (HYX.out dd rfl)
                clear HC HNX HYX hb6 hb7 hb8 hc8 hf8 hown6 hown7 hkp6 hkp7 hbl6 hbl7 hq6 hq7
                go_wp2
                go_ret2
                rw [HO2.out]
                exact ⟨_, _, rfl, BW8, rfl, A9, c9, rfl, hR9⟩
        · obtain rfl : k = l.length := by omega
          have hO := HFN.out HN.out
          have BW := below_tr BZ hbw
          go_wp2
          go_ret2
          rw [hO]
          exact plaP_no BW
end Go.Proofs.YtkeojokbpjdhpaaGreatDoor
namespace Go.Proofs.YtkeojokbpjdhpaaGreatDoor
open Go.RowKit Go.Shelf

/-- what Plan of the reference answers -/
def PlrP (l : List Pr) (s t : Sp) (w : World) (e : Ending) (w' : World) : Prop := Below w.heap.size w w' ∧
  ((askE l [s, t] ≠ 0 ∧ e = .returned (.tuple #[.slice none 0 0, .int .i64 (askE l [s, t])])) ∨
   (askE l [s, t] = 0 ∧ heldB (spL l) s = false ∧ e = .returned (.tuple #[.slice none 0 0, .int .i64 10])) ∨
   (askE l [s, t] = 0 ∧ heldB (spL l) s = true ∧ 12 < l.length ∧ e = .returned (.tuple #[.slice none 0 0, .int .i64 4])) ∨
   (askE l [s, t] = 0 ∧ heldB (spL l) s = true ∧ l.length ≤ 12 ∧ ((PlanIs l s t none ∧ e = .returned (.tuple #[.slice none 0 0, .int .i64 8])) ∨ ∃ ds A cp, PlanIs l s t (some ds) ∧ Rd zC 1 w' A ds ∧ e = .returned (.tuple #[.slice A ds.length cp, .int .i64 0]))))
set_option maxHeartbeats 8000000 in
set_option maxRecDepth 20000 in
theorem r_PlanR (A : Option Addr) (l : List Pr) (c : Nat) (s t : Sp) (w : World) (hl : l.length ≤ 100000) (hR : Rd Pr.cs 3 w A l) :
    Calls Tryz.prog 6 #[.slice A l.length c, spV s, spV t] w (PlrP l s t w) := by
  obtain ⟨W1, hW1⟩ : ∃ W1, W1 = (w.alloc (.cells (spA s) 24)).alloc (.cells (spA t) 24) := ⟨_, rfl⟩
  have x0 : Blk W1 w.heap.size 24 (spA s) := by rw [hW1]; exact (Blk.new w 24 (spA s)).alloc (.cells (spA t) 24)
  have y0 : Blk W1 (w.heap.size + 1) 24 (spA t) := by
    have := Blk.new (w.alloc (.cells (spA s) 24)) 24 (spA t)
    rw [World.size_alloc] at this
    rw [hW1]; exact this
  have B0 : Below w.heap.size w W1 := by rw [hW1]; exact bl_alloc (bl_alloc (below_refl w) (.cells (spA s) 24)) (.cells (spA t) 24)
  have HA := Lib.hid (fun (W : World) (hb : Below w.heap.size w W) (b : Nat) (hS : Rd Sp.cs 2 W (some ⟨b, 0, none⟩) [s, t]) => r_askedTwo A l s t c b W hl (hR.on hb) hS)
  have HO := Lib.hid (rd_two W1 s t)
  have B1 := bl_alloc B0 (.cells (spA2 s t) 24)
  have x1 := x0.alloc (.cells (spA2 s t) 24)
  have y1 := y0.alloc (.cells (spA2 s t) 24)
  have p0 := x0.cell 0
  have p1 := x0.cell 1
  have r0 := y0.cell 0
  have r1 := y0.cell 1
  simp only [List.getElem?_toArray, List.getElem?_cons_zero, List.getElem?_cons_succ] at p0 p1 r0 r1
  have l0 : (0 : Int) ≤ (l.length : Int) := Int.natCast_nonneg _
  by_cases he : askE l [s, t] = 0
  · have ⟨hv, hs, ht⟩ := askE_two he
    have hlv := vP_len hv
    have HS := Lib.hid (fun (W : World) (A : Option Addr) (c : Nat) (hR : Rd Sp.cs 2 W A (spL l)) => r_held A (spL l) c s W (by rw [spL_len]; have := vP_len hv; omega) (vP_bd hv) (isS_bd hs) hR)
    have HP := Lib.hid (fun (W : World) (hb : Below w.heap.size w W) => r_spots A l c W hl (hR.on hb))
    have HPN := Lib.hid (fun (W : World) (k : Nat) (hk : k ≤ 99) (hb : Below w.heap.size w W) => r_planned A l c s t hv hs ht k none 0 0 [] (List.replicate l.length true) W rfl (fun _ => ⟨rfl, rfl⟩) (by simp; omega) (thM_nil _) (fun x hx => by cases hx) (hR.on hb) (fun h => absurd rfl h))
    have HST : heldB (spL l) s = stM l s (List.replicate l.length true) := by unfold stM; rw [lfS_full]
    have HPF := Lib.hid (fun (h0 : heldB (spL l) s = true) (k : Nat) (d : List Int) (hno : ∀ j, j < k → plF l s t (j + 1) [] (List.replicate l.length true) = none) (h : plF l s t (k + 1) [] (List.replicate l.length true) = some d) => plF_found (HST ▸ h0) hno h)
    have HPZ := Lib.hid (fun (h0 : heldB (spL l) s = true) (hno : ∀ j, j < l.length → plF l s t (j + 1) [] (List.replicate l.length true) = none) => plF_none (HST ▸ h0) hno)
    have HAK := Lib.hid he
    rw [he] at HA
    clear HST hv hs ht he
    cases hh : heldB (spL l) s
    · rw [hh] at HS
      go_enter Tryz.func6, Tryz.ntmps6
      go_wp2_with fail
      have hz1 : W1.heap.size = w.heap.size + 1 + 1 := by rw [hW1]; simp
      have HO2 := Lib.hid (hz1 ▸ HO.out)
      have HZ := Lib.hid hz1
      clear hz1
      rw [show ((w.alloc (.cells #[.int .i64 s.x, .int .i64 s.y] 24)).alloc (.cells #[.int .i64 t.x, .int .i64 t.y] 24)) = W1 from hW1.symm]
      clear hW1
      refine (HA.out _ B1 _ HO2.out).mono ?_
      rintro e w1 ⟨rfl, hb1⟩
      have BX := below_tr B1 hb1
      have x2 := x1.below hb1 x1.lt
      replace p0 := x2.cell 0
      replace p1 := x2.cell 1
      simp only [List.getElem?_toArray, List.getElem?_cons_zero, List.getElem?_cons_succ] at p0 p1
      have lx := x2.lt
      clear x0 y0 x1 y1 B0 B1 hb1 HO HO2 HA r0 r1
      go_wp2_with fail
      refine wp_region_noPanic ?_
      refine wp_region_held_drew (S := (fun w' => (∀ b o, b < w1.heap.size → w'.cell? ⟨b, o, none⟩ = w1.cell? ⟨b, o, none⟩) ∧ (∀ b o, b < w1.heap.size → w'.frozen? ⟨b, o, none⟩ = w1.frozen? ⟨b, o, none⟩) ∧ Below w1.heap.size w1 w')) (by kernel_rfl) (kq_draw kq_refl) (fun hS0 => ?_)
      refine wpAnyH_take (i := 0) (oi := { dst := some 20, op := _, type := _, pos := _, after := _, guard := none }) (v := ?gv36) rfl (by kernel_rfl) (by kernel_rfl) (by kernel_rfl) (fun _ _ _ h => h) (Or.inl ⟨by rfl, ?gy36⟩) (by assumption) ?_
      case gy36 => (intro w' hSw; go_simp; try with_reducible rfl)
      try simp only [Act.put, List.setIfInBounds_toArray, List.set_cons_zero, List.set_cons_succ]
      refine wpAnyH_take (i := 2) (oi := { dst := some 22, op := _, type := _, pos := _, after := _, guard := none }) (v := ?gv37) rfl (by kernel_rfl) (by kernel_rfl) (by kernel_rfl) (fun _ _ _ h => h) (Or.inl ⟨by rfl, ?gy37⟩) (by assumption) ?_
      case gy37 => (intro w' hSw; go_simp; try with_reducible rfl)
      try simp only [Act.put, List.setIfInBounds_toArray, List.set_cons_zero, List.set_cons_succ]
      refine wpAnyH_ready (rs := [1]) (by kernel_rfl) (by simp) ?_
      refine AllReadyH.cons rfl (fun K hK => ?_) AllReadyH.nil
      go_simp
      (go_at_call 24; ((with_reducible refine (HP.out _ (by (repeat' (first | assumption | exact below_refl _ | refine bl_alloc ?_ _ | refine Below.setCell ?_ ?_ _ | refine below_draw ?_ | refine below_drewN ?_ _ | refine below_tr ?_ (by assumption))) <;> (first | omega | (simp; done) | (simp; omega)))).mono ?_); rintro e w3 ⟨v3, rfl, ho3, hb3⟩; obtain ⟨A3, c3, rfl, hR3⟩ := own_rd Sp.cs_len ho3; obtain ⟨hc3, hf3⟩ := bcell hb3; have hz3 := hb3.size; (try simp [sz_drew, sz_drewN] at hz3); (try simp only [sz_drew, sz_drewN] at hc3 hf3)))
      refine hK.out _ _ (by ((show Kq w1 _); (repeat' (first | assumption | exact kq_refl | refine kq_draw ?_ | refine kq_drewN ?_ | refine kq_alloc ?_ | refine kq_set ?_ ?_ | refine kq_step ?_ (by assumption))); (all_goals (first | omega | (simp; omega))))) (fun hS1 => ?_)
      clear hK K
      try simp only [Act.put, List.setIfInBounds_toArray, List.set_cons_zero, List.set_cons_succ]
      refine wpAnyH_ready (rs := [3]) (by kernel_rfl) (by simp) ?_
      refine AllReadyH.cons rfl (fun K hK => ?_) AllReadyH.nil
      go_simp
      (go_at_call 23; ((with_reducible refine (HS.out _ _ _ hR3).mono ?_); rintro e w4 ⟨rfl, hb4⟩; obtain ⟨hc4, hf4⟩ := bcell hb4; have hz4 := hb4.size; (try simp [sz_drew, sz_drewN] at hz4); (try simp only [sz_drew, sz_drewN] at hc4 hf4)))
      refine hK.out _ _ (by ((show Kq w1 _); (repeat' (first | assumption | exact kq_refl | refine kq_draw ?_ | refine kq_drewN ?_ | refine kq_alloc ?_ | refine kq_set ?_ ?_ | refine kq_step ?_ (by assumption))); (all_goals (first | omega | (simp; omega))))) (fun hS2 => ?_)
      clear hK K
      try simp only [Act.put, List.setIfInBounds_toArray, List.set_cons_zero, List.set_cons_succ]
      refine wpAnyH_take (i := 4) (oi := { dst := some 24, op := _, type := _, pos := _, after := _, guard := none }) (v := ?gv38) rfl (by kernel_rfl) (by kernel_rfl) (by kernel_rfl) (fun _ _ _ h => h) (Or.inl ⟨by rfl, ?gy38⟩) (by assumption) ?_
      case gy38 => (intro w' hSw; go_simp; try with_reducible rfl)
      try simp only [Act.put, List.setIfInBounds_toArray, List.set_cons_zero, List.set_cons_succ]
      refine wpAnyH_done (by kernel_rfl) (NoPanic.normal ?_) _
      have B14 : Below w1.heap.size w1 w4 := by (repeat' (first | assumption | exact below_refl _ | refine bl_alloc ?_ _ | refine Below.setCell ?_ ?_ _ | refine below_draw ?_ | refine below_drewN ?_ _ | refine below_tr ?_ (by assumption))) <;> (first | omega | (simp; done) | (simp; omega))
      have BZ := below_tr BX B14
      go_wp2
      go_ret2
      exact ⟨BZ, .inr (.inl ⟨HAK.out, hh, rfl⟩)⟩
    · rw [hh] at HS
      go_enter Tryz.func6, Tryz.ntmps6
      go_wp2_with fail
      have hz1 : W1.heap.size = w.heap.size + 1 + 1 := by rw [hW1]; simp
      have HO2 := Lib.hid (hz1 ▸ HO.out)
      have HZ := Lib.hid hz1
      clear hz1
      rw [show ((w.alloc (.cells #[.int .i64 s.x, .int .i64 s.y] 24)).alloc (.cells #[.int .i64 t.x, .int .i64 t.y] 24)) = W1 from hW1.symm]
      clear hW1
      refine (HA.out _ B1 _ HO2.out).mono ?_
      rintro e w1 ⟨rfl, hb1⟩
      have BX := below_tr B1 hb1
      have x2 := x1.below hb1 x1.lt
      have y2 := y1.below hb1 y1.lt
      replace p0 := x2.cell 0
      replace p1 := x2.cell 1
      simp only [List.getElem?_toArray, List.getElem?_cons_zero, List.getElem?_cons_succ] at p0 p1
      have lx := x2.lt
      clear x0 y0 x1 y1 B0 B1 hb1 HO HO2 HA r0 r1
      go_wp2_with fail
      refine wp_region_noPanic ?_
      refine wp_region_held_drew (S := (fun w' => (∀ b o, b < w1.heap.size → w'.cell? ⟨b, o, none⟩ = w1.cell? ⟨b, o, none⟩) ∧ (∀ b o, b < w1.heap.size → w'.frozen? ⟨b, o, none⟩ = w1.frozen? ⟨b, o, none⟩) ∧ Below w1.heap.size w1 w')) (by kernel_rfl) (kq_draw kq_refl) (fun hS0 => ?_)
      refine wpAnyH_take (i := 0) (oi := { dst := some 20, op := _, type := _, pos := _, after := _, guard := none }) (v := ?gv39) rfl (by kernel_rfl) (by kernel_rfl) (by kernel_rfl) (fun _ _ _ h => h) (Or.inl ⟨by rfl, ?gy39⟩) (by assumption) ?_
      case gy39 => (intro w' hSw; go_simp; try with_reducible rfl)
      try simp only [Act.put, List.setIfInBounds_toArray, List.set_cons_zero, List.set_cons_succ]
      refine wpAnyH_take (i := 2) (oi := { dst := some 22, op := _, type := _, pos := _, after := _, guard := none }) (v := ?gv40) rfl (by kernel_rfl) (by kernel_rfl) (by kernel_rfl) (fun _ _ _ h => h) (Or.inl ⟨by rfl, ?gy40⟩) (by assumption) ?_
      case gy40 => (intro w' hSw; go_simp; try with_reducible rfl)
      try simp only [Act.put, List.setIfInBounds_toArray, List.set_cons_zero, List.set_cons_succ]
      refine wpAnyH_ready (rs := [1]) (by kernel_rfl) (by simp) ?_
      refine AllReadyH.cons rfl (fun K hK => ?_) AllReadyH.nil
      go_simp
      (go_at_call 24; ((with_reducible refine (HP.out _ (by (repeat' (first | assumption | exact below_refl _ | refine bl_alloc ?_ _ | refine Below.setCell ?_ ?_ _ | refine below_draw ?_ | refine below_drewN ?_ _ | refine below_tr ?_ (by assumption))) <;> (first | omega | (simp; done) | (simp; omega)))).mono ?_); rintro e w3 ⟨v3, rfl, ho3, hb3⟩; obtain ⟨A3, c3, rfl, hR3⟩ := own_rd Sp.cs_len ho3; obtain ⟨hc3, hf3⟩ := bcell hb3; have hz3 := hb3.size; (try simp [sz_drew, sz_drewN] at hz3); (try simp only [sz_drew, sz_drewN] at hc3 hf3)))
      refine hK.out _ _ (by ((show Kq w1 _); (repeat' (first | assumption | exact kq_refl | refine kq_draw ?_ | refine kq_drewN ?_ | refine kq_alloc ?_ | refine kq_set ?_ ?_ | refine kq_step ?_ (by assumption))); (all_goals (first | omega | (simp; omega))))) (fun hS1 => ?_)
      clear hK K
      try simp only [Act.put, List.setIfInBounds_toArray, List.set_cons_zero, List.set_cons_succ]
      refine wpAnyH_ready (rs := [3]) (by kernel_rfl) (by simp) ?_
      refine AllReadyH.cons rfl (fun K hK => ?_) AllReadyH.nil
      go_simp
      (go_at_call 23; ((with_reducible refine (HS.out _ _ _ hR3).mono ?_); rintro e w4 ⟨rfl, hb4⟩; obtain ⟨hc4, hf4⟩ := bcell hb4; have hz4 := hb4.size; (try simp [sz_drew, sz_drewN] at hz4); (try simp only [sz_drew, sz_drewN] at hc4 hf4)))
      refine hK.out _ _ (by ((show Kq w1 _); (repeat' (first | assumption | exact kq_refl | refine kq_draw ?_ | refine kq_drewN ?_ | refine kq_alloc ?_ | refine kq_set ?_ ?_ | refine kq_step ?_ (by assumption))); (all_goals (first | omega | (simp; omega))))) (fun hS2 => ?_)
      clear hK K
      try simp only [Act.put, List.setIfInBounds_toArray, List.set_cons_zero, List.set_cons_succ]
      refine wpAnyH_take (i := 4) (oi := { dst := some 24, op := _, type := _, pos := _, after := _, guard := none }) (v := ?gv41) rfl (by kernel_rfl) (by kernel_rfl) (by kernel_rfl) (fun _ _ _ h => h) (Or.inl ⟨by rfl, ?gy41⟩) (by assumption) ?_
      case gy41 => (intro w' hSw; go_simp; try with_reducible rfl)
      try simp only [Act.put, List.setIfInBounds_toArray, List.set_cons_zero, List.set_cons_succ]
      refine wpAnyH_done (by kernel_rfl) (NoPanic.normal ?_) _
      have B14 : Below w1.heap.size w1 w4 := by (repeat' (first | assumption | exact below_refl _ | refine bl_alloc ?_ _ | refine Below.setCell ?_ ?_ _ | refine below_draw ?_ | refine below_drewN ?_ _ | refine below_tr ?_ (by assumption))) <;> (first | omega | (simp; done) | (simp; omega))
      have BZ := below_tr BX B14
      have x4 := x2.below B14 x2.lt
      have y4 := y2.below B14 y2.lt
      clear hb3 hb4 hc3 hf3 hc4 hf4 hz3 hz4 ho3 hR3 x2 y2 B14 p0 p1 lx HP HS hS0 hS1 hS2 BX
      by_cases h12 : 12 < l.length
      · have h12' : (12 : Int) < (l.length : Int) := by omega
        go_wp2
        go_ret2
        exact ⟨BZ, .inr (.inr (.inl ⟨HAK.out, hh, h12, rfl⟩))⟩
      · have h12' : ¬ (12 : Int) < (l.length : Int) := by omega
        have HHH := Lib.hid hh
        have HF := Lib.hid (HPF.out hh)
        have HZZ := Lib.hid (HPZ.out hh)
        clear hh HPF HPZ
        obtain ⟨G, hG⟩ : ∃ G : Nat → Option (List Int), G = fun k => plF l s t k [] (List.replicate l.length true) := ⟨_, rfl⟩
        have HG := Lib.hid (fun k => (show plF l s t k [] (List.replicate l.length true) = G k by rw [hG]))
        clear hG
        go_wp2
        go_loopw [9] (fun i wr => ∃ k : Nat, k ≤ l.length ∧ i = .int .i64 ((k : Int) + 1) ∧ Below w4.heap.size w4 wr ∧ Hid (∀ j, j < k → G (j + 1) = none)) (fun i _ => l.length + 1 - (intOf i).toNat)
        case atStart => exact ⟨0, by omega, rfl, below_refl _, Lib.hid (fun j hj => by omega)⟩
        case round =>
          obtain ⟨k, hk, rfl, hbw, HN⟩ := hrel
          have k0 : (0 : Int) ≤ (k : Int) := Int.natCast_nonneg _
          rename World => wr
          have BW := below_tr BZ hbw
          by_cases hlt : k < l.length
          · have k1 : (k : Int) + 1 ≤ (l.length : Int) := by omega
            have x5 := x4.below hbw x4.lt
            have y5 := y4.below hbw y4.lt
            have p0 := x5.cell 0
            have p1 := x5.cell 1
            have r0 := y5.cell 0
            have r1 := y5.cell 1
            simp only [List.getElem?_toArray, List.getElem?_cons_zero, List.getElem?_cons_succ] at p0 p1 r0 r1
            have lx5 := x5.lt
            have ly5 := y5.lt
            have HC := HPN.out wr (k + 1) (by omega) BW
            rw [HG.out (k + 1), show (((k + 1 : Nat)) : Int) = (k : Int) + 1 by omega] at HC
            have HCC := Lib.hid HC
            clear HC x4 y4 x5 y5
            go_wp2_with fail
            refine HCC.out.mono ?_
            rintro e w5 ⟨v, b, rfl, hb5, hp⟩
            have BV := below_tr BW hb5
            cases hg : G (k + 1) with
            | none =>
              rw [hg] at hp
              dsimp only at hp
              subst hp
              have HN2 := Lib.hid (show ∀ j, j < k + 1 → G (j + 1) = none from fun j hj => by
                by_cases e : j = k
                · rw [e]; exact hg
                · exact HN.out j (by omega))
              clear hg HCC
              go_wp2
              go_roundw
              case rel => exact ⟨k + 1, by omega, by go_num, below_tr hbw hb5, Lib.hid HN2.out⟩
              case measure => simp [intOf]; omega
            | some dd =>
              rw [hg] at hp
              dsimp only at hp
              obtain ⟨rfl, A5, c5, rfl, hR5⟩ := hp
              have HPI := Lib.hid (HF.out k dd (fun j hj => (HG.out _).trans (HN.out j hj)) ((HG.out _).trans hg))
              clear hg HCC
              go_wp2
              go_ret2
              exact ⟨BV, .inr (.inr (.inr ⟨HAK.out, HHH.out, by omega, .inr ⟨dd, A5, c5, HPI.out, hR5, rfl⟩⟩))⟩
          · obtain rfl : k = l.length := by omega
            have HPI := Lib.hid (HZZ.out (fun j hj => (HG.out _).trans (HN.out j hj)))
            go_wp2
            go_ret2
            exact ⟨BW, .inr (.inr (.inr ⟨HAK.out, HHH.out, by omega, .inl ⟨HPI.out, rfl⟩⟩))⟩
  · have hn := he
    have HAK := Lib.hid he
    obtain ⟨E, hE⟩ : ∃ E, E = askE l [s, t] := ⟨_, rfl⟩
    rw [← hE] at HA hn
    have HEE := Lib.hid hE
    clear he hE
    go_enter Tryz.func6, Tryz.ntmps6
    go_wp2_with fail
    have hz1 : W1.heap.size = w.heap.size + 1 + 1 := by rw [hW1]; simp
    have HO2 := Lib.hid (hz1 ▸ HO.out)
    have HZ := Lib.hid hz1
    clear hz1
    rw [show ((w.alloc (.cells #[.int .i64 s.x, .int .i64 s.y] 24)).alloc (.cells #[.int .i64 t.x, .int .i64 t.y] 24)) = W1 from hW1.symm]
    clear hW1
    refine (HA.out _ B1 _ HO2.out).mono ?_
    rintro e w1 ⟨rfl, hb1⟩
    have BX := below_tr B1 hb1
    clear x0 y0 x1 y1 B0 B1 hb1 HO HO2 HA p0 p1 r0 r1
    have hnb : (E == 0) = false := by simpa using hn
    go_wp2
    go_ret2
    exact ⟨BX, .inl ⟨HAK.out, by rw [← HEE.out]; rfl⟩⟩
end Go.Proofs.YtkeojokbpjdhpaaGreatDoor
namespace Go.Proofs.YtkeojokbpjdhpaaGreatDoor
open Go.RowKit Go.Shelf

set_option maxHeartbeats 1000000 in
set_option maxRecDepth 20000 in
theorem r_sameIntsD (A B : Option Addr) (l : List Int) (c d : Nat) (w : World) (hl : l.length ≤ 100000) (hA : Rd zC 1 w A l) (hB : Rd zC 1 w B l) :
    Calls Tryz.prog 7 #[.slice A l.length c, .slice B l.length d] w fun e w' => e = .returned (.bool true) ∧ Below w.heap.size w w' := by
  go_enter Tryz.func7, Tryz.ntmps7
  go_wp2
  go_loopw [5] (fun i wr => ∃ k : Nat, k ≤ l.length ∧ i = .int .i64 k ∧ Below w.heap.size w wr) (fun i _ => l.length - (intOf i).toNat)
  case atStart => exact ⟨0, by omega, rfl, below_refl _⟩
  case round =>
    obtain ⟨k, hk, rfl, hbw⟩ := hrel
    by_cases hlt : k < l.length
    · obtain ⟨x, b, off, hx, rfl, hb, c0⟩ := rd_int (hA.on hbw) hlt
      obtain ⟨y, b', off', hy, rfl, hb', d0⟩ := rd_int (hB.on hbw) hlt
      obtain rfl : x = y := by rw [hx] at hy; exact Option.some.inj hy
      have k0 : (0 : Int) ≤ (k : Int) := Int.natCast_nonneg _
      have k1 : (k : Int) < (l.length : Int) := by omega
      clear hx hy
      go_wp2
      go_quiet (fail)
      go_wp2
      go_roundw
      case rel => exact ⟨k + 1, by omega, by go_num, below_drewN hbw _⟩
      case measure => simp [intOf]; omega
    · obtain rfl : k = l.length := by omega
      go_wp2
      go_ret
      exact ⟨rfl, hbw⟩

/-- what is left behind deeds -/
def toR (l : List Pr) (ds : List Int) : List Pr := if aftE l ds = 0 then RL l (afM l ds) else []
def toB (l : List Pr) (s t : Sp) (ds : List Int) : Bool := decide (aftE l ds = 0) && (decide (twE (toR l ds) s t = 0) && twD (toR l ds) s t)
theorem toR_len (l : List Pr) (ds : List Int) : (toR l ds).length = (aftL l ds).length := by
  unfold toR aftL
  split
  · unfold RL nZ; rw [List.length_map, List.length_map]
  · rfl
theorem aftE_some {l : List Pr} {ds : List Int} (h : aftE l ds = 0) : vP l = true ∧ ∃ M, aftO l ds = some M ∧ afM l ds = M ∧ M.length = l.length := by
  unfold aftE at h
  split at h
  · rename_i hv
    split at h
    · split at h
      · rename_i M hM
        refine ⟨hv, M, hM, ?_, thM_len' hM⟩
        unfold afM; unfold aftO at hM; rw [hM]; rfl
      · cases h
    · cases h
  · cases h
theorem toR_get {l : List Pr} {ds : List Int} : ∀ k, k < (aftL l ds).length → ∃ j, (aftL l ds)[k]? = some ((j : Nat) : Int) ∧ j < l.length ∧ (toR l ds)[k]? = some (prAt l j) := fun k hk => by
  unfold aftL at hk ⊢
  unfold toR
  split at hk
  · rename_i h
    rw [if_pos h, if_pos h]
    obtain ⟨_, M, _, hM, hml⟩ := aftE_some h
    rw [hM] at hk ⊢
    have hk' : k < (mM M).length := by unfold nZ at hk; rwa [List.length_map] at hk
    obtain ⟨j, hj⟩ := get_lt hk'
    refine ⟨j, by unfold nZ; rw [List.getElem?_map, hj]; rfl, ?_, by unfold RL; rw [List.getElem?_map, hj]; rfl⟩
    have := (mem_mM.1 (List.mem_of_getElem? hj)).1
    omega
  · simp at hk
theorem aftL_len (l : List Pr) (ds : List Int) : (aftL l ds).length ≤ l.length := by
  unfold aftL
  split
  · rename_i h
    obtain ⟨_, M, _, hM, hml⟩ := aftE_some h
    have := mM_len M
    unfold nZ
    rw [List.length_map, hM]; omega
  · simp
set_option maxHeartbeats 4000000 in
set_option maxRecDepth 20000 in
theorem l_towards (A B : Option Addr) (l : List Pr) (s t : Sp) (ds : List Int) (c d : Nat) (w : World) (hl : l.length ≤ 100) (hd : ds.length ≤ 100000) (hT : Tab w) (hR : Rd Pr.cs 3 w A l) (hB : Rd zC 1 w B ds) :
    Calls Tryz.prog 9 #[.slice A l.length c, spV s, spV t, .slice B ds.length d] w fun e w' => e = .returned (.bool (toB l s t ds)) ∧ Below w.heap.size w w' := by
  obtain ⟨W1, hW1⟩ : ∃ W1, W1 = (w.alloc (.cells (spA s) 24)).alloc (.cells (spA t) 24) := ⟨_, rfl⟩
  have x0 : Blk W1 w.heap.size 24 (spA s) := by rw [hW1]; exact (Blk.new w 24 (spA s)).alloc (.cells (spA t) 24)
  have y0 : Blk W1 (w.heap.size + 1) 24 (spA t) := by
    have := Blk.new (w.alloc (.cells (spA s) 24)) 24 (spA t)
    rw [World.size_alloc] at this
    rw [hW1]; exact this
  have B0 : Below w.heap.size w W1 := by rw [hW1]; exact bl_alloc (bl_alloc (below_refl w) (.cells (spA s) 24)) (.cells (spA t) 24)
  have HAF := Lib.hid (p_After A B l ds c d W1 hl hd (TabAt.on hT B0) (hR.on B0) (hB.on B0))
  have hTB : toB l s t ds = (decide (aftE l ds = 0) && (decide (twE (toR l ds) s t = 0) && twD (toR l ds) s t)) := rfl
  have HLZ := Lib.hid (@toR_get l ds)
  have hRL := toR_len l ds
  have hm6 := aftL_len l ds
  unfold AftP at HAF
  rw [hTB]
  clear hTB hd
  have hlz : (aftL l ds).length ≤ 100 := by omega
  generalize aftL l ds = LZ at *
  generalize toR l ds = RR at *
  generalize aftE l ds = E1 at *
  have HEN := Lib.hid (fun (W : World) (A : Option Addr) (c : Nat) (hR : Rd Pr.cs 3 W A RR) => p_Towards A RR c s t W (by omega) vP_len hR)
  generalize twE RR s t = E2 at *
  generalize twD RR s t = D at *
  obtain ⟨i0, hi, hi1, hi2, hi3⟩ := info_prop
  have hSN := Lib.hid (fun k x (h : RR[k]? = some x) => (show RR.take (k + 1) = RR.take k ++ [x] by rw [List.take_add_one, h]; rfl))
  have l0 : (0 : Int) ≤ (l.length : Int) := Int.natCast_nonneg _
  go_enter Tryz.func9, Tryz.ntmps9
  go_wp2_with fail
  rw [show ((w.alloc (.cells #[.int .i64 s.x, .int .i64 s.y] 24)).alloc (.cells #[.int .i64 t.x, .int .i64 t.y] 24)) = W1 from hW1.symm]
  clear hW1
  refine HAF.out.mono ?_
  rintro e w6 ⟨v6, rfl, ho6, hb6⟩
  obtain ⟨A6, c6, rfl, hR6⟩ := own_ints ho6
  have B6 := below_tr B0 hb6
  have x6 := x0.below hb6 x0.lt
  have y6 := y0.below hb6 y0.lt
  have ld0 : (0 : Int) ≤ (LZ.length : Int) := Int.natCast_nonneg _
  clear x0 y0 B0 hb6 HAF ho6
  have z6 := B6.size
  go_wp2
  go_loopw [11, 12] (fun v i wr => ∃ k : Nat, k ≤ LZ.length ∧ i = .int .i64 k ∧ Below w6.heap.size w6 wr ∧ wr.ownsRow w6.heap.size 34 3 v k (fl Pr.cs (RR.take k))) (fun _ i _ => LZ.length - (intOf i).toNat)
  case atStart => exact ⟨0, by omega, rfl, below_refl _, by simp [fl]; exact World.ownsRow_nil w6 _ _ _⟩
  case round =>
    obtain ⟨k, hk, rfl, hbw, hown⟩ := hrel
    obtain ⟨ad, cp7, rfl⟩ := ownsRow_slice hown
    have k0 : (0 : Int) ≤ (k : Int) := Int.natCast_nonneg _
    have hws := hbw.size
    by_cases hlt : k < LZ.length
    · have k1 : (k : Int) < (LZ.length : Int) := by omega
      obtain ⟨j, hj1, hj2, hj3⟩ := HLZ.out k hlt
      obtain ⟨x, b1, off1, hx, rfl, hb1, c0⟩ := rd_int (hR6.on hbw) hlt
      obtain rfl : x = (j : Int) := by rw [hj1] at hx; injection hx with hx; exact hx.symm
      have j0 : (0 : Int) ≤ (j : Int) := Int.natCast_nonneg _
      have j1 : (j : Int) < (l.length : Int) := by omega
      obtain ⟨p, b2, off2, hp, rfl, hb2, d0, d1, d2⟩ := rdP (hR.on (below_tr B6 hbw)) hj2
      have HS := Lib.hid (hSN.out k p (by rw [hj3]; unfold prAt; rw [hp]; rfl))
      rename World => wr
      clear hx hp hj1 hj3
      go_wp2_with (at_builtin; refine wpList_append_own _ rfl _ _ 22 rfl w6.heap.size 34 i0 (.agg #[.int .i64 0, .int .i64 0, .bool false]) 3 24 (by kernel_rfl) hi hi1 hi2 hi3 rfl (by omega) _ _ _ rfl (hown.alloc _) ⟨wr.heap.size, 0, none⟩ 1 1 (Pr.cs p) rfl rfl (cells_new wr (Pr.cs p) 34) (prC_oneP p) (by unfold maxLen; omega) (by omega) (by simp; omega) ?_; intro v' w9 hown9 hgrow _)
      go_roundw
      case rel => exact ⟨k + 1, by omega, by go_num, bl_app hbw hown hgrow (Nat.le_refl _) hbw.size, by rw [HS.out, fl_snocPr]; exact hown9⟩
      case measure => simp [intOf]; omega
    · obtain rfl : k = LZ.length := by omega
      rename World => w7
      have BN := below_tr B6 hbw
      have x7 := x6.below hbw x6.lt
      have y7 := y6.below hbw y6.lt
      have hown7 : w7.ownsRow w6.heap.size 34 3 (.slice ad RR.length cp7) RR.length (fl Pr.cs RR) := by
        have := hown
        rw [← hRL, List.take_length] at this
        exact this
      have hRN := own_rd' Pr.cs_len hown7
      have HTW := Lib.hid (HEN.out w7 ad cp7 hRN)
      have p0 := x7.cell 0
      have p1 := x7.cell 1
      have r0 := y7.cell 0
      have r1 := y7.cell 1
      simp only [List.getElem?_toArray, List.getElem?_cons_zero, List.getElem?_cons_succ] at p0 p1 r0 r1
      have lx := x7.lt
      have ly := y7.lt
      rw [← hRL]
      clear hRL x6 y6 B6 hown hown7 hlt hm6 HLZ hR6 hlz hk
      go_wp2_with fail
      refine HTW.out.mono ?_
      rintro e w8 ⟨rfl, hb8⟩
      have B8 := below_tr BN hb8
      clear HTW HEN x7 y7 p0 p1 r0 r1 lx ly
      by_cases h1 : E1 = 0
      · subst h1
        by_cases h2 : E2 = 0
        · subst h2
          go_wp2
          go_ret
          exact ⟨rfl, B8⟩
        · have h2b : (E2 == 0) = false := by simpa using h2
          go_wp2
          go_ret
          exact ⟨ret_bool (by simp [h2]), B8⟩
      · have h1b : (E1 == 0) = false := by simpa using h1
        go_wp2
        go_ret
        exact ⟨ret_bool (by simp [h1]), B8⟩
end Go.Proofs.YtkeojokbpjdhpaaGreatDoor
namespace Go.Proofs.YtkeojokbpjdhpaaGreatDoor
open Go.ChangeShapes Go.WideShapes Go.ChangeAt Go.RowKit Go.Deep Go.Joins
section
variable {H : Type} {enc : TypeId × Value → H} {w : World} {base : Nat} {spare : Nat → Bool} {held : Bool}
theorem dec_int1 (n : Nat) (cs : List Value) (x) (h : DataW.trod enc Tryz.prog w base spare held n 3 cs = some x) : ∃ a : Int, cs = zC a ∧ True := by
  obtain ⟨a, e, _⟩ := dec_int Tryz.underlying3 _ _ _ h
  exact ⟨a, e, trivial⟩
end
end Go.Proofs.YtkeojokbpjdhpaaGreatDoor
namespace Go.Proofs.YtkeojokbpjdhpaaGreatDoor
open Go.RowKit Go.Shelf

theorem toB_fall {l : List Pr} {s t : Sp} {ds : List Int} (hv : vP l = true) (hs : isS s = true) (ht : isS t = true) (h : aftE l ds = 0) : toB l s t ds = fallM l s t (afM l ds) := by
  obtain ⟨_, M, _, hM, hml⟩ := aftE_some h
  have hr : toR l ds = lfK l M l.length := by unfold toR; rw [if_pos h, hM]; unfold lfK RL mM; rw [hml]
  unfold toB
  rw [hr, hM, decide_eq_true h, Bool.true_and]
  exact tw_fall hv hs ht hml
/-- what Plan answers: deeds and error -/
def PlE (l : List Pr) (s t : Sp) (dO : List Int) (E : Int) : Prop :=
  (askE l [s, t] ≠ 0 ∧ dO = [] ∧ E = askE l [s, t]) ∨
  (askE l [s, t] = 0 ∧ heldB (spL l) s = false ∧ dO = [] ∧ E = 10) ∨
  (askE l [s, t] = 0 ∧ heldB (spL l) s = true ∧ 12 < l.length ∧ dO = [] ∧ E = 4) ∨
  (askE l [s, t] = 0 ∧ heldB (spL l) s = true ∧ l.length ≤ 12 ∧ PlanIs l s t none ∧ dO = [] ∧ E = 8) ∨
  (askE l [s, t] = 0 ∧ heldB (spL l) s = true ∧ l.length ≤ 12 ∧ PlanIs l s t (some dO) ∧ E = 0)
theorem ple_uniq {l : List Pr} {s t : Sp} {d d' : List Int} {E E' : Int} (h : PlE l s t d E) (h' : PlE l s t d' E') : d = d' ∧ E = E' := by
  rcases h with ⟨a, rfl, rfl⟩ | ⟨a, b, rfl, rfl⟩ | ⟨a, b, c, rfl, rfl⟩ | ⟨a, b, c, p, rfl, rfl⟩ | ⟨a, b, c, p, rfl⟩ <;>
    rcases h' with ⟨a', rfl, rfl⟩ | ⟨a', b', rfl, rfl⟩ | ⟨a', b', c', rfl, rfl⟩ | ⟨a', b', c', p', rfl, rfl⟩ | ⟨a', b', c', p', rfl⟩ <;>
    first
    | exact ⟨rfl, rfl⟩
    | exact absurd a' a
    | exact absurd a a'
    | exact absurd (b.symm.trans b') (by decide)
    | (exfalso; omega)
    | (have := planIs_uniq p p'; cases this; exact ⟨rfl, rfl⟩)
    | (have := planIs_uniq p p'; cases this)
theorem ple_law {l : List Pr} {s t : Sp} {d ds : List Int} {E : Int} (h : PlE l s t d E) :
    (E = 0 ∧ feB l s d = true ∧ toB l s t d = true ∧ (feB l s ds = true → toB l s t ds = true → d.length ≤ ds.length)) ∨ (E = 8 ∧ (feB l s ds = false ∨ toB l s t ds = false)) ∨ ((E == 0) = false ∧ (E == 8) = false) := by
  have full : askE l [s, t] = 0 → heldB (spL l) s = true → feB l s ds = true → toB l s t ds = true → ∃ e, Plans l s t e ∧ e.length ≤ ds.length := fun ha hh h1 h2 => by
    obtain ⟨hv, hs, ht⟩ := askE_two ha
    have h3 : aftE l ds = 0 := by
      unfold toB at h2
      simp only [Bool.and_eq_true, decide_eq_true_eq] at h2
      exact h2.1
    rw [toB_fall hv hs ht h3] at h2
    exact deeds_plan (by unfold stM; rw [lfS_full]; exact hh) h1 h2
  rcases h with ⟨a, rfl, rfl⟩ | ⟨a, b, rfl, rfl⟩ | ⟨a, b, c, rfl, rfl⟩ | ⟨a, b, c, p, rfl, rfl⟩ | ⟨a, b, c, p, rfl⟩
  · refine .inr (.inr ⟨by simpa using a, ?_⟩)
    unfold askE at a ⊢
    split
    · split
      · rename_i h1 h2; rw [if_pos h1, if_pos h2] at a; exact absurd rfl a
      · rfl
    · rfl
  · exact .inr (.inr ⟨rfl, rfl⟩)
  · exact .inr (.inr ⟨rfl, rfl⟩)
  · refine .inr (.inl ⟨rfl, ?_⟩)
    cases h1 : feB l s ds
    · exact .inl rfl
    · cases h2 : toB l s t ds
      · exact .inr rfl
      · obtain ⟨e, he, _⟩ := full a b h1 h2
        exact absurd he (p e)
  · obtain ⟨hv, hs, ht⟩ := askE_two a
    refine .inl ⟨rfl, plans_fe hv hs p.1, ?_, fun h1 h2 => ?_⟩
    · obtain ⟨M, hM, hao, hfm, hls, _⟩ := plans_after (by omega) p.1
      have ha1 : aftE l d = 0 := by unfold aftE; rw [if_pos hv, if_pos hls, hao]
      rw [toB_fall hv hs ht ha1]
      have : afM l d = M := by unfold afM; unfold aftO at hao; rw [hao]; rfl
      rw [this]; exact hfm
    · obtain ⟨e, he, hle⟩ := full a b h1 h2
      have := (p.2 e he).1
      omega
def PlV (l : List Pr) (s t : Sp) (w : World) (e : Ending) (w' : World) : Prop := ∃ dO E A c, PlE l s t dO E ∧ e = .returned (.tuple #[.slice A dO.length c, .int .i64 E]) ∧ Rd zC 1 w' A dO ∧ Below w.heap.size w w'
theorem rd_noZ (w : World) : Rd zC 1 w none [] := fun h => absurd rfl h
theorem p_PlanV (A : Option Addr) (l : List Pr) (c : Nat) (s t : Sp) (w : World) (hl : l.length ≤ 100000) (hT : Tab w) (hR : Rd Pr.cs 3 w A l) :
    Calls Tryz.prog 5 #[.slice A l.length c, spV s, spV t] w (PlV l s t w) := by
  refine (p_Plan A l c s t w hl hT hR).mono ?_
  rintro e w' ⟨hb, h⟩
  rcases h with ⟨a, rfl⟩ | ⟨a, b, rfl⟩ | ⟨a, b, k, rfl⟩ | ⟨a, b, k, ⟨p, rfl⟩ | ⟨ds, g, cp, p, hli, rfl⟩⟩
  · exact ⟨[], _, none, 0, .inl ⟨a, rfl, rfl⟩, rfl, rd_noZ w', hb⟩
  · exact ⟨[], _, none, 0, .inr (.inl ⟨a, b, rfl, rfl⟩), rfl, rd_noZ w', hb⟩
  · exact ⟨[], _, none, 0, .inr (.inr (.inl ⟨a, b, k, rfl, rfl⟩)), rfl, rd_noZ w', hb⟩
  · exact ⟨[], _, none, 0, .inr (.inr (.inr (.inl ⟨a, b, k, p, rfl, rfl⟩))), rfl, rd_noZ w', hb⟩
  · exact ⟨ds, _, _, cp, .inr (.inr (.inr (.inr ⟨a, b, k, p, rfl⟩))), rfl, hli.rd, hb⟩
theorem r_PlanV (A : Option Addr) (l : List Pr) (c : Nat) (s t : Sp) (w : World) (hl : l.length ≤ 100000) (hR : Rd Pr.cs 3 w A l) :
    Calls Tryz.prog 6 #[.slice A l.length c, spV s, spV t] w (PlV l s t w) := by
  refine (r_PlanR A l c s t w hl hR).mono ?_
  rintro e w' ⟨hb, h⟩
  rcases h with ⟨a, rfl⟩ | ⟨a, b, rfl⟩ | ⟨a, b, k, rfl⟩ | ⟨a, b, k, ⟨p, rfl⟩ | ⟨ds, A', cp, p, hrd, rfl⟩⟩
  · exact ⟨[], _, none, 0, .inl ⟨a, rfl, rfl⟩, rfl, rd_noZ w', hb⟩
  · exact ⟨[], _, none, 0, .inr (.inl ⟨a, b, rfl, rfl⟩), rfl, rd_noZ w', hb⟩
  · exact ⟨[], _, none, 0, .inr (.inr (.inl ⟨a, b, k, rfl, rfl⟩)), rfl, rd_noZ w', hb⟩
  · exact ⟨[], _, none, 0, .inr (.inr (.inr (.inl ⟨a, b, k, p, rfl, rfl⟩))), rfl, rd_noZ w', hb⟩
  · exact ⟨ds, _, _, cp, .inr (.inr (.inr (.inr ⟨a, b, k, p, rfl⟩))), rfl, hrd, hb⟩
theorem ple_len {l : List Pr} {s t : Sp} {d : List Int} {E : Int} (h : PlE l s t d E) : d.length ≤ 100 := by
  rcases h with ⟨_, rfl, _⟩ | ⟨_, _, rfl, _⟩ | ⟨_, _, _, rfl, _⟩ | ⟨_, _, _, _, rfl, _⟩ | ⟨_, _, k, p, _⟩
  any_goals simp
  have := (plans_pos p.1).2
  omega

set_option maxHeartbeats 8000000 in
set_option maxRecDepth 20000 in
theorem l_FellPlans (A B : Option Addr) (l : List Pr) (s t : Sp) (ds : List Int) (c d : Nat) (w : World) (hl : l.length ≤ maxLen) (hd : ds.length ≤ maxLen) (hT : Tab w) (hR : Rd Pr.cs 3 w A l) (hB : Rd zC 1 w B ds) :
    Calls Tryz.prog 3 #[.slice A l.length c, spV s, spV t, .slice B ds.length d] w fun e w' => e = .returned (.bool true) ∧ Below w.heap.size w w' := by
  obtain ⟨W1, hW1⟩ : ∃ W1, W1 = (w.alloc (.cells (spA s) 24)).alloc (.cells (spA t) 24) := ⟨_, rfl⟩
  have x0 : Blk W1 w.heap.size 24 (spA s) := by rw [hW1]; exact (Blk.new w 24 (spA s)).alloc (.cells (spA t) 24)
  have y0 : Blk W1 (w.heap.size + 1) 24 (spA t) := by
    have := Blk.new (w.alloc (.cells (spA s) 24)) 24 (spA t)
    rw [World.size_alloc] at this
    rw [hW1]; exact this
  have B0 : Below w.heap.size w W1 := by rw [hW1]; exact bl_alloc (bl_alloc (below_refl w) (.cells (spA s) 24)) (.cells (spA t) 24)
  have HAW := Lib.hid l_awake
  unfold maxLen at hl hd
  by_cases hsk : (6 < l.length ∧ l.length ≤ 12) ∨ 30 < l.length ∨ 40 < ds.length
  · rcases (by omega : (6 < l.length ∧ l.length ≤ 12) ∨ 30 < l.length ∨ (l.length ≤ 6 ∧ 40 < ds.length) ∨ (12 < l.length ∧ l.length ≤ 30 ∧ 40 < ds.length)) with ⟨h1, h2⟩ | h1 | ⟨h1, h2⟩ | ⟨h1, h2, h3⟩
    · have d1 : decide (6 < (l.length : Int)) = true := decide_eq_true (by omega)
      have d2 : decide ((l.length : Int) ≤ 12) = true := decide_eq_true (by omega)
      clear x0 y0
      go_enter Tryz.func3, Tryz.ntmps3
      go_wp2_with fail
      rw [show ((w.alloc (.cells #[.int .i64 s.x, .int .i64 s.y] 24)).alloc (.cells #[.int .i64 t.x, .int .i64 t.y] 24)) = W1 from hW1.symm]
      refine (HAW.out _).mono ?_
      rintro e w1 ⟨rfl, hb1⟩
      go_wp2
      go_ret
      exact ⟨rfl, below_tr B0 hb1⟩
    · have d1 : decide (6 < (l.length : Int)) = true := decide_eq_true (by omega)
      have d2 : decide ((l.length : Int) ≤ 12) = false := decide_eq_false (by omega)
      have d3 : decide (30 < (l.length : Int)) = true := decide_eq_true (by omega)
      clear x0 y0
      go_enter Tryz.func3, Tryz.ntmps3
      go_wp2_with fail
      rw [show ((w.alloc (.cells #[.int .i64 s.x, .int .i64 s.y] 24)).alloc (.cells #[.int .i64 t.x, .int .i64 t.y] 24)) = W1 from hW1.symm]
      refine (HAW.out _).mono ?_
      rintro e w1 ⟨rfl, hb1⟩
      go_wp2
      go_ret
      exact ⟨rfl, below_tr B0 hb1⟩
    · have d1 : decide (6 < (l.length : Int)) = false := decide_eq_false (by omega)
      have d3 : decide (30 < (l.length : Int)) = false := decide_eq_false (by omega)
      have d4 : decide (40 < (ds.length : Int)) = true := decide_eq_true (by omega)
      clear x0 y0
      go_enter Tryz.func3, Tryz.ntmps3
      go_wp2_with fail
      rw [show ((w.alloc (.cells #[.int .i64 s.x, .int .i64 s.y] 24)).alloc (.cells #[.int .i64 t.x, .int .i64 t.y] 24)) = W1 from hW1.symm]
      refine (HAW.out _).mono ?_
      rintro e w1 ⟨rfl, hb1⟩
      go_wp2
      go_ret
      exact ⟨rfl, below_tr B0 hb1⟩
    · have d1 : decide (6 < (l.length : Int)) = true := decide_eq_true (by omega)
      have d2 : decide ((l.length : Int) ≤ 12) = false := decide_eq_false (by omega)
      have d3 : decide (30 < (l.length : Int)) = false := decide_eq_false (by omega)
      have d4 : decide (40 < (ds.length : Int)) = true := decide_eq_true (by omega)
      clear x0 y0
      go_enter Tryz.func3, Tryz.ntmps3
      go_wp2_with fail
      rw [show ((w.alloc (.cells #[.int .i64 s.x, .int .i64 s.y] 24)).alloc (.cells #[.int .i64 t.x, .int .i64 t.y] 24)) = W1 from hW1.symm]
      refine (HAW.out _).mono ?_
      rintro e w1 ⟨rfl, hb1⟩
      go_wp2
      go_ret
      exact ⟨rfl, below_tr B0 hb1⟩
  · have h30 : l.length ≤ 30 := by omega
    have h40 : ds.length ≤ 40 := by omega
    have d3 : decide (30 < (l.length : Int)) = false := decide_eq_false (by omega)
    have d4 : decide (40 < (ds.length : Int)) = false := decide_eq_false (by omega)
    have HP1 := Lib.hid (fun (W : World) (hb : Below w.heap.size w W) => p_PlanV A l c s t W (by omega) (TabAt.on hT hb) (hR.on hb))
    have HP2 := Lib.hid (fun (W : World) (hb : Below w.heap.size w W) => r_PlanV A l c s t W (by omega) (hR.on hb))
    have HF1 := Lib.hid (fun (W : World) (hb : Below w.heap.size w W) (B' : Option Addr) (e : List Int) (d' : Nat) (he : e.length ≤ 100) (hr : Rd zC 1 W B' e) => p_Fells A B' l s e c d' W (by omega) (by omega) (TabAt.on hT hb) (hR.on hb) hr)
    have HT1 := Lib.hid (fun (W : World) (hb : Below w.heap.size w W) (B' : Option Addr) (e : List Int) (d' : Nat) (he : e.length ≤ 100) (hr : Rd zC 1 W B' e) => l_towards A B' l s t e c d' W (by omega) (by omega) (TabAt.on hT hb) (hR.on hb) hr)
    have HLW := Lib.hid (fun dO E (h : PlE l s t dO E) => (ple_law h (ds := ds)))
    have HBB := Lib.hid (fun (W : World) (hb : Below w.heap.size w W) => hB.on hb)
    have HUN := Lib.hid (fun d E d' E' (h : PlE l s t d E) (h' : PlE l s t d' E') => ple_uniq h h')
    have HLE := Lib.hid (fun d E (h : PlE l s t d E) => ple_len h)
    have hds : ds.length ≤ 100 := by omega
    rcases (by omega : l.length ≤ 6 ∨ 12 < l.length) with h1 | h1
    · have d1 : decide (6 < (l.length : Int)) = false := decide_eq_false (by omega)
      clear hsk hl hd hT hR hB h30 h40 h1
      go_enter Tryz.func3, Tryz.ntmps3
      go_wp2_with fail
      rw [show ((w.alloc (.cells #[.int .i64 s.x, .int .i64 s.y] 24)).alloc (.cells #[.int .i64 t.x, .int .i64 t.y] 24)) = W1 from hW1.symm]
      clear hW1
      refine (HAW.out _).mono ?_
      rintro e w1 ⟨rfl, hb1⟩
      have B1 := below_tr B0 hb1
      have x1 := x0.below hb1 x0.lt
      have y1 := y0.below hb1 y0.lt
      have p0 := x1.cell 0
      have p1 := x1.cell 1
      have r0 := y1.cell 0
      have r1 := y1.cell 1
      simp only [List.getElem?_toArray, List.getElem?_cons_zero, List.getElem?_cons_succ] at p0 p1 r0 r1
      have lx := x1.lt
      have ly := y1.lt
      clear x0 y0 B0 hb1
      go_wp2_with fail
      refine (HP1.out _ B1).mono ?_
      rintro e w2 ⟨dO, E, A2, c2, hE2, rfl, hr2, hb2⟩
      have B2 := below_tr B1 hb2
      have x2 := x1.below hb2 x1.lt
      have y2 := y1.below hb2 y1.lt
      replace p0 := x2.cell 0
      replace p1 := x2.cell 1
      replace r0 := y2.cell 0
      replace r1 := y2.cell 1
      simp only [List.getElem?_toArray, List.getElem?_cons_zero, List.getElem?_cons_succ] at p0 p1 r0 r1
      replace lx := x2.lt
      replace ly := y2.lt
      clear x1 y1 B1 hb2 HP1
      go_wp2_with fail
      refine (HP2.out _ B2).mono ?_
      rintro e w3 ⟨dP, F, A3, c3, hE3, rfl, hr3, hb3⟩
      obtain ⟨rfl, rfl⟩ := HUN.out _ _ _ _ hE2 hE3
      have hdO := HLE.out _ _ hE2
      have B3 := below_tr B2 hb3
      have x3 := x2.below hb3 x2.lt
      have y3 := y2.below hb3 y2.lt
      have HSM := Lib.hid (r_sameIntsD A2 A3 dO c2 c3 w3 (by omega) (hr2.on hb3) hr3)
      have hr33 := hr2.on hb3
      have HLW2 := Lib.hid (HLW.out _ _ hE2)
      clear x2 y2 B2 hb3 HP2 HUN HLE HLW hE2 hE3 hr2 hr3 p0 p1 r0 r1 lx ly
      go_wp2_with fail
      refine HSM.out.mono ?_
      rintro e w4 ⟨rfl, hb4⟩
      have B4 := below_tr B3 hb4
      have x4 := x3.below hb4 x3.lt
      have y4 := y3.below hb4 y3.lt
      have hr4 := hr33.on hb4
      clear HSM hr33 x3 y3 B3 hb4
      have p0 := x4.cell 0
      have p1 := x4.cell 1
      have r0 := y4.cell 0
      have r1 := y4.cell 1
      simp only [List.getElem?_toArray, List.getElem?_cons_zero, List.getElem?_cons_succ] at p0 p1 r0 r1
      have lx := x4.lt
      have ly := y4.lt
      rcases HLW2.out with ⟨rfl, h1, h2, h3⟩ | ⟨rfl, h3⟩ | ⟨h1, h2⟩
      · have HF := Lib.hid (HF1.out w4 B4 A2 dO c2 hdO hr4)
        rw [h1] at HF
        go_wp2_with fail
        refine HF.out.mono ?_
        rintro e w5 ⟨rfl, hb5⟩
        have B5 := below_tr B4 hb5
        have x5 := x4.below hb5 x4.lt
        have y5 := y4.below hb5 y4.lt
        have hr5 := hr4.on hb5
        clear x4 y4 B4 hb5 hr4 HF
        replace p0 := x5.cell 0
        replace p1 := x5.cell 1
        replace r0 := y5.cell 0
        replace r1 := y5.cell 1
        simp only [List.getElem?_toArray, List.getElem?_cons_zero, List.getElem?_cons_succ] at p0 p1 r0 r1
        replace lx := x5.lt
        replace ly := y5.lt
        have HT := Lib.hid (HT1.out w5 B5 A2 dO c2 hdO hr5)
        rw [h2] at HT
        go_wp2_with fail
        refine HT.out.mono ?_
        rintro e w6 ⟨rfl, hb6⟩
        have B6 := below_tr B5 hb6
        have x6 := x5.below hb6 x5.lt
        have y6 := y5.below hb6 y5.lt
        clear x5 y5 B5 hb6 hr5 HT
        replace p0 := x6.cell 0
        replace p1 := x6.cell 1
        replace r0 := y6.cell 0
        replace r1 := y6.cell 1
        simp only [List.getElem?_toArray, List.getElem?_cons_zero, List.getElem?_cons_succ] at p0 p1 r0 r1
        replace lx := x6.lt
        replace ly := y6.lt
        have HFD := Lib.hid (HF1.out w6 B6 B ds d hds (HBB.out w6 B6))
        cases hf : feB l s ds
        · rw [hf] at HFD
          go_wp2_with fail
          refine HFD.out.mono ?_
          rintro e w7 ⟨rfl, hb7⟩
          go_wp2
          go_ret
          exact ⟨rfl, below_tr B6 hb7⟩
        · rw [hf] at HFD
          go_wp2_with fail
          refine HFD.out.mono ?_
          rintro e w7 ⟨rfl, hb7⟩
          have B7 := below_tr B6 hb7
          have x7 := x6.below hb7 x6.lt
          have y7 := y6.below hb7 y6.lt
          replace p0 := x7.cell 0
          replace p1 := x7.cell 1
          replace r0 := y7.cell 0
          replace r1 := y7.cell 1
          simp only [List.getElem?_toArray, List.getElem?_cons_zero, List.getElem?_cons_succ] at p0 p1 r0 r1
          replace lx := x7.lt
          replace ly := y7.lt
          clear x6 y6 B6 hb7 HFD
          have HTD := Lib.hid (HT1.out w7 B7 B ds d hds (HBB.out w7 B7))
          cases ht : toB l s t ds
          · rw [ht] at HTD
            go_wp2_with fail
            refine HTD.out.mono ?_
            rintro e w8 ⟨rfl, hb8⟩
            go_wp2
            go_ret
            exact ⟨rfl, below_tr B7 hb8⟩
          · rw [ht] at HTD
            have d5 : decide ((dO.length : Int) ≤ (ds.length : Int)) = true := decide_eq_true (by have := h3 hf ht; omega)
            go_wp2_with fail
            refine HTD.out.mono ?_
            rintro e w8 ⟨rfl, hb8⟩
            go_wp2
            go_ret
            exact ⟨ret_bool (by simp), below_tr B7 hb8⟩
      · have HFD := Lib.hid (HF1.out w4 B4 B ds d hds (HBB.out w4 B4))
        cases hf : feB l s ds
        · rw [hf] at HFD
          go_wp2_with fail
          refine HFD.out.mono ?_
          rintro e w7 ⟨rfl, hb7⟩
          go_wp2
          go_ret
          exact ⟨rfl, below_tr B4 hb7⟩
        · rw [hf] at HFD
          have ht : toB l s t ds = false := by
            rcases h3 with h | h
            · rw [hf] at h; cases h
            · exact h
          go_wp2_with fail
          refine HFD.out.mono ?_
          rintro e w7 ⟨rfl, hb7⟩
          have B7 := below_tr B4 hb7
          have x7 := x4.below hb7 x4.lt
          have y7 := y4.below hb7 y4.lt
          replace p0 := x7.cell 0
          replace p1 := x7.cell 1
          replace r0 := y7.cell 0
          replace r1 := y7.cell 1
          simp only [List.getElem?_toArray, List.getElem?_cons_zero, List.getElem?_cons_succ] at p0 p1 r0 r1
          replace lx := x7.lt
          replace ly := y7.lt
          clear x4 y4 B4 hb7 HFD
          have HTD := Lib.hid (HT1.out w7 B7 B ds d hds (HBB.out w7 B7))
          rw [ht] at HTD
          go_wp2_with fail
          refine HTD.out.mono ?_
          rintro e w8 ⟨rfl, hb8⟩
          go_wp2
          go_ret
          exact ⟨rfl, below_tr B7 hb8⟩
      · have n1 : (E != 0) = true := by simp only [bne, h1]; rfl
        have n2 : (E != 8) = true := by simp only [bne, h2]; rfl
        go_wp2
        go_ret
        exact ⟨rfl, B4⟩
    · have d1 : decide (6 < (l.length : Int)) = true := decide_eq_true (by omega)
      have d2 : decide ((l.length : Int) ≤ 12) = false := decide_eq_false (by omega)
      clear hsk hl hd hT hR hB h30 h40 h1
      go_enter Tryz.func3, Tryz.ntmps3
      go_wp2_with fail
      rw [show ((w.alloc (.cells #[.int .i64 s.x, .int .i64 s.y] 24)).alloc (.cells #[.int .i64 t.x, .int .i64 t.y] 24)) = W1 from hW1.symm]
      clear hW1
      refine (HAW.out _).mono ?_
      rintro e w1 ⟨rfl, hb1⟩
      have B1 := below_tr B0 hb1
      have x1 := x0.below hb1 x0.lt
      have y1 := y0.below hb1 y0.lt
      have p0 := x1.cell 0
      have p1 := x1.cell 1
      have r0 := y1.cell 0
      have r1 := y1.cell 1
      simp only [List.getElem?_toArray, List.getElem?_cons_zero, List.getElem?_cons_succ] at p0 p1 r0 r1
      have lx := x1.lt
      have ly := y1.lt
      clear x0 y0 B0 hb1
      go_wp2_with fail
      refine (HP1.out _ B1).mono ?_
      rintro e w2 ⟨dO, E, A2, c2, hE2, rfl, hr2, hb2⟩
      have B2 := below_tr B1 hb2
      have x2 := x1.below hb2 x1.lt
      have y2 := y1.below hb2 y1.lt
      replace p0 := x2.cell 0
      replace p1 := x2.cell 1
      replace r0 := y2.cell 0
      replace r1 := y2.cell 1
      simp only [List.getElem?_toArray, List.getElem?_cons_zero, List.getElem?_cons_succ] at p0 p1 r0 r1
      replace lx := x2.lt
      replace ly := y2.lt
      clear x1 y1 B1 hb2 HP1
      go_wp2_with fail
      refine (HP2.out _ B2).mono ?_
      rintro e w3 ⟨dP, F, A3, c3, hE3, rfl, hr3, hb3⟩
      obtain ⟨rfl, rfl⟩ := HUN.out _ _ _ _ hE2 hE3
      have hdO := HLE.out _ _ hE2
      have B3 := below_tr B2 hb3
      have x3 := x2.below hb3 x2.lt
      have y3 := y2.below hb3 y2.lt
      have HSM := Lib.hid (r_sameIntsD A2 A3 dO c2 c3 w3 (by omega) (hr2.on hb3) hr3)
      have hr33 := hr2.on hb3
      have HLW2 := Lib.hid (HLW.out _ _ hE2)
      clear x2 y2 B2 hb3 HP2 HUN HLE HLW hE2 hE3 hr2 hr3 p0 p1 r0 r1 lx ly
      go_wp2_with fail
      refine HSM.out.mono ?_
      rintro e w4 ⟨rfl, hb4⟩
      have B4 := below_tr B3 hb4
      have x4 := x3.below hb4 x3.lt
      have y4 := y3.below hb4 y3.lt
      have hr4 := hr33.on hb4
      clear HSM hr33 x3 y3 B3 hb4
      have p0 := x4.cell 0
      have p1 := x4.cell 1
      have r0 := y4.cell 0
      have r1 := y4.cell 1
      simp only [List.getElem?_toArray, List.getElem?_cons_zero, List.getElem?_cons_succ] at p0 p1 r0 r1
      have lx := x4.lt
      have ly := y4.lt
      rcases HLW2.out with ⟨rfl, h1, h2, h3⟩ | ⟨rfl, h3⟩ | ⟨h1, h2⟩
      · have HF := Lib.hid (HF1.out w4 B4 A2 dO c2 hdO hr4)
        rw [h1] at HF
        go_wp2_with fail
        refine HF.out.mono ?_
        rintro e w5 ⟨rfl, hb5⟩
        have B5 := below_tr B4 hb5
        have x5 := x4.below hb5 x4.lt
        have y5 := y4.below hb5 y4.lt
        have hr5 := hr4.on hb5
        clear x4 y4 B4 hb5 hr4 HF
        replace p0 := x5.cell 0
        replace p1 := x5.cell 1
        replace r0 := y5.cell 0
        replace r1 := y5.cell 1
        simp only [List.getElem?_toArray, List.getElem?_cons_zero, List.getElem?_cons_succ] at p0 p1 r0 r1
        replace lx := x5.lt
        replace ly := y5.lt
        have HT := Lib.hid (HT1.out w5 B5 A2 dO c2 hdO hr5)
        rw [h2] at HT
        go_wp2_with fail
        refine HT.out.mono ?_
        rintro e w6 ⟨rfl, hb6⟩
        have B6 := below_tr B5 hb6
        have x6 := x5.below hb6 x5.lt
        have y6 := y5.below hb6 y5.lt
        clear x5 y5 B5 hb6 hr5 HT
        replace p0 := x6.cell 0
        replace p1 := x6.cell 1
        replace r0 := y6.cell 0
        replace r1 := y6.cell 1
        simp only [List.getElem?_toArray, List.getElem?_cons_zero, List.getElem?_cons_succ] at p0 p1 r0 r1
        replace lx := x6.lt
        replace ly := y6.lt
        have HFD := Lib.hid (HF1.out w6 B6 B ds d hds (HBB.out w6 B6))
        cases hf : feB l s ds
        · rw [hf] at HFD
          go_wp2_with fail
          refine HFD.out.mono ?_
          rintro e w7 ⟨rfl, hb7⟩
          go_wp2
          go_ret
          exact ⟨rfl, below_tr B6 hb7⟩
        · rw [hf] at HFD
          go_wp2_with fail
          refine HFD.out.mono ?_
          rintro e w7 ⟨rfl, hb7⟩
          have B7 := below_tr B6 hb7
          have x7 := x6.below hb7 x6.lt
          have y7 := y6.below hb7 y6.lt
          replace p0 := x7.cell 0
          replace p1 := x7.cell 1
          replace r0 := y7.cell 0
          replace r1 := y7.cell 1
          simp only [List.getElem?_toArray, List.getElem?_cons_zero, List.getElem?_cons_succ] at p0 p1 r0 r1
          replace lx := x7.lt
          replace ly := y7.lt
          clear x6 y6 B6 hb7 HFD
          have HTD := Lib.hid (HT1.out w7 B7 B ds d hds (HBB.out w7 B7))
          cases ht : toB l s t ds
          · rw [ht] at HTD
            go_wp2_with fail
            refine HTD.out.mono ?_
            rintro e w8 ⟨rfl, hb8⟩
            go_wp2
            go_ret
            exact ⟨rfl, below_tr B7 hb8⟩
          · rw [ht] at HTD
            have d5 : decide ((dO.length : Int) ≤ (ds.length : Int)) = true := decide_eq_true (by have := h3 hf ht; omega)
            go_wp2_with fail
            refine HTD.out.mono ?_
            rintro e w8 ⟨rfl, hb8⟩
            go_wp2
            go_ret
            exact ⟨ret_bool (by simp), below_tr B7 hb8⟩
      · have HFD := Lib.hid (HF1.out w4 B4 B ds d hds (HBB.out w4 B4))
        cases hf : feB l s ds
        · rw [hf] at HFD
          go_wp2_with fail
          refine HFD.out.mono ?_
          rintro e w7 ⟨rfl, hb7⟩
          go_wp2
          go_ret
          exact ⟨rfl, below_tr B4 hb7⟩
        · rw [hf] at HFD
          have ht : toB l s t ds = false := by
            rcases h3 with h | h
            · rw [hf] at h; cases h
            · exact h
          go_wp2_with fail
          refine HFD.out.mono ?_
          rintro e w7 ⟨rfl, hb7⟩
          have B7 := below_tr B4 hb7
          have x7 := x4.below hb7 x4.lt
          have y7 := y4.below hb7 y4.lt
          replace p0 := x7.cell 0
          replace p1 := x7.cell 1
          replace r0 := y7.cell 0
          replace r1 := y7.cell 1
          simp only [List.getElem?_toArray, List.getElem?_cons_zero, List.getElem?_cons_succ] at p0 p1 r0 r1
          replace lx := x7.lt
          replace ly := y7.lt
          clear x4 y4 B4 hb7 HFD
          have HTD := Lib.hid (HT1.out w7 B7 B ds d hds (HBB.out w7 B7))
          rw [ht] at HTD
          go_wp2_with fail
          refine HTD.out.mono ?_
          rintro e w8 ⟨rfl, hb8⟩
          go_wp2
          go_ret
          exact ⟨rfl, below_tr B7 hb8⟩
      · have n1 : (E != 0) = true := by simp only [bne, h1]; rfl
        have n2 : (E != 8) = true := by simp only [bne, h2]; rfl
        go_wp2
        go_ret
        exact ⟨rfl, B4⟩
theorem f_FellPlans (A : Option Addr) (l : List Pr) (c : Nat) (s t : Sp) (B : Option Addr) (ds : List Int) (d : Nat) (w : World) (hT : Tab w) (hl : l.length ≤ maxLen) (hR : Rd Pr.cs 3 w A l) (_ : ∀ x ∈ l, True) (_ : True) (_ : True) (hd : ds.length ≤ maxLen) (hB : Rd zC 1 w B ds) (_ : ∀ x ∈ ds, True) (_ : ds.length ≤ d) (_ : d ≤ maxLen) :
    Calls Tryz.prog 3 #[.slice A l.length c, .agg s.cs.toArray, .agg t.cs.toArray, .slice B ds.length d] w fun e w' => e = .returned (.bool true) ∧ Below w.heap.size w w' :=
  l_FellPlans A B l s t ds c d w hl hd hT hR hB
end Go.Proofs.YtkeojokbpjdhpaaGreatDoor
