/- The parts of the proof, part 36. -/
import Derived.Test.YtmjgljdmjpabdaaGreatDoorP0
import Derived.Test.YtmjgljdmjpabdaaGreatDoorP20
import Derived.Test.YtmjgljdmjpabdaaGreatDoorP35
set_option linter.unusedSimpArgs false
set_option linter.unusedVariables false
namespace Go.Proofs.YtmjgljdmjpabdaaGreatDoor.Fi
open Go
section
variable {P : Program} {ops : Array Oper} {Q : Exit → Act → World → Prop} {md : Region.Mode} {S : World → Prop} {K : List Nat}
def wpAnyM (P : Program) (md : Region.Mode) (ops : Array Oper) (Q : Exit → Act → World → Prop) (S : World → Prop) (K : List Nat) : Nat → Array Bool → Act → World → Prop
  | 0, listed, a, w => Region.ready md ops listed = [] ∧ Q .normal a w
  | fuel + 1, listed, a, w =>
    (Region.ready md ops listed = [] → Q .normal a w) ∧
    ∀ i ∈ Region.ready md ops listed, wpOp P ops Q i (fun a' w' => (K.contains i = false → S w') ∧ wpAnyM P md ops Q S K fuel (listed.setIfInBounds i true) a' w') a w
theorem wpAny_of_lasts : ∀ (fuel : Nat) (listed : Array Bool) (a : Act) (w : World), wpAnyM P md ops Q S K fuel listed a w → wpAny P md ops Q fuel listed a w
  | 0, _, _, _, h => h
  | fuel + 1, _, _, _, h => ⟨h.1, fun i hi => wpOp_mono (fun a' w' h' => wpAny_of_lasts fuel _ a' w' h'.2) (h.2 i hi)⟩
theorem wpAnyM_first {i : Nat} {oi : Oper} {v : Value} (hi : ops[i]? = some oi) (hsel : ∀ (j : Nat) (o : Oper) cs b, ops[j]? = some o → o.op ≠ .select cs b)
    (hQ : ∀ c a w, Q (.panic c) (a.put oi.dst v) w → Q (.panic c) a w) (hp : (K.all fun q => preB md ops ops.size i q) = true) (hiK : K.contains i = false) :
    ∀ (fuel : Nat) (listed : Array Bool) (a : Act) (w : World), Clos md ops listed →
      (∀ j oj, ops[j]? = some oj → j ≠ i → listed.getD j true = false → (∀ e ∈ oj.after, Region.binds md e = true → e.on ≠ i) → oi.apart ops oj = true) →
      i ∈ Region.ready md ops listed → YieldsIf P ops S oi v a → S w →
      wpAnyM P md ops Q S K fuel (listed.setIfInBounds i true) (a.put oi.dst v) w → wpAnyM P md ops Q S K (fuel + 1) listed a w := by
  intro fuel
  induction fuel with
  | zero =>
    intro listed a w _ _ hr hy hS H
    refine ⟨fun h => (by rw [h] at hr; cases hr), fun j hj => ?_⟩
    by_cases hji : j = i
    · subst hji; exact hy.wpOp hi hS ⟨fun _ => hS, H⟩
    · have := ready_mono hj hji
      rw [H.1] at this
      cases this
  | succ fuel ih =>
    intro listed a w hcl hfree hr hy hS H
    refine ⟨fun h => (by rw [h] at hr; cases hr), fun j hj => ?_⟩
    by_cases hji : j = i
    · subst hji; exact hy.wpOp hi hS ⟨fun _ => hS, H⟩
    · have hjK : K.contains j = false := by
        cases hcj : K.contains j with
        | false => rfl
        | true =>
        exfalso
        obtain ⟨_, oj, hoj, hall⟩ := mem_ready.1 hj
        have h1 := pre_done hcl ops.size j oj hoj hall (List.all_eq_true.1 hp j (List.contains_iff_mem.1 hcj))
        have h0 := (mem_ready.1 hr).1
        rcases Nat.lt_or_ge i listed.size with h' | h'
        · simp [h'] at h0 h1; rw [h0] at h1; cases h1
        · simp [Array.getElem?_eq_none h'] at h1
      have h1 := H.2 j (ready_mono hj hji)
      obtain ⟨hjun, oj, hoj, hall⟩ := mem_ready.1 hj
      have hnot : ∀ e ∈ oj.after, Region.binds md e = true → e.on ≠ i := fun e he hb heq => by
        have h1 := hall e he hb
        have h0 := (mem_ready.1 hr).1
        rw [heq] at h1
        rcases Nat.lt_or_ge i listed.size with h' | h'
        · simp [h'] at h0 h1; rw [h0] at h1; cases h1
        · simp [Array.getElem?_eq_none h'] at h1
      have h2 := wpOp_putIf hoj (hfree j oj hoj hji hjun hnot) (fun cs b => hsel i oi cs b hi) (fun cs b => hsel j oj cs b hoj) hQ hy h1
      have hfree' : ∀ k ok, ops[k]? = some ok → k ≠ i → (listed.setIfInBounds j true).getD k true = false →
          (∀ e ∈ ok.after, Region.binds md e = true → e.on ≠ i) → oi.apart ops ok = true := fun k ok hk hki hun hno => by
        refine hfree k ok hk hki ?_ hno
        by_cases hjk : j = k
        · subst hjk; exact hjun
        · rw [getD_set_ne true hjk] at hun; exact hun
      refine wpOp_mono (fun a' w' h3 => ⟨fun _ => h3.2.1 hjK, ih (listed.setIfInBounds j true) a' w' (clos_step hcl hj) hfree' (ready_mono hr (Ne.symm hji)) h3.1 (h3.2.1 hjK) ?_⟩) h2
      rw [Array.setIfInBounds_comm _ _ hji]
      exact h3.2.2
theorem wpAnyM_take {i : Nat} {oi : Oper} {v : Value} {fuel : Nat} {listed : Array Bool} {a : Act} {w : World} (hi : ops[i]? = some oi)
    (hs : Region.noSelect ops = true) (hf : Region.free md ops listed i = true) (hr : (Region.ready md ops listed).contains i = true) (hp : (K.all fun q => preB md ops ops.size i q) = true) (hc : closB md ops listed = true) (hiK : K.contains i = false)
    (hQ : ∀ c a w, Q (.panic c) (a.put oi.dst v) w → Q (.panic c) a w) (hy : YieldsIf P ops S oi v a) (hS : S w)
    (h : wpAnyM P md ops Q S K fuel (listed.setIfInBounds i true) (a.put oi.dst v) w) : wpAnyM P md ops Q S K (fuel + 1) listed a w :=
  wpAnyM_first hi (Region.noSelect_spec hs) hQ hp hiK fuel listed a w (clos_of hc) (Region.free_spec hi hf) (by simpa using hr) hy hS h
theorem wpAnyM_done {listed : Array Bool} {a : Act} {w : World} (hr : Region.ready md ops listed = []) (h : Q .normal a w) :
    ∀ fuel, wpAnyM P md ops Q S K fuel listed a w
  | 0 => ⟨hr, h⟩
  | _ + 1 => ⟨fun _ => h, by rw [hr]; simp⟩
def AllReadyM (P : Program) (md : Region.Mode) (ops : Array Oper) (Q : Exit → Act → World → Prop) (S : World → Prop) (K : List Nat) (fuel : Nat) (listed : Array Bool) (a : Act) (w : World) (rs : List Nat) : Prop :=
  ∀ i ∈ rs, wpOp P ops Q i (fun a' w' => (K.contains i = false → S w') ∧ wpAnyM P md ops Q S K fuel (listed.setIfInBounds i true) a' w') a w
theorem AllReadyM.nil {fuel : Nat} {listed : Array Bool} {a : Act} {w : World} : AllReadyM P md ops Q S K fuel listed a w [] := fun _ h => by cases h
theorem AllReadyM.cons {fuel : Nat} {listed : Array Bool} {a : Act} {w : World} {i : Nat} {o : Oper} {rs : List Nat} (ho : ops[i]? = some o)
    (h : ∀ K' : Act → World → Prop, Shut (∀ a w, S w → (S w → wpAnyM P md ops Q S K fuel (listed.setIfInBounds i true) a w) → K' a w) → if Region.wanted o (yielded ops a.tmps) = true then Oper.wp P o a w K' Q else K' (a.put o.dst undef) w)
    (hs : AllReadyM P md ops Q S K fuel listed a w rs) : AllReadyM P md ops Q S K fuel listed a w (i :: rs) := fun j hj => by
  rcases List.mem_cons.1 hj with rfl | hj
  · exact wpOp_step ho (fun K' hK => h K' (fun a w hS hW => hK a w ⟨fun _ => hS, hW hS⟩))
  · exact hs j hj
theorem wpAnyM_ready {rs : List Nat} {fuel : Nat} {listed : Array Bool} {a : Act} {w : World} (hr : Region.ready md ops listed = rs) (hne : rs ≠ [])
    (h : AllReadyM P md ops Q S K fuel listed a w rs) : wpAnyM P md ops Q S K (fuel + 1) listed a w := ⟨fun h0 => absurd (hr ▸ h0) hne, hr ▸ h⟩
theorem wpAnyM_last {k : Nat} {fuel : Nat} {listed : Array Bool} {a : Act} {w : World} {o : Oper} (hk : K.contains k = true) (hr : Region.ready md ops listed = [k]) (ho : ops[k]? = some o)
    (h : ∀ K' : Act → World → Prop, Shut (∀ a w, wpAnyM P md ops Q S K fuel (listed.setIfInBounds k true) a w → K' a w) → if Region.wanted o (yielded ops a.tmps) = true then Oper.wp P o a w K' Q else K' (a.put o.dst undef) w) :
    wpAnyM P md ops Q S K (fuel + 1) listed a w := by
  refine ⟨fun h => (by rw [hr] at h; cases h), fun j hj => ?_⟩
  rw [hr] at hj
  obtain rfl := List.mem_singleton.1 hj
  exact wpOp_step ho (fun K' hK => h K' (fun a w hW => hK a w ⟨fun e => (by rw [hk] at e; cases e), hW⟩))
theorem wp_region_lasts {id : Nat} {a : Act} {w : World} (K : List Nat) (S : World → Prop) (hm : P.follows .mixedOrders = true) (hS : S w.drew)
    (h : S w.drew → wpAnyM P .any ops Q S K ops.size (Array.replicate ops.size false) a w.drew) : (Code.region id ops true).wp P Q a w :=
  wp_region_any hm (wpAny_of_lasts _ _ _ _ (h hS))
end
end Go.Proofs.YtmjgljdmjpabdaaGreatDoor.Fi
set_option linter.unusedSimpArgs false
set_option linter.unusedVariables false
namespace Go.Proofs.YtmjgljdmjpabdaaGreatDoor.Fi
open Go.RowKit Go.Lib Tx
theorem su_cs (L : LSu) : (Tryz.prog.info? 32).map (·.size) = some L.cs.toArray.size := by kernel_rfl
theorem su_one (L : LSu) : L.cs.toArray.all (·.oneCell') = true := by simp [LSu.cs, Value.oneCell']
def CpyP (x : LSu) (w : World) (e : Ending) (w' : World) : Prop := ∃ y : LSu, e = .returned (.agg y.cs.toArray) ∧ y.val = x.val ∧ SuOk (fun b => w.heap.size ≤ b) w' y ∧ Below w.heap.size w w'
set_option maxHeartbeats 8000000 in
set_option maxRecDepth 40000 in
theorem f_copied {T : Nat → Prop} (x : LSu) (w : World) (hS : SuOk T w x) (hW : SuW x) : Calls Tryz.prog 26 #[.agg x.cs.toArray] w (CpyP x w) := by
  have hbN := (Blk.new w 32 x.cs.toArray).alloc (.cells #[.slice none 0 0, .slice none 0 0, .int .i64 0, .int .i64 0, .int .i64 0, .int .i64 0, .int .i64 0, .int .i64 0, .slice none 0 0, .int .i64 0, .int .i64 0, .int .i64 0, .int .i64 0, .int .i64 0, .int .i64 0, .int .i64 0, .int .i64 0] 32)
  have hbR := Blk.new (w.alloc (.cells x.cs.toArray 32)) 32 #[.slice none 0 0, .slice none 0 0, .int .i64 0, .int .i64 0, .int .i64 0, .int .i64 0, .int .i64 0, .int .i64 0, .slice none 0 0, .int .i64 0, .int .i64 0, .int .i64 0, .int .i64 0, .int .i64 0, .int .i64 0, .int .i64 0, .int .i64 0]
  have B1 := bl_alloc (bl_alloc (below_refl w) (.cells x.cs.toArray 32)) (.cells #[.slice none 0 0, .slice none 0 0, .int .i64 0, .int .i64 0, .int .i64 0, .int .i64 0, .int .i64 0, .int .i64 0, .slice none 0 0, .int .i64 0, .int .i64 0, .int .i64 0, .int .i64 0, .int .i64 0, .int .i64 0, .int .i64 0, .int .i64 0] 32)
  have hS1 := hS.on B1
  rw [World.size_alloc] at hbR
  have n0 : ((w.alloc (.cells x.cs.toArray 32)).alloc (.cells #[.slice none 0 0, .slice none 0 0, .int .i64 0, .int .i64 0, .int .i64 0, .int .i64 0, .int .i64 0, .int .i64 0, .slice none 0 0, .int .i64 0, .int .i64 0, .int .i64 0, .int .i64 0, .int .i64 0, .int .i64 0, .int .i64 0, .int .i64 0] 32)).cell? ⟨w.heap.size, 0, none⟩ = some (.slice x.stk.a x.stk.l.length x.stk.c) := (hbN.cell 0).trans rfl
  have n1 : ((w.alloc (.cells x.cs.toArray 32)).alloc (.cells #[.slice none 0 0, .slice none 0 0, .int .i64 0, .int .i64 0, .int .i64 0, .int .i64 0, .int .i64 0, .int .i64 0, .slice none 0 0, .int .i64 0, .int .i64 0, .int .i64 0, .int .i64 0, .int .i64 0, .int .i64 0, .int .i64 0, .int .i64 0] 32)).cell? ⟨w.heap.size, 1, none⟩ = some (.slice x.jnt.a x.jnt.l.length x.jnt.c) := (hbN.cell 1).trans rfl
  have n8 : ((w.alloc (.cells x.cs.toArray 32)).alloc (.cells #[.slice none 0 0, .slice none 0 0, .int .i64 0, .int .i64 0, .int .i64 0, .int .i64 0, .int .i64 0, .int .i64 0, .slice none 0 0, .int .i64 0, .int .i64 0, .int .i64 0, .int .i64 0, .int .i64 0, .int .i64 0, .int .i64 0, .int .i64 0] 32)).cell? ⟨w.heap.size, 8, none⟩ = some (.slice x.gear.a x.gear.l.length x.gear.c) := (hbN.cell 8).trans rfl
  have nf0 := hbN.frozen 0
  have nf1 := hbN.frozen 1
  have nf8 := hbN.frozen 8
  have hsl := hW.sl
  have hjl := hW.jl
  have hgl := hW.gl
  have HW := Lib.hid hW
  have lw : w.heap.size + 1 < ((w.alloc (.cells x.cs.toArray 32)).alloc (.cells #[.slice none 0 0, .slice none 0 0, .int .i64 0, .int .i64 0, .int .i64 0, .int .i64 0, .int .i64 0, .int .i64 0, .slice none 0 0, .int .i64 0, .int .i64 0, .int .i64 0, .int .i64 0, .int .i64 0, .int .i64 0, .int .i64 0, .int .i64 0] 32)).heap.size := by simp
  clear hW hS
  go_enter Tryz.func26, Tryz.ntmps26
  go_upto_region 1 with fail
  obtain ⟨w1, hw1⟩ : ∃ w1, w1 = (w.alloc (.cells x.cs.toArray 32)).alloc (.cells #[.slice none 0 0, .slice none 0 0, .int .i64 0, .int .i64 0, .int .i64 0, .int .i64 0, .int .i64 0, .int .i64 0, .slice none 0 0, .int .i64 0, .int .i64 0, .int .i64 0, .int .i64 0, .int .i64 0, .int .i64 0, .int .i64 0, .int .i64 0] 32) := ⟨_, rfl⟩
  have hsz1 : w1.heap.size = w.heap.size + 1 + 1 := by rw [hw1]; simp
  rw [← hw1] at hbN hbR B1 hS1 n0 n1 n8 nf0 nf1 nf8 lw ⊢
  clear hw1
  obtain ⟨N, hN⟩ : ∃ N, w.heap.size = N := ⟨_, rfl⟩
  rw [hN] at hbN hbR n0 n1 n8 nf0 nf1 nf8 lw hsz1 ⊢
  have lN : N < w1.heap.size := by omega
  have HC3 := Lib.hid (fun w' (h : Below w1.heap.size w1 w') => (show Calls Tryz.prog 77 #[.slice x.stk.a x.stk.l.length x.stk.c] w' (ClsP S.Course.cs 6 68 x.stk.l w') from f_clonesC x.stk w' hsl (hS1.on h).stk.rd (fun y hy => ⟨HW.out.sc y hy, (hS1.on h).stks y hy⟩)))
  have HC4 := Lib.hid (fun w' (h : Below w1.heap.size w1 w') => (show Calls Tryz.prog 78 #[.slice x.jnt.a x.jnt.l.length x.jnt.c] w' (ClsP Jt.cs 2 69 x.jnt.l w') from f_clonesJ x.jnt w' hjl (hS1.on h).jnt.rd (fun y hy => ⟨HW.out.jc y hy, (hS1.on h).jnts y hy⟩)))
  have HC5 := Lib.hid (fun w' (h : Below w1.heap.size w1 w') => (show Calls Tryz.prog 27 #[.slice x.gear.a x.gear.l.length x.gear.c] w' (CloP G.It.cs 4 71 x.gear.l w') from c_CloneItem x.gear w' hgl (hS1.on h).gear.rd))
  clear hS1
  refine wp_region_noPanic ?_
  refine wp_region_lasts [10, 11, 12, 13, 14] (fun w' => (∀ b o, b < w1.heap.size → w'.cell? ⟨b, o, none⟩ = w1.cell? ⟨b, o, none⟩) ∧ (∀ b o, b < w1.heap.size → w'.frozen? ⟨b, o, none⟩ = w1.frozen? ⟨b, o, none⟩) ∧ Below w1.heap.size w1 w') (by kernel_rfl) (kq_draw kq_refl) (fun hS0 => ?_)
  refine wpAnyM_take (i := 0) (oi := { dst := some 3, op := _, type := _, pos := _, after := _, guard := none }) (v := ?gv1) rfl (by kernel_rfl) (by kernel_rfl) (by kernel_rfl) (by kernel_rfl) (by kernel_rfl) (by decide) (fun _ _ _ h => h) (Or.inl ⟨by rfl, ?gy1⟩) (by assumption) ?_
  case gy1 => (intro w' hSw; go_simp; try with_reducible rfl)
  try simp only [AP]
  refine wpAnyM_take (i := 1) (oi := { dst := some 4, op := _, type := _, pos := _, after := _, guard := none }) (v := ?gv2) rfl (by kernel_rfl) (by kernel_rfl) (by kernel_rfl) (by kernel_rfl) (by kernel_rfl) (by decide) (fun _ _ _ h => h) (Or.inl ⟨by rfl, ?gy2⟩) (by assumption) ?_
  case gy2 => (intro w' hSw; go_simp; try with_reducible rfl)
  try simp only [AP]
  refine wpAnyM_take (i := 3) (oi := { dst := some 6, op := _, type := _, pos := _, after := _, guard := none }) (v := ?gv3) rfl (by kernel_rfl) (by kernel_rfl) (by kernel_rfl) (by kernel_rfl) (by kernel_rfl) (by decide) (fun _ _ _ h => h) (Or.inl ⟨by rfl, ?gy3⟩) (by assumption) ?_
  case gy3 => (intro w' hSw; go_simp; try with_reducible rfl)
  try simp only [AP]
  refine wpAnyM_take (i := 4) (oi := { dst := some 7, op := _, type := _, pos := _, after := _, guard := none }) (v := ?gv4) rfl (by kernel_rfl) (by kernel_rfl) (by kernel_rfl) (by kernel_rfl) (by kernel_rfl) (by decide) (fun _ _ _ h => h) (Or.inl ⟨by rfl, ?gy4⟩) (by assumption) ?_
  case gy4 => (intro w' hSw; go_simp; try with_reducible rfl)
  try simp only [AP]
  refine wpAnyM_take (i := 6) (oi := { dst := some 9, op := _, type := _, pos := _, after := _, guard := none }) (v := ?gv5) rfl (by kernel_rfl) (by kernel_rfl) (by kernel_rfl) (by kernel_rfl) (by kernel_rfl) (by decide) (fun _ _ _ h => h) (Or.inl ⟨by rfl, ?gy5⟩) (by assumption) ?_
  case gy5 => (intro w' hSw; go_simp; try with_reducible rfl)
  try simp only [AP]
  refine wpAnyM_take (i := 7) (oi := { dst := some 10, op := _, type := _, pos := _, after := _, guard := none }) (v := ?gv6) rfl (by kernel_rfl) (by kernel_rfl) (by kernel_rfl) (by kernel_rfl) (by kernel_rfl) (by decide) (fun _ _ _ h => h) (Or.inl ⟨by rfl, ?gy6⟩) (by assumption) ?_
  case gy6 => (intro w' hSw; go_simp; try with_reducible rfl)
  try simp only [AP]
  refine wpAnyM_ready (rs := [2]) (by kernel_rfl) (by simp) ?_
  refine AllReadyM.cons rfl (fun K hK => ?_) AllReadyM.nil
  go_simp
  (go_at_call 77; ((with_reducible refine (HC3.out _ (by (repeat' (first | assumption | exact below_refl _ | refine bl_alloc ?_ _ | refine Below.setCell ?_ ?_ _ | refine below_draw ?_ | refine below_drewN ?_ _ | refine below_tr ?_ (by assumption))) <;> (first | omega | (simp; done) | (simp; omega)))).mono ?_); rintro e w3 ⟨⟨A3, l3, c3⟩, rfl, hm3, ho3, hg3, hb3⟩; dsimp only [Sl.v] at *; obtain ⟨hc3, hf3⟩ := bcell hb3; have hz3 := hb3.size; (try simp [sz_drew, sz_drewN] at hz3); (try simp only [sz_drew, sz_drewN] at hc3 hf3); have lN3 : N < w3.heap.size := (by omega); have p31 := (hc3 N 1 lN).trans n1; have p38 := (hc3 N 8 lN).trans n8))
  refine hK.out _ _ (by ((show Kq w1 _); (repeat' (first | assumption | exact kq_refl | refine kq_draw ?_ | refine kq_drewN ?_ | refine kq_alloc ?_ | refine kq_set ?_ ?_ | refine kq_step ?_ (by assumption))); (all_goals (first | omega | (simp; omega))))) (fun hS1 => ?_)
  clear hK K
  try simp only [AP]
  refine wpAnyM_take (i := 9) (oi := { dst := some 12, op := _, type := _, pos := _, after := _, guard := none }) (v := ?gv7) rfl (by kernel_rfl) (by kernel_rfl) (by kernel_rfl) (by kernel_rfl) (by kernel_rfl) (by decide) (fun _ _ _ h => h) (Or.inl ⟨by rfl, ?gy7⟩) (by assumption) ?_
  case gy7 => (intro w' hSw; go_simp; try with_reducible rfl)
  try simp only [AP]
  refine wpAnyM_ready (rs := [5]) (by kernel_rfl) (by simp) ?_
  refine AllReadyM.cons rfl (fun K hK => ?_) AllReadyM.nil
  go_simp
  (go_at_call 78; ((with_reducible refine (HC4.out _ (by (repeat' (first | assumption | exact below_refl _ | refine bl_alloc ?_ _ | refine Below.setCell ?_ ?_ _ | refine below_draw ?_ | refine below_drewN ?_ _ | refine below_tr ?_ (by assumption))) <;> (first | omega | (simp; done) | (simp; omega)))).mono ?_); rintro e w4 ⟨⟨A4, l4, c4⟩, rfl, hm4, ho4, hg4, hb4⟩; dsimp only [Sl.v] at *; obtain ⟨hc4, hf4⟩ := bcell hb4; have hz4 := hb4.size; (try simp [sz_drew, sz_drewN] at hz4); (try simp only [sz_drew, sz_drewN] at hc4 hf4); have lN4 : N < w4.heap.size := (by omega); have p48 := (hc4 N 8 lN3).trans ((hc3 N 8 lN).trans n8)))
  refine hK.out _ _ (by ((show Kq w1 _); (repeat' (first | assumption | exact kq_refl | refine kq_draw ?_ | refine kq_drewN ?_ | refine kq_alloc ?_ | refine kq_set ?_ ?_ | refine kq_step ?_ (by assumption))); (all_goals (first | omega | (simp; omega))))) (fun hS2 => ?_)
  clear hK K
  try simp only [AP]
  refine wpAnyM_ready (rs := [8]) (by kernel_rfl) (by simp) ?_
  refine AllReadyM.cons rfl (fun K hK => ?_) AllReadyM.nil
  go_simp
  (go_at_call 27; ((with_reducible refine (HC5.out _ (by (repeat' (first | assumption | exact below_refl _ | refine bl_alloc ?_ _ | refine Below.setCell ?_ ?_ _ | refine below_draw ?_ | refine below_drewN ?_ _ | refine below_tr ?_ (by assumption))) <;> (first | omega | (simp; done) | (simp; omega)))).mono ?_); rintro e w5 ⟨⟨A5, l5, c5⟩, rfl, hm5, ho5, hle5, hcm5, hb5⟩; dsimp only at hm5; subst hm5; dsimp only [Sl.v] at *; obtain ⟨hc5, hf5⟩ := bcell hb5; have hz5 := hb5.size; (try simp [sz_drew, sz_drewN] at hz5); (try simp only [sz_drew, sz_drewN] at hc5 hf5); have lN5 : N < w5.heap.size := (by omega); have m0 := (hc5 N 0 lN4).trans ((hc4 N 0 lN3).trans ((hc3 N 0 lN).trans n0)); have mf0 := (hf5 N 0 lN4).trans ((hf4 N 0 lN3).trans ((hf3 N 0 lN).trans nf0)); have m1 := (hc5 N 1 lN4).trans ((hc4 N 1 lN3).trans ((hc3 N 1 lN).trans n1)); have mf1 := (hf5 N 1 lN4).trans ((hf4 N 1 lN3).trans ((hf3 N 1 lN).trans nf1)); have m8 := (hc5 N 8 lN4).trans ((hc4 N 8 lN3).trans ((hc3 N 8 lN).trans n8)); have mf8 := (hf5 N 8 lN4).trans ((hf4 N 8 lN3).trans ((hf3 N 8 lN).trans nf8))))
  refine hK.out _ _ (by ((show Kq w1 _); (repeat' (first | assumption | exact kq_refl | refine kq_draw ?_ | refine kq_drewN ?_ | refine kq_alloc ?_ | refine kq_set ?_ ?_ | refine kq_step ?_ (by assumption))); (all_goals (first | omega | (simp; omega))))) (fun hS3 => ?_)
  clear hK K
  try simp only [AP]
  refine wpAnyM_last (k := 10) (by decide) (by kernel_rfl) rfl (fun K hK => ?_)
  go_simp
  refine hK.out _ _ ?_
  clear hK K
  try simp only [AP]
  refine wpAnyM_last (k := 11) (by decide) (by kernel_rfl) rfl (fun K hK => ?_)
  go_simp
  refine hK.out _ _ ?_
  clear hK K
  try simp only [AP]
  refine wpAnyM_last (k := 12) (by decide) (by kernel_rfl) rfl (fun K hK => ?_)
  go_simp
  refine hK.out _ _ ?_
  clear hK K
  try simp only [AP]
  refine wpAnyM_last (k := 13) (by decide) (by kernel_rfl) rfl (fun K hK => ?_)
  go_simp
  refine hK.out _ _ ?_
  clear hK K
  try simp only [AP]
  refine wpAnyM_last (k := 14) (by decide) (by kernel_rfl) rfl (fun K hK => ?_)
  go_simp
  refine hK.out _ _ ?_
  clear hK K
  try simp only [AP]
  refine wpAnyM_done (by kernel_rfl) (NoPanic.normal ?_) _
  (try simp only [sz_drew, sz_drewN] at ho3 hg3 ho4 hg4 ho5)
  have B5 : Below w1.heap.size w1 w5 := by (repeat' (first | assumption | exact below_refl _ | refine bl_alloc ?_ _ | refine Below.setCell ?_ ?_ _ | refine below_draw ?_ | refine below_drewN ?_ _ | refine below_tr ?_ (by assumption))) <;> (first | omega | (simp; done) | (simp; omega))
  have lN5 : N < w5.heap.size := by omega
  have st6 : Stp (fun g => g = N) w5 (((w5.setCell ⟨N, 0, none⟩ (.slice A3 l3.length c3)).setCell ⟨N, 1, none⟩ (.slice A4 l4.length c4)).setCell ⟨N, 8, none⟩ (.slice A5 x.gear.l.length c5)) := Stp.setCell (N := fun g => g = N) (p := ⟨N, 8, none⟩) (Stp.setCell (N := fun g => g = N) (p := ⟨N, 1, none⟩) (Stp.setCell (N := fun g => g = N) (p := ⟨N, 0, none⟩) (Stp.refl _ _) (.inl rfl) _) (.inl rfl) _) (.inl rfl) _
  have blk6 := (((hbN.below B5 lN).set_ 0 (.slice A3 l3.length c3)).set_ 1 (.slice A4 l4.length c4)).set_ 8 (.slice A5 x.gear.l.length c5)
  have blkR := st6.blk (hbR.below B5 lw) (by omega)
  obtain ⟨y, hy⟩ : ∃ y : LSu, y = ⟨⟨A3, l3, c3⟩, ⟨A4, l4, c4⟩, x.cl, ⟨A5, x.gear.l, c5⟩, x.ru, x.rt, x.men⟩ := ⟨_, rfl⟩
  have hCB : (((x.cs.toArray.setIfInBounds 0 (.slice A3 l3.length c3)).setIfInBounds 1 (.slice A4 l4.length c4)).setIfInBounds 8 (.slice A5 x.gear.l.length c5)) = y.cs.toArray := by rw [hy]; rfl
  rw [hCB] at blk6
  have hCs := su_cs y
  have hC1 := Lib.hid (su_one y)
  have hCz : (#[.slice none 0 0, .slice none 0 0, .int .i64 0, .int .i64 0, .int .i64 0, .int .i64 0, .int .i64 0, .int .i64 0, .slice none 0 0, .int .i64 0, .int .i64 0, .int .i64 0, .int .i64 0, .int .i64 0, .int .i64 0, .int .i64 0, .int .i64 0] : Array Value).size = y.cs.toArray.size := rfl
  have hval : y.val = x.val := by
    rw [hy]
    unfold LSu.val
    dsimp only at hm3 hm4 ⊢
    rw [hm3, hm4]
  have hown6 : SuOk (fun b => w1.heap.size ≤ b) (((w5.setCell ⟨N, 0, none⟩ (.slice A3 l3.length c3)).setCell ⟨N, 1, none⟩ (.slice A4 l4.length c4)).setCell ⟨N, 8, none⟩ (.slice A5 x.gear.l.length c5)) y := by
    have q : ∀ b, w1.heap.size ≤ b → ¬ b = N := fun b h => by omega
    have g3 : Got (fun b => w1.heap.size ≤ b) w3 Sl.cs 1 (⟨A3, l3, c3⟩ : Sl (Sl S.Course)) := got_own (fun _ => rfl) ho3 fun b h _ => h
    have g4 : Got (fun b => w1.heap.size ≤ b) w4 Sl.cs 1 (⟨A4, l4, c4⟩ : Sl (Sl Jt)) := got_own (fun _ => rfl) ho4 fun b h _ => by omega
    have g5 : Got (fun b => w1.heap.size ≤ b) w5 G.It.cs 4 (⟨A5, x.gear.l, c5⟩ : Sl G.It) := got_own (fun _ => rfl) ho5 fun b h _ => by omega
    rw [hy]
    exact ⟨((g3.on hb4).on hb5).stp st6 q, fun z hz => ((((hg3 z hz).on hb4).on hb5).stp st6 (fun b h => q b h)), (g4.on hb5).stp st6 q, fun z hz => (((hg4 z hz).mono (fun b _ h => by omega)).on hb5).stp st6 q, g5.stp st6 q⟩
  have B6 : Below w.heap.size w (((w5.setCell ⟨N, 0, none⟩ (.slice A3 l3.length c3)).setCell ⟨N, 1, none⟩ (.slice A4 l4.length c4)).setCell ⟨N, 8, none⟩ (.slice A5 x.gear.l.length c5)) := below_stp (below_tr B1 B5) st6 (fun g hg e => by omega) (by have := (below_tr B1 B5).size; omega)
  have hN6 : N + 1 + 1 ≤ (((w5.setCell ⟨N, 0, none⟩ (.slice A3 l3.length c3)).setCell ⟨N, 1, none⟩ (.slice A4 l4.length c4)).setCell ⟨N, 8, none⟩ (.slice A5 x.gear.l.length c5)).heap.size := by have := st6.size; omega
  generalize (((w5.setCell ⟨N, 0, none⟩ (.slice A3 l3.length c3)).setCell ⟨N, 1, none⟩ (.slice A4 l4.length c4)).setCell ⟨N, 8, none⟩ (.slice A5 x.gear.l.length c5)) = w6 at *
  clear hS0 hS1 hS2 hS3 hc3 hc4 hc5 hf3 hf4 hf5 m0 m1 m8 mf0 mf1 mf8 hb3 hb4 hb5 ho3 ho4 ho5 hg3 hg4 hy hCB st6 HC3 HC4 HC5 hm3 hm4 hz3 hz4 hz5
  have HVAL := Lib.hid hval
  have HOWN := Lib.hid hown6
  obtain ⟨CB, hCB⟩ : ∃ CB, y.cs.toArray = CB := ⟨_, rfl⟩
  rw [hCB] at blk6 hCs hC1 hCz
  have HCB := Lib.hid hCB
  clear hCB hval hown6 n0 n1 n8 nf0 nf1 nf8
  go_wp2_with (first | (refine wpList_load_row rfl 32 _ rfl N rfl 32 CB (0, 0) _ blk6 Tryz.underlying32 rfl hCs ?_) | (refine wpList_store_row rfl 32 _ _ rfl (N + 1) CB rfl rfl 32 #[.slice none 0 0, .slice none 0 0, .int .i64 0, .int .i64 0, .int .i64 0, .int .i64 0, .int .i64 0, .int .i64 0, .slice none 0 0, .int .i64 0, .int .i64 0, .int .i64 0, .int .i64 0, .int .i64 0, .int .i64 0, .int .i64 0, .int .i64 0] blkR hCs hCz hC1.out ?_))
  have stR : Stp (fun g => g = N + 1) w6 (w6.setRow (N + 1) CB) := Stp.setRow (N := fun g => g = N + 1) (Stp.refl _ _) (g := N + 1) (.inl rfl) CB
  refine bodyPost_ret (v := .agg CB) (results_cell_row rfl _ _ (N + 1) 32 CB (0, 0) _ rfl (Blk.setRow blkR CB) Tryz.underlying32 rfl hCs) rfl (show CpyP x w (.returned (.agg CB)) (w6.setRow (N + 1) CB) from ⟨y, by rw [HCB.out], HVAL.out, ?_, ?_⟩)
  · exact ((HOWN.out.stp stR (fun b h e => by omega)).mono fun b _ h => by omega)
  · exact below_stp B6 stR (fun g hg e => by omega) (by omega)
end Go.Proofs.YtmjgljdmjpabdaaGreatDoor.Fi
