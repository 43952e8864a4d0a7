/- The parts of the proof, part 37. -/
import Derived.Test.YtmjgljdmjpabdaaGreatDoorJ0
import Derived.Test.YtmjgljdmjpabdaaGreatDoorJ36
import Derived.Deep.DeepCutAuto
import Derived.BigQuiet
set_option linter.unusedSimpArgs false
set_option linter.unusedVariables false
namespace Go.Proofs.YtmjgljdmjpabdaaGreatDoor.Fi
open Go.RowKit Go.Lib Tx
theorem su_cs (L : LSu) : (Tryz.prog.info? 32).map (·.size) = some L.cs.toArray.size := by kernel_rfl
theorem su_one (L : LSu) : L.cs.toArray.all (·.oneCell') = true := by simp [LSu.cs, Value.oneCell']
def CpyP (x : LSu) (w : World) (e : Ending) (w' : World) : Prop := ∃ y : LSu, e = .returned (.agg y.cs.toArray) ∧ y.val = x.val ∧ SuOk (fun b => w.heap.size ≤ b) w' y ∧ Below w.heap.size w w'
set_option maxHeartbeats 8000000 in
set_option maxRecDepth 40000 in
theorem f_copied {T : Nat → Prop} (x : LSu) (w : World) (hS : SuOk T w x) (hW : SuW x) : Calls Tryz.prog 26 #[.agg x.cs.toArray] w (CpyP x w) := by
 have hbN := (Blk.new w 32 x.cs.toArray).alloc (.cells #[.slice none 0 0, .slice none 0 0, .int .i64 0, .int .i64 0, .int .i64 0, .int .i64 0, .int .i64 0, .int .i64 0, .slice none 0 0, .int .i64 0, .int .i64 0, .int .i64 0, .int .i64 0, .int .i64 0, .int .i64 0, .int .i64 0, .int .i64 0] 32)
 have hbR := Blk.new (w.alloc (.cells x.cs.toArray 32)) 32 #[.slice none 0 0, .slice none 0 0, .int .i64 0, .int .i64 0, .int .i64 0, .int .i64 0, .int .i64 0, .int .i64 0, .slice none 0 0, .int .i64 0, .int .i64 0, .int .i64 0, .int .i64 0, .int .i64 0, .int .i64 0, .int .i64 0, .int .i64 0]
 have B1 := bl_alloc (bl_alloc (below_refl w) (.cells x.cs.toArray 32)) (.cells #[.slice none 0 0, .slice none 0 0, .int .i64 0, .int .i64 0, .int .i64 0, .int .i64 0, .int .i64 0, .int .i64 0, .slice none 0 0, .int .i64 0, .int .i64 0, .int .i64 0, .int .i64 0, .int .i64 0, .int .i64 0, .int .i64 0, .int .i64 0] 32)
 have hS1 := hS.on B1
 rw [World.size_alloc] at hbR
 have n0 : ((w.alloc (.cells x.cs.toArray 32)).alloc (.cells #[.slice none 0 0, .slice none 0 0, .int .i64 0, .int .i64 0, .int .i64 0, .int .i64 0, .int .i64 0, .int .i64 0, .slice none 0 0, .int .i64 0, .int .i64 0, .int .i64 0, .int .i64 0, .int .i64 0, .int .i64 0, .int .i64 0, .int .i64 0] 32)).cell? ⟨w.heap.size, 0, none⟩ = some (.slice x.stk.a x.stk.l.length x.stk.c) := (hbN.cell 0).trans rfl
 have n1 : ((w.alloc (.cells x.cs.toArray 32)).alloc (.cells #[.slice none 0 0, .slice none 0 0, .int .i64 0, .int .i64 0, .int .i64 0, .int .i64 0, .int .i64 0, .int .i64 0, .slice none 0 0, .int .i64 0, .int .i64 0, .int .i64 0, .int .i64 0, .int .i64 0, .int .i64 0, .int .i64 0, .int .i64 0] 32)).cell? ⟨w.heap.size, 1, none⟩ = some (.slice x.jnt.a x.jnt.l.length x.jnt.c) := (hbN.cell 1).trans rfl
 have n8 : ((w.alloc (.cells x.cs.toArray 32)).alloc (.cells #[.slice none 0 0, .slice none 0 0, .int .i64 0, .int .i64 0, .int .i64 0, .int .i64 0, .int .i64 0, .int .i64 0, .slice none 0 0, .int .i64 0, .int .i64 0, .int .i64 0, .int .i64 0, .int .i64 0, .int .i64 0, .int .i64 0, .int .i64 0] 32)).cell? ⟨w.heap.size, 8, none⟩ = some (.slice x.gear.a x.gear.l.length x.gear.c) := (hbN.cell 8).trans rfl
 have nf0 := hbN.frozen 0
 have nf1 := hbN.frozen 1
 have nf8 := hbN.frozen 8
 have hsl := hW.sl
 have hjl := hW.jl
 have hgl := hW.gl
 have HW := Lib.hid hW
 have lw : w.heap.size + 1 < ((w.alloc (.cells x.cs.toArray 32)).alloc (.cells #[.slice none 0 0, .slice none 0 0, .int .i64 0, .int .i64 0, .int .i64 0, .int .i64 0, .int .i64 0, .int .i64 0, .slice none 0 0, .int .i64 0, .int .i64 0, .int .i64 0, .int .i64 0, .int .i64 0, .int .i64 0, .int .i64 0, .int .i64 0] 32)).heap.size := by simp
 clear hW hS
 go_enter Tryz.func26, Tryz.ntmps26
 go_upto_region 1 with fail
 obtain ⟨w1, hw1⟩ : ∃ w1, w1 = (w.alloc (.cells x.cs.toArray 32)).alloc (.cells #[.slice none 0 0, .slice none 0 0, .int .i64 0, .int .i64 0, .int .i64 0, .int .i64 0, .int .i64 0, .int .i64 0, .slice none 0 0, .int .i64 0, .int .i64 0, .int .i64 0, .int .i64 0, .int .i64 0, .int .i64 0, .int .i64 0, .int .i64 0] 32) := ⟨_, rfl⟩
 have hsz1 : w1.heap.size = w.heap.size + 1 + 1 := by rw [hw1]; simp
 rw [← hw1] at hbN hbR B1 hS1 n0 n1 n8 nf0 nf1 nf8 lw ⊢
 clear hw1
 obtain ⟨N, hN⟩ : ∃ N, w.heap.size = N := ⟨_, rfl⟩
 rw [hN] at hbN hbR n0 n1 n8 nf0 nf1 nf8 lw hsz1 ⊢
 have lN : N < w1.heap.size := by omega
 have HC3 := Lib.hid (fun w' (h : Below w1.heap.size w1 w') => (show Calls Tryz.prog 77 #[.slice x.stk.a x.stk.l.length x.stk.c] w' (ClsP S.Course.cs 6 68 x.stk.l w') from f_clonesC x.stk w' hsl (hS1.on h).stk.rd (fun y hy => ⟨HW.out.sc y hy, (hS1.on h).stks y hy⟩)))
 have HC4 := Lib.hid (fun w' (h : Below w1.heap.size w1 w') => (show Calls Tryz.prog 78 #[.slice x.jnt.a x.jnt.l.length x.jnt.c] w' (ClsP Jt.cs 2 69 x.jnt.l w') from f_clonesJ x.jnt w' hjl (hS1.on h).jnt.rd (fun y hy => ⟨HW.out.jc y hy, (hS1.on h).jnts y hy⟩)))
 have HC5 := Lib.hid (fun w' (h : Below w1.heap.size w1 w') => (show Calls Tryz.prog 27 #[.slice x.gear.a x.gear.l.length x.gear.c] w' (CloP G.It.cs 4 71 x.gear.l w') from c_CloneItem x.gear w' hgl (hS1.on h).gear.rd))
 clear hS1
 refine wp_region_noPanic ?_
 refine wp_region_lasts [10, 11, 12, 13, 14] (fun w' => (∀ b o, b < w1.heap.size → w'.cell? ⟨b, o, none⟩ = w1.cell? ⟨b, o, none⟩) ∧ (∀ b o, b < w1.heap.size → w'.frozen? ⟨b, o, none⟩ = w1.frozen? ⟨b, o, none⟩) ∧ Below w1.heap.size w1 w') (by kernel_rfl) (kq_draw kq_refl) (fun hS0 => ?_)
 refine wpAnyM_tk 0 3 ?gv1 rfl ?_; try simp only [AP]
 refine wpAnyM_tk 1 4 ?gv2 rfl ?_; try simp only [AP]
 refine wpAnyM_tk 3 6 ?gv3 rfl ?_; try simp only [AP]
 refine wpAnyM_tk 4 7 ?gv4 rfl ?_; try simp only [AP]
 refine wpAnyM_tk 6 9 ?gv5 rfl ?_; try simp only [AP]
 refine wpAnyM_tk 7 10 ?gv6 rfl ?_; try simp only [AP]
 refine wpAnyM_ready (rs := [2]) (by kernel_rfl) (by simp) ?_
 refine AllReadyM.cons rfl (fun K hK => ?_) AllReadyM.nil
 go_simp
 (go_at_call 77; ((with_reducible refine (HC3.out _ bl).mono ?_); rintro e w3 ⟨⟨A3, l3, c3⟩, rfl, hm3, ho3, hg3, hb3⟩; dsimp only [Sl.v] at *; obtain ⟨hc3, hf3⟩ := bcell hb3; have hz3 := hb3.size; (try simp [SZ] at hz3); (try simp only [SZ] at hc3 hf3); have lN3 : N < w3.heap.size := (by omega); have p31 := (hc3 N 1 lN).trans n1; have p38 := (hc3 N 8 lN).trans n8))
 refine hK.out _ _ kq (fun hS1 => ?_)
 clear hK K
 try simp only [AP]
 refine wpAnyM_tk 9 12 ?gv7 rfl ?_; try simp only [AP]
 refine wpAnyM_ready (rs := [5]) (by kernel_rfl) (by simp) ?_
 refine AllReadyM.cons rfl (fun K hK => ?_) AllReadyM.nil
 go_simp
 (go_at_call 78; ((with_reducible refine (HC4.out _ bl).mono ?_); rintro e w4 ⟨⟨A4, l4, c4⟩, rfl, hm4, ho4, hg4, hb4⟩; dsimp only [Sl.v] at *; obtain ⟨hc4, hf4⟩ := bcell hb4; have hz4 := hb4.size; (try simp [SZ] at hz4); (try simp only [SZ] at hc4 hf4); have lN4 : N < w4.heap.size := (by omega); have p48 := (hc4 N 8 lN3).trans ((hc3 N 8 lN).trans n8)))
 refine hK.out _ _ kq (fun hS2 => ?_)
 clear hK K
 try simp only [AP]
 refine wpAnyM_ready (rs := [8]) (by kernel_rfl) (by simp) ?_
 refine AllReadyM.cons rfl (fun K hK => ?_) AllReadyM.nil
 go_simp
 (go_at_call 27; ((with_reducible refine (HC5.out _ bl).mono ?_); rintro e w5 ⟨⟨A5, l5, c5⟩, rfl, hm5, ho5, hle5, hcm5, hb5⟩; dsimp only at hm5; subst hm5; dsimp only [Sl.v] at *; obtain ⟨hc5, hf5⟩ := bcell hb5; have hz5 := hb5.size; (try simp [SZ] at hz5); (try simp only [SZ] at hc5 hf5); have lN5 : N < w5.heap.size := (by omega); have m0 := (hc5 N 0 lN4).trans ((hc4 N 0 lN3).trans ((hc3 N 0 lN).trans n0)); have mf0 := (hf5 N 0 lN4).trans ((hf4 N 0 lN3).trans ((hf3 N 0 lN).trans nf0)); have m1 := (hc5 N 1 lN4).trans ((hc4 N 1 lN3).trans ((hc3 N 1 lN).trans n1)); have mf1 := (hf5 N 1 lN4).trans ((hf4 N 1 lN3).trans ((hf3 N 1 lN).trans nf1)); have m8 := (hc5 N 8 lN4).trans ((hc4 N 8 lN3).trans ((hc3 N 8 lN).trans n8)); have mf8 := (hf5 N 8 lN4).trans ((hf4 N 8 lN3).trans ((hf3 N 8 lN).trans nf8))))
 refine hK.out _ _ kq (fun hS3 => ?_)
 clear hK K
 try simp only [AP]
 refine wpAnyM_last (k := 10) (by decide) (by kernel_rfl) rfl (fun K hK => ?_)
 go_simp
 refine hK.out _ _ ?_
 clear hK K
 try simp only [AP]
 refine wpAnyM_last (k := 11) (by decide) (by kernel_rfl) rfl (fun K hK => ?_)
 go_simp
 refine hK.out _ _ ?_
 clear hK K
 try simp only [AP]
 refine wpAnyM_last (k := 12) (by decide) (by kernel_rfl) rfl (fun K hK => ?_)
 go_simp
 refine hK.out _ _ ?_
 clear hK K
 try simp only [AP]
 refine wpAnyM_last (k := 13) (by decide) (by kernel_rfl) rfl (fun K hK => ?_)
 go_simp
 refine hK.out _ _ ?_
 clear hK K
 try simp only [AP]
 refine wpAnyM_last (k := 14) (by decide) (by kernel_rfl) rfl (fun K hK => ?_)
 go_simp
 refine hK.out _ _ ?_
 clear hK K
 try simp only [AP]
 refine wpAnyM_done (by kernel_rfl) (NoPanic.normal ?_) _
 (try simp only [SZ] at ho3 hg3 ho4 hg4 ho5)
 have B5 : Below w1.heap.size w1 w5 := bl
 have lN5 : N < w5.heap.size := by omega
 have st6 : Stp (fun g => g = N) w5 (((w5.setCell ⟨N, 0, none⟩ (.slice A3 l3.length c3)).setCell ⟨N, 1, none⟩ (.slice A4 l4.length c4)).setCell ⟨N, 8, none⟩ (.slice A5 x.gear.l.length c5)) := Stp.setCell (N := fun g => g = N) (p := ⟨N, 8, none⟩) (Stp.setCell (N := fun g => g = N) (p := ⟨N, 1, none⟩) (Stp.setCell (N := fun g => g = N) (p := ⟨N, 0, none⟩) (Stp.refl _ _) (.inl rfl) _) (.inl rfl) _) (.inl rfl) _
 have blk6 := (((hbN.below B5 lN).set_ 0 (.slice A3 l3.length c3)).set_ 1 (.slice A4 l4.length c4)).set_ 8 (.slice A5 x.gear.l.length c5)
 have blkR := st6.blk (hbR.below B5 lw) (by omega)
 obtain ⟨y, hy⟩ : ∃ y : LSu, y = ⟨⟨A3, l3, c3⟩, ⟨A4, l4, c4⟩, x.cl, ⟨A5, x.gear.l, c5⟩, x.ru, x.rt, x.men⟩ := ⟨_, rfl⟩
 have hCB : (((x.cs.toArray.setIfInBounds 0 (.slice A3 l3.length c3)).setIfInBounds 1 (.slice A4 l4.length c4)).setIfInBounds 8 (.slice A5 x.gear.l.length c5)) = y.cs.toArray := by rw [hy]; rfl
 rw [hCB] at blk6
 have hCs := su_cs y
 have hC1 := Lib.hid (su_one y)
 have hCz : (#[.slice none 0 0, .slice none 0 0, .int .i64 0, .int .i64 0, .int .i64 0, .int .i64 0, .int .i64 0, .int .i64 0, .slice none 0 0, .int .i64 0, .int .i64 0, .int .i64 0, .int .i64 0, .int .i64 0, .int .i64 0, .int .i64 0, .int .i64 0] : Array Value).size = y.cs.toArray.size := rfl
 have hval : y.val = x.val := by
  rw [hy]
  unfold LSu.val
  dsimp only at hm3 hm4 ⊢
  rw [hm3, hm4]
 have hown6 : SuOk (fun b => w1.heap.size ≤ b) (((w5.setCell ⟨N, 0, none⟩ (.slice A3 l3.length c3)).setCell ⟨N, 1, none⟩ (.slice A4 l4.length c4)).setCell ⟨N, 8, none⟩ (.slice A5 x.gear.l.length c5)) y := by
  have q : ∀ b, w1.heap.size ≤ b → ¬ b = N := fun b h => by omega
  have g3 : Got (fun b => w1.heap.size ≤ b) w3 Sl.cs 1 (⟨A3, l3, c3⟩ : Sl (Sl S.Course)) := got_own (fun _ => rfl) ho3 fun b h _ => h
  have g4 : Got (fun b => w1.heap.size ≤ b) w4 Sl.cs 1 (⟨A4, l4, c4⟩ : Sl (Sl Jt)) := got_own (fun _ => rfl) ho4 fun b h _ => by omega
  have g5 : Got (fun b => w1.heap.size ≤ b) w5 G.It.cs 4 (⟨A5, x.gear.l, c5⟩ : Sl G.It) := got_own (fun _ => rfl) ho5 fun b h _ => by omega
  rw [hy]
  exact ⟨((g3.on hb4).on hb5).stp st6 q, fun z hz => ((((hg3 z hz).on hb4).on hb5).stp st6 (fun b h => q b h)), (g4.on hb5).stp st6 q, fun z hz => (((hg4 z hz).mono (fun b _ h => by omega)).on hb5).stp st6 q, g5.stp st6 q⟩
 have B6 : Below w.heap.size w (((w5.setCell ⟨N, 0, none⟩ (.slice A3 l3.length c3)).setCell ⟨N, 1, none⟩ (.slice A4 l4.length c4)).setCell ⟨N, 8, none⟩ (.slice A5 x.gear.l.length c5)) := below_stp (below_tr B1 B5) st6 (fun g hg e => by omega) (by have := (below_tr B1 B5).size; omega)
 have hN6 : N + 1 + 1 ≤ (((w5.setCell ⟨N, 0, none⟩ (.slice A3 l3.length c3)).setCell ⟨N, 1, none⟩ (.slice A4 l4.length c4)).setCell ⟨N, 8, none⟩ (.slice A5 x.gear.l.length c5)).heap.size := by have := st6.size; omega
 generalize (((w5.setCell ⟨N, 0, none⟩ (.slice A3 l3.length c3)).setCell ⟨N, 1, none⟩ (.slice A4 l4.length c4)).setCell ⟨N, 8, none⟩ (.slice A5 x.gear.l.length c5)) = w6 at *
 clear hS0 hS1 hS2 hS3 hc3 hc4 hc5 hf3 hf4 hf5 m0 m1 m8 mf0 mf1 mf8 hb3 hb4 hb5 ho3 ho4 ho5 hg3 hg4 hy hCB st6 HC3 HC4 HC5 hm3 hm4 hz3 hz4 hz5
 have HVAL := Lib.hid hval
 have HOWN := Lib.hid hown6
 obtain ⟨CB, hCB⟩ : ∃ CB, y.cs.toArray = CB := ⟨_, rfl⟩
 rw [hCB] at blk6 hCs hC1 hCz
 have HCB := Lib.hid hCB
 clear hCB hval hown6 n0 n1 n8 nf0 nf1 nf8
 go_wp2_with (first | (refine wpList_load_row rfl 32 _ rfl N rfl 32 CB (0, 0) _ blk6 Tryz.underlying32 rfl hCs ?_) | (refine wpList_store_row rfl 32 _ _ rfl (N + 1) CB rfl rfl 32 #[.slice none 0 0, .slice none 0 0, .int .i64 0, .int .i64 0, .int .i64 0, .int .i64 0, .int .i64 0, .int .i64 0, .slice none 0 0, .int .i64 0, .int .i64 0, .int .i64 0, .int .i64 0, .int .i64 0, .int .i64 0, .int .i64 0, .int .i64 0] blkR hCs hCz hC1.out ?_))
 have stR : Stp (fun g => g = N + 1) w6 (w6.setRow (N + 1) CB) := Stp.setRow (N := fun g => g = N + 1) (Stp.refl _ _) (g := N + 1) (.inl rfl) CB
 refine bodyPost_ret (v := .agg CB) (results_cell_row rfl _ _ (N + 1) 32 CB (0, 0) _ rfl (Blk.setRow blkR CB) Tryz.underlying32 rfl hCs) rfl (show CpyP x w (.returned (.agg CB)) (w6.setRow (N + 1) CB) from ⟨y, by rw [HCB.out], HVAL.out, ?_, ?_⟩)
 ·exact ((HOWN.out.stp stR (fun b h e => by omega)).mono fun b _ h => by omega)
 ·exact below_stp B6 stR (fun g hg e => by omega) (by omega)
def NewP (x : LSu) (w : World) (e : Ending) (w' : World) : Prop := Below w.heap.size w w' ∧ match vSu x.val with
 | false => e = .returned (.tuple #[.pointer none, .int .i64 1])
 | true => ∃ b L T, e = .returned (.tuple #[.pointer (some ⟨b, 0, none⟩), .int .i64 0]) ∧ FirmAt w' b L T ∧ L.val = new x.val ∧ (∀ g, T g → w.heap.size ≤ g) ∧ ∀ g, Foot b L g → w.heap.size ≤ g
section
variable {P : Program}
theorem step_make {ops : Array Oper} {o : Oper} {a : Act} {w : World} {K : Act → World → Prop} {Q : Exit → Act → World → Prop} {E : Prop} (hgd : o.guard = none) (l c : Operand) (t : TypeId) (hop : o.op = Op.makeSlice t l c)
  (base : Nat) (e : TypeId) (i : TypeInfo) (z : Value) (size : Nat) (h1 : P.underlying t = some (.slice e)) (h2 : P.info? e = some i) (h3 : i.zero = some z) (h4 : i.size = size)
  (kl kc : IntKind) (L C : Int) (n : Nat) (hl : a.eval l = .int kl L) (hc : a.eval c = .int kc C) (hL : L = (n : Int)) (hC : C = (n : Int)) (b2 : i.bytes * n ≤ 281474976710656) (b3 : n ≤ maxLen) (b4 : base ≤ w.heap.size)
  (hK : ∀ w', w'.ownsRow base e size (.slice (some ⟨w.heap.size, 0, none⟩) n n) n (madeCells z.cells (n * size)).toList → w.grownBy w' none → K (a.put o.dst (.slice (some ⟨w.heap.size, 0, none⟩) n n)) w') :
  if Region.wanted o (yielded ops a.tmps) = true then Oper.wp P o a w K Q else E := by
 have hw : Region.wanted o (yielded ops a.tmps) = true := by simp [Region.wanted, hgd]
 rw [if_pos hw]
 obtain ⟨w', hrun, r1, r2⟩ := run_make_full (P := P) w base t e i z size h1 h2 h3 h4 kl kc n b2 b3 b4
 subst hL
 subst hC
 unfold Oper.wp
 simp [execOp, hop, hl, hc, hrun, Result.andThen]
 exact hK _ r1 r2
end
def zSi : LSi := ⟨⟨none, [], 0⟩, false, 0⟩
theorem made_sites : ∀ n : Nat, (madeCells (Value.agg #[.slice none 0 0, .bool false, .int .i64 0]).cells (n * 3)).toList = fl LSi.cs (List.replicate n zSi)
 | 0 => by simp [madeCells, fl]
 | n + 1 => by
  have ih := made_sites n
  have e : (madeCells (Value.agg #[.slice none 0 0, .bool false, .int .i64 0]).cells ((n + 1) * 3)).toList = (madeCells (Value.agg #[.slice none 0 0, .bool false, .int .i64 0]).cells (n * 3)).toList ++ [.slice none 0 0, .bool false, .int .i64 0] := by
   have h0 : n * 3 % 3 = 0 := by omega
   have h1 : (n * 3 + 1) % 3 = 1 := by omega
   have h2 : (n * 3 + 1 + 1) % 3 = 2 := by omega
   unfold madeCells
   rw [show (n + 1) * 3 = n * 3 + 1 + 1 + 1 by omega, Array.toList_map, Array.toList_map, Array.toList_range, Array.toList_range, List.range_succ, List.range_succ, List.range_succ]
   simp only [List.map_append, List.map_cons, List.map_nil, List.append_assoc, List.cons_append, List.nil_append]
   congr 1
   show [_, _, _] = _
   rw [show (Value.agg #[.slice none 0 0, .bool false, .int .i64 0]).cells = #[.slice none 0 0, .bool false, .int .i64 0] from rfl]
   simp [h0, h1, h2]
  rw [e, ih, List.replicate_succ', fl, fl, List.flatMap_append]
  rfl
theorem got_sites {W : World} {base b0 n : Nat} {A : Option Addr} (h : W.ownsRow base 106 3 (.slice A n n) n (madeCells (Value.agg #[.slice none 0 0, .bool false, .int .i64 0]).cells (n * 3)).toList) (hb : b0 ≤ base) : Got (fun b => b0 ≤ b) W LSi.cs 3 (⟨A, List.replicate n zSi, n⟩ : Sl LSi) := by
 rw [made_sites] at h
 refine got_own (base := base) (e := 106) (fun _ => rfl) ?_ fun b h1 _ => Nat.le_trans hb h1
 unfold Sl.v
 dsimp only
 rw [List.length_replicate]
 exact h
theorem got_items {W : World} {base b0 : Nat} {A : Option Addr} {l : List G.It} {c : Nat} (h : W.ownsRow base 71 4 (.slice A l.length c) l.length (fl G.It.cs l)) (hb : b0 ≤ base) : Got (fun b => b0 ≤ b) W G.It.cs 4 (⟨A, l, c⟩ : Sl G.It) :=
 got_own (base := base) (e := 71) (fun _ => rfl) h fun b h1 _ => Nat.le_trans hb h1
abbrev newL (y : LSu) (si : Sl LSi) (it : Sl G.It) : LS := ⟨y, 0, ⟨none, [], 0⟩, ⟨none, [], 0⟩, si, it, ⟨none, [], 0⟩, 0, ⟨none, [], 0⟩⟩
theorem new_fin {x y : LSu} {w W : World} {A5 A6 : Option Addr} {n c5 c6 : Nat} (hv : vSu x.val = true) (hy : y.val = x.val) (hS : SuOk (fun b => w.heap.size ≤ b) W y) (B : Below w.heap.size w W) (hn : y.stk.l.length = n)
  (hsi : Got (fun b => w.heap.size ≤ b) W LSi.cs 3 (⟨A5, List.replicate n zSi, c5⟩ : Sl LSi)) (hit : Got (fun b => w.heap.size ≤ b) W G.It.cs 4 (⟨A6, y.gear.l, c6⟩ : Sl G.It)) {CC : Array Value} (hCC : (newL y ⟨A5, List.replicate n zSi, c5⟩ ⟨A6, y.gear.l, c6⟩).cs.toArray = CC) :
  NewP x w (.returned (.tuple #[.pointer (some ⟨W.heap.size, 0, none⟩), .int .i64 0])) (W.alloc (.cells CC 79)) := by
 subst hCC
 have hz := B.size
 have B1 := bl_alloc (below_refl W) (.cells (newL y ⟨A5, List.replicate n zSi, c5⟩ ⟨A6, y.gear.l, c6⟩).cs.toArray 79)
 have hq : ∀ b, b < W.heap.size → w.heap.size ≤ b → w.heap.size ≤ b ∧ b < W.heap.size := fun b h1 h2 => ⟨h2, h1⟩
 refine ⟨bl_alloc B _, ?_⟩
 rw [hv]
 refine ⟨W.heap.size, newL y ⟨A5, List.replicate n zSi, c5⟩ ⟨A6, y.gear.l, c6⟩, fun b => w.heap.size ≤ b ∧ b < W.heap.size, rfl, ⟨Blk.new W _ _, ⟨(hS.mono hq).on B1, got_nil _ _ _ _, got_nil _ _ _ _, fun r hr => (by cases hr), (hsi.mono hq).on B1, ?_, (hit.mono hq).on B1, got_nil _ _ _ _⟩, World.ownsRow_nil _ _ _ _, ?_, ?_⟩, ?_, fun g hg => hg.1, ?_⟩
 ·intro s hs
  have : s = zSi := (List.mem_replicate.1 hs).2
  subst this
  exact got_nil _ _ _ _
 ·rintro g ⟨h1, h2⟩ (h | h)
  ·omega
  ·simp [Value.ownBlock] at h
 ·simp [Value.ownBlock]
 ·unfold LS.val new
  dsimp only
  rw [← hy]
  unfold LSu.val
  dsimp only
  congr 1
  rw [List.map_replicate, List.map_map]
  refine List.ext_getElem (by simp [hn]) fun i h1 h2 => ?_
  simp [zSi, LSi.val]
 ·rintro g (h | h)
  ·omega
  ·simp [Value.ownBlock] at h
set_option maxHeartbeats 8000000 in
set_option maxRecDepth 40000 in
theorem f_New {T : Nat → Prop} (x : LSu) (w : World) (hS : SuOk T w x) (hW : SuW x) : Calls Tryz.prog 7 #[.agg x.cs.toArray] w (NewP x w) := by
 have hbN := Blk.new w 32 x.cs.toArray
 have B0 := bl_alloc (below_refl w) (.cells x.cs.toArray 32)
 have HVS := Lib.hid (f_ValidSetup x (w.alloc (.cells x.cs.toArray 32)) (hS.on B0) hW)
 have HCP := Lib.hid (fun W (h : Below w.heap.size w W) => f_copied x W (hS.on h) hW)
 have hCs := su_cs x
 have HC1 := Lib.hid (su_one x)
 have HGE := Lib.hid hW.gl
 have HSL := Lib.hid hW.sl
 have lN : w.heap.size < (w.alloc (.cells x.cs.toArray 32)).heap.size := hbN.lt
 clear hS hW
 obtain ⟨CA, hCA⟩ : ∃ CA, x.cs.toArray = CA := ⟨_, rfl⟩
 rw [hCA] at hbN B0 HVS HCP hCs HC1 lN ⊢
 have HCA := Lib.hid hCA
 clear hCA
 cases hv : vSu x.val
 ·have HV := Lib.hid hv
  rw [hv] at HVS
  go_enter Tryz.func7, Tryz.ntmps7
  go_wp2_with (first | (refine wpList_load_row rfl 32 _ rfl w.heap.size rfl 32 CA (0, 0) _ hbN Tryz.underlying32 rfl hCs ?_) | (go_at_call 25; ((with_reducible refine HVS.out.mono ?_); rintro e w2 ⟨rfl, hb2⟩)))
  go_ret2
  exact ⟨below_tr B0 hb2, by rw [HV.out]; rfl⟩
 have HV := Lib.hid hv
 rw [hv] at HVS
 clear hv
 go_enter Tryz.func7, Tryz.ntmps7
 go_upto_region 3 with (first | (refine wpList_load_row rfl 32 _ rfl w.heap.size rfl 32 CA (0, 0) _ hbN Tryz.underlying32 rfl hCs ?_) | (go_at_call 25; ((with_reducible refine HVS.out.mono ?_); rintro e w2 ⟨rfl, hb2⟩)))
 have hb02 := below_tr B0 hb2
 have hbN2 := hbN.below hb2 lN
 clear hbN HVS
 have hz2 : w.heap.size < w2.heap.size := Nat.lt_of_lt_of_le lN hb2.size
 go_upto_region 4 with (first | (refine wpList_load_row rfl 32 _ rfl w.heap.size rfl 32 CA (0, 0) _ hbN2 Tryz.underlying32 rfl hCs ?_) | (go_at_call 26; ((with_reducible refine (HCP.out w2 hb02).mono ?_); rintro e w3 ⟨y, rfl, hy1, hy2, hb3⟩; have hbN3 := hbN2.below hb3 hz2; have hysz : CA.size = y.cs.toArray.size := (by rw [← HCA.out]; rfl))) | (refine wpList_store_row rfl 32 _ _ rfl w.heap.size y.cs.toArray rfl rfl 32 CA hbN3 (su_cs y) hysz (su_one y) ?_))
 have B3 := below_tr hb02 hb3
 have lN3 : w.heap.size < w3.heap.size := Nat.lt_of_lt_of_le hz2 hb3.size
 have st4 : Stp (fun g => g = w.heap.size) w3 (w3.setRow w.heap.size y.cs.toArray) := Stp.setRow (N := fun g => g = w.heap.size) (Stp.refl _ _) (g := w.heap.size) (.inl rfl) y.cs.toArray
 have blk4 := Blk.setRow hbN3 y.cs.toArray
 have hS4 := (hy2.stp st4 (fun b h e => by omega)).mono (T' := fun b => w.heap.size ≤ b) fun b _ h => by omega
 have B4 := below_stp B3 st4 (fun g hg e => by omega) B3.size
 have lN4 : w.heap.size < (w3.setRow w.heap.size y.cs.toArray).heap.size := by rw [size_setRow]; exact lN3
 generalize w3.setRow w.heap.size y.cs.toArray = w4 at *
 clear st4 hbN3 hbN2 hb3 hb2 hy2 HCP
 obtain ⟨N, hN⟩ : ∃ N, w.heap.size = N := ⟨_, rfl⟩
 rw [hN] at lN4 blk4 ⊢
 have n0 : w4.cell? ⟨N, 0, none⟩ = some (.slice y.stk.a y.stk.l.length y.stk.c) := (blk4.cell 0).trans rfl
 have n1 : w4.cell? ⟨N, 1, none⟩ = some (.slice y.jnt.a y.jnt.l.length y.jnt.c) := (blk4.cell 1).trans rfl
 have n2 : w4.cell? ⟨N, 2, none⟩ = some (.int .i64 y.cl.fi) := (blk4.cell 2).trans rfl
 have n3 : w4.cell? ⟨N, 3, none⟩ = some (.int .i64 y.cl.ga) := (blk4.cell 3).trans rfl
 have n4 : w4.cell? ⟨N, 4, none⟩ = some (.int .i64 y.cl.tp) := (blk4.cell 4).trans rfl
 have n5 : w4.cell? ⟨N, 5, none⟩ = some (.int .i64 y.cl.le) := (blk4.cell 5).trans rfl
 have n6 : w4.cell? ⟨N, 6, none⟩ = some (.int .i64 y.cl.la) := (blk4.cell 6).trans rfl
 have n7 : w4.cell? ⟨N, 7, none⟩ = some (.int .i64 y.cl.st) := (blk4.cell 7).trans rfl
 have n8 : w4.cell? ⟨N, 8, none⟩ = some (.slice y.gear.a y.gear.l.length y.gear.c) := (blk4.cell 8).trans rfl
 have n9 : w4.cell? ⟨N, 9, none⟩ = some (.int .i64 y.ru.s) := (blk4.cell 9).trans rfl
 have n10 : w4.cell? ⟨N, 10, none⟩ = some (.int .i64 y.ru.g) := (blk4.cell 10).trans rfl
 have n11 : w4.cell? ⟨N, 11, none⟩ = some (.int .i64 y.ru.c) := (blk4.cell 11).trans rfl
 have n12 : w4.cell? ⟨N, 12, none⟩ = some (.int .i64 y.rt.lo) := (blk4.cell 12).trans rfl
 have n13 : w4.cell? ⟨N, 13, none⟩ = some (.int .i64 y.rt.hi) := (blk4.cell 13).trans rfl
 have n14 : w4.cell? ⟨N, 14, none⟩ = some (.int .i64 y.rt.ab) := (blk4.cell 14).trans rfl
 have n15 : w4.cell? ⟨N, 15, none⟩ = some (.int .i64 y.rt.co) := (blk4.cell 15).trans rfl
 have n16 : w4.cell? ⟨N, 16, none⟩ = some (.int .i64 y.men) := (blk4.cell 16).trans rfl
 obtain ⟨n, hn⟩ : ∃ n, y.stk.l.length = n := ⟨_, rfl⟩
 rw [hn] at n0
 have hnl : n ≤ 100000 := by
  have h1 := congrArg (fun q => q.stk.length) hy1
  unfold LSu.val at h1
  dsimp only at h1
  rw [List.length_map, List.length_map] at h1
  have := HSL.out; omega
 have hgl : y.gear.l.length ≤ 100000 := by
  have h1 := congrArg (fun q => q.gear.length) hy1
  unfold LSu.val at h1
  dsimp only at h1
  have := HGE.out; omega
 have HCI := Lib.hid (fun w' (h : Below w4.heap.size w4 w') => (show Calls Tryz.prog 27 #[.slice y.gear.a y.gear.l.length y.gear.c] w' (CloP G.It.cs 4 71 y.gear.l w') from c_CloneItem y.gear w' hgl (hS4.on h).gear.rd))
 have HY1 := Lib.hid hy1
 have HS4 := Lib.hid hS4
 have HB4 := Lib.hid B4
 have HNN := Lib.hid hN
 have HNY := Lib.hid hn
 clear hy1 hS4 hb02 hCs lN hn hgl hysz hz2 lN3 blk4 B3 B4 B0 hN
 obtain ⟨i0, hi, hi1, hi2, hi3⟩ := info_Site
 refine wp_region_noPanic ?_
 refine wp_region_held_drew (S := (fun w' => (∀ b o, b < w4.heap.size → w'.cell? ⟨b, o, none⟩ = w4.cell? ⟨b, o, none⟩) ∧ (∀ b o, b < w4.heap.size → w'.frozen? ⟨b, o, none⟩ = w4.frozen? ⟨b, o, none⟩) ∧ Below w4.heap.size w4 w')) (by kernel_rfl) (kq_draw kq_refl) (fun hS0 => ?_)
 refine tk 0 9 ?gv1 rfl ?_; try simp only [AP]
 refine tk 1 10 ?gv2 rfl ?_; try simp only [AP]
 refine tk 2 11 ?gv3 rfl ?_; try simp only [AP]
 refine tk 3 12 ?gv4 rfl ?_; try simp only [AP]
 refine tk 5 14 ?gv5 rfl ?_; try simp only [AP]
 refine tk 6 15 ?gv6 rfl ?_; try simp only [AP]
 refine wpAnyH_ready (rs := [4, 7]) (by kernel_rfl) (by simp) ?_
 refine AllReadyH.cons rfl (fun K hK => ?_) (AllReadyH.cons rfl (fun K hK => ?_) AllReadyH.nil)
 (refine step_make (by rfl) _ _ 73 (by rfl) w4.heap.size 106 i0 _ 3 Tryz.underlying73 hi hi1 hi2 _ _ _ _ n (by rfl) (by rfl) rfl rfl (by rw [hi3]; omega) (by unfold maxLen; omega) (by first | exact Nat.le_refl _ | omega | (simp; done) | (simp; omega)) ?_; intro w5 ho5 hg5; have hb5 := (below_refl _).grown hg5 (Nat.le_refl _) (fun j hj => by cases hj); obtain ⟨hc5, hf5⟩ := bcell hb5; have hz5 := hb5.size; (try simp [SZ] at hz5); (try simp only [SZ] at hc5 hf5))
 refine hK.out _ _ kq (fun hS1 => ?_)
 clear hK K
 try simp only [AP]
 refine wpAnyH_ready (rs := [7]) (by kernel_rfl) (by simp) ?_
 refine AllReadyH.cons rfl (fun K hK => ?_) AllReadyH.nil
 go_simp
 (go_at_call 27; ((with_reducible refine (HCI.out _ bl).mono ?_); rintro e w6 ⟨⟨A6, l6, c6⟩, rfl, hl6, ho6, hle6, hcm6, hb6⟩; dsimp only at hl6; subst hl6; dsimp only [Sl.v] at *; obtain ⟨hc6, hf6⟩ := bcell hb6; have hz6 := hb6.size; (try simp [SZ] at hz6); (try simp only [SZ] at hc6 hf6)))
 refine hK.out _ _ kq (fun hS2 => ?_)
 clear hK K
 try simp only [AP]
 refine tk 8 17 ?gv7 rfl ?_; try simp only [AP]
 refine tk 9 18 ?gv8 rfl ?_; try simp only [AP]
 refine wpAnyH_ready (rs := [10]) (by kernel_rfl) (by simp) ?_
 refine AllReadyH.cons rfl (fun K hK => ?_) AllReadyH.nil
 go_simp
 refine hK.out _ _ kq (fun hS3 => ?_)
 clear hK K
 try simp only [AP]
 refine tk 11 2 ?gv9 rfl ?_; try simp only [AP]
 refine tk 12 3 ?gv10 rfl ?_; try simp only [AP]
 refine wpAnyH_done (by kernel_rfl) (NoPanic.normal ?_) _
 rotate_left
 go_simp
 (go_at_call 27; ((with_reducible refine (HCI.out _ bl).mono ?_); rintro e w6 ⟨⟨A6, l6, c6⟩, rfl, hl6, ho6, hle6, hcm6, hb6⟩; dsimp only at hl6; subst hl6; dsimp only [Sl.v] at *; obtain ⟨hc6, hf6⟩ := bcell hb6; have hz6 := hb6.size; (try simp [SZ] at hz6); (try simp only [SZ] at hc6 hf6)))
 refine hK.out _ _ kq (fun hS1 => ?_)
 clear hK K
 try simp only [AP]
 refine wpAnyH_ready (rs := [4]) (by kernel_rfl) (by simp) ?_
 refine AllReadyH.cons rfl (fun K hK => ?_) AllReadyH.nil
 (refine step_make (by rfl) _ _ 73 (by rfl) w4.heap.size 106 i0 _ 3 Tryz.underlying73 hi hi1 hi2 _ _ _ _ n (by rfl) (by rfl) rfl rfl (by rw [hi3]; omega) (by unfold maxLen; omega) (by first | exact Nat.le_refl _ | omega | (simp; done) | (simp; omega)) ?_; intro w5 ho5 hg5; have hb5 := (below_refl _).grown hg5 (Nat.le_refl _) (fun j hj => by cases hj); obtain ⟨hc5, hf5⟩ := bcell hb5; have hz5 := hb5.size; (try simp [SZ] at hz5); (try simp only [SZ] at hc5 hf5))
 refine hK.out _ _ kq (fun hS2 => ?_)
 clear hK K
 try simp only [AP]
 refine tk 8 17 ?gv11 rfl ?_; try simp only [AP]
 refine tk 9 18 ?gv12 rfl ?_; try simp only [AP]
 refine wpAnyH_ready (rs := [10]) (by kernel_rfl) (by simp) ?_
 refine AllReadyH.cons rfl (fun K hK => ?_) AllReadyH.nil
 go_simp
 refine hK.out _ _ kq (fun hS3 => ?_)
 clear hK K
 try simp only [AP]
 refine tk 11 2 ?gv13 rfl ?_; try simp only [AP]
 refine tk 12 3 ?gv14 rfl ?_; try simp only [AP]
 refine wpAnyH_done (by kernel_rfl) (NoPanic.normal ?_) _
 rotate_left
 all_goals
  go_wp2
  go_ret2
  have hn := HNY.out
  subst hn
  have hN := HNN.out
  subst hN
  (try simp only [SZ] at ho5 ho6)
  have hz4 := HB4.out.size
  first
   | (have B46 : Below w4.heap.size w4 w6 := bl
      exact new_fin (W := w6) HV.out HY1.out (HS4.out.on B46) (below_tr HB4.out B46) rfl ((got_sites ho5 (by omega)).on hb6) (got_items ho6 (by omega)) (by simp [newL, LS.cs, Sl.v]))
   | (have B45 : Below w4.heap.size w4 w5 := bl
      exact new_fin (W := w5) HV.out HY1.out (HS4.out.on B45) (below_tr HB4.out B45) rfl (got_sites ho5 (by omega)) ((got_items ho6 (by omega)).on hb5) (by simp [newL, LS.cs, Sl.v]))
set_option maxHeartbeats 2000000 in
set_option maxRecDepth 20000 in
theorem f_Lines {b : Nat} {L : LS} {T : Nat → Prop} {w : World} (hF : FirmAt w b L T) (hl : L.lines.l.length ≤ 100000) :
  Calls Tryz.prog 21 #[.pointer (some ⟨b, 0, none⟩)] w (CloP En.cs 4 66 L.lines.l w) := by
 have c24 : w.cell? ⟨b, 24, none⟩ = some (.slice L.lines.a L.lines.l.length L.lines.c) := hF.cel 24 _ rfl
 have lb := hF.blk.lt
 have HC := Lib.hid (show Calls Tryz.prog 62 #[.slice L.lines.a L.lines.l.length L.lines.c] w (CloP En.cs 4 66 L.lines.l w) from c_CloneEntry L.lines w hl (own_rd' En.cs_len hF.row))
 go_enter Tryz.func21, Tryz.ntmps21
 go_wp2_with (go_at_call 62; ((with_reducible refine HC.out.mono ?_); rintro e w3 ⟨y, rfl, hy, ho, h1, h2, hb⟩))
 go_ret
 exact ⟨y, rfl, hy, ho, h1, h2, hb⟩
set_option maxHeartbeats 2000000 in
set_option maxRecDepth 20000 in
theorem r_Hash (s : ByteArray) (w : World) (hs : s.size ≤ 1000000000) :
  Calls Tryz.prog 68 #[.string s] w fun e w' => e = .returned (.int .u64 (hsh s.data.toList : Nat)) ∧ w = w' := by
 have HK := Lib.hid (fun k => hsh_lt (s.data.toList.take k))
 have HST := Lib.hid (fun k (h : k < s.size) => hsh_step h)
 have HA := Lib.hid (show hsh (s.data.toList.take s.size) = hsh s.data.toList by rw [List.take_of_length_le (by simp)])
 go_enter Tryz.func68, Tryz.ntmps68
 go_wp2
 go_loop [3, 4] (fun h i => ∃ k : Nat, k ≤ s.size ∧ i = .int .i64 k ∧ h = .int .u64 (hsh (s.data.toList.take k) : Nat)) (fun _ i => s.size - (RowKit.intOf i).toNat)
 case atStart => exact ⟨0, by omega, rfl, rfl⟩
 case round =>
  obtain ⟨k, hk, rfl, rfl⟩ := hrel
  have k0 : (0 : Int) ≤ (k : Int) := Int.natCast_nonneg _
  by_cases hlt : k < s.size
  ·have k1 : (k : Int) < (s.size : Int) := by omega
   have HT := Lib.hid (HST.out k hlt)
   have h64 := HK.out k
   have hb : s[k].toNat < 256 := UInt8.toNat_lt _
   have hx := u64_xor_nat (hsh (s.data.toList.take k)) s[k].toNat h64 (by omega)
   have hcv : IntKind.u64.wrap (s[k].toNat : Int) = (s[k].toNat : Int) := by rw [IntKind.wrap_u64]; omega
   generalize hsh (s.data.toList.take k) = H at *
   obtain ⟨Z, hZ⟩ : ∃ Z, Z = H ^^^ s[k].toNat := ⟨_, rfl⟩
   have hm : IntKind.u64.wrap ((Z : Int) * 1099511628211) = (((Z * 1099511628211) % 18446744073709551616 : Nat) : Int) := by rw [IntKind.wrap_u64]; omega
   rw [← hZ] at hx
   have HZ := Lib.hid hZ
   clear hZ
   go_wp2
   go_round
   case rel => exact ⟨k + 1, by omega, by go_num, by rw [HT.out, ← HZ.out]; congr 1⟩
   case measure => simp [RowKit.intOf]; omega
  ·obtain rfl : k = s.size := by omega
   rw [HA.out]
   go_wp2
   go_ret
   exact ⟨rfl, rfl⟩
theorem own_blk {α : Type} {enc : α → List Value} {sz g : Nat} {W : World} {t : TypeId} {l : List α} (hs : ∀ a, (enc a).length = sz) (h : Blk W g t (fl enc l).toArray) (hl : l.length ≤ maxLen) : Got (fun _ => True) W enc sz (⟨some ⟨g, 0, none⟩, l, l.length⟩ : Sl α) := by
 have hz : (fl enc l).length = l.length * sz := fl_length hs l
 have ho : W.ownsRow 0 t sz (.slice (some ⟨g, 0, none⟩) l.length l.length) l.length (fl enc l) :=
  ⟨hz, .inr ⟨g, l.length, _, rfl, Nat.zero_le _, h, Nat.le_refl _, hl, by simpa using hz, by rw [← hz]; simp⟩⟩
 exact ⟨own_rd' hs ho, fun _ _ _ => trivial, Nat.le_refl _, hl⟩
theorem fits_small : SuW ⟨⟨none, [⟨none, [⟨1000, 500, 300, 1000, 0, 0⟩], 1⟩], 1⟩, ⟨none, [⟨none, [⟨300, true⟩, ⟨700, true⟩], 2⟩], 1⟩, ⟨400, 500, 1000, 900, 100, 2000⟩, ⟨none, [⟨⟨#[115, 108, 105, 110, 103]⟩, 500, 10, ⟨#[97]⟩⟩], 1⟩, ⟨50, 40, 2⟩, ⟨7, 5000, 9, 100⟩, 4⟩ := by
 refine ⟨by simp, by simp, by simp, by simp, by simp, by simp, fun i hi => ?_⟩
 simp at hi
 subst hi
 constructor <;> decide
set_option maxHeartbeats 4000000 in
set_option maxRecDepth 20000 in
theorem f_small (w : World) : Calls Tryz.prog 23 #[] w fun e w' => ∃ x : LSu, e = .returned (.agg x.cs.toArray) ∧ x.val = smallU ∧ SuOk (fun _ => True) w' x ∧ SuW x ∧ Below w.heap.size w w' := by
 go_enter Tryz.func23, Tryz.ntmps23
 go_wp2
 obtain ⟨x, hx⟩ : ∃ x : LSu, x = ⟨⟨some ⟨w.heap.size + 1 + 1, 0, none⟩, [⟨some ⟨w.heap.size + 1, 0, none⟩, [⟨1000, 500, 300, 1000, 0, 0⟩], 1⟩], 1⟩, ⟨some ⟨w.heap.size + 1 + 1 + 1 + 1, 0, none⟩, [⟨some ⟨w.heap.size + 1 + 1 + 1, 0, none⟩, [⟨300, true⟩, ⟨700, true⟩], 2⟩], 1⟩, ⟨400, 500, 1000, 900, 100, 2000⟩, ⟨some ⟨w.heap.size + 1 + 1 + 1 + 1 + 1, 0, none⟩, [⟨⟨#[115, 108, 105, 110, 103]⟩, 500, 10, ⟨#[97]⟩⟩], 1⟩, ⟨50, 40, 2⟩, ⟨7, 5000, 9, 100⟩, 4⟩ := ⟨_, rfl⟩
 have b0 := (((((Blk.new w 32 x.cs.toArray).alloc (.cells #[.int .i64 1000, .int .i64 500, .int .i64 300, .int .i64 1000, .int .i64 0, .int .i64 0] 132)).alloc (.cells #[.slice (some ⟨w.heap.size + 1, 0, none⟩) 1 1] 68)).alloc (.cells #[.int .i64 300, .bool true, .int .i64 700, .bool true] 134)).alloc (.cells #[.slice (some ⟨w.heap.size + 1 + 1 + 1, 0, none⟩) 2 2] 69)).alloc (.cells #[.string ⟨#[115, 108, 105, 110, 103]⟩, .int .i64 500, .int .i64 10, .string ⟨#[97]⟩] 71)
 have b1 := ((((Blk.new (w.alloc (.cells x.cs.toArray 32)) 132 #[.int .i64 1000, .int .i64 500, .int .i64 300, .int .i64 1000, .int .i64 0, .int .i64 0]).alloc (.cells #[.slice (some ⟨w.heap.size + 1, 0, none⟩) 1 1] 68)).alloc (.cells #[.int .i64 300, .bool true, .int .i64 700, .bool true] 134)).alloc (.cells #[.slice (some ⟨w.heap.size + 1 + 1 + 1, 0, none⟩) 2 2] 69)).alloc (.cells #[.string ⟨#[115, 108, 105, 110, 103]⟩, .int .i64 500, .int .i64 10, .string ⟨#[97]⟩] 71)
 have b2 := (((Blk.new ((w.alloc (.cells x.cs.toArray 32)).alloc (.cells #[.int .i64 1000, .int .i64 500, .int .i64 300, .int .i64 1000, .int .i64 0, .int .i64 0] 132)) 68 #[.slice (some ⟨w.heap.size + 1, 0, none⟩) 1 1]).alloc (.cells #[.int .i64 300, .bool true, .int .i64 700, .bool true] 134)).alloc (.cells #[.slice (some ⟨w.heap.size + 1 + 1 + 1, 0, none⟩) 2 2] 69)).alloc (.cells #[.string ⟨#[115, 108, 105, 110, 103]⟩, .int .i64 500, .int .i64 10, .string ⟨#[97]⟩] 71)
 have b3 := ((Blk.new (((w.alloc (.cells x.cs.toArray 32)).alloc (.cells #[.int .i64 1000, .int .i64 500, .int .i64 300, .int .i64 1000, .int .i64 0, .int .i64 0] 132)).alloc (.cells #[.slice (some ⟨w.heap.size + 1, 0, none⟩) 1 1] 68)) 134 #[.int .i64 300, .bool true, .int .i64 700, .bool true]).alloc (.cells #[.slice (some ⟨w.heap.size + 1 + 1 + 1, 0, none⟩) 2 2] 69)).alloc (.cells #[.string ⟨#[115, 108, 105, 110, 103]⟩, .int .i64 500, .int .i64 10, .string ⟨#[97]⟩] 71)
 have b4 := (Blk.new ((((w.alloc (.cells x.cs.toArray 32)).alloc (.cells #[.int .i64 1000, .int .i64 500, .int .i64 300, .int .i64 1000, .int .i64 0, .int .i64 0] 132)).alloc (.cells #[.slice (some ⟨w.heap.size + 1, 0, none⟩) 1 1] 68)).alloc (.cells #[.int .i64 300, .bool true, .int .i64 700, .bool true] 134)) 69 #[.slice (some ⟨w.heap.size + 1 + 1 + 1, 0, none⟩) 2 2]).alloc (.cells #[.string ⟨#[115, 108, 105, 110, 103]⟩, .int .i64 500, .int .i64 10, .string ⟨#[97]⟩] 71)
 have b5 := Blk.new (((((w.alloc (.cells x.cs.toArray 32)).alloc (.cells #[.int .i64 1000, .int .i64 500, .int .i64 300, .int .i64 1000, .int .i64 0, .int .i64 0] 132)).alloc (.cells #[.slice (some ⟨w.heap.size + 1, 0, none⟩) 1 1] 68)).alloc (.cells #[.int .i64 300, .bool true, .int .i64 700, .bool true] 134)).alloc (.cells #[.slice (some ⟨w.heap.size + 1 + 1 + 1, 0, none⟩) 2 2] 69)) 71 #[.string ⟨#[115, 108, 105, 110, 103]⟩, .int .i64 500, .int .i64 10, .string ⟨#[97]⟩]
 simp only [World.size_alloc] at b1 b2 b3 b4 b5
 refine bodyPost_ret (v := .agg x.cs.toArray) (results_cell_row rfl _ _ w.heap.size 32 x.cs.toArray (0, 0) _ rfl (by rw [hx] at b0 ⊢; exact b0) Tryz.underlying32 rfl (su_cs x)) rfl ⟨x, rfl, by rw [hx]; rfl, ?_, ?_, bl⟩
 ·rw [hx] at b1 b2 b3 b4 b5 ⊢
  refine ⟨own_blk (fun _ => rfl) b2 (by simp [maxLen]), fun y hy => ?_, own_blk (fun _ => rfl) b4 (by simp [maxLen]), fun y hy => ?_, own_blk (fun _ => rfl) b5 (by simp [maxLen])⟩
  ·simp at hy; subst hy; exact own_blk (α := S.Course) (enc := S.Course.cs) (l := [⟨1000, 500, 300, 1000, 0, 0⟩]) (fun _ => rfl) b1 (by simp [maxLen])
  ·simp at hy; subst hy; exact own_blk (α := Jt) (enc := Jt.cs) (l := [⟨300, true⟩, ⟨700, true⟩]) (fun _ => rfl) b3 (by simp [maxLen])
 ·rw [hx]
  have h := fits_small
  refine ⟨by simp, by simp, by simp, by simp, h.le, by simp, h.gw⟩
theorem conv1 (W : World) (t : TypeId) (b : UInt8) : (convert 60 9 (.slice (some ⟨W.heap.size, 0, none⟩) 1 1)).run Tryz.prog (W.alloc (.cells #[.int .u8 (b.toNat : Int)] t)) = .ok (.string ⟨#[b]⟩) (W.alloc (.cells #[.int .u8 (b.toNat : Int)] t)) := by
 have h := run_convert_bytes_back (P := Tryz.prog) (W.alloc (.cells #[.int .u8 (b.toNat : Int)] t)) 60 9 5 ⟨W.heap.size, 0, none⟩ 1 [b] Tryz.underlying60 Tryz.underlying5 Tryz.underlying9 (fun j hj => by
  have hj0 : j = 0 := by simp at hj; omega
  subst hj0
  have := (Blk.new W t #[.int .u8 (b.toNat : Int)]).cell 0
  first | (simp [Addr.add]; done) | simpa [Addr.add] using this)
 exact h
def dgB (u : Nat) : UInt8 := UInt8.ofNat (48 + u)
set_option maxHeartbeats 2000000 in
set_option maxRecDepth 20000 in
theorem r_Digits0 (w : World) : Calls Tryz.prog 69 #[.int .i64 0] w fun e w' => e = .returned (.string ⟨#[48]⟩) ∧ Below w.heap.size w w' := by
 have hx : (convert 60 9 (.slice (some ⟨w.heap.size, 0, none⟩) 1 1)).run Tryz.prog (w.alloc (.cells #[.int .u8 48] 5)) = .ok (.string ⟨#[48]⟩) (w.alloc (.cells #[.int .u8 48] 5)) := conv1 w 5 48
 go_enter Tryz.func69, Tryz.ntmps69
 go_wp2
 go_ret
 exact ⟨rfl, bl⟩
set_option maxHeartbeats 2000000 in
set_option maxRecDepth 20000 in
theorem r_LineNil (w : World) : Calls Tryz.prog 24 #[.slice none 0 0, .int .i64 0, .string ⟨#[100, 111, 103, 32, 48]⟩] w fun e w' => e = .returned (enV ⟨0, 0, ⟨#[100, 111, 103, 32, 48]⟩, hsh [48, 32, 48, 32, 48, 32, 100, 111, 103, 32, 48]⟩) ∧ Below w.heap.size w w' := by
 have HD := Lib.hid (fun W => r_Digits0 W)
 have HH := Lib.hid (fun W => (show Calls Tryz.prog 68 #[.string ((⟨#[48]⟩ : ByteArray) ++ ⟨#[32]⟩ ++ ⟨#[48]⟩ ++ ⟨#[32]⟩ ++ ⟨#[48]⟩ ++ ⟨#[32]⟩ ++ ⟨#[100, 111, 103, 32, 48]⟩)] W fun e w' => e = .returned (.int .u64 (hsh [48, 32, 48, 32, 48, 32, 100, 111, 103, 32, 48] : Nat)) ∧ W = w' from by
  rw [show ((⟨#[48]⟩ : ByteArray) ++ ⟨#[32]⟩ ++ ⟨#[48]⟩ ++ ⟨#[32]⟩ ++ ⟨#[48]⟩ ++ ⟨#[32]⟩ ++ ⟨#[100, 111, 103, 32, 48]⟩) = ⟨#[48, 32, 48, 32, 48, 32, 100, 111, 103, 32, 48]⟩ from by rfl]
  exact r_Hash _ W (by decide)))
 generalize hsh [48, 32, 48, 32, 48, 32, 100, 111, 103, 32, 48] = H at *
 go_enter Tryz.func24, Tryz.ntmps24
 go_upto_region 5 with fail
 have x0 := (Blk.new w 66 #[.int .i64 0, .int .i64 0, .string ⟨#[]⟩, .int .u64 0]).alloc (.cells #[.int .i64 0, .int .i64 0, .string ⟨#[100, 111, 103, 32, 48]⟩, .int .u64 0] 66)
 have x1 := Blk.new (w.alloc (.cells #[.int .i64 0, .int .i64 0, .string ⟨#[]⟩, .int .u64 0] 66)) 66 #[.int .i64 0, .int .i64 0, .string ⟨#[100, 111, 103, 32, 48]⟩, .int .u64 0]
 rw [World.size_alloc] at x1
 have BW := bl_alloc (bl_alloc (below_refl w) (.cells #[.int .i64 0, .int .i64 0, .string ⟨#[]⟩, .int .u64 0] 66)) (.cells #[.int .i64 0, .int .i64 0, .string ⟨#[100, 111, 103, 32, 48]⟩, .int .u64 0] 66)
 generalize (w.alloc (.cells #[.int .i64 0, .int .i64 0, .string ⟨#[]⟩, .int .u64 0] 66)).alloc (.cells #[.int .i64 0, .int .i64 0, .string ⟨#[100, 111, 103, 32, 48]⟩, .int .u64 0] 66) = w1 at *
 have e0 : w1.cell? ⟨w.heap.size + 1, 0, none⟩ = some (.int .i64 0) := (x1.cell 0).trans rfl
 go_wp2_with (first | (go_at_call 69; ((with_reducible refine (HD.out _).mono ?_); rintro e w9 ⟨rfl, hb9⟩; replace x0 := x0.below hb9 x0.lt; replace x1 := x1.below hb9 x1.lt; replace BW := below_tr BW hb9)) | (go_at_call 68; ((with_reducible refine (HH.out _).mono ?_); rintro e w' ⟨rfl, rfl⟩; have hf0 := x0.frozen 0; have hf1 := x0.frozen 1; have hf2 := x0.frozen 2; have hf3 := x0.frozen 3; have hg3 := x1.frozen 3; have k0 := (x1.cell 0).trans (show _ = some (.int .i64 0) from rfl); have k1 := (x1.cell 1).trans (show _ = some (.int .i64 0) from rfl); have k2 := (x1.cell 2).trans (show _ = some (.string ⟨#[100, 111, 103, 32, 48]⟩) from rfl); have k3 := (x1.cell 3).trans (show _ = some (.int .u64 0) from rfl); have j0 := (x0.cell 0).trans (show _ = some (.int .i64 0) from rfl); have j1 := (x0.cell 1).trans (show _ = some (.int .i64 0) from rfl); have j2 := (x0.cell 2).trans (show _ = some (.string ⟨#[]⟩) from rfl); have j3 := (x0.cell 3).trans (show _ = some (.int .u64 0) from rfl))))
 have HB := (((((x0.far (p := ⟨w.heap.size + 1, 3, none⟩) (fun e => by have e' : w.heap.size = w.heap.size + 1 := e; omega) (.int .u64 (H : Nat))).set_ 0 (.int .i64 0)).set_ 1 (.int .i64 0)).set_ 2 (.string ⟨#[100, 111, 103, 32, 48]⟩)).set_ 3 (.int .u64 (H : Nat)))
 refine bodyPost_ret (v := enV ⟨0, 0, ⟨#[100, 111, 103, 32, 48]⟩, H⟩) (res_c rfl rfl (load_en HB)) rfl ⟨rfl, ?_⟩
 (repeat' (first | assumption | exact below_refl _ | refine bl_alloc ?_ _ | refine Below.setCell ?_ ?_ _ | refine below_draw ?_ | refine below_drewN ?_ _ | refine below_tr ?_ (by assumption))) <;> (first | omega | (simp; done) | (simp; omega))
end Go.Proofs.YtmjgljdmjpabdaaGreatDoor.Fi
namespace Go.Proofs.YtmjgljdmjpabdaaGreatDoor.Fi
open Go.Lib Tx
def scrT : List UInt8 := [117, 112, 32, 48, 32, 50, 10, 100, 111, 103, 32, 48, 10, 114, 105, 103, 32, 48, 32, 115, 108, 105, 110, 103, 58, 45, 49, 10, 117, 112, 32, 48, 32, 50, 10, 108, 105, 102, 116, 32, 48, 32, 53, 48, 49, 10, 108, 105, 102, 116, 32, 48, 32, 53, 48, 48, 10, 103, 117, 115, 116, 32, 54, 48, 10, 100, 111, 119, 110, 32, 48, 32, 49, 10, 100, 111, 119, 110, 32, 48, 32, 50, 10, 103, 117, 115, 116, 32, 54, 48, 10, 117, 112, 32, 48, 32, 50, 10, 100, 97, 121, 10, 98, 105, 108, 108, 32, 48, 10, 109, 111, 110, 101, 121, 10, 104, 101, 105, 103, 104, 116, 32, 48, 10, 110, 111, 119, 10, 103, 111, 101, 115, 10]
def outT : List UInt8 := [101, 114, 114, 111, 114, 32, 49, 48, 10, 111, 107, 10, 48, 10, 111, 107, 10, 101, 114, 114, 111, 114, 32, 49, 50, 10, 111, 107, 10, 101, 114, 114, 111, 114, 32, 49, 49, 10, 101, 114, 114, 111, 114, 32, 49, 48, 10, 111, 107, 10, 111, 107, 10, 101, 114, 114, 111, 114, 32, 49, 49, 10, 111, 107, 10, 111, 107, 10, 49, 48, 55, 10, 49, 48, 48, 48, 10, 49, 10, 121, 101, 115, 10]
def noBr : St → Int → List UInt8 := fun _ _ => []
set_option maxRecDepth 100000 in
theorem awake_ev : (doR noBr (new smallU) scrT).1 = outT ∧ (doR noBr (new smallU) scrT).2.lines.length = 8 ∧ ((doR noBr (new smallU) scrT).2.lines.map fun e => (e.n, e.d, e.t.data.toList, e.s)).head? = some (0, 0, [100, 111, 103, 32, 48], hsh [48, 32, 48, 32, 48, 32, 100, 111, 103, 32, 48]) := by decide +kernel
end Go.Proofs.YtmjgljdmjpabdaaGreatDoor.Fi
