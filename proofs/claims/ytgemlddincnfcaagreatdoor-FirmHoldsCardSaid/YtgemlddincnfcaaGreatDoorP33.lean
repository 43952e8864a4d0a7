/- The parts of the proof, part 33. -/
import Derived.Test.YtgemlddincnfcaaGreatDoorP0
import Derived.Test.YtgemlddincnfcaaGreatDoorP32
set_option linter.unusedSimpArgs false
set_option linter.unusedVariables false
namespace Go.Proofs.YtgemlddincnfcaaGreatDoor.Fi
open Go.RowKit Go.Lib Tx
theorem su_cs (L : LSu) : (Tryz.prog.info? 32).map (·.size) = some L.cs.toArray.size := by kernel_rfl
theorem su_one (L : LSu) : L.cs.toArray.all (·.oneCell') = true := by simp [LSu.cs, Value.oneCell']
def CpyP (x : LSu) (w : World) (e : Ending) (w' : World) : Prop := ∃ y : LSu, e = .returned (.agg y.cs.toArray) ∧ y.val = x.val ∧ SuOk (fun b => w.heap.size ≤ b) w' y ∧ Below w.heap.size w w'
set_option maxHeartbeats 8000000 in
set_option maxRecDepth 40000 in
theorem f_copied {T : Nat → Prop} (x : LSu) (w : World) (hS : SuOk T w x) (hW : SuW x) : Calls Tryz.prog 33 #[.agg x.cs.toArray] w (CpyP x w) := by
 have hbN := (Blk.new w 32 x.cs.toArray).alloc (.cells #[.slice none 0 0, .slice none 0 0, .int .i64 0, .int .i64 0, .int .i64 0, .int .i64 0, .int .i64 0, .int .i64 0, .slice none 0 0, .int .i64 0, .int .i64 0, .int .i64 0, .int .i64 0, .int .i64 0, .int .i64 0, .int .i64 0, .int .i64 0] 32)
 have hbR := Blk.new (w.alloc (.cells x.cs.toArray 32)) 32 #[.slice none 0 0, .slice none 0 0, .int .i64 0, .int .i64 0, .int .i64 0, .int .i64 0, .int .i64 0, .int .i64 0, .slice none 0 0, .int .i64 0, .int .i64 0, .int .i64 0, .int .i64 0, .int .i64 0, .int .i64 0, .int .i64 0, .int .i64 0]
 have B1 := bl_alloc (bl_alloc (below_refl w) (.cells x.cs.toArray 32)) (.cells #[.slice none 0 0, .slice none 0 0, .int .i64 0, .int .i64 0, .int .i64 0, .int .i64 0, .int .i64 0, .int .i64 0, .slice none 0 0, .int .i64 0, .int .i64 0, .int .i64 0, .int .i64 0, .int .i64 0, .int .i64 0, .int .i64 0, .int .i64 0] 32)
 have hS1 := hS.on B1
 rw [World.size_alloc] at hbR
 have n0 : ((w.alloc (.cells x.cs.toArray 32)).alloc (.cells #[.slice none 0 0, .slice none 0 0, .int .i64 0, .int .i64 0, .int .i64 0, .int .i64 0, .int .i64 0, .int .i64 0, .slice none 0 0, .int .i64 0, .int .i64 0, .int .i64 0, .int .i64 0, .int .i64 0, .int .i64 0, .int .i64 0, .int .i64 0] 32)).cell? ⟨w.heap.size, 0, none⟩ = some (.slice x.stk.a x.stk.l.length x.stk.c) := (hbN.cell 0).trans rfl
 have n1 : ((w.alloc (.cells x.cs.toArray 32)).alloc (.cells #[.slice none 0 0, .slice none 0 0, .int .i64 0, .int .i64 0, .int .i64 0, .int .i64 0, .int .i64 0, .int .i64 0, .slice none 0 0, .int .i64 0, .int .i64 0, .int .i64 0, .int .i64 0, .int .i64 0, .int .i64 0, .int .i64 0, .int .i64 0] 32)).cell? ⟨w.heap.size, 1, none⟩ = some (.slice x.jnt.a x.jnt.l.length x.jnt.c) := (hbN.cell 1).trans rfl
 have n8 : ((w.alloc (.cells x.cs.toArray 32)).alloc (.cells #[.slice none 0 0, .slice none 0 0, .int .i64 0, .int .i64 0, .int .i64 0, .int .i64 0, .int .i64 0, .int .i64 0, .slice none 0 0, .int .i64 0, .int .i64 0, .int .i64 0, .int .i64 0, .int .i64 0, .int .i64 0, .int .i64 0, .int .i64 0] 32)).cell? ⟨w.heap.size, 8, none⟩ = some (.slice x.gear.a x.gear.l.length x.gear.c) := (hbN.cell 8).trans rfl
 have nf0 := hbN.frozen 0
 have nf1 := hbN.frozen 1
 have nf8 := hbN.frozen 8
 have hsl := hW.sl
 have hjl := hW.jl
 have hgl := hW.gl
 have HW := Lib.hid hW
 have lw : w.heap.size + 1 < ((w.alloc (.cells x.cs.toArray 32)).alloc (.cells #[.slice none 0 0, .slice none 0 0, .int .i64 0, .int .i64 0, .int .i64 0, .int .i64 0, .int .i64 0, .int .i64 0, .slice none 0 0, .int .i64 0, .int .i64 0, .int .i64 0, .int .i64 0, .int .i64 0, .int .i64 0, .int .i64 0, .int .i64 0] 32)).heap.size := by simp
 clear hW hS
 go_enter Tryz.func33, Tryz.ntmps33
 go_upto_region 1 with fail
 obtain ⟨w1, hw1⟩ : ∃ w1, w1 = (w.alloc (.cells x.cs.toArray 32)).alloc (.cells #[.slice none 0 0, .slice none 0 0, .int .i64 0, .int .i64 0, .int .i64 0, .int .i64 0, .int .i64 0, .int .i64 0, .slice none 0 0, .int .i64 0, .int .i64 0, .int .i64 0, .int .i64 0, .int .i64 0, .int .i64 0, .int .i64 0, .int .i64 0] 32) := ⟨_, rfl⟩
 have hsz1 : w1.heap.size = w.heap.size + 1 + 1 := by rw [hw1]; simp
 rw [← hw1] at hbN hbR B1 hS1 n0 n1 n8 nf0 nf1 nf8 lw ⊢
 clear hw1
 obtain ⟨N, hN⟩ : ∃ N, w.heap.size = N := ⟨_, rfl⟩
 rw [hN] at hbN hbR n0 n1 n8 nf0 nf1 nf8 lw hsz1 ⊢
 have lN : N < w1.heap.size := by omega
 have HC3 := Lib.hid (fun w' (h : Below w1.heap.size w1 w') => (show Calls Tryz.prog 74 #[.slice x.stk.a x.stk.l.length x.stk.c] w' (ClsP S.Course.cs 6 75 x.stk.l w') from f_clonesC x.stk w' hsl (hS1.on h).stk.rd (fun y hy => ⟨HW.out.sc y hy, (hS1.on h).stks y hy⟩)))
 have HC4 := Lib.hid (fun w' (h : Below w1.heap.size w1 w') => (show Calls Tryz.prog 75 #[.slice x.jnt.a x.jnt.l.length x.jnt.c] w' (ClsP Jt.cs 2 60 x.jnt.l w') from f_clonesJ x.jnt w' hjl (hS1.on h).jnt.rd (fun y hy => ⟨HW.out.jc y hy, (hS1.on h).jnts y hy⟩)))
 have HC5 := Lib.hid (fun w' (h : Below w1.heap.size w1 w') => (show Calls Tryz.prog 34 #[.slice x.gear.a x.gear.l.length x.gear.c] w' (CloP G.It.cs 4 77 x.gear.l w') from c_CloneItem x.gear w' hgl (hS1.on h).gear.rd))
 clear hS1
 refine wp_region_noPanic ?_
 refine wp_region_lasts [10, 11, 12, 13, 14] (fun w' => (∀ b o, b < w1.heap.size → w'.cell? ⟨b, o, none⟩ = w1.cell? ⟨b, o, none⟩) ∧ (∀ b o, b < w1.heap.size → w'.frozen? ⟨b, o, none⟩ = w1.frozen? ⟨b, o, none⟩) ∧ Below w1.heap.size w1 w') (by kernel_rfl) (kq_draw kq_refl) (fun hS0 => ?_)
 refine wpAnyM_tk 0 3 ?gv1 rfl ?_; try simp only [AP]
 refine wpAnyM_tk 1 4 ?gv2 rfl ?_; try simp only [AP]
 refine wpAnyM_tk 3 6 ?gv3 rfl ?_; try simp only [AP]
 refine wpAnyM_tk 4 7 ?gv4 rfl ?_; try simp only [AP]
 refine wpAnyM_tk 6 9 ?gv5 rfl ?_; try simp only [AP]
 refine wpAnyM_tk 7 10 ?gv6 rfl ?_; try simp only [AP]
 refine wpAnyM_ready (rs := [2]) (by kernel_rfl) (by simp) ?_
 refine AllReadyM.cons rfl (fun K hK => ?_) AllReadyM.nil
 go_simp
 (go_at_call 74; ((with_reducible refine (HC3.out _ bl).mono ?_); rintro e w3 ⟨⟨A3, l3, c3⟩, rfl, hm3, ho3, hg3, hb3⟩; dsimp only [Sl.v] at *; obtain ⟨hc3, hf3⟩ := bcell hb3; have hz3 := hb3.size; (try simp [SZ] at hz3); (try simp only [SZ] at hc3 hf3); have lN3 : N < w3.heap.size := (by omega); have p31 := (hc3 N 1 lN).trans n1; have p38 := (hc3 N 8 lN).trans n8))
 refine hK.out _ _ kq (fun hS1 => ?_)
 clear hK K
 try simp only [AP]
 refine wpAnyM_tk 9 12 ?gv7 rfl ?_; try simp only [AP]
 refine wpAnyM_ready (rs := [5]) (by kernel_rfl) (by simp) ?_
 refine AllReadyM.cons rfl (fun K hK => ?_) AllReadyM.nil
 go_simp
 (go_at_call 75; ((with_reducible refine (HC4.out _ bl).mono ?_); rintro e w4 ⟨⟨A4, l4, c4⟩, rfl, hm4, ho4, hg4, hb4⟩; dsimp only [Sl.v] at *; obtain ⟨hc4, hf4⟩ := bcell hb4; have hz4 := hb4.size; (try simp [SZ] at hz4); (try simp only [SZ] at hc4 hf4); have lN4 : N < w4.heap.size := (by omega); have p48 := (hc4 N 8 lN3).trans ((hc3 N 8 lN).trans n8)))
 refine hK.out _ _ kq (fun hS2 => ?_)
 clear hK K
 try simp only [AP]
 refine wpAnyM_ready (rs := [8]) (by kernel_rfl) (by simp) ?_
 refine AllReadyM.cons rfl (fun K hK => ?_) AllReadyM.nil
 go_simp
 (go_at_call 34; ((with_reducible refine (HC5.out _ bl).mono ?_); rintro e w5 ⟨⟨A5, l5, c5⟩, rfl, hm5, ho5, hle5, hcm5, hb5⟩; dsimp only at hm5; subst hm5; dsimp only [Sl.v] at *; obtain ⟨hc5, hf5⟩ := bcell hb5; have hz5 := hb5.size; (try simp [SZ] at hz5); (try simp only [SZ] at hc5 hf5); have lN5 : N < w5.heap.size := (by omega); have m0 := (hc5 N 0 lN4).trans ((hc4 N 0 lN3).trans ((hc3 N 0 lN).trans n0)); have mf0 := (hf5 N 0 lN4).trans ((hf4 N 0 lN3).trans ((hf3 N 0 lN).trans nf0)); have m1 := (hc5 N 1 lN4).trans ((hc4 N 1 lN3).trans ((hc3 N 1 lN).trans n1)); have mf1 := (hf5 N 1 lN4).trans ((hf4 N 1 lN3).trans ((hf3 N 1 lN).trans nf1)); have m8 := (hc5 N 8 lN4).trans ((hc4 N 8 lN3).trans ((hc3 N 8 lN).trans n8)); have mf8 := (hf5 N 8 lN4).trans ((hf4 N 8 lN3).trans ((hf3 N 8 lN).trans nf8))))
 refine hK.out _ _ kq (fun hS3 => ?_)
 clear hK K
 try simp only [AP]
 refine wpAnyM_last (k := 10) (by decide) (by kernel_rfl) rfl (fun K hK => ?_)
 go_simp
 refine hK.out _ _ ?_
 clear hK K
 try simp only [AP]
 refine wpAnyM_last (k := 11) (by decide) (by kernel_rfl) rfl (fun K hK => ?_)
 go_simp
 refine hK.out _ _ ?_
 clear hK K
 try simp only [AP]
 refine wpAnyM_last (k := 12) (by decide) (by kernel_rfl) rfl (fun K hK => ?_)
 go_simp
 refine hK.out _ _ ?_
 clear hK K
 try simp only [AP]
 refine wpAnyM_last (k := 13) (by decide) (by kernel_rfl) rfl (fun K hK => ?_)
 go_simp
 refine hK.out _ _ ?_
 clear hK K
 try simp only [AP]
 refine wpAnyM_last (k := 14) (by decide) (by kernel_rfl) rfl (fun K hK => ?_)
 go_simp
 refine hK.out _ _ ?_
 clear hK K
 try simp only [AP]
 refine wpAnyM_done (by kernel_rfl) (NoPanic.normal ?_) _
 (try simp only [SZ] at ho3 hg3 ho4 hg4 ho5)
 have B5 : Below w1.heap.size w1 w5 := bl
 have lN5 : N < w5.heap.size := by omega
 have st6 : Stp (fun g => g = N) w5 (((w5.setCell ⟨N, 0, none⟩ (.slice A3 l3.length c3)).setCell ⟨N, 1, none⟩ (.slice A4 l4.length c4)).setCell ⟨N, 8, none⟩ (.slice A5 x.gear.l.length c5)) := Stp.setCell (N := fun g => g = N) (p := ⟨N, 8, none⟩) (Stp.setCell (N := fun g => g = N) (p := ⟨N, 1, none⟩) (Stp.setCell (N := fun g => g = N) (p := ⟨N, 0, none⟩) (Stp.refl _ _) (.inl rfl) _) (.inl rfl) _) (.inl rfl) _
 have blk6 := (((hbN.below B5 lN).set_ 0 (.slice A3 l3.length c3)).set_ 1 (.slice A4 l4.length c4)).set_ 8 (.slice A5 x.gear.l.length c5)
 have blkR := st6.blk (hbR.below B5 lw) (by omega)
 obtain ⟨y, hy⟩ : ∃ y : LSu, y = ⟨⟨A3, l3, c3⟩, ⟨A4, l4, c4⟩, x.cl, ⟨A5, x.gear.l, c5⟩, x.ru, x.rt, x.men⟩ := ⟨_, rfl⟩
 have hCB : (((x.cs.toArray.setIfInBounds 0 (.slice A3 l3.length c3)).setIfInBounds 1 (.slice A4 l4.length c4)).setIfInBounds 8 (.slice A5 x.gear.l.length c5)) = y.cs.toArray := by rw [hy]; rfl
 rw [hCB] at blk6
 have hCs := su_cs y
 have hC1 := Lib.hid (su_one y)
 have hCz : (#[.slice none 0 0, .slice none 0 0, .int .i64 0, .int .i64 0, .int .i64 0, .int .i64 0, .int .i64 0, .int .i64 0, .slice none 0 0, .int .i64 0, .int .i64 0, .int .i64 0, .int .i64 0, .int .i64 0, .int .i64 0, .int .i64 0, .int .i64 0] : Array Value).size = y.cs.toArray.size := rfl
 have hval : y.val = x.val := by
  rw [hy]
  unfold LSu.val
  dsimp only at hm3 hm4 ⊢
  rw [hm3, hm4]
 have hown6 : SuOk (fun b => w1.heap.size ≤ b) (((w5.setCell ⟨N, 0, none⟩ (.slice A3 l3.length c3)).setCell ⟨N, 1, none⟩ (.slice A4 l4.length c4)).setCell ⟨N, 8, none⟩ (.slice A5 x.gear.l.length c5)) y := by
  have q : ∀ b, w1.heap.size ≤ b → ¬ b = N := fun b h => by omega
  have g3 : Got (fun b => w1.heap.size ≤ b) w3 Sl.cs 1 (⟨A3, l3, c3⟩ : Sl (Sl S.Course)) := got_own (fun _ => rfl) ho3 fun b h _ => h
  have g4 : Got (fun b => w1.heap.size ≤ b) w4 Sl.cs 1 (⟨A4, l4, c4⟩ : Sl (Sl Jt)) := got_own (fun _ => rfl) ho4 fun b h _ => by omega
  have g5 : Got (fun b => w1.heap.size ≤ b) w5 G.It.cs 4 (⟨A5, x.gear.l, c5⟩ : Sl G.It) := got_own (fun _ => rfl) ho5 fun b h _ => by omega
  rw [hy]
  exact ⟨((g3.on hb4).on hb5).stp st6 q, fun z hz => ((((hg3 z hz).on hb4).on hb5).stp st6 (fun b h => q b h)), (g4.on hb5).stp st6 q, fun z hz => (((hg4 z hz).mono (fun b _ h => by omega)).on hb5).stp st6 q, g5.stp st6 q⟩
 have B6 : Below w.heap.size w (((w5.setCell ⟨N, 0, none⟩ (.slice A3 l3.length c3)).setCell ⟨N, 1, none⟩ (.slice A4 l4.length c4)).setCell ⟨N, 8, none⟩ (.slice A5 x.gear.l.length c5)) := below_stp (below_tr B1 B5) st6 (fun g hg e => by omega) (by have := (below_tr B1 B5).size; omega)
 have hN6 : N + 1 + 1 ≤ (((w5.setCell ⟨N, 0, none⟩ (.slice A3 l3.length c3)).setCell ⟨N, 1, none⟩ (.slice A4 l4.length c4)).setCell ⟨N, 8, none⟩ (.slice A5 x.gear.l.length c5)).heap.size := by have := st6.size; omega
 generalize (((w5.setCell ⟨N, 0, none⟩ (.slice A3 l3.length c3)).setCell ⟨N, 1, none⟩ (.slice A4 l4.length c4)).setCell ⟨N, 8, none⟩ (.slice A5 x.gear.l.length c5)) = w6 at *
 clear hS0 hS1 hS2 hS3 hc3 hc4 hc5 hf3 hf4 hf5 m0 m1 m8 mf0 mf1 mf8 hb3 hb4 hb5 ho3 ho4 ho5 hg3 hg4 hy hCB st6 HC3 HC4 HC5 hm3 hm4 hz3 hz4 hz5
 have HVAL := Lib.hid hval
 have HOWN := Lib.hid hown6
 obtain ⟨CB, hCB⟩ : ∃ CB, y.cs.toArray = CB := ⟨_, rfl⟩
 rw [hCB] at blk6 hCs hC1 hCz
 have HCB := Lib.hid hCB
 clear hCB hval hown6 n0 n1 n8 nf0 nf1 nf8
 go_wp2_with (first | (refine wpList_load_row rfl 32 _ rfl N rfl 32 CB (0, 0) _ blk6 Tryz.underlying32 rfl hCs ?_) | (refine wpList_store_row rfl 32 _ _ rfl (N + 1) CB rfl rfl 32 #[.slice none 0 0, .slice none 0 0, .int .i64 0, .int .i64 0, .int .i64 0, .int .i64 0, .int .i64 0, .int .i64 0, .slice none 0 0, .int .i64 0, .int .i64 0, .int .i64 0, .int .i64 0, .int .i64 0, .int .i64 0, .int .i64 0, .int .i64 0] blkR hCs hCz hC1.out ?_))
 have stR : Stp (fun g => g = N + 1) w6 (w6.setRow (N + 1) CB) := Stp.setRow (N := fun g => g = N + 1) (Stp.refl _ _) (g := N + 1) (.inl rfl) CB
 refine bodyPost_ret (v := .agg CB) (results_cell_row rfl _ _ (N + 1) 32 CB (0, 0) _ rfl (Blk.setRow blkR CB) Tryz.underlying32 rfl hCs) rfl (show CpyP x w (.returned (.agg CB)) (w6.setRow (N + 1) CB) from ⟨y, by rw [HCB.out], HVAL.out, ?_, ?_⟩)
 ·exact ((HOWN.out.stp stR (fun b h e => by omega)).mono fun b _ h => by omega)
 ·exact below_stp B6 stR (fun g hg e => by omega) (by omega)
theorem jntA_eq {x : LSu} {y : Su} (h : x.val = y) {k : Nat} {j : Sl Jt} (hj : x.jnt.l[k]? = some j) : y.jnt.getD k [] = j.l := by
 rw [← h]
 show (x.jnt.l.map (·.l)).getD k [] = _
 rw [List.getD_eq_getElem?_getD, List.getElem?_map, hj]
 rfl
set_option maxHeartbeats 8000000 in
set_option maxRecDepth 20000 in
theorem f_holds (x : LSu) {w0 w : World} {b : Nat} {L : LS} {T : Nat → Prop} (hH : Hd w0 w b L T) (hS : SuOk (fun _ => True) w x) (hx : x.val = L.val.x) :
  Calls Tryz.prog 15 #[.agg x.cs.toArray, .pointer (some ⟨b, 0, none⟩)] w fun e w' => e = .returned (.bool true) ∧ Below w.heap.size w w' := by
 have x0 := Blk.new w 32 x.cs.toArray
 have B0 := bl_alloc (below_refl w) (.cells x.cs.toArray 32)
 have c0 : (w.alloc (.cells x.cs.toArray 32)).cell? ⟨w.heap.size, 0, none⟩ = some (.slice x.stk.a x.stk.l.length x.stk.c) := x0.cell 0
 have c1 : (w.alloc (.cells x.cs.toArray 32)).cell? ⟨w.heap.size, 1, none⟩ = some (.slice x.jnt.a x.jnt.l.length x.jnt.c) := x0.cell 1
 have c2 : (w.alloc (.cells x.cs.toArray 32)).cell? ⟨w.heap.size, 2, none⟩ = some (.int .i64 x.cl.fi) := x0.cell 2
 have c3 : (w.alloc (.cells x.cs.toArray 32)).cell? ⟨w.heap.size, 3, none⟩ = some (.int .i64 x.cl.ga) := x0.cell 3
 have c4 : (w.alloc (.cells x.cs.toArray 32)).cell? ⟨w.heap.size, 4, none⟩ = some (.int .i64 x.cl.tp) := x0.cell 4
 have c5 : (w.alloc (.cells x.cs.toArray 32)).cell? ⟨w.heap.size, 5, none⟩ = some (.int .i64 x.cl.le) := x0.cell 5
 have c6 : (w.alloc (.cells x.cs.toArray 32)).cell? ⟨w.heap.size, 6, none⟩ = some (.int .i64 x.cl.la) := x0.cell 6
 have c7 : (w.alloc (.cells x.cs.toArray 32)).cell? ⟨w.heap.size, 7, none⟩ = some (.int .i64 x.cl.st) := x0.cell 7
 have c16 : (w.alloc (.cells x.cs.toArray 32)).cell? ⟨w.heap.size, 16, none⟩ = some (.int .i64 x.men) := x0.cell 16
 have lb := x0.lt
 have hI := hH.inv
 have hsl : L.sites.l.length ≤ 8 := hI.slen
 have hst : x.stk.l.length = L.sites.l.length := by
  have h1 := hI.sl
  rw [← hx] at h1
  have h2 : L.val.sites.length = L.sites.l.length := List.length_map ..
  have h3 : x.val.stk.length = x.stk.l.length := List.length_map ..
  omega
 have hjn : x.jnt.l.length = L.sites.l.length := by
  have h1 := (vSu_parts hI.su).2.1
  rw [← hx] at h1
  have h2 : x.val.jnt.length = x.jnt.l.length := List.length_map ..
  have h3 : x.val.stk.length = x.stk.l.length := List.length_map ..
  omega
 have hcl : vCl x.cl = true := by
  have h1 := (vSu_parts hI.su).2.2.2.2.1
  rw [← hx] at h1
  exact h1
 have hle : -9223372036854775808 < x.cl.le ∧ x.cl.le ≤ 9223372036854775807 := by
  have h := hcl
  unfold vCl at h
  simp only [Bool.and_eq_true, decide_eq_true_eq] at h
  omega
 have hmn : x.men = L.val.x.men := by rw [← hx]; rfl
 have hup := hH.safe.up
 rw [← hmn] at hup
 have hmB : 1 ≤ x.men ∧ x.men ≤ 16 := by
  have h1 := (vSu_parts hI.su).2.2.2.2.2.2.2.2
  rw [← hmn] at h1
  exact h1
 have H0 := Lib.hid (fun W (h : Below w.heap.size w W) => hH.below h)
 have HUP := Lib.hid (fun k s hs => Safe.up_at (L := L) (k := k) (s := s) hI hH.safe hs)
 have HMB := Lib.hid (menN_bd hI.menL)
 have HMA := Lib.hid (menN_all L)
 have HJE := Lib.hid (fun (k : Nat) (j : Sl Jt) (hj : x.jnt.l[k]? = some j) => (show jntA L.val (k : Int) = j.l from jntA_eq hx hj))
 have HJV := Lib.hid (fun (j : Sl Jt) (hj : j ∈ x.jnt.l) => (show j.l.length ≤ 100000 by
  have h1 := (vSu_parts hI.su).2.2.2.1 j.l (by rw [← hx]; exact List.mem_map.2 ⟨j, hj, rfl⟩)
  have := (jb_of h1).n; omega))
 have HCL := Lib.hid (show L.val.x.cl = x.cl by rw [← hx]; rfl)
 have HSD := Lib.hid (fun s (h : s ∈ L.sites.l) => (show s.dogs.l.length ≤ 300 from hI.sd s.val (List.mem_map.2 ⟨s, h, rfl⟩)))
 have HTK := Lib.hid (fun ys (h : List.map (fun y : Sl G.Lk => y.l) ys = L.rigs.l.map (·.lk.l)) => taken_ok hI hH.safe h)
 have HJ := Lib.hid (fun W (h : Below w.heap.size w W) => hS.jnt.rd.on h)
 have HJJ := Lib.hid (fun j (hj : j ∈ x.jnt.l) W (h : Below w.heap.size w W) => (hS.jnts j hj).rd.on h)
 have hRI := hI.rl
 have HIL := Lib.hid hI.iw
 have hil : L.items.l.length ≤ 100000 := by
  have h1 := hI.it
  unfold G.vldG at h1
  have h2 := of_decide_eq_true (Bool.and_eq_true_iff.1 h1).2
  have h3 : L.val.items.length = L.items.l.length := rfl
  omega
 clear hH hS hx hI hcl hmn x0
 obtain ⟨CA, hCA⟩ : ∃ CA, CA = x.cs.toArray := ⟨_, rfl⟩
 rw [← hCA] at B0 c0 c1 c2 c3 c4 c5 c6 c7 c16 lb ⊢
 clear hCA
 obtain ⟨n, hn⟩ : ∃ n, n = L.sites.l.length := ⟨_, rfl⟩
 rw [hst] at c0
 rw [hjn] at c1
 rw [← hn] at hsl c0 c1
 have HN := Lib.hid hn
 have HJN := Lib.hid hjn
 rw [← hn] at HJN
 clear hn hst hjn
 go_enter Tryz.func15, Tryz.ntmps15
 go_upto_region 1 with fail
 generalize w.alloc (.cells CA 32) = w1 at *
 have lB1 := B0.size
 go_wp2
 go_loopw [5, 6] (fun a i wr => ∃ k : Nat, k ≤ n ∧ i = .int .i64 k ∧ a = .int .i64 (menN L.sites.l k) ∧ Below w1.heap.size w1 wr) (fun _ i _ => n - (RowKit.intOf i).toNat)
 case atStart => exact ⟨0, by omega, rfl, rfl, below_refl _⟩
 case round =>
  obtain ⟨k, hk, rfl, rfl, hbw⟩ := hrel
  rename World => wr
  have k0 : (0 : Int) ≤ (k : Int) := Int.natCast_nonneg _
  have lwr := hbw.size
  have hCW := (bcell hbw).1
  have e0 := (hCW w.heap.size 0 lb).trans c0
  have Bw := below_tr B0 hbw
  have hb0 := HMB.out k
  by_cases hlt : k < n
  ·have k1 : (k : Int) < (n : Int) := by omega
   have e1 := (hCW w.heap.size 1 lb).trans c1
   have e2 := (hCW w.heap.size 2 lb).trans c2
   have e3 := (hCW w.heap.size 3 lb).trans c3
   have e4 := (hCW w.heap.size 4 lb).trans c4
   have e5 := (hCW w.heap.size 5 lb).trans c5
   have e6 := (hCW w.heap.size 6 lb).trans c6
   have e7 := (hCW w.heap.size 7 lb).trans c7
   obtain ⟨s, hs⟩ := get_lt (l := L.sites.l) (k := k) (by rw [← HN.out]; exact hlt)
   obtain ⟨hm1, hmu⟩ := HUP.out k s hs
   have hH := H0.out wr Bw
   have HAL := Lib.hid (hH.at_.aloft hH.inv k hs)
   have hmb := hH.inv.menL s (List.mem_of_getElem? hs)
   have HST := Lib.hid (menN_step hs)
   by_cases hm0 : s.men = 0
   ·rw [hm0] at HAL HST
    rw [Int.add_zero] at HST
    have HS2 := Lib.hid HST.out.symm
    clear HST hmu hm1 hmb
    generalize menN L.sites.l k = N at *
    have hwr : IntKind.i64.wrap (N + 0) = N := by rw [Int.add_zero]; exact fits_wrap ⟨by omega, by omega⟩
    go_upto_region 7 with (go_at_call 19; ((with_reducible refine HAL.out.mono ?_); rintro e w3 ⟨rfl, hb3⟩))
    refine wp_region_noPanic ?_
    refine wp_region_held_drew (S := (fun w' => (∀ b o, b < w3.heap.size → w'.cell? ⟨b, o, none⟩ = w3.cell? ⟨b, o, none⟩) ∧ (∀ b o, b < w3.heap.size → w'.frozen? ⟨b, o, none⟩ = w3.frozen? ⟨b, o, none⟩) ∧ Below w3.heap.size w3 w')) (by kernel_rfl) (kq_draw kq_refl) (fun hS0 => ?_)
    refine tk 0 26 ?gv1 rfl ?_; try simp only [AP]
    refine tk 1 27 ?gv2 rfl ?_; try simp only [AP]
    refine tk 2 28 ?gv3 rfl ?_; try simp only [AP]
    refine tg 3 29 2 false ?gv4 rfl ?_; try simp only [AP]
    refine tg 4 30 2 false ?gv5 rfl ?_; try simp only [AP]
    refine tk 5 31 ?gv6 rfl ?_; try simp only [AP]
    refine tk 6 32 ?gv7 rfl ?_; try simp only [AP]
    refine tg 7 33 6 false ?gv8 rfl ?_; try simp only [AP]
    refine tg 8 34 6 false ?gv9 rfl ?_; try simp only [AP]
    refine tg 9 35 6 false ?gv10 rfl ?_; try simp only [AP]
    refine tu 10 36 9 true rfl ?_; try simp only [AP]
    refine tu 11 37 9 true rfl ?_; try simp only [AP]
    refine tu 12 38 9 true rfl ?_; try simp only [AP]
    refine tu 13 39 9 true rfl ?_; try simp only [AP]
    refine tu 14 40 13 false rfl ?_; try simp only [AP]
    refine tu 15 41 13 false rfl ?_; try simp only [AP]
    refine tu 16 42 13 false rfl ?_; try simp only [AP]
    refine tu 17 43 9 true rfl ?_; try simp only [AP]
    refine tu 18 44 9 true rfl ?_; try simp only [AP]
    refine tu 19 45 18 false rfl ?_; try simp only [AP]
    refine tu 20 46 18 false rfl ?_; try simp only [AP]
    refine tu 21 47 18 false rfl ?_; try simp only [AP]
    refine tu 22 48 18 false rfl ?_; try simp only [AP]
    refine tu 23 49 18 false rfl ?_; try simp only [AP]
    refine tu 24 50 18 false rfl ?_; try simp only [AP]
    refine tu 25 51 18 false rfl ?_; try simp only [AP]
    refine tu 26 52 18 false rfl ?_; try simp only [AP]
    refine tu 27 53 18 false rfl ?_; try simp only [AP]
    refine tu 28 54 18 false rfl ?_; try simp only [AP]
    refine tu 29 55 18 false rfl ?_; try simp only [AP]
    refine tu 30 56 18 false rfl ?_; try simp only [AP]
    refine tu 31 57 9 true rfl ?_; try simp only [AP]
    refine tg 32 58 6 false ?gv11 rfl ?_; try simp only [AP]
    refine tk 33 59 ?gv12 rfl ?_; try simp only [AP]
    refine wpAnyH_done (by kernel_rfl) (NoPanic.normal ?_) _
    go_wp2
    go_roundw
    case rel => exact ⟨k + 1, by omega, by go_num, by first | (rw [← HS2.out]; done) | (rw [← HS2.out]; go_num), bl⟩
    case measure => simp [RowKit.intOf]; omega
   ·have q1 : 0 < s.men := by omega
    obtain ⟨hgo, hfe, hrg⟩ := hmu q1
    obtain ⟨j, hj⟩ := get_lt (l := x.jnt.l) (k := k) (by rw [HJN.out]; exact hlt)
    have hjm := List.mem_of_getElem? hj
    have HGO := Lib.hid (fun W (h : Below w.heap.size w W) => (show Calls Tryz.prog 20 #[.pointer (some ⟨b, 0, none⟩)] W fun e w' => e = .returned (.bool true) ∧ Below W.heap.size W w' by
     have := (H0.out W h).at_.goes (H0.out W h).inv
     rw [hgo] at this; exact this))
    have HFE := Lib.hid (fun W (h : Below w.heap.size w W) => (show Calls Tryz.prog 21 #[.pointer (some ⟨b, 0, none⟩), .int .i64 (k : Nat)] W fun e w' => e = .returned (.bool false) ∧ Below W.heap.size W w' by
     have := f_FelledA (H0.out W h).at_ (H0.out W h).inv k hs
     rw [hfe] at this; exact this))
    have HDG := Lib.hid (fun W (h : Below w.heap.size w W) => f_DogsA (H0.out W h).at_ (H0.out W h).inv k hs)
    have hsd := HSD.out s (List.mem_of_getElem? hs)
    have HRT := Lib.hid (fun (y : Sl Int) (hy : y.l = s.dogs.l) W (h : Below w.heap.size w W) (hr : Rd zC 1 W y.a y.l) => (show Calls Tryz.prog 22 #[clV x.cl, .slice j.a j.l.length j.c, .slice y.a y.l.length y.c] W fun e w' => e = .returned (.bool true) ∧ Below W.heap.size W w' by
     have := l_Right x.cl j.a j.l j.c y.a y.l y.c W hle (HJV.out j hjm) (by rw [hy]; unfold maxLen; omega) (HJJ.out j hjm W h) hr
     rw [hy, ← HJE.out k j hj, ← HCL.out, hrg] at this
     rw [hy, ← HJE.out k j hj, ← HCL.out]; exact this))
    have q2 : (s.men == 1) = false := beq_eq_false_iff_ne.2 hm1
    have q3 : decide (s.men < 0) = false := decide_eq_false (by omega)
    have q4 : decide (0 < s.men) = true := decide_eq_true q1
    have q5 : ¬ s.men < 0 := by omega
    clear hmu hgo hfe hrg hsd
    generalize s.men = m at *
    have HS2 := Lib.hid HST.out.symm
    clear HST
    generalize menN L.sites.l k = N at *
    have hwr : IntKind.i64.wrap (N + m) = N + m := fits_wrap ⟨by omega, by omega⟩
    go_upto_region 7 with (go_at_call 19; ((with_reducible refine HAL.out.mono ?_); rintro e w3 ⟨rfl, hb3⟩))
    have hz3 := hb3.size
    have hC3 := (bcell hb3).1
    have B3 := below_tr Bw hb3
    have B13 := below_tr hbw hb3
    have g1 := (hC3 w.heap.size 1 (by omega)).trans e1
    have g2 := (hC3 w.heap.size 2 (by omega)).trans e2
    have g3 := (hC3 w.heap.size 3 (by omega)).trans e3
    have g4 := (hC3 w.heap.size 4 (by omega)).trans e4
    have g5 := (hC3 w.heap.size 5 (by omega)).trans e5
    have g6 := (hC3 w.heap.size 6 (by omega)).trans e6
    have g7 := (hC3 w.heap.size 7 (by omega)).trans e7
    obtain ⟨jb, jo, hja, ljb, hjc⟩ := (HJ.out w3 B3).get hj
    have gj : w3.cell? ⟨jb, jo + k, none⟩ = some (.slice j.a j.l.length j.c) := by have := hjc 0 _ rfl; simpa using this
    have l3 : w.heap.size < w3.heap.size := by omega
    rw [hja] at g1
    clear hjc hj hs hja e0 e1 e2 e3 e4 e5 e6 e7 hC3 hCW
    refine wp_region_noPanic ?_
    refine wp_region_held_drew (S := (fun w' => (∀ b o, b < w3.heap.size → w'.cell? ⟨b, o, none⟩ = w3.cell? ⟨b, o, none⟩) ∧ (∀ b o, b < w3.heap.size → w'.frozen? ⟨b, o, none⟩ = w3.frozen? ⟨b, o, none⟩) ∧ Below w3.heap.size w3 w')) (by kernel_rfl) (kq_draw kq_refl) (fun hS0 => ?_)
    refine tk 0 26 ?gv13 rfl ?_; try simp only [AP]
    refine tk 1 27 ?gv14 rfl ?_; try simp only [AP]
    refine tk 2 28 ?gv15 rfl ?_; try simp only [AP]
    refine tg 3 29 2 false ?gv16 rfl ?_; try simp only [AP]
    refine tg 4 30 2 false ?gv17 rfl ?_; try simp only [AP]
    refine tk 5 31 ?gv18 rfl ?_; try simp only [AP]
    refine tk 6 32 ?gv19 rfl ?_; try simp only [AP]
    refine tg 7 33 6 false ?gv20 rfl ?_; try simp only [AP]
    refine tg 8 34 6 false ?gv21 rfl ?_; try simp only [AP]
    refine tg 9 35 6 false ?gv22 rfl ?_; try simp only [AP]
    refine tg 10 36 9 true ?gv23 rfl ?_; try simp only [AP]
    refine wpAnyH_ready (rs := [11]) (by kernel_rfl) (by simp) ?_
    refine AllReadyH.cons rfl (fun K hK => ?_) AllReadyH.nil
    go_simp
    (go_at_call 20; ((with_reducible refine (HGO.out _ bl).mono ?_); rintro e w4 ⟨rfl, hb4⟩; obtain ⟨hc4, hf4⟩ := bcell hb4; have hz4 := hb4.size; (try simp [SZ] at hz4); (try simp only [SZ] at hc4 hf4)))
    refine hK.out _ _ kq (fun hS1 => ?_)
    clear hK K
    try simp only [AP]
    refine tg 12 38 9 true ?gv24 rfl ?_; try simp only [AP]
    refine tg 13 39 9 true ?gv25 rfl ?_; try simp only [AP]
    refine tg 14 40 13 false ?gv26 rfl ?_; try simp only [AP]
    refine tg 15 41 13 false ?gv27 rfl ?_; try simp only [AP]
    refine wpAnyH_ready (rs := [16]) (by kernel_rfl) (by simp) ?_
    refine AllReadyH.cons rfl (fun K hK => ?_) AllReadyH.nil
    go_simp
    (go_at_call 21; ((with_reducible refine (HFE.out _ bl).mono ?_); rintro e w5 ⟨rfl, hb5⟩; obtain ⟨hc5, hf5⟩ := bcell hb5; have hz5 := hb5.size; (try simp [SZ] at hz5); (try simp only [SZ] at hc5 hf5)))
    refine hK.out _ _ kq (fun hS2 => ?_)
    clear hK K
    try simp only [AP]
    refine tg 17 43 9 true ?gv28 rfl ?_; try simp only [AP]
    refine tg 18 44 9 true ?gv29 rfl ?_; try simp only [AP]
    refine tg 19 45 18 false ?gv30 rfl ?_; try simp only [AP]
    refine tg 20 46 18 false ?gv31 rfl ?_; try simp only [AP]
    refine tg 21 47 18 false ?gv32 rfl ?_; try simp only [AP]
    refine tg 22 48 18 false ?gv33 rfl ?_; try simp only [AP]
    refine tg 23 49 18 false ?gv34 rfl ?_; try simp only [AP]
    refine tg 24 50 18 false ?gv35 rfl ?_; try simp only [AP]
    refine tg 25 51 18 false ?gv36 rfl ?_; try simp only [AP]
    refine tg 26 52 18 false ?gv37 rfl ?_; try simp only [AP]
    refine tg 27 53 18 false ?gv38 rfl ?_; try simp only [AP]
    refine wpAnyH_ready (rs := [28]) (by kernel_rfl) (by simp) ?_
    refine AllReadyH.cons rfl (fun K hK => ?_) AllReadyH.nil
    go_simp
    (go_at_call 23; ((with_reducible refine (HDG.out _ bl).mono ?_); rintro e w6 ⟨y, rfl, hy, hyr, hb6⟩; obtain ⟨hc6, hf6⟩ := bcell hb6; have hz6 := hb6.size; (try simp [SZ] at hz6); (try simp only [SZ] at hc6 hf6)))
    refine hK.out _ _ kq (fun hS3 => ?_)
    clear hK K
    try simp only [AP]
    refine wpAnyH_ready (rs := [29]) (by kernel_rfl) (by simp) ?_
    refine AllReadyH.cons rfl (fun K hK => ?_) AllReadyH.nil
    go_simp
    (go_at_call 22; ((with_reducible refine (HRT.out y hy _ bl (hyr.on bl)).mono ?_); rintro e w7 ⟨rfl, hb7⟩; obtain ⟨hc7, hf7⟩ := bcell hb7; have hz7 := hb7.size; (try simp [SZ] at hz7); (try simp only [SZ] at hc7 hf7)))
    refine hK.out _ _ kq (fun hS4 => ?_)
    clear hK K
    try simp only [AP]
    refine tg 30 56 18 false ?gv39 rfl ?_; try simp only [AP]
    refine tg 31 57 9 true ?gv40 rfl ?_; try simp only [AP]
    refine tg 32 58 6 false ?gv41 rfl ?_; try simp only [AP]
    refine tk 33 59 ?gv42 rfl ?_; try simp only [AP]
    refine wpAnyH_done (by kernel_rfl) (NoPanic.normal ?_) _
    go_wp2
    go_roundw
    case rel => exact ⟨k + 1, by omega, by go_num, by rw [← HS2.out], bl⟩
    case measure => simp [RowKit.intOf]; omega
  ·obtain rfl : k = n := by omega
   have hall : menN L.sites.l k ≤ x.men := by
    have h1 := HMA.out
    rw [← HN.out] at h1
    omega
   clear HMB
   generalize menN L.sites.l k = N at *
   have hH := H0.out wr Bw
   have HRG := Lib.hid (f_RigsA hH.at_ hH.inv)
   have HRK := Lib.hid (fun (y : Sl G.Lk) (q : LRg) (hq : q ∈ L.rigs.l) (he : q.lk.l = y.l) => (show y.l.length ≤ 32 ∧ ∀ z ∈ y.l, G.LW z by
    have h1 := hH.inv.rk q.val (List.mem_map.2 ⟨q, hq, rfl⟩)
    have h2 : q.val.lk = y.l := he
    rw [h2] at h1
    exact ⟨h1.1, fun z hz => (h1.2 z hz).1⟩))
   obtain ⟨i0, hi, hi1, hi2, hi3⟩ := info_SlL
   have e16 := (hCW w.heap.size 16 lb).trans c16
   clear hH
   go_wp2_with (go_at_call 11; ((with_reducible refine HRG.out.mono ?_); rintro e w3 ⟨ys, rfl, hys, hyo, hyi, hb3⟩))
   have hz3 := hb3.size
   have B3 := below_tr Bw hb3
   have hC3 := (bcell hb3).1
   have l3 : w.heap.size < w3.heap.size := by omega
   have f0 := (hC3 w.heap.size 16 (by omega)).trans e16
   obtain ⟨ht1, ht2, ht3⟩ := HTK.out ys.l hys
   have HT1 := Lib.hid ht1
   have HT2 := Lib.hid ht2
   have hyl : ys.l.length ≤ 50 := by
    have h2 := congrArg List.length hys
    rw [List.length_map, List.length_map] at h2
    have h3 : L.val.rigs.length = L.rigs.l.length := List.length_map ..
    omega
   have HYK := Lib.hid (fun y (hy : y ∈ ys.l) => (show y.l.length ≤ 32 ∧ ∀ z ∈ y.l, G.LW z by
    have h1 : y.l ∈ L.rigs.l.map (·.lk.l) := by rw [← hys]; exact List.mem_map.2 ⟨y, hy, rfl⟩
    obtain ⟨q, hq, he⟩ := List.mem_map.1 h1
    exact HRK.out y q hq he))
   have HYI := Lib.hid (fun y hy => (hyi y hy).rd)
   have HYO := Lib.hid hyo.rd
   have HL := Lib.hid (fun k => hng_len (ys.l.take k))
   obtain ⟨A, l, cp0⟩ := ys
   dsimp only [Sl.v] at *
   clear ht1 ht2 hyo hyi hys HTK HRK HRG e16 c16 hCW hC3
   obtain ⟨ny, hny⟩ : ∃ ny, ny = l.length := ⟨_, rfl⟩
   rw [← hny]
   rw [← hny] at hyl
   have HNY := Lib.hid hny
   clear hny
   go_wp2
   go_loopw [8, 10] (fun v i wq => ∃ k : Nat, k ≤ ny ∧ i = .int .i64 k ∧ wq.ownsRow w3.heap.size 47 1 v (hngR (l.take k)).length (fl G.Rg.cs (hngR (l.take k))) ∧ Below w3.heap.size w3 wq) (fun _ i _ => ny - (RowKit.intOf i).toNat)
   case atStart => exact ⟨0, Nat.zero_le _, rfl, World.ownsRow_nil w3 _ _ _, below_refl _⟩
   case round =>
    obtain ⟨k, hk, rfl, hown, hbq⟩ := hrel
    rename World => wq
    obtain ⟨ad, cp, rfl⟩ := own_slice hown
    have hbvs := hbq.size
    have k0 : (0 : Int) ≤ (k : Int) := Int.natCast_nonneg _
    by_cases hlt : k < ny
    ·have k1 : (k : Int) < (ny : Int) := by omega
     obtain ⟨y, hy⟩ := get_lt (l := l) (k := k) (by rw [← HNY.out]; exact hlt)
     obtain ⟨b1, o1, ha1, lb1, hc1⟩ := (HYO.out.on hbq).get hy
     have cx0 : wq.cell? ⟨b1, o1 + k, none⟩ = some (.slice y.a y.l.length y.c) := by have := hc1 0 _ rfl; simpa using this
     have hyk := (HYK.out y (List.mem_of_getElem? hy)).1
     have hhl : (hngR (l.take k)).length ≤ 50 := by have := HL.out k; rw [List.length_take] at this; omega
     subst ha1
     by_cases h0 : 0 < y.l.length
     ·have HST := Lib.hid (hng_yes hy h0)
      have h0' : (0 : Int) < (y.l.length : Int) := by omega
      clear hy hc1
      generalize hngR (l.take k) = R at *
      have hownA := own_on hown (bl_alloc (below_refl wq) (.cells #[.slice y.a y.l.length y.c] 47))
      go_wp2_with (at_builtin; refine wpList_append_own _ rfl _ _ 44 rfl w3.heap.size 47 i0 (.slice none 0 0) 1 24 (by kernel_rfl) hi hi1 hi2 hi3 rfl (by omega) _ _ _ rfl hownA ⟨wq.heap.size, 0, none⟩ 1 1 [.slice y.a y.l.length y.c] rfl rfl (cells_new wq [.slice y.a y.l.length y.c] 47) (by intro u hu; simp at hu; subst hu; rfl) (by unfold maxLen; omega) (by omega) (by simp; omega) ?_; intro v4 w4 hown4 hgrow4 _)
      have B4 := bl_app hbq hown hgrow4 (Nat.le_refl _) hbq.size
      go_roundw
      case rel => exact ⟨k + 1, by omega, by go_num, by rw [HST.out, fl_snoc, List.length_append]; exact hown4, B4⟩
      case measure => simp [RowKit.intOf]; omega
     ·have HST := Lib.hid (hng_no hy h0)
      have h0' : ¬ (0 : Int) < (y.l.length : Int) := by omega
      clear hy hc1
      go_wp2
      go_roundw
      case rel => exact ⟨k + 1, by omega, by go_num, by rw [HST.out]; exact hown, hbq⟩
      case measure => simp [RowKit.intOf]; omega
    ·obtain rfl : k = ny := by omega
     have HLT := Lib.hid (show l.take k = l by rw [HNY.out, List.take_length])
     rw [HLT.out] at hown ⊢
     have Bq := below_tr B3 hbq
     have hH := H0.out wq Bq
     have HGE := Lib.hid (f_GearA hH.at_ hil)
     have fq := ((bcell hbq).1 w.heap.size 16 (by omega)).trans f0
     have HRO := Lib.hid (show G.RgS wq (hngR l) from fun r hr => by
      obtain ⟨y, hy, _, rfl⟩ := hng_mem hr
      have h1 := HYK.out y hy
      exact ⟨⟨(HYI.out y hy).on hbq, by unfold maxLen; show y.l.length ≤ _; omega, h1.2⟩, by show y.l.length ≤ 40; omega⟩)
     have HHO := Lib.hid (own_rd' (enc := G.Rg.cs) (sz := 1) (l := hngR l) (c := cp) (fun _ => rfl) hown)
     have HTA := Lib.hid (fun (y : Sl G.It) (hy : y.l = L.items.l) W (h : Below wq.heap.size wq W) (hr : Rd G.It.cs 4 W y.a y.l) => (show Calls Tryz.prog 24 #[.slice y.a y.l.length y.c, .slice ad (hngR l).length cp] W fun e w' => ∃ A' c', e = .returned (.tuple #[.slice A' 0 c', .int .i64 0]) ∧ Below W.heap.size W w' by
      have := G.p_Taken y.a ad y.l (hngR l) y.c cp W (by rw [hy]; exact hil) (by omega) hr (by rw [hy]; exact HIL.out) (HHO.out.on h) (HRO.out.on h)
      rw [hy, HT1.out, HT2.out] at this
      rw [hy]
      refine this.mono ?_
      rintro e w' ⟨v, rfl, ⟨A', c', rfl, _⟩, hb⟩
      exact ⟨A', c', rfl, hb⟩))
     have hal : decide (N ≤ x.men) = true := decide_eq_true hall
     clear hH hown HRO HHO
     go_wp2_with (first | (go_at_call 9; go_loud ((with_reducible refine HGE.out.mono ?_); rintro e w5 ⟨y5, rfl, hy5, ho5, _, _, hb5⟩; have hr5 := own_rd' G.It.cs_len ho5)) | (go_at_call 24; go_loud ((with_reducible refine (HTA.out y5 hy5 _ hb5 hr5).mono ?_); rintro e w6 ⟨A6, c6, rfl, hb6⟩; have f6 := ((bcell hb6).1 w.heap.size 16 (by have := hb5.size; omega)).trans (((bcell hb5).1 w.heap.size 16 (by omega)).trans fq))))
     go_ret
     exact ⟨rfl, below_tr (below_tr Bq hb5) hb6⟩
end Go.Proofs.YtgemlddincnfcaaGreatDoor.Fi
