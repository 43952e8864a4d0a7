/- The parts of the proof, part 34. -/
import Derived.Test.YtgemlddincnfcaaGreatDoorP0
import Derived.Test.YtgemlddincnfcaaGreatDoorP33
import Derived.Deep.DeepCutAuto
import Derived.BigQuiet
set_option linter.unusedSimpArgs false
set_option linter.unusedVariables false
namespace Go.Proofs.YtgemlddincnfcaaGreatDoor.Fi
open Go.RowKit Go.Lib Tx
def NewP (x : LSu) (w : World) (e : Ending) (w' : World) : Prop := Below w.heap.size w w' ∧ match vSu x.val with
 | false => e = .returned (.tuple #[.pointer none, .int .i64 1])
 | true => ∃ b L T, e = .returned (.tuple #[.pointer (some ⟨b, 0, none⟩), .int .i64 0]) ∧ FirmAt w' b L T ∧ L.val = new x.val ∧ (∀ g, T g → w.heap.size ≤ g) ∧ ∀ g, Foot b L g → w.heap.size ≤ g
section
variable {P : Program}
theorem step_make {ops : Array Oper} {o : Oper} {a : Act} {w : World} {K : Act → World → Prop} {Q : Exit → Act → World → Prop} {E : Prop} (hgd : o.guard = none) (l c : Operand) (t : TypeId) (hop : o.op = Op.makeSlice t l c)
  (base : Nat) (e : TypeId) (i : TypeInfo) (z : Value) (size : Nat) (h1 : P.underlying t = some (.slice e)) (h2 : P.info? e = some i) (h3 : i.zero = some z) (h4 : i.size = size)
  (kl kc : IntKind) (L C : Int) (n : Nat) (hl : a.eval l = .int kl L) (hc : a.eval c = .int kc C) (hL : L = (n : Int)) (hC : C = (n : Int)) (b2 : i.bytes * n ≤ 281474976710656) (b3 : n ≤ maxLen) (b4 : base ≤ w.heap.size)
  (hK : ∀ w', w'.ownsRow base e size (.slice (some ⟨w.heap.size, 0, none⟩) n n) n (madeCells z.cells (n * size)).toList → w.grownBy w' none → K (a.put o.dst (.slice (some ⟨w.heap.size, 0, none⟩) n n)) w') :
  if Region.wanted o (yielded ops a.tmps) = true then Oper.wp P o a w K Q else E := by
 have hw : Region.wanted o (yielded ops a.tmps) = true := by simp [Region.wanted, hgd]
 rw [if_pos hw]
 obtain ⟨w', hrun, r1, r2⟩ := run_make_full (P := P) w base t e i z size h1 h2 h3 h4 kl kc n b2 b3 b4
 subst hL
 subst hC
 unfold Oper.wp
 simp [execOp, hop, hl, hc, hrun, Result.andThen]
 exact hK _ r1 r2
end
def zSi : LSi := ⟨⟨none, [], 0⟩, false, 0⟩
theorem made_sites : ∀ n : Nat, (madeCells (Value.agg #[.slice none 0 0, .bool false, .int .i64 0]).cells (n * 3)).toList = fl LSi.cs (List.replicate n zSi)
 | 0 => by simp [madeCells, fl]
 | n + 1 => by
  have ih := made_sites n
  have e : (madeCells (Value.agg #[.slice none 0 0, .bool false, .int .i64 0]).cells ((n + 1) * 3)).toList = (madeCells (Value.agg #[.slice none 0 0, .bool false, .int .i64 0]).cells (n * 3)).toList ++ [.slice none 0 0, .bool false, .int .i64 0] := by
   have h0 : n * 3 % 3 = 0 := by omega
   have h1 : (n * 3 + 1) % 3 = 1 := by omega
   have h2 : (n * 3 + 1 + 1) % 3 = 2 := by omega
   unfold madeCells
   rw [show (n + 1) * 3 = n * 3 + 1 + 1 + 1 by omega, Array.toList_map, Array.toList_map, Array.toList_range, Array.toList_range, List.range_succ, List.range_succ, List.range_succ]
   simp only [List.map_append, List.map_cons, List.map_nil, List.append_assoc, List.cons_append, List.nil_append]
   congr 1
   show [_, _, _] = _
   rw [show (Value.agg #[.slice none 0 0, .bool false, .int .i64 0]).cells = #[.slice none 0 0, .bool false, .int .i64 0] from rfl]
   simp [h0, h1, h2]
  rw [e, ih, List.replicate_succ', fl, fl, List.flatMap_append]
  rfl
theorem got_sites {W : World} {base b0 n : Nat} {A : Option Addr} (h : W.ownsRow base 118 3 (.slice A n n) n (madeCells (Value.agg #[.slice none 0 0, .bool false, .int .i64 0]).cells (n * 3)).toList) (hb : b0 ≤ base) : Got (fun b => b0 ≤ b) W LSi.cs 3 (⟨A, List.replicate n zSi, n⟩ : Sl LSi) := by
 rw [made_sites] at h
 refine got_own (base := base) (e := 118) (fun _ => rfl) ?_ fun b h1 _ => Nat.le_trans hb h1
 unfold Sl.v
 dsimp only
 rw [List.length_replicate]
 exact h
theorem got_items {W : World} {base b0 : Nat} {A : Option Addr} {l : List G.It} {c : Nat} (h : W.ownsRow base 77 4 (.slice A l.length c) l.length (fl G.It.cs l)) (hb : b0 ≤ base) : Got (fun b => b0 ≤ b) W G.It.cs 4 (⟨A, l, c⟩ : Sl G.It) :=
 got_own (base := base) (e := 77) (fun _ => rfl) h fun b h1 _ => Nat.le_trans hb h1
abbrev newL (y : LSu) (si : Sl LSi) (it : Sl G.It) : LS := ⟨y, 0, ⟨none, [], 0⟩, ⟨none, [], 0⟩, si, it, ⟨none, [], 0⟩, 0, ⟨none, [], 0⟩⟩
theorem new_fin {x y : LSu} {w W : World} {A5 A6 : Option Addr} {n c5 c6 : Nat} (hv : vSu x.val = true) (hy : y.val = x.val) (hS : SuOk (fun b => w.heap.size ≤ b) W y) (B : Below w.heap.size w W) (hn : y.stk.l.length = n)
  (hsi : Got (fun b => w.heap.size ≤ b) W LSi.cs 3 (⟨A5, List.replicate n zSi, c5⟩ : Sl LSi)) (hit : Got (fun b => w.heap.size ≤ b) W G.It.cs 4 (⟨A6, y.gear.l, c6⟩ : Sl G.It)) {CC : Array Value} (hCC : (newL y ⟨A5, List.replicate n zSi, c5⟩ ⟨A6, y.gear.l, c6⟩).cs.toArray = CC) :
  NewP x w (.returned (.tuple #[.pointer (some ⟨W.heap.size, 0, none⟩), .int .i64 0])) (W.alloc (.cells CC 87)) := by
 subst hCC
 have hz := B.size
 have B1 := bl_alloc (below_refl W) (.cells (newL y ⟨A5, List.replicate n zSi, c5⟩ ⟨A6, y.gear.l, c6⟩).cs.toArray 87)
 have hq : ∀ b, b < W.heap.size → w.heap.size ≤ b → w.heap.size ≤ b ∧ b < W.heap.size := fun b h1 h2 => ⟨h2, h1⟩
 refine ⟨bl_alloc B _, ?_⟩
 rw [hv]
 refine ⟨W.heap.size, newL y ⟨A5, List.replicate n zSi, c5⟩ ⟨A6, y.gear.l, c6⟩, fun b => w.heap.size ≤ b ∧ b < W.heap.size, rfl, ⟨Blk.new W _ _, ⟨(hS.mono hq).on B1, got_nil _ _ _ _, got_nil _ _ _ _, fun r hr => (by cases hr), (hsi.mono hq).on B1, ?_, (hit.mono hq).on B1, got_nil _ _ _ _⟩, World.ownsRow_nil _ _ _ _, ?_, ?_⟩, ?_, fun g hg => hg.1, ?_⟩
 ·intro s hs
  have : s = zSi := (List.mem_replicate.1 hs).2
  subst this
  exact got_nil _ _ _ _
 ·rintro g ⟨h1, h2⟩ (h | h)
  ·omega
  ·simp [Value.ownBlock] at h
 ·simp [Value.ownBlock]
 ·unfold LS.val new
  dsimp only
  rw [← hy]
  unfold LSu.val
  dsimp only
  congr 1
  rw [List.map_replicate, List.map_map]
  refine List.ext_getElem (by simp [hn]) fun i h1 h2 => ?_
  simp [zSi, LSi.val]
 ·rintro g (h | h)
  ·omega
  ·simp [Value.ownBlock] at h
set_option maxHeartbeats 8000000 in
set_option maxRecDepth 40000 in
theorem f_New {T : Nat → Prop} (x : LSu) (w : World) (hS : SuOk T w x) (hW : SuW x) : Calls Tryz.prog 8 #[.agg x.cs.toArray] w (NewP x w) := by
 have hbN := Blk.new w 32 x.cs.toArray
 have B0 := bl_alloc (below_refl w) (.cells x.cs.toArray 32)
 have HVS := Lib.hid (f_ValidSetup x (w.alloc (.cells x.cs.toArray 32)) (hS.on B0) hW)
 have HCP := Lib.hid (fun W (h : Below w.heap.size w W) => f_copied x W (hS.on h) hW)
 have hCs := su_cs x
 have HC1 := Lib.hid (su_one x)
 have HGE := Lib.hid hW.gl
 have HSL := Lib.hid hW.sl
 have lN : w.heap.size < (w.alloc (.cells x.cs.toArray 32)).heap.size := hbN.lt
 clear hS hW
 obtain ⟨CA, hCA⟩ : ∃ CA, x.cs.toArray = CA := ⟨_, rfl⟩
 rw [hCA] at hbN B0 HVS HCP hCs HC1 lN ⊢
 have HCA := Lib.hid hCA
 clear hCA
 cases hv : vSu x.val
 ·have HV := Lib.hid hv
  rw [hv] at HVS
  go_enter Tryz.func8, Tryz.ntmps8
  go_wp2_with (first | (refine wpList_load_row rfl 32 _ rfl w.heap.size rfl 32 CA (0, 0) _ hbN Tryz.underlying32 rfl hCs ?_) | (go_at_call 32; ((with_reducible refine HVS.out.mono ?_); rintro e w2 ⟨rfl, hb2⟩)))
  go_ret2
  exact ⟨below_tr B0 hb2, by rw [HV.out]; rfl⟩
 have HV := Lib.hid hv
 rw [hv] at HVS
 clear hv
 go_enter Tryz.func8, Tryz.ntmps8
 go_upto_region 3 with (first | (refine wpList_load_row rfl 32 _ rfl w.heap.size rfl 32 CA (0, 0) _ hbN Tryz.underlying32 rfl hCs ?_) | (go_at_call 32; ((with_reducible refine HVS.out.mono ?_); rintro e w2 ⟨rfl, hb2⟩)))
 have hb02 := below_tr B0 hb2
 have hbN2 := hbN.below hb2 lN
 clear hbN HVS
 have hz2 : w.heap.size < w2.heap.size := Nat.lt_of_lt_of_le lN hb2.size
 go_upto_region 4 with (first | (refine wpList_load_row rfl 32 _ rfl w.heap.size rfl 32 CA (0, 0) _ hbN2 Tryz.underlying32 rfl hCs ?_) | (go_at_call 33; ((with_reducible refine (HCP.out w2 hb02).mono ?_); rintro e w3 ⟨y, rfl, hy1, hy2, hb3⟩; have hbN3 := hbN2.below hb3 hz2; have hysz : CA.size = y.cs.toArray.size := (by rw [← HCA.out]; rfl))) | (refine wpList_store_row rfl 32 _ _ rfl w.heap.size y.cs.toArray rfl rfl 32 CA hbN3 (su_cs y) hysz (su_one y) ?_))
 have B3 := below_tr hb02 hb3
 have lN3 : w.heap.size < w3.heap.size := Nat.lt_of_lt_of_le hz2 hb3.size
 have st4 : Stp (fun g => g = w.heap.size) w3 (w3.setRow w.heap.size y.cs.toArray) := Stp.setRow (N := fun g => g = w.heap.size) (Stp.refl _ _) (g := w.heap.size) (.inl rfl) y.cs.toArray
 have blk4 := Blk.setRow hbN3 y.cs.toArray
 have hS4 := (hy2.stp st4 (fun b h e => by omega)).mono (T' := fun b => w.heap.size ≤ b) fun b _ h => by omega
 have B4 := below_stp B3 st4 (fun g hg e => by omega) B3.size
 have lN4 : w.heap.size < (w3.setRow w.heap.size y.cs.toArray).heap.size := by rw [size_setRow]; exact lN3
 generalize w3.setRow w.heap.size y.cs.toArray = w4 at *
 clear st4 hbN3 hbN2 hb3 hb2 hy2 HCP
 obtain ⟨N, hN⟩ : ∃ N, w.heap.size = N := ⟨_, rfl⟩
 rw [hN] at lN4 blk4 ⊢
 have n0 : w4.cell? ⟨N, 0, none⟩ = some (.slice y.stk.a y.stk.l.length y.stk.c) := (blk4.cell 0).trans rfl
 have n1 : w4.cell? ⟨N, 1, none⟩ = some (.slice y.jnt.a y.jnt.l.length y.jnt.c) := (blk4.cell 1).trans rfl
 have n2 : w4.cell? ⟨N, 2, none⟩ = some (.int .i64 y.cl.fi) := (blk4.cell 2).trans rfl
 have n3 : w4.cell? ⟨N, 3, none⟩ = some (.int .i64 y.cl.ga) := (blk4.cell 3).trans rfl
 have n4 : w4.cell? ⟨N, 4, none⟩ = some (.int .i64 y.cl.tp) := (blk4.cell 4).trans rfl
 have n5 : w4.cell? ⟨N, 5, none⟩ = some (.int .i64 y.cl.le) := (blk4.cell 5).trans rfl
 have n6 : w4.cell? ⟨N, 6, none⟩ = some (.int .i64 y.cl.la) := (blk4.cell 6).trans rfl
 have n7 : w4.cell? ⟨N, 7, none⟩ = some (.int .i64 y.cl.st) := (blk4.cell 7).trans rfl
 have n8 : w4.cell? ⟨N, 8, none⟩ = some (.slice y.gear.a y.gear.l.length y.gear.c) := (blk4.cell 8).trans rfl
 have n9 : w4.cell? ⟨N, 9, none⟩ = some (.int .i64 y.ru.s) := (blk4.cell 9).trans rfl
 have n10 : w4.cell? ⟨N, 10, none⟩ = some (.int .i64 y.ru.g) := (blk4.cell 10).trans rfl
 have n11 : w4.cell? ⟨N, 11, none⟩ = some (.int .i64 y.ru.c) := (blk4.cell 11).trans rfl
 have n12 : w4.cell? ⟨N, 12, none⟩ = some (.int .i64 y.rt.lo) := (blk4.cell 12).trans rfl
 have n13 : w4.cell? ⟨N, 13, none⟩ = some (.int .i64 y.rt.hi) := (blk4.cell 13).trans rfl
 have n14 : w4.cell? ⟨N, 14, none⟩ = some (.int .i64 y.rt.ab) := (blk4.cell 14).trans rfl
 have n15 : w4.cell? ⟨N, 15, none⟩ = some (.int .i64 y.rt.co) := (blk4.cell 15).trans rfl
 have n16 : w4.cell? ⟨N, 16, none⟩ = some (.int .i64 y.men) := (blk4.cell 16).trans rfl
 obtain ⟨n, hn⟩ : ∃ n, y.stk.l.length = n := ⟨_, rfl⟩
 rw [hn] at n0
 have hnl : n ≤ 100000 := by
  have h1 := congrArg (fun q => q.stk.length) hy1
  unfold LSu.val at h1
  dsimp only at h1
  rw [List.length_map, List.length_map] at h1
  have := HSL.out; omega
 have hgl : y.gear.l.length ≤ 100000 := by
  have h1 := congrArg (fun q => q.gear.length) hy1
  unfold LSu.val at h1
  dsimp only at h1
  have := HGE.out; omega
 have HCI := Lib.hid (fun w' (h : Below w4.heap.size w4 w') => (show Calls Tryz.prog 34 #[.slice y.gear.a y.gear.l.length y.gear.c] w' (CloP G.It.cs 4 77 y.gear.l w') from c_CloneItem y.gear w' hgl (hS4.on h).gear.rd))
 have HY1 := Lib.hid hy1
 have HS4 := Lib.hid hS4
 have HB4 := Lib.hid B4
 have HNN := Lib.hid hN
 have HNY := Lib.hid hn
 clear hy1 hS4 hb02 hCs lN hn hgl hysz hz2 lN3 blk4 B3 B4 B0 hN
 obtain ⟨i0, hi, hi1, hi2, hi3⟩ := info_Site
 refine wp_region_noPanic ?_
 refine wp_region_held_drew (S := (fun w' => (∀ b o, b < w4.heap.size → w'.cell? ⟨b, o, none⟩ = w4.cell? ⟨b, o, none⟩) ∧ (∀ b o, b < w4.heap.size → w'.frozen? ⟨b, o, none⟩ = w4.frozen? ⟨b, o, none⟩) ∧ Below w4.heap.size w4 w')) (by kernel_rfl) (kq_draw kq_refl) (fun hS0 => ?_)
 refine tk 0 9 ?gv1 rfl ?_; try simp only [AP]
 refine tk 1 10 ?gv2 rfl ?_; try simp only [AP]
 refine tk 2 11 ?gv3 rfl ?_; try simp only [AP]
 refine tk 3 12 ?gv4 rfl ?_; try simp only [AP]
 refine tk 5 14 ?gv5 rfl ?_; try simp only [AP]
 refine tk 6 15 ?gv6 rfl ?_; try simp only [AP]
 refine wpAnyH_ready (rs := [4, 7]) (by kernel_rfl) (by simp) ?_
 refine AllReadyH.cons rfl (fun K hK => ?_) (AllReadyH.cons rfl (fun K hK => ?_) AllReadyH.nil)
 (refine step_make (by rfl) _ _ 81 (by rfl) w4.heap.size 118 i0 _ 3 Tryz.underlying81 hi hi1 hi2 _ _ _ _ n (by rfl) (by rfl) rfl rfl (by rw [hi3]; omega) (by unfold maxLen; omega) (by first | exact Nat.le_refl _ | omega | (simp; done) | (simp; omega)) ?_; intro w5 ho5 hg5; have hb5 := (below_refl _).grown hg5 (Nat.le_refl _) (fun j hj => by cases hj); obtain ⟨hc5, hf5⟩ := bcell hb5; have hz5 := hb5.size; (try simp [SZ] at hz5); (try simp only [SZ] at hc5 hf5))
 refine hK.out _ _ kq (fun hS1 => ?_)
 clear hK K
 try simp only [AP]
 refine wpAnyH_ready (rs := [7]) (by kernel_rfl) (by simp) ?_
 refine AllReadyH.cons rfl (fun K hK => ?_) AllReadyH.nil
 go_simp
 (go_at_call 34; ((with_reducible refine (HCI.out _ bl).mono ?_); rintro e w6 ⟨⟨A6, l6, c6⟩, rfl, hl6, ho6, hle6, hcm6, hb6⟩; dsimp only at hl6; subst hl6; dsimp only [Sl.v] at *; obtain ⟨hc6, hf6⟩ := bcell hb6; have hz6 := hb6.size; (try simp [SZ] at hz6); (try simp only [SZ] at hc6 hf6)))
 refine hK.out _ _ kq (fun hS2 => ?_)
 clear hK K
 try simp only [AP]
 refine tk 8 17 ?gv7 rfl ?_; try simp only [AP]
 refine tk 9 18 ?gv8 rfl ?_; try simp only [AP]
 refine wpAnyH_ready (rs := [10]) (by kernel_rfl) (by simp) ?_
 refine AllReadyH.cons rfl (fun K hK => ?_) AllReadyH.nil
 go_simp
 refine hK.out _ _ kq (fun hS3 => ?_)
 clear hK K
 try simp only [AP]
 refine tk 11 2 ?gv9 rfl ?_; try simp only [AP]
 refine tk 12 3 ?gv10 rfl ?_; try simp only [AP]
 refine wpAnyH_done (by kernel_rfl) (NoPanic.normal ?_) _
 rotate_left
 go_simp
 (go_at_call 34; ((with_reducible refine (HCI.out _ bl).mono ?_); rintro e w6 ⟨⟨A6, l6, c6⟩, rfl, hl6, ho6, hle6, hcm6, hb6⟩; dsimp only at hl6; subst hl6; dsimp only [Sl.v] at *; obtain ⟨hc6, hf6⟩ := bcell hb6; have hz6 := hb6.size; (try simp [SZ] at hz6); (try simp only [SZ] at hc6 hf6)))
 refine hK.out _ _ kq (fun hS1 => ?_)
 clear hK K
 try simp only [AP]
 refine wpAnyH_ready (rs := [4]) (by kernel_rfl) (by simp) ?_
 refine AllReadyH.cons rfl (fun K hK => ?_) AllReadyH.nil
 (refine step_make (by rfl) _ _ 81 (by rfl) w4.heap.size 118 i0 _ 3 Tryz.underlying81 hi hi1 hi2 _ _ _ _ n (by rfl) (by rfl) rfl rfl (by rw [hi3]; omega) (by unfold maxLen; omega) (by first | exact Nat.le_refl _ | omega | (simp; done) | (simp; omega)) ?_; intro w5 ho5 hg5; have hb5 := (below_refl _).grown hg5 (Nat.le_refl _) (fun j hj => by cases hj); obtain ⟨hc5, hf5⟩ := bcell hb5; have hz5 := hb5.size; (try simp [SZ] at hz5); (try simp only [SZ] at hc5 hf5))
 refine hK.out _ _ kq (fun hS2 => ?_)
 clear hK K
 try simp only [AP]
 refine tk 8 17 ?gv11 rfl ?_; try simp only [AP]
 refine tk 9 18 ?gv12 rfl ?_; try simp only [AP]
 refine wpAnyH_ready (rs := [10]) (by kernel_rfl) (by simp) ?_
 refine AllReadyH.cons rfl (fun K hK => ?_) AllReadyH.nil
 go_simp
 refine hK.out _ _ kq (fun hS3 => ?_)
 clear hK K
 try simp only [AP]
 refine tk 11 2 ?gv13 rfl ?_; try simp only [AP]
 refine tk 12 3 ?gv14 rfl ?_; try simp only [AP]
 refine wpAnyH_done (by kernel_rfl) (NoPanic.normal ?_) _
 rotate_left
 all_goals
  go_wp2
  go_ret2
  have hn := HNY.out
  subst hn
  have hN := HNN.out
  subst hN
  (try simp only [SZ] at ho5 ho6)
  have hz4 := HB4.out.size
  first
   | (have B46 : Below w4.heap.size w4 w6 := bl
      exact new_fin (W := w6) HV.out HY1.out (HS4.out.on B46) (below_tr HB4.out B46) rfl ((got_sites ho5 (by omega)).on hb6) (got_items ho6 (by omega)) (by simp [newL, LS.cs, Sl.v]))
   | (have B45 : Below w4.heap.size w4 w5 := bl
      exact new_fin (W := w5) HV.out HY1.out (HS4.out.on B45) (below_tr HB4.out B45) rfl (got_sites ho5 (by omega)) ((got_items ho6 (by omega)).on hb5) (by simp [newL, LS.cs, Sl.v]))
set_option maxHeartbeats 2000000 in
set_option maxRecDepth 20000 in
theorem f_Lines {b : Nat} {L : LS} {T : Nat → Prop} {w : World} (hF : FirmAt w b L T) (hl : L.lines.l.length ≤ 100000) :
  Calls Tryz.prog 25 #[.pointer (some ⟨b, 0, none⟩)] w (CloP En.cs 4 73 L.lines.l w) := by
 have c24 : w.cell? ⟨b, 24, none⟩ = some (.slice L.lines.a L.lines.l.length L.lines.c) := hF.cel 24 _ rfl
 have lb := hF.blk.lt
 have HC := Lib.hid (show Calls Tryz.prog 62 #[.slice L.lines.a L.lines.l.length L.lines.c] w (CloP En.cs 4 73 L.lines.l w) from c_CloneEntry L.lines w hl (own_rd' En.cs_len hF.row))
 go_enter Tryz.func25, Tryz.ntmps25
 go_wp2_with (go_at_call 62; ((with_reducible refine HC.out.mono ?_); rintro e w3 ⟨y, rfl, hy, ho, h1, h2, hb⟩))
 go_ret
 exact ⟨y, rfl, hy, ho, h1, h2, hb⟩
set_option maxHeartbeats 2000000 in
set_option maxRecDepth 20000 in
theorem r_Hash (s : ByteArray) (w : World) (hs : s.size ≤ 1000000000) :
  Calls Tryz.prog 65 #[.string s] w fun e w' => e = .returned (.int .u64 (hsh s.data.toList : Nat)) ∧ w = w' := by
 have HK := Lib.hid (fun k => hsh_lt (s.data.toList.take k))
 have HST := Lib.hid (fun k (h : k < s.size) => hsh_step h)
 have HA := Lib.hid (show hsh (s.data.toList.take s.size) = hsh s.data.toList by rw [List.take_of_length_le (by simp)])
 go_enter Tryz.func65, Tryz.ntmps65
 go_wp2
 go_loop [3, 4] (fun h i => ∃ k : Nat, k ≤ s.size ∧ i = .int .i64 k ∧ h = .int .u64 (hsh (s.data.toList.take k) : Nat)) (fun _ i => s.size - (RowKit.intOf i).toNat)
 case atStart => exact ⟨0, by omega, rfl, rfl⟩
 case round =>
  obtain ⟨k, hk, rfl, rfl⟩ := hrel
  have k0 : (0 : Int) ≤ (k : Int) := Int.natCast_nonneg _
  by_cases hlt : k < s.size
  ·have k1 : (k : Int) < (s.size : Int) := by omega
   have HT := Lib.hid (HST.out k hlt)
   have h64 := HK.out k
   have hb : s[k].toNat < 256 := UInt8.toNat_lt _
   have hx := u64_xor_nat (hsh (s.data.toList.take k)) s[k].toNat h64 (by omega)
   have hcv : IntKind.u64.wrap (s[k].toNat : Int) = (s[k].toNat : Int) := by rw [IntKind.wrap_u64]; omega
   generalize hsh (s.data.toList.take k) = H at *
   obtain ⟨Z, hZ⟩ : ∃ Z, Z = H ^^^ s[k].toNat := ⟨_, rfl⟩
   have hm : IntKind.u64.wrap ((Z : Int) * 1099511628211) = (((Z * 1099511628211) % 18446744073709551616 : Nat) : Int) := by rw [IntKind.wrap_u64]; omega
   rw [← hZ] at hx
   have HZ := Lib.hid hZ
   clear hZ
   go_wp2
   go_round
   case rel => exact ⟨k + 1, by omega, by go_num, by rw [HT.out, ← HZ.out]; congr 1⟩
   case measure => simp [RowKit.intOf]; omega
  ·obtain rfl : k = s.size := by omega
   rw [HA.out]
   go_wp2
   go_ret
   exact ⟨rfl, rfl⟩
theorem own_blk {α : Type} {enc : α → List Value} {sz g : Nat} {W : World} {t : TypeId} {l : List α} (hs : ∀ a, (enc a).length = sz) (h : Blk W g t (fl enc l).toArray) (hl : l.length ≤ maxLen) : Got (fun _ => True) W enc sz (⟨some ⟨g, 0, none⟩, l, l.length⟩ : Sl α) := by
 have hz : (fl enc l).length = l.length * sz := fl_length hs l
 have ho : W.ownsRow 0 t sz (.slice (some ⟨g, 0, none⟩) l.length l.length) l.length (fl enc l) :=
  ⟨hz, .inr ⟨g, l.length, _, rfl, Nat.zero_le _, h, Nat.le_refl _, hl, by simpa using hz, by rw [← hz]; simp⟩⟩
 exact ⟨own_rd' hs ho, fun _ _ _ => trivial, Nat.le_refl _, hl⟩
theorem fits_small : SuW ⟨⟨none, [⟨none, [⟨1000, 500, 300, 1000, 0, 0⟩], 1⟩], 1⟩, ⟨none, [⟨none, [⟨300, true⟩, ⟨700, true⟩], 2⟩], 1⟩, ⟨400, 500, 1000, 900, 100, 2000⟩, ⟨none, [⟨⟨#[115, 108, 105, 110, 103]⟩, 500, 10, ⟨#[97]⟩⟩], 1⟩, ⟨50, 40, 2⟩, ⟨7, 5000, 9, 100⟩, 4⟩ := by
 refine ⟨by simp, by simp, by simp, by simp, by simp, by simp, fun i hi => ?_⟩
 simp at hi
 subst hi
 constructor <;> decide
set_option maxHeartbeats 4000000 in
set_option maxRecDepth 20000 in
theorem f_small (w : World) : Calls Tryz.prog 30 #[] w fun e w' => ∃ x : LSu, e = .returned (.agg x.cs.toArray) ∧ x.val = smallU ∧ SuOk (fun _ => True) w' x ∧ SuW x ∧ Below w.heap.size w w' := by
 go_enter Tryz.func30, Tryz.ntmps30
 go_wp2
 obtain ⟨x, hx⟩ : ∃ x : LSu, x = ⟨⟨some ⟨w.heap.size + 1 + 1, 0, none⟩, [⟨some ⟨w.heap.size + 1, 0, none⟩, [⟨1000, 500, 300, 1000, 0, 0⟩], 1⟩], 1⟩, ⟨some ⟨w.heap.size + 1 + 1 + 1 + 1, 0, none⟩, [⟨some ⟨w.heap.size + 1 + 1 + 1, 0, none⟩, [⟨300, true⟩, ⟨700, true⟩], 2⟩], 1⟩, ⟨400, 500, 1000, 900, 100, 2000⟩, ⟨some ⟨w.heap.size + 1 + 1 + 1 + 1 + 1, 0, none⟩, [⟨⟨#[115, 108, 105, 110, 103]⟩, 500, 10, ⟨#[97]⟩⟩], 1⟩, ⟨50, 40, 2⟩, ⟨7, 5000, 9, 100⟩, 4⟩ := ⟨_, rfl⟩
 have b0 := (((((Blk.new w 32 x.cs.toArray).alloc (.cells #[.int .i64 1000, .int .i64 500, .int .i64 300, .int .i64 1000, .int .i64 0, .int .i64 0] 99)).alloc (.cells #[.slice (some ⟨w.heap.size + 1, 0, none⟩) 1 1] 75)).alloc (.cells #[.int .i64 300, .bool true, .int .i64 700, .bool true] 124)).alloc (.cells #[.slice (some ⟨w.heap.size + 1 + 1 + 1, 0, none⟩) 2 2] 60)).alloc (.cells #[.string ⟨#[115, 108, 105, 110, 103]⟩, .int .i64 500, .int .i64 10, .string ⟨#[97]⟩] 77)
 have b1 := ((((Blk.new (w.alloc (.cells x.cs.toArray 32)) 99 #[.int .i64 1000, .int .i64 500, .int .i64 300, .int .i64 1000, .int .i64 0, .int .i64 0]).alloc (.cells #[.slice (some ⟨w.heap.size + 1, 0, none⟩) 1 1] 75)).alloc (.cells #[.int .i64 300, .bool true, .int .i64 700, .bool true] 124)).alloc (.cells #[.slice (some ⟨w.heap.size + 1 + 1 + 1, 0, none⟩) 2 2] 60)).alloc (.cells #[.string ⟨#[115, 108, 105, 110, 103]⟩, .int .i64 500, .int .i64 10, .string ⟨#[97]⟩] 77)
 have b2 := (((Blk.new ((w.alloc (.cells x.cs.toArray 32)).alloc (.cells #[.int .i64 1000, .int .i64 500, .int .i64 300, .int .i64 1000, .int .i64 0, .int .i64 0] 99)) 75 #[.slice (some ⟨w.heap.size + 1, 0, none⟩) 1 1]).alloc (.cells #[.int .i64 300, .bool true, .int .i64 700, .bool true] 124)).alloc (.cells #[.slice (some ⟨w.heap.size + 1 + 1 + 1, 0, none⟩) 2 2] 60)).alloc (.cells #[.string ⟨#[115, 108, 105, 110, 103]⟩, .int .i64 500, .int .i64 10, .string ⟨#[97]⟩] 77)
 have b3 := ((Blk.new (((w.alloc (.cells x.cs.toArray 32)).alloc (.cells #[.int .i64 1000, .int .i64 500, .int .i64 300, .int .i64 1000, .int .i64 0, .int .i64 0] 99)).alloc (.cells #[.slice (some ⟨w.heap.size + 1, 0, none⟩) 1 1] 75)) 124 #[.int .i64 300, .bool true, .int .i64 700, .bool true]).alloc (.cells #[.slice (some ⟨w.heap.size + 1 + 1 + 1, 0, none⟩) 2 2] 60)).alloc (.cells #[.string ⟨#[115, 108, 105, 110, 103]⟩, .int .i64 500, .int .i64 10, .string ⟨#[97]⟩] 77)
 have b4 := (Blk.new ((((w.alloc (.cells x.cs.toArray 32)).alloc (.cells #[.int .i64 1000, .int .i64 500, .int .i64 300, .int .i64 1000, .int .i64 0, .int .i64 0] 99)).alloc (.cells #[.slice (some ⟨w.heap.size + 1, 0, none⟩) 1 1] 75)).alloc (.cells #[.int .i64 300, .bool true, .int .i64 700, .bool true] 124)) 60 #[.slice (some ⟨w.heap.size + 1 + 1 + 1, 0, none⟩) 2 2]).alloc (.cells #[.string ⟨#[115, 108, 105, 110, 103]⟩, .int .i64 500, .int .i64 10, .string ⟨#[97]⟩] 77)
 have b5 := Blk.new (((((w.alloc (.cells x.cs.toArray 32)).alloc (.cells #[.int .i64 1000, .int .i64 500, .int .i64 300, .int .i64 1000, .int .i64 0, .int .i64 0] 99)).alloc (.cells #[.slice (some ⟨w.heap.size + 1, 0, none⟩) 1 1] 75)).alloc (.cells #[.int .i64 300, .bool true, .int .i64 700, .bool true] 124)).alloc (.cells #[.slice (some ⟨w.heap.size + 1 + 1 + 1, 0, none⟩) 2 2] 60)) 77 #[.string ⟨#[115, 108, 105, 110, 103]⟩, .int .i64 500, .int .i64 10, .string ⟨#[97]⟩]
 simp only [World.size_alloc] at b1 b2 b3 b4 b5
 refine bodyPost_ret (v := .agg x.cs.toArray) (results_cell_row rfl _ _ w.heap.size 32 x.cs.toArray (0, 0) _ rfl (by rw [hx] at b0 ⊢; exact b0) Tryz.underlying32 rfl (su_cs x)) rfl ⟨x, rfl, by rw [hx]; rfl, ?_, ?_, bl⟩
 ·rw [hx] at b1 b2 b3 b4 b5 ⊢
  refine ⟨own_blk (fun _ => rfl) b2 (by simp [maxLen]), fun y hy => ?_, own_blk (fun _ => rfl) b4 (by simp [maxLen]), fun y hy => ?_, own_blk (fun _ => rfl) b5 (by simp [maxLen])⟩
  ·simp at hy; subst hy; exact own_blk (α := S.Course) (enc := S.Course.cs) (l := [⟨1000, 500, 300, 1000, 0, 0⟩]) (fun _ => rfl) b1 (by simp [maxLen])
  ·simp at hy; subst hy; exact own_blk (α := Jt) (enc := Jt.cs) (l := [⟨300, true⟩, ⟨700, true⟩]) (fun _ => rfl) b3 (by simp [maxLen])
 ·rw [hx]
  have h := fits_small
  refine ⟨by simp, by simp, by simp, by simp, h.le, by simp, h.gw⟩
theorem conv1 (W : World) (t : TypeId) (b : UInt8) : (convert 102 9 (.slice (some ⟨W.heap.size, 0, none⟩) 1 1)).run Tryz.prog (W.alloc (.cells #[.int .u8 (b.toNat : Int)] t)) = .ok (.string ⟨#[b]⟩) (W.alloc (.cells #[.int .u8 (b.toNat : Int)] t)) := by
 have h := run_convert_bytes_back (P := Tryz.prog) (W.alloc (.cells #[.int .u8 (b.toNat : Int)] t)) 102 9 5 ⟨W.heap.size, 0, none⟩ 1 [b] Tryz.underlying102 Tryz.underlying5 Tryz.underlying9 (fun j hj => by
  have hj0 : j = 0 := by simp at hj; omega
  subst hj0
  have := (Blk.new W t #[.int .u8 (b.toNat : Int)]).cell 0
  first | (simp [Addr.add]; done) | simpa [Addr.add] using this)
 exact h
def dgB (u : Nat) : UInt8 := UInt8.ofNat (48 + u)
set_option maxHeartbeats 2000000 in
set_option maxRecDepth 20000 in
theorem r_Digits0 (w : World) : Calls Tryz.prog 66 #[.int .i64 0] w fun e w' => e = .returned (.string ⟨#[48]⟩) ∧ Below w.heap.size w w' := by
 have hx : (convert 102 9 (.slice (some ⟨w.heap.size, 0, none⟩) 1 1)).run Tryz.prog (w.alloc (.cells #[.int .u8 48] 5)) = .ok (.string ⟨#[48]⟩) (w.alloc (.cells #[.int .u8 48] 5)) := conv1 w 5 48
 go_enter Tryz.func66, Tryz.ntmps66
 go_wp2
 go_ret
 exact ⟨rfl, bl⟩
set_option maxHeartbeats 2000000 in
set_option maxRecDepth 20000 in
theorem r_LineNil (w : World) : Calls Tryz.prog 31 #[.slice none 0 0, .int .i64 0, .string ⟨#[100, 111, 103, 32, 48]⟩] w fun e w' => e = .returned (enV ⟨0, 0, ⟨#[100, 111, 103, 32, 48]⟩, hsh [48, 32, 48, 32, 48, 32, 100, 111, 103, 32, 48]⟩) ∧ Below w.heap.size w w' := by
 have HD := Lib.hid (fun W => r_Digits0 W)
 have HH := Lib.hid (fun W => (show Calls Tryz.prog 65 #[.string ((⟨#[48]⟩ : ByteArray) ++ ⟨#[32]⟩ ++ ⟨#[48]⟩ ++ ⟨#[32]⟩ ++ ⟨#[48]⟩ ++ ⟨#[32]⟩ ++ ⟨#[100, 111, 103, 32, 48]⟩)] W fun e w' => e = .returned (.int .u64 (hsh [48, 32, 48, 32, 48, 32, 100, 111, 103, 32, 48] : Nat)) ∧ W = w' from by
  rw [show ((⟨#[48]⟩ : ByteArray) ++ ⟨#[32]⟩ ++ ⟨#[48]⟩ ++ ⟨#[32]⟩ ++ ⟨#[48]⟩ ++ ⟨#[32]⟩ ++ ⟨#[100, 111, 103, 32, 48]⟩) = ⟨#[48, 32, 48, 32, 48, 32, 100, 111, 103, 32, 48]⟩ from by rfl]
  exact r_Hash _ W (by decide)))
 generalize hsh [48, 32, 48, 32, 48, 32, 100, 111, 103, 32, 48] = H at *
 go_enter Tryz.func31, Tryz.ntmps31
 go_upto_region 5 with fail
 have x0 := (Blk.new w 73 #[.int .i64 0, .int .i64 0, .string ⟨#[]⟩, .int .u64 0]).alloc (.cells #[.int .i64 0, .int .i64 0, .string ⟨#[100, 111, 103, 32, 48]⟩, .int .u64 0] 73)
 have x1 := Blk.new (w.alloc (.cells #[.int .i64 0, .int .i64 0, .string ⟨#[]⟩, .int .u64 0] 73)) 73 #[.int .i64 0, .int .i64 0, .string ⟨#[100, 111, 103, 32, 48]⟩, .int .u64 0]
 rw [World.size_alloc] at x1
 have BW := bl_alloc (bl_alloc (below_refl w) (.cells #[.int .i64 0, .int .i64 0, .string ⟨#[]⟩, .int .u64 0] 73)) (.cells #[.int .i64 0, .int .i64 0, .string ⟨#[100, 111, 103, 32, 48]⟩, .int .u64 0] 73)
 generalize (w.alloc (.cells #[.int .i64 0, .int .i64 0, .string ⟨#[]⟩, .int .u64 0] 73)).alloc (.cells #[.int .i64 0, .int .i64 0, .string ⟨#[100, 111, 103, 32, 48]⟩, .int .u64 0] 73) = w1 at *
 have e0 : w1.cell? ⟨w.heap.size + 1, 0, none⟩ = some (.int .i64 0) := (x1.cell 0).trans rfl
 go_wp2_with (first | (go_at_call 66; ((with_reducible refine (HD.out _).mono ?_); rintro e w9 ⟨rfl, hb9⟩; replace x0 := x0.below hb9 x0.lt; replace x1 := x1.below hb9 x1.lt; replace BW := below_tr BW hb9)) | (go_at_call 65; ((with_reducible refine (HH.out _).mono ?_); rintro e w' ⟨rfl, rfl⟩; have hf0 := x0.frozen 0; have hf1 := x0.frozen 1; have hf2 := x0.frozen 2; have hf3 := x0.frozen 3; have hg3 := x1.frozen 3; have k0 := (x1.cell 0).trans (show _ = some (.int .i64 0) from rfl); have k1 := (x1.cell 1).trans (show _ = some (.int .i64 0) from rfl); have k2 := (x1.cell 2).trans (show _ = some (.string ⟨#[100, 111, 103, 32, 48]⟩) from rfl); have k3 := (x1.cell 3).trans (show _ = some (.int .u64 0) from rfl); have j0 := (x0.cell 0).trans (show _ = some (.int .i64 0) from rfl); have j1 := (x0.cell 1).trans (show _ = some (.int .i64 0) from rfl); have j2 := (x0.cell 2).trans (show _ = some (.string ⟨#[]⟩) from rfl); have j3 := (x0.cell 3).trans (show _ = some (.int .u64 0) from rfl))))
 have HB := (((((x0.far (p := ⟨w.heap.size + 1, 3, none⟩) (fun e => by have e' : w.heap.size = w.heap.size + 1 := e; omega) (.int .u64 (H : Nat))).set_ 0 (.int .i64 0)).set_ 1 (.int .i64 0)).set_ 2 (.string ⟨#[100, 111, 103, 32, 48]⟩)).set_ 3 (.int .u64 (H : Nat)))
 refine bodyPost_ret (v := enV ⟨0, 0, ⟨#[100, 111, 103, 32, 48]⟩, H⟩) (res_c rfl rfl (load_en HB)) rfl ⟨rfl, ?_⟩
 (repeat' (first | assumption | exact below_refl _ | refine bl_alloc ?_ _ | refine Below.setCell ?_ ?_ _ | refine below_draw ?_ | refine below_drewN ?_ _ | refine below_tr ?_ (by assumption))) <;> (first | omega | (simp; done) | (simp; omega))
end Go.Proofs.YtgemlddincnfcaaGreatDoor.Fi
namespace Go.Proofs.YtgemlddincnfcaaGreatDoor.Fi
open Go.Lib Tx
def scrT : List UInt8 := [117, 112, 32, 48, 32, 50, 10, 100, 111, 103, 32, 48, 10, 114, 105, 103, 32, 48, 32, 115, 108, 105, 110, 103, 58, 45, 49, 10, 117, 112, 32, 48, 32, 50, 10, 108, 105, 102, 116, 32, 48, 32, 53, 48, 49, 10, 108, 105, 102, 116, 32, 48, 32, 53, 48, 48, 10, 103, 117, 115, 116, 32, 54, 48, 10, 100, 111, 119, 110, 32, 48, 32, 49, 10, 100, 111, 119, 110, 32, 48, 32, 50, 10, 103, 117, 115, 116, 32, 54, 48, 10, 117, 112, 32, 48, 32, 50, 10, 100, 97, 121, 10, 98, 105, 108, 108, 32, 48, 10, 109, 111, 110, 101, 121, 10, 104, 101, 105, 103, 104, 116, 32, 48, 10, 110, 111, 119, 10, 103, 111, 101, 115, 10]
def outT : List UInt8 := [101, 114, 114, 111, 114, 32, 49, 48, 10, 111, 107, 10, 48, 10, 111, 107, 10, 101, 114, 114, 111, 114, 32, 49, 50, 10, 111, 107, 10, 101, 114, 114, 111, 114, 32, 49, 49, 10, 101, 114, 114, 111, 114, 32, 49, 48, 10, 111, 107, 10, 111, 107, 10, 101, 114, 114, 111, 114, 32, 49, 49, 10, 111, 107, 10, 111, 107, 10, 49, 48, 55, 10, 49, 48, 48, 48, 10, 49, 10, 121, 101, 115, 10]
def noBr : St → Int → List UInt8 := fun _ _ => []
set_option maxRecDepth 100000 in
theorem awake_ev : (doR noBr (new smallU) scrT).1 = outT ∧ (doR noBr (new smallU) scrT).2.lines.length = 8 ∧ ((doR noBr (new smallU) scrT).2.lines.map fun e => (e.n, e.d, e.t.data.toList, e.s)).head? = some (0, 0, [100, 111, 103, 32, 48], hsh [48, 32, 48, 32, 48, 32, 100, 111, 103, 32, 48]) := by decide +kernel
end Go.Proofs.YtgemlddincnfcaaGreatDoor.Fi
namespace Go.Proofs.YtgemlddincnfcaaGreatDoor.Fi
open Go.RowKit Go.Lib Tx
theorem small_ok : vSu smallU = true := by decide +kernel
theorem f_NewS {x : LSu} (w w1 : World) (hL : LdW w) (hb : Below w.heap.size w w1) (hv : x.val = smallU) (hS : SuOk (fun _ => True) w1 x) (hW : SuW x) :
  Calls Tryz.prog 8 #[.agg x.cs.toArray] w1 fun e w2 => ∃ b L T, e = .returned (.tuple #[.pointer (some ⟨b, 0, none⟩), .int .i64 0]) ∧ FirmAt w2 b L T ∧ L.val = new smallU ∧ Inv L.val ∧ Env w2 b L ∧ Below w.heap.size w w2 ∧ ∀ g, Foot b L g → w.heap.size ≤ g := by
 refine (f_New x w1 hS hW).mono ?_
 rintro e w2 ⟨hb2, hn⟩
 rw [hv, small_ok] at hn
 obtain ⟨b, L, T, rfl, hF, hval, _, hft⟩ := hn
 exact ⟨b, L, T, rfl, hF, hval, by rw [hval]; exact inv_new small_ok, ⟨w1, hL.on hb, hb2, hft⟩, below_tr hb hb2, fun g hg => Nat.le_trans hb.size (hft g hg)⟩
theorem no_bears : ((cutZ 10 scrT).all fun t => !((cut t [32]).1 == [98, 101, 97, 114, 115])) = true := by decide +kernel
theorem f_DoS {b : Nat} {L : LS} {T : Nat → Prop} {w : World} (hF : FirmAt w b L T) (hI : Inv L.val) (hE : Env w b L) :
  Calls Tryz.prog 18 #[.pointer (some ⟨b, 0, none⟩), .string (bts scrT)] w (ScrP noBr b L T scrT w) :=
 f_Do scrT hF hI hE (fun _ _ => by simp [noBr]) (fun ⟨t, ht, h⟩ => by
  have := List.all_eq_true.1 no_bears t ht
  rw [h] at this
  exact absurd this (by decide))
structure Op where
 k : Nat
 st : Int
 n : Int
 nm : ByteArray
 lk : Sl G.Lk
 ld : Sl Int
abbrev Op.cs (o : Op) : List Value := [.int .u8 (o.k : Nat), .int .i64 o.st, .int .i64 o.n, .string o.nm, o.lk.v, o.ld.v]
theorem Op.cs_len (o : Op) : o.cs.length = 6 := rfl
def nmS (l : List G.Lk) : Nat := l.foldl (fun a k => a + k.nm.size) 0
theorem nmS_step {l : List G.Lk} {j : Nat} {k : G.Lk} (h : l[j]? = some k) : nmS (l.take (j + 1)) = nmS (l.take j) + k.nm.size := by
 rw [List.take_add_one, h]; unfold nmS; rw [List.foldl_append]; rfl
def nW (o : Op) (j : Nat) : Int := IntKind.i64.wrap ((o.nm.size + nmS (o.lk.l.take j) : Nat) : Int)
def bigO (o : Op) : Bool := decide (500 < nW o 100) || (decide (40 < o.lk.l.length) || decide (40 < o.ld.l.length))
theorem nW_zero {o : Op} (h : o.nm.size ≤ maxLen) : nW o 0 = (o.nm.size : Int) := by
 unfold maxLen at h
 unfold nW; simp only [List.take_zero]; rw [show nmS [] = 0 from rfl, IntKind.wrap_i64]; omega
theorem nW_step {o : Op} {j : Nat} {k : G.Lk} (h : o.lk.l[j]? = some k) : IntKind.i64.wrap (nW o j + (k.nm.size : Int)) = nW o (j + 1) := by
 unfold nW; rw [nmS_step h, IntKind.wrap_i64, IntKind.wrap_i64, IntKind.wrap_i64]; omega
theorem nW_all {o : Op} {j : Nat} (h : ¬ (j < o.lk.l.length ∧ j < 100)) (h1 : j ≤ 100) : nW o j = nW o 100 := by
 have : o.lk.l.take j = o.lk.l.take 100 := by
  by_cases h2 : j < o.lk.l.length
  ·have : j = 100 := by omega
   rw [this]
  ·rw [List.take_of_length_le (by omega), List.take_of_length_le (by omega)]
 unfold nW; rw [this]
def manyB (l : List Op) : Bool := decide (40 < l.length) || l.any bigO
structure OpOk (w : World) (o : Op) : Prop where
 rd : Rd G.Lk.cs 2 w o.lk.a o.lk.l
 ll : o.lk.l.length ≤ maxLen
 ln : ∀ k ∈ o.lk.l, k.nm.size ≤ maxLen
 nm : o.nm.size ≤ maxLen
 rl : Rd zC 1 w o.ld.a o.ld.l
 dl : o.ld.l.length ≤ maxLen
theorem rdO {w : World} {A : Option Addr} {l : List Op} (h : Rd Op.cs 6 w A l) {k : Nat} (hk : k < l.length) :
  ∃ o b off, l[k]? = some o ∧ A = some ⟨b, off, none⟩ ∧ b < w.heap.size ∧ w.cell? ⟨b, off + k * 6 + 3, none⟩ = some (.string o.nm) ∧ w.cell? ⟨b, off + k * 6 + 4, none⟩ = some (.slice o.lk.a o.lk.l.length o.lk.c) ∧ w.cell? ⟨b, off + k * 6 + 5, none⟩ = some (.slice o.ld.a o.ld.l.length o.ld.c) := by
 obtain ⟨o, ho⟩ := get_lt hk
 obtain ⟨b, off, e, hb, hc⟩ := h (by intro e; rw [e] at hk; simp at hk)
 exact ⟨o, b, off, ho, e, hb, hc k o ho 3 _ rfl, hc k o ho 4 _ rfl, hc k o ho 5 _ rfl⟩
theorem rdK {w : World} {A : Option Addr} {l : List G.Lk} (h : Rd G.Lk.cs 2 w A l) {k : Nat} (hk : k < l.length) :
  ∃ o b off, l[k]? = some o ∧ A = some ⟨b, off, none⟩ ∧ b < w.heap.size ∧ w.cell? ⟨b, off + k * 2, none⟩ = some (.string o.nm) := by
 obtain ⟨o, ho⟩ := get_lt hk
 obtain ⟨b, off, e, hb, hc⟩ := h (by intro e; rw [e] at hk; simp at hk)
 exact ⟨o, b, off, ho, e, hb, hc k o ho 0 _ rfl⟩
theorem any_step {α : Type} {p : α → Bool} {l : List α} {k : Nat} {x : α} (h : (l.take k).any p = false) (hx : l[k]? = some x) (hp : p x = false) : (l.take (k + 1)).any p = false := by
 rw [List.take_add_one, hx]; simp [h, hp]
theorem any_yes {α : Type} {p : α → Bool} {l : List α} {k : Nat} {x : α} (hx : l[k]? = some x) (hp : p x = true) : l.any p = true := List.any_eq_true.2 ⟨x, List.mem_of_getElem? hx, hp⟩
set_option maxHeartbeats 4000000 in
set_option maxRecDepth 20000 in
theorem f_many (A : Option Addr) (l : List Op) (c : Nat) (w : World) (hl : l.length ≤ maxLen) (hR : Rd Op.cs 6 w A l) (hO : ∀ o ∈ l, OpOk w o) :
  Calls Tryz.prog 7 #[.slice A l.length c] w fun e w' => e = .returned (.bool (manyB l)) ∧ w = w' := by
 obtain ⟨R, hR0⟩ : ∃ R, R = manyB l := ⟨_, rfl⟩
 rw [← hR0]
 have HR := Lib.hid hR0
 clear hR0
 have hl' := hl
 unfold maxLen at hl'
 by_cases h40 : 40 < l.length
 ·have HE := Lib.hid (show manyB l = true by unfold manyB; rw [decide_eq_true h40]; rfl)
  have h41 : (40 : Int) < (l.length : Int) := by omega
  clear hR hO h40
  go_enter Tryz.func7, Tryz.ntmps7
  go_wp2
  go_ret
  exact ⟨ret_bool (by rw [HR.out, HE.out]), rfl⟩
 have h41 : ¬ (40 : Int) < (l.length : Int) := by omega
 have HE := Lib.hid (show manyB l = l.any bigO by unfold manyB; rw [decide_eq_false h40]; rfl)
 have HO := Lib.hid hO
 clear hO
 go_enter Tryz.func7, Tryz.ntmps7
 go_wp2
 go_loop [3] (fun i => ∃ k : Nat, k ≤ l.length ∧ i = .int .i64 k ∧ (l.take k).any bigO = false) (fun i => l.length - (RowKit.intOf i).toNat)
 case atStart => exact ⟨0, by omega, rfl, by simp⟩
 case round =>
  obtain ⟨k, hk, rfl, hany⟩ := hrel
  have k0 : (0 : Int) ≤ (k : Int) := Int.natCast_nonneg _
  have HA := Lib.hid hany
  clear hany
  by_cases hlt : k < l.length
  ·have k1 : (k : Int) < (l.length : Int) := by omega
   obtain ⟨o, b, off, ho, rfl, hb, c3, c4, c5⟩ := rdO hR hlt
   obtain ⟨hr, hll, hln, hnm, _, hdl⟩ := HO.out o (List.mem_of_getElem? ho)
   have HOO := Lib.hid ho
   have HZ := Lib.hid (nW_zero hnm)
   have HST := Lib.hid (fun j k h => nW_step (o := o) (j := j) (k := k) h)
   have HAL := Lib.hid (fun j h h1 => nW_all (o := o) (j := j) h h1)
   have HBG := Lib.hid (show bigO o = (decide (500 < nW o 100) || (decide (40 < o.lk.l.length) || decide (40 < o.ld.l.length))) from rfl)
   have HY := Lib.hid (fun h => any_yes (p := bigO) ho h)
   have HN := Lib.hid (fun h => any_step (p := bigO) HA.out ho h)
   generalize bigO o = BG at *
   generalize nW o = NW at *
   obtain ⟨ok, ost, on, onm, ⟨la, ll, lc⟩, ⟨da, dl, dc⟩⟩ := o
   dsimp only at *
   clear ho hln
   unfold maxLen at hll hnm hdl
   go_wp2
   go_loop [4, 5] (fun n i => ∃ j : Nat, j ≤ ll.length ∧ j ≤ 100 ∧ i = .int .i64 j ∧ n = .int .i64 (NW j)) (fun _ i => ll.length - (RowKit.intOf i).toNat)
   case atStart => exact ⟨0, by omega, by omega, rfl, by rw [HZ.out]⟩
   case round =>
    obtain ⟨j, hj, hj1, rfl, rfl⟩ := hrel
    have j0 : (0 : Int) ≤ (j : Int) := Int.natCast_nonneg _
    by_cases hjl : j < ll.length ∧ j < 100
    ·obtain ⟨g1, g2⟩ := hjl
     have j1 : (j : Int) < (ll.length : Int) := by omega
     have j2 : (j : Int) < 100 := by omega
     obtain ⟨x, xb, xo, hx, rfl, hxb, d0⟩ := rdK hr g1
     have hs := HST.out j x hx
     clear hx
     go_wp2
     go_round
     case rel => exact ⟨j + 1, by omega, by omega, by go_num, by first | rfl | rw [hs]⟩
     case measure => simp [RowKit.intOf]; omega
    ·have HT := Lib.hid (HAL.out j hjl hj1)
     rw [HT.out]
     generalize NW 100 = N at *
     clear HT HST HAL HZ
     have g3 : ¬ (j : Int) < (ll.length : Int) ∨ ((j : Int) < (ll.length : Int) ∧ ¬ (j : Int) < 100) := by omega
     clear hjl
     rcases g3 with g3 | ⟨g3, g4⟩
     ·rcases (by omega : (500 : Int) < N ∨ (¬ (500 : Int) < N ∧ (40 : Int) < (ll.length : Int)) ∨ (¬ (500 : Int) < N ∧ ¬ (40 : Int) < (ll.length : Int) ∧ (40 : Int) < (dl.length : Int)) ∨ (¬ (500 : Int) < N ∧ ¬ (40 : Int) < (ll.length : Int) ∧ ¬ (40 : Int) < (dl.length : Int))) with h1 | ⟨h1, h2⟩ | ⟨h1, h2, h3⟩ | ⟨h1, h2, h3⟩
      ·have HB1 := Lib.hid (HY.out (by rw [HBG.out]; simp only [Bool.or_eq_true, decide_eq_true_eq]; omega))
       clear HBG HY HN
       go_wp2
       go_ret
       exact ⟨ret_bool (by rw [HR.out, HE.out, HB1.out]), rfl⟩
      ·have HB1 := Lib.hid (HY.out (by rw [HBG.out]; simp only [Bool.or_eq_true, decide_eq_true_eq]; omega))
       clear HBG HY HN
       go_wp2
       go_ret
       exact ⟨ret_bool (by rw [HR.out, HE.out, HB1.out]), rfl⟩
      ·have HB1 := Lib.hid (HY.out (by rw [HBG.out]; simp only [Bool.or_eq_true, decide_eq_true_eq]; omega))
       clear HBG HY HN
       go_wp2
       go_ret
       exact ⟨ret_bool (by rw [HR.out, HE.out, HB1.out]), rfl⟩
      ·have HB1 := Lib.hid (HN.out (by rw [HBG.out]; simp only [Bool.or_eq_false_iff, decide_eq_false_iff_not]; omega))
       clear HBG HY HN
       go_wp2
       go_round
       case rel => exact ⟨k + 1, by omega, by go_num, HB1.out⟩
       case measure => simp [RowKit.intOf]; omega
     ·rcases (by omega : (500 : Int) < N ∨ (¬ (500 : Int) < N ∧ (40 : Int) < (ll.length : Int))) with h1 | ⟨h1, h2⟩
      ·have HB1 := Lib.hid (HY.out (by rw [HBG.out]; simp only [Bool.or_eq_true, decide_eq_true_eq]; omega))
       clear HBG HY HN
       go_wp2
       go_ret
       exact ⟨ret_bool (by rw [HR.out, HE.out, HB1.out]), rfl⟩
      ·have HB1 := Lib.hid (HY.out (by rw [HBG.out]; simp only [Bool.or_eq_true, decide_eq_true_eq]; omega))
       clear HBG HY HN
       go_wp2
       go_ret
       exact ⟨ret_bool (by rw [HR.out, HE.out, HB1.out]), rfl⟩
  ·obtain rfl : k = l.length := by omega
   have HE1 := Lib.hid (show l.any bigO = false by have := HA.out; rwa [List.take_length] at this)
   go_wp2
   go_ret
   exact ⟨ret_bool (by rw [HR.out, HE.out, HE1.out]), rfl⟩
end Go.Proofs.YtgemlddincnfcaaGreatDoor.Fi
