/- The parts of the proof, part 22. -/
import Derived.Test.YtmjgljdmjpabdaaGreatDoorP0
import Derived.Test.YtmjgljdmjpabdaaGreatDoorP18
import Derived.Test.YtmjgljdmjpabdaaGreatDoorP19
import Derived.Deep.DeepCutAuto
set_option linter.unusedSimpArgs false
set_option linter.unusedVariables false
namespace Go.Proofs.YtmjgljdmjpabdaaGreatDoor.Fi
open Go.RowKit Go.Lib Tx
theorem rd_at (W : World) (n : Nat) (l : List Int) (hn : W.heap.size = n) : Rd zC 1 (W.alloc (.cells (l.map (Value.int .i64)).toArray 3)) (some ⟨n, 0, none⟩) l := by subst hn; exact rd_new W l
set_option maxHeartbeats 4000000 in
set_option maxRecDepth 20000 in
theorem t_lift (r : Int) (l : Sl Int) (w : World) (br : I64 r) (hl : l.l.length ≤ 100000) (hb : ∀ x ∈ l.l, I64 x) (hL : LdW w) (hR : Rd zC 1 w l.a l.l) :
    Calls Tryz.prog 257 #[.agg #[.int .i64 r, .slice l.a l.l.length l.c]] w fun e w' => e = .returned (.string (bts (txt (.lift r l.l)))) ∧ Below w.heap.size w w' := by
  have x0 := Blk.new w 164 #[.int .i64 r, .slice l.a l.l.length l.c]
  have B0 := bl_alloc (below_refl w) (.cells #[.int .i64 r, .slice l.a l.l.length l.c] 164)
  have b0 := x0.cell 0
  have b1 := x0.cell 1
  simp only [List.getElem?_toArray, List.getElem?_cons_zero, List.getElem?_cons_succ] at b0 b1
  have lw := x0.lt
  have hL0 := hL.on B0
  have hR0 := hR.on B0
  have hs1 : (wsT [r]).length ≤ 21 := by have := wsT_len [r] (fun x hx => by simp at hx; subst hx; exact br); simpa using this
  have HE1 := Lib.hid (show (⟨#[108, 105, 102, 116]⟩ : ByteArray) ++ bts (wsT [r]) = bts ([108, 105, 102, 116] ++ wsT [r]) by rw [show (⟨#[108, 105, 102, 116]⟩ : ByteArray) = bts [108, 105, 102, 116] from rfl, ba_app])
  have HE2 := Lib.hid (show bts ([108, 105, 102, 116] ++ wsT [r]) ++ bts (wsT l.l) = bts (txt (.lift r l.l)) by rw [ba_app]; rfl)
  have hs2 : (bts ([108, 105, 102, 116] ++ wsT [r])).size ≤ 1000000000 := by rw [bts_size]; simp; omega
  generalize bts (txt (.lift r l.l)) = S2 at *
  go_enter Tryz.func257, Tryz.ntmps257
  go_upto_region 1 with fail
  generalize (w.alloc (.cells #[.int .i64 r, .slice l.a l.l.length l.c] 164)) = w1 at *
  have HR1 := Lib.hid (show Rd zC 1 (w1.alloc (.cells #[.int .i64 r] 3)) (some ⟨w1.heap.size, 0, none⟩) [r] from rd_at w1 _ [r] rfl)
  have HW1 := Lib.hid (fun (W : World) (h : Below w1.heap.size w1 W) (hr : Rd zC 1 W (some ⟨w1.heap.size, 0, none⟩) [r]) => (show Calls Tryz.prog 120 #[.string ⟨#[108, 105, 102, 116]⟩, .slice (some ⟨w1.heap.size, 0, none⟩) 1 1] W (fun e w' => e = .returned (.string (bts ([108, 105, 102, 116] ++ wsT [r]))) ∧ Below W.heap.size W w') from by
    rw [← HE1.out]; exact f_words ⟨#[108, 105, 102, 116]⟩ _ [r] 1 _ (by decide) (by simp) (fun x hx => by simp at hx; subst hx; exact br) (hL0.on h) hr))
  have HW2 := Lib.hid (fun (W : World) (h : Below w1.heap.size w1 W) => (show Calls Tryz.prog 120 #[.string (bts ([108, 105, 102, 116] ++ wsT [r])), .slice l.a l.l.length l.c] W (fun e w' => e = .returned (.string S2) ∧ Below W.heap.size W w') from by
    rw [← HE2.out]; exact f_words _ l.a l.l l.c W hs2 (by omega) hb (hL0.on h) (hR0.on h)))
  clear HE1 HE2 hb hR0 hL0 hR hL x0 hs1 hs2
  generalize bts ([108, 105, 102, 116] ++ wsT [r]) = S1 at *
  refine wp_region_noPanic ?_
  refine wp_region_held_drew (S := (fun w' => (∀ b o, b < w1.heap.size → w'.cell? ⟨b, o, none⟩ = w1.cell? ⟨b, o, none⟩) ∧ (∀ b o, b < w1.heap.size → w'.frozen? ⟨b, o, none⟩ = w1.frozen? ⟨b, o, none⟩) ∧ Below w1.heap.size w1 w')) (by kernel_rfl) (kq_draw kq_refl) (fun hS0 => ?_)
  refine tk 0 3 ?gv1 rfl (by kernel_rfl) (fun _ _ _ h => h) ?gy1 (by assumption) ?_
  case gy1 => (intro w' hSw; go_simp; try with_reducible rfl)
  try simp only [AP]
  refine tk 1 4 ?gv2 rfl (by kernel_rfl) (fun _ _ _ h => h) ?gy2 (by assumption) ?_
  case gy2 => (intro w' hSw; go_simp; try with_reducible rfl)
  try simp only [AP]
  refine tk 4 7 ?gv3 rfl (by kernel_rfl) (fun _ _ _ h => h) ?gy3 (by assumption) ?_
  case gy3 => (intro w' hSw; go_simp; try with_reducible rfl)
  try simp only [AP]
  refine tk 5 8 ?gv4 rfl (by kernel_rfl) (fun _ _ _ h => h) ?gy4 (by assumption) ?_
  case gy4 => (intro w' hSw; go_simp; try with_reducible rfl)
  try simp only [AP]
  refine wpAnyH_ready (rs := [2]) (by kernel_rfl) (by simp) ?_
  refine AllReadyH.cons rfl (fun K hK => ?_) AllReadyH.nil
  go_simp
  refine hK.out _ _ (by ((show Kq w1 _); (repeat' (first | assumption | exact kq_refl | refine kq_draw ?_ | refine kq_drewN ?_ | refine kq_alloc ?_ | refine kq_set ?_ ?_ | refine kq_step ?_ (by assumption))); (all_goals (first | omega | (simp; omega))))) (fun hS1 => ?_)
  clear hK K
  try simp only [AP]
  refine wpAnyH_ready (rs := [3]) (by kernel_rfl) (by simp) ?_
  refine AllReadyH.cons rfl (fun K hK => ?_) AllReadyH.nil
  go_simp
  (go_at_call 120; ((with_reducible refine (HW1.out _ (by (repeat' (first | assumption | exact below_refl _ | refine bl_alloc ?_ _ | refine Below.setCell ?_ ?_ _ | refine below_draw ?_ | refine below_drewN ?_ _ | refine below_tr ?_ (by assumption))) <;> (first | omega | (simp; done) | (simp; omega))) (HR1.out.on (below_draw (below_refl _)))).mono ?_); rintro e w3 ⟨rfl, hb3⟩; obtain ⟨hc3, hf3⟩ := bcell hb3; have hz3 := hb3.size; (try simp [sz_drew, sz_drewN] at hz3); (try simp only [sz_drew, sz_drewN] at hc3 hf3)))
  refine hK.out _ _ (by ((show Kq w1 _); (repeat' (first | assumption | exact kq_refl | refine kq_draw ?_ | refine kq_drewN ?_ | refine kq_alloc ?_ | refine kq_set ?_ ?_ | refine kq_step ?_ (by assumption))); (all_goals (first | omega | (simp; omega))))) (fun hS2 => ?_)
  clear hK K
  try simp only [AP]
  refine wpAnyH_ready (rs := [6]) (by kernel_rfl) (by simp) ?_
  refine AllReadyH.cons rfl (fun K hK => ?_) AllReadyH.nil
  go_simp
  (go_at_call 120; ((with_reducible refine (HW2.out _ (by (repeat' (first | assumption | exact below_refl _ | refine bl_alloc ?_ _ | refine Below.setCell ?_ ?_ _ | refine below_draw ?_ | refine below_drewN ?_ _ | refine below_tr ?_ (by assumption))) <;> (first | omega | (simp; done) | (simp; omega)))).mono ?_); rintro e w4 ⟨rfl, hb4⟩; obtain ⟨hc4, hf4⟩ := bcell hb4; have hz4 := hb4.size; (try simp [sz_drew, sz_drewN] at hz4); (try simp only [sz_drew, sz_drewN] at hc4 hf4)))
  refine hK.out _ _ (by ((show Kq w1 _); (repeat' (first | assumption | exact kq_refl | refine kq_draw ?_ | refine kq_drewN ?_ | refine kq_alloc ?_ | refine kq_set ?_ ?_ | refine kq_step ?_ (by assumption))); (all_goals (first | omega | (simp; omega))))) (fun hS3 => ?_)
  clear hK K
  try simp only [AP]
  refine tk 7 2 ?gv5 rfl (by kernel_rfl) (fun _ _ _ h => h) ?gy5 (by assumption) ?_
  case gy5 => (intro w' hSw; go_simp; try with_reducible rfl)
  try simp only [AP]
  refine wpAnyH_done (by kernel_rfl) (NoPanic.normal ?_) _
  go_wp2
  go_ret
  exact ⟨rfl, below_tr B0 (by (repeat' (first | assumption | exact below_refl _ | refine bl_alloc ?_ _ | refine Below.setCell ?_ ?_ _ | refine below_draw ?_ | refine below_drewN ?_ _ | refine below_tr ?_ (by assumption))) <;> (first | omega | (simp; done) | (simp; omega)))⟩
def rgT (l : List G.Lk) : List UInt8 := l.flatMap fun k => 32 :: (k.nm.data.toList ++ 58 :: nT k.fr)
theorem rgT_len (q : List G.Lk) (h : ∀ k ∈ q, k.nm.size ≤ 16 ∧ -1 ≤ k.fr ∧ k.fr ≤ 32) : (rgT q).length ≤ 40 * q.length := by
  induction q with
  | nil => simp [rgT]
  | cons k q ih =>
    have f1 := ih fun z hz => h z (List.mem_cons_of_mem _ hz)
    obtain ⟨f2, f3, f4⟩ := h k (List.mem_cons_self ..)
    have f5 := nT_len k.fr ⟨by omega, by omega⟩
    have f6 : k.nm.data.toList.length = k.nm.size := by simp
    have e : rgT (k :: q) = (32 :: (k.nm.data.toList ++ 58 :: nT k.fr)) ++ rgT q := rfl
    rw [e]
    simp only [List.length_append, List.length_cons]
    omega
theorem rgT_step {l : List G.Lk} {k : Nat} {x : G.Lk} (h : l[k]? = some x) : bts (rgT (l.take (k + 1))) = bts (rgT (l.take k)) ++ (⟨#[32]⟩ ++ x.nm ++ ⟨#[58]⟩ ++ bts (itoa x.fr)) := by
  have e : rgT (l.take (k + 1)) = rgT (l.take k) ++ (([32] ++ x.nm.data.toList) ++ [58] ++ itoa x.fr) := by
    unfold rgT; rw [List.take_add_one, h, List.flatMap_append]; simp [nT]
  rw [e, ← ba_app, ← ba_app, ← ba_app, ← ba_app, list_bts]; rfl
set_option maxHeartbeats 4000000 in
set_option maxRecDepth 20000 in
theorem t_rig (i : Int) (l : Sl G.Lk) (w : World) (br : I64 i) (hl : l.l.length ≤ 32) (hb : ∀ k ∈ l.l, k.nm.size ≤ 16 ∧ -1 ≤ k.fr ∧ k.fr ≤ 32) (hL : LdW w) (hR : Rd G.Lk.cs 2 w l.a l.l) :
    Calls Tryz.prog 238 #[.agg #[.int .i64 i, .slice l.a l.l.length l.c]] w fun e w' => e = .returned (.string (bts (txt (.rig i l.l)))) ∧ Below w.heap.size w w' := by
  have x0 := Blk.new w 158 #[.int .i64 i, .slice l.a l.l.length l.c]
  have B0 := bl_alloc (below_refl w) (.cells #[.int .i64 i, .slice l.a l.l.length l.c] 158)
  have b0 := x0.cell 0
  have b1 := x0.cell 1
  simp only [List.getElem?_toArray, List.getElem?_cons_zero, List.getElem?_cons_succ] at b0 b1
  have lw := x0.lt
  have hL0 := hL.on B0
  have hR0 := hR.on B0
  have hs1 : (wsT [i]).length ≤ 21 := by have := wsT_len [i] (fun x hx => by simp at hx; subst hx; exact br); simpa using this
  have HE1 := Lib.hid (show (⟨#[114, 105, 103]⟩ : ByteArray) ++ bts (wsT [i]) = bts ([114, 105, 103] ++ wsT [i]) by rw [show (⟨#[114, 105, 103]⟩ : ByteArray) = bts [114, 105, 103] from rfl, ba_app])
  have HE2 := Lib.hid (show bts ([114, 105, 103] ++ wsT [i]) ++ bts (rgT l.l) = bts (txt (.rig i l.l)) by rw [ba_app]; rfl)
  have hs2 : (bts ([114, 105, 103] ++ wsT [i])).size ≤ 30 := by rw [bts_size]; simp; omega
  have HB := Lib.hid hb
  have HLN := Lib.hid (fun k => (show (bts (rgT (l.l.take k))).size ≤ 1280 by
    have := rgT_len (l.l.take k) fun x hx => hb x (List.mem_of_mem_take hx)
    rw [List.length_take] at this
    rw [bts_size]; omega))
  have HST := Lib.hid (fun (S0 : ByteArray) k x (h : l.l[k]? = some x) => (show S0 ++ bts (rgT (l.l.take (k + 1))) = S0 ++ bts (rgT (l.l.take k)) ++ (⟨#[32]⟩ ++ x.nm ++ ⟨#[58]⟩ ++ bts (itoa x.fr)) by rw [rgT_step h]; exact ByteArray.append_assoc.symm))
  have HA := Lib.hid (show l.l.take l.l.length = l.l from List.take_length)
  have H0 := Lib.hid (show bts ([114, 105, 103] ++ wsT [i]) ++ bts (rgT (l.l.take 0)) = bts ([114, 105, 103] ++ wsT [i]) by rw [ba_app]; simp [rgT])
  clear hb hL hR x0 hs1
  go_enter Tryz.func238, Tryz.ntmps238
  go_upto_region 1 with fail
  generalize (w.alloc (.cells #[.int .i64 i, .slice l.a l.l.length l.c] 158)) = w1 at *
  have HL := Lib.hid hL0
  have HR := Lib.hid hR0
  have HW1 := Lib.hid (show Calls Tryz.prog 120 #[.string ⟨#[114, 105, 103]⟩, .slice (some ⟨w1.heap.size, 0, none⟩) 1 1] (w1.alloc (.cells #[.int .i64 i] 3)) (fun e w' => e = .returned (.string (bts ([114, 105, 103] ++ wsT [i]))) ∧ Below (w1.alloc (.cells #[.int .i64 i] 3)).heap.size (w1.alloc (.cells #[.int .i64 i] 3)) w') from by
    rw [← HE1.out]; exact f_words ⟨#[114, 105, 103]⟩ _ [i] 1 _ (by decide) (by simp) (fun x hx => by simp at hx; subst hx; exact br) (hL0.on (bl_alloc (below_refl _) _)) (rd_at w1 _ [i] rfl))
  clear HE1 hL0 hR0
  generalize bts ([114, 105, 103] ++ wsT [i]) = S0 at *
  go_upto_region 2 with (go_at_call 120; ((with_reducible refine HW1.out.mono ?_); rintro e w2 ⟨rfl, hb2⟩))
  have B2 : Below w1.heap.size w1 w2 := below_tr (bl_alloc (below_refl _) _) hb2
  have c1 := ((bcell B2).1 w.heap.size 1 lw).trans b1
  clear b0 b1 HW1 hb2
  go_wp2
  go_loopw [3, 13] (fun s j wr => ∃ k : Nat, k ≤ l.l.length ∧ j = .int .i64 k ∧ s = .string (S0 ++ bts (rgT (l.l.take k))) ∧ Below w1.heap.size w1 wr) (fun _ j _ => l.l.length - (RowKit.intOf j).toNat)
  case atStart => exact ⟨0, by omega, rfl, by rw [H0.out], B2⟩
  case round =>
    obtain ⟨k, hk, rfl, rfl, hbw⟩ := hrel
    have k0 : (0 : Int) ≤ (k : Int) := Int.natCast_nonneg _
    by_cases hlt : k < l.l.length
    · have k1 : (k : Int) < (l.l.length : Int) := by omega
      obtain ⟨x, b, off, hx, ha, hbl, c0, d1⟩ := G.rdL (HR.out.on hbw) hlt
      obtain ⟨x1, x2, x3⟩ := HB.out x (List.mem_of_getElem? hx)
      have hst := Lib.hid (HST.out S0 k x hx)
      have hls := HLN.out k
      have HI := Lib.hid (fun W (h : Below wr.heap.size wr W) => c_ItoaV x.fr W (by omega) (by omega) (((HL.out.on hbw).on h).tab))
      have hs3 : (bts (itoa x.fr)).size ≤ 21 := by have := itoa_len (n := x.fr) (by omega) (by omega); rw [bts_size]; omega
      have B5 := bl_alloc (below_refl wr) (.cells #[.string x.nm, .int .i64 x.fr] 102)
      have x5 := Blk.new wr 102 #[.string x.nm, .int .i64 x.fr]
      have e0 := x5.cell 0
      have e1 := x5.cell 1
      have l5 := x5.lt
      simp only [List.getElem?_toArray, List.getElem?_cons_zero, List.getElem?_cons_succ] at e0 e1
      obtain ⟨XN, XF⟩ := x
      obtain ⟨LA, LL, LC⟩ := l
      dsimp only at *
      subst ha
      clear hx x5
      have hz : (S0 ++ bts (rgT (LL.take k))).size ≤ 1400 := by rw [ByteArray.size_append]; omega
      generalize S0 ++ bts (rgT (LL.take k)) = ST at *
      generalize bts (itoa XF) = S1 at *
      go_upto_region 5 with fail
      generalize (wr.alloc (.cells #[.string XN, .int .i64 XF] 102)) = w5 at *
      have z1 : ¬ 9223372036854775807 < 1 + XN.size := by omega
      have z2 : ¬ 9223372036854775807 < 1 + XN.size + 1 := by omega
      have z3 : ¬ 9223372036854775807 < 1 + XN.size + 1 + S1.size := by omega
      have z4 : ¬ 9223372036854775807 < ST.size + (1 + XN.size + 1 + S1.size) := by omega
      refine wp_region_noPanic ?_
      refine wp_region_held_drew (S := (fun w' => (∀ b o, b < w5.heap.size → w'.cell? ⟨b, o, none⟩ = w5.cell? ⟨b, o, none⟩) ∧ (∀ b o, b < w5.heap.size → w'.frozen? ⟨b, o, none⟩ = w5.frozen? ⟨b, o, none⟩) ∧ Below w5.heap.size w5 w')) (by kernel_rfl) (kq_draw kq_refl) (fun hS0 => ?_)
      refine tk 0 17 ?gv6 rfl (by kernel_rfl) (fun _ _ _ h => h) ?gy6 (by assumption) ?_
      case gy6 => (intro w' hSw; go_simp; try with_reducible rfl)
      try simp only [AP]
      refine tk 1 18 ?gv7 rfl (by kernel_rfl) (fun _ _ _ h => h) ?gy7 (by assumption) ?_
      case gy7 => (intro w' hSw; go_simp; try with_reducible rfl)
      try simp only [AP]
      refine tk 2 19 ?gv8 rfl (by kernel_rfl) (fun _ _ _ h => h) ?gy8 (by assumption) ?_
      case gy8 => (intro w' hSw; go_simp; try with_reducible rfl)
      try simp only [AP]
      refine tk 3 20 ?gv9 rfl (by kernel_rfl) (fun _ _ _ h => h) ?gy9 (by assumption) ?_
      case gy9 => (intro w' hSw; go_simp; try with_reducible rfl)
      try simp only [AP]
      refine tk 4 21 ?gv10 rfl (by kernel_rfl) (fun _ _ _ h => h) ?gy10 (by assumption) ?_
      case gy10 => (intro w' hSw; go_simp; try with_reducible rfl)
      try simp only [AP]
      refine tk 5 22 ?gv11 rfl (by kernel_rfl) (fun _ _ _ h => h) ?gy11 (by assumption) ?_
      case gy11 => (intro w' hSw; go_simp; try with_reducible rfl)
      try simp only [AP]
      refine tk 6 23 ?gv12 rfl (by kernel_rfl) (fun _ _ _ h => h) ?gy12 (by assumption) ?_
      case gy12 => (intro w' hSw; go_simp; try with_reducible rfl)
      try simp only [AP]
      refine wpAnyH_ready (rs := [7]) (by kernel_rfl) (by simp) ?_
      refine AllReadyH.cons rfl (fun K hK => ?_) AllReadyH.nil
      go_simp
      (go_at_call 64; ((with_reducible refine (HI.out _ (by (repeat' (first | assumption | exact below_refl _ | refine bl_alloc ?_ _ | refine Below.setCell ?_ ?_ _ | refine below_draw ?_ | refine below_drewN ?_ _ | refine below_tr ?_ (by assumption))) <;> (first | omega | (simp; done) | (simp; omega)))).mono ?_); rintro e w6 ⟨rfl, hb6⟩; obtain ⟨hc6, hf6⟩ := bcell hb6; have hz6 := hb6.size; (try simp [sz_drew, sz_drewN] at hz6); (try simp only [sz_drew, sz_drewN] at hc6 hf6)))
      refine hK.out _ _ (by ((show Kq w5 _); (repeat' (first | assumption | exact kq_refl | refine kq_draw ?_ | refine kq_drewN ?_ | refine kq_alloc ?_ | refine kq_set ?_ ?_ | refine kq_step ?_ (by assumption))); (all_goals (first | omega | (simp; omega))))) (fun hS1 => ?_)
      clear hK K
      try simp only [AP]
      refine tk 8 25 ?gv13 rfl (by kernel_rfl) (fun _ _ _ h => h) ?gy13 (by assumption) ?_
      case gy13 => (intro w' hSw; go_simp; try with_reducible rfl)
      try simp only [AP]
      refine tk 9 26 ?gv14 rfl (by kernel_rfl) (fun _ _ _ h => h) ?gy14 (by assumption) ?_
      case gy14 => (intro w' hSw; go_simp; try with_reducible rfl)
      try simp only [AP]
      refine tk 10 3 ?gv15 rfl (by kernel_rfl) (fun _ _ _ h => h) ?gy15 (by assumption) ?_
      case gy15 => (intro w' hSw; go_simp; try with_reducible rfl)
      try simp only [AP]
      refine wpAnyH_done (by kernel_rfl) (NoPanic.normal ?_) _
      go_wp2
      go_roundw
      case rel => exact ⟨k + 1, by omega, by go_num, by rw [hst.out], below_tr hbw (by (repeat' (first | assumption | exact below_refl _ | refine bl_alloc ?_ _ | refine Below.setCell ?_ ?_ _ | refine below_draw ?_ | refine below_drewN ?_ _ | refine below_tr ?_ (by assumption))) <;> (first | omega | (simp; done) | (simp; omega)))⟩
      case measure => simp [RowKit.intOf]; omega
    · obtain rfl : k = l.l.length := by omega
      rw [HA.out, HE2.out]
      go_wp2
      go_ret
      exact ⟨rfl, below_tr B0 hbw⟩
end Go.Proofs.YtmjgljdmjpabdaaGreatDoor.Fi
set_option linter.unusedSimpArgs false
set_option linter.unusedVariables false
namespace Go.Proofs.YtmjgljdmjpabdaaGreatDoor.Fi
open Go.RowKit Go.Lib Tx
set_option maxHeartbeats 4000000 in
set_option maxRecDepth 20000 in
theorem d_day (T : Nat → Prop) (nb sb rb : Nat) (L : LS) (w : World) (hN : Nxt T nb sb rb w L) (hI : Inv L.val) :
    Calls Tryz.prog 276 #[.agg #[], .pointer (some ⟨nb, 0, none⟩)] w (DeedP (.day) T nb sb rb L w) := by
  have x0 := Blk.new w 166 #[]
  have B0 := bl_alloc (below_refl w) (.cells #[] 166)
  have hN0 := hN.on B0
  obtain ⟨u0, u1⟩ := upN_bd hI
  have dd0 : 0 ≤ L.day := hI.d0
  have dd1 : L.day ≤ 100000 := hI.d1
  have lnb := hN0.lt
  have hfz := hN0.blk.frozen
  have c17 : (w.alloc (.cells #[] 166)).cell? ⟨nb, 17, none⟩ = some (.int .i64 L.day) := hN0.cel 17 _ rfl
  have c18 : (w.alloc (.cells #[] 166)).cell? ⟨nb, 18, none⟩ = some (.slice L.gusts.a L.gusts.l.length L.gusts.c) := hN0.cel 18 _ rfl
  have HX2 := Lib.hid (show deed .day L.val = if (decide (upN L.val = 0) && decide (L.day < 100000)) = false then .error 10 else .ok { L.val with day := L.day + 1, gusts := [] } from rfl)
  have hw1 : IntKind.i64.wrap (L.day + 1) = L.day + 1 := fits_wrap ⟨by omega, by omega⟩
  go_enter Tryz.func276, Tryz.ntmps276
  go_upto_region 1 with fail
  generalize (w.alloc (.cells #[] 166)) = w1 at *
  have HAL := Lib.hid (fun w' (h : Below w1.heap.size w1 w') => (hN0.on h).aloft hI)
  have HN0 := Lib.hid hN0
  clear hI hN0
  generalize hU : upN L.val = U at *
  by_cases hz : U = 0
  · have g1 : (U == 0) = true := by simpa using hz
    by_cases hd : L.day < 100000
    · have g2 : decide (L.day < 100000) = true := decide_eq_true hd
      have HX := Lib.hid (show deed .day L.val = .ok { L.val with day := L.day + 1, gusts := [] } by rw [HX2.out, if_neg (by rw [decide_eq_true hz, g2]; simp)])
      clear hz hU
      go_upto_region 2 with (first | (go_at_call 236; ((with_reducible refine (HAL.out _ (by (repeat' (first | assumption | exact below_refl _ | refine bl_alloc ?_ _ | refine Below.setCell ?_ ?_ _ | refine below_draw ?_ | refine below_drewN ?_ _ | refine below_tr ?_ (by assumption))) <;> (first | omega | (simp; done) | (simp; omega)))).mono ?_); rintro e w3 ⟨rfl, hb3⟩; obtain ⟨hc3, hf3⟩ := bcell hb3; have hz3 := hb3.size; (try simp [sz_drew, sz_drewN] at hz3); (try simp only [sz_drew, sz_drewN] at hc3 hf3))) | (go_at_call 131; ((with_reducible refine (f_must_ok _ _).mono ?_); rintro e w' ⟨rfl, rfl⟩)))
      have B3 : Below w1.heap.size w1 w3 := by (repeat' (first | assumption | exact below_refl _ | refine bl_alloc ?_ _ | refine Below.setCell ?_ ?_ _ | refine below_draw ?_ | refine below_drewN ?_ _ | refine below_tr ?_ (by assumption))) <;> (first | omega | (simp; done) | (simp; omega))
      obtain ⟨hcx, hfx⟩ := bcell B3
      have q1 := (hcx nb 17 lnb).trans c17
      have q2 := (hcx nb 18 lnb).trans c18
      have qf1 := (hfx nb 17 lnb).trans (hfz 17)
      have qf2 := (hfx nb 18 lnb).trans (hfz 18)
      go_wp2
      go_end0
      have st := nb_step2 (nb_step (nb := nb) (below_tr B0 B3) 17 (.int .i64 (L.day + 1))) 18 (.slice none 0 0)
      have K := hN.kept st
      exact deed_ok (L' := { L with day := L.day + 1, gusts := ⟨none, [], 0⟩ }) HX.out rfl ⟨(((HN0.out.blk.below B3 lnb).set_ 17 (.int .i64 (L.day + 1))).set_ 18 (.slice none 0 0)), ⟨K.su, got_nil _ _ _ _, K.rigs, K.rk, K.sites, K.sk, K.items, K.back⟩, K.stp, rfl, rfl⟩
    · have g2 : decide (L.day < 100000) = false := decide_eq_false hd
      have HX := Lib.hid (show deed .day L.val = .error 10 by rw [HX2.out, if_pos (by rw [g2]; simp)])
      clear hz hU
      go_wp2_with (first | (go_at_call 236; ((with_reducible refine (HAL.out _ (by (repeat' (first | assumption | exact below_refl _ | refine bl_alloc ?_ _ | refine Below.setCell ?_ ?_ _ | refine below_draw ?_ | refine below_drewN ?_ _ | refine below_tr ?_ (by assumption))) <;> (first | omega | (simp; done) | (simp; omega)))).mono ?_); rintro e w3 ⟨rfl, hb3⟩; obtain ⟨hc3, hf3⟩ := bcell hb3; have hz3 := hb3.size; (try simp [sz_drew, sz_drewN] at hz3); (try simp only [sz_drew, sz_drewN] at hc3 hf3))) | (go_at_call 131; ((with_reducible refine (f_must_no _ _).mono ?_); rintro e w' ⟨rfl, rfl⟩)))
      exact ⟨rfl, deed_err HX.out (by (repeat' (first | assumption | exact below_refl _ | refine bl_alloc ?_ _ | refine Below.setCell ?_ ?_ _ | refine below_draw ?_ | refine below_drewN ?_ _ | refine below_tr ?_ (by assumption))) <;> (first | omega | (simp; done) | (simp; omega)))⟩
  · have g1 : (U == 0) = false := by simpa using hz
    have HX := Lib.hid (show deed .day L.val = .error 10 by rw [HX2.out, if_pos (by rw [decide_eq_false hz]; simp)])
    clear hz hU
    go_wp2_with (first | (go_at_call 236; ((with_reducible refine (HAL.out _ (by (repeat' (first | assumption | exact below_refl _ | refine bl_alloc ?_ _ | refine Below.setCell ?_ ?_ _ | refine below_draw ?_ | refine below_drewN ?_ _ | refine below_tr ?_ (by assumption))) <;> (first | omega | (simp; done) | (simp; omega)))).mono ?_); rintro e w3 ⟨rfl, hb3⟩; obtain ⟨hc3, hf3⟩ := bcell hb3; have hz3 := hb3.size; (try simp [sz_drew, sz_drewN] at hz3); (try simp only [sz_drew, sz_drewN] at hc3 hf3))) | (go_at_call 131; ((with_reducible refine (f_must_no _ _).mono ?_); rintro e w' ⟨rfl, rfl⟩)))
    exact ⟨rfl, deed_err HX.out (by (repeat' (first | assumption | exact below_refl _ | refine bl_alloc ?_ _ | refine Below.setCell ?_ ?_ _ | refine below_draw ?_ | refine below_drewN ?_ _ | refine below_tr ?_ (by assumption))) <;> (first | omega | (simp; done) | (simp; omega)))⟩
end Go.Proofs.YtmjgljdmjpabdaaGreatDoor.Fi
set_option linter.unusedSimpArgs false
set_option linter.unusedVariables false
namespace Go.Proofs.YtmjgljdmjpabdaaGreatDoor.Fi
open Go.RowKit Go.Lib Tx
set_option maxHeartbeats 4000000 in
set_option maxRecDepth 20000 in
theorem d_dog (i : Int) (T : Nat → Prop) (nb sb rb : Nat) (L : LS) (w : World) (hN : Nxt T nb sb rb w L) (hI : Inv L.val) :
    Calls Tryz.prog 284 #[.agg #[.int .i64 i], .pointer (some ⟨nb, 0, none⟩)] w (DeedP (.dog i) T nb sb rb L w) := by
  have x0 := Blk.new w 181 #[.int .i64 i]
  have B0 := bl_alloc (below_refl w) (.cells #[.int .i64 i] 181)
  have b0 := x0.cell 0
  simp only [List.getElem?_toArray, List.getElem?_cons_zero, List.getElem?_cons_succ] at b0
  have hN0 := hN.on B0
  have hsl : L.sites.l.length ≤ 8 := hI.slen
  have hsl0 : L.sites.l.length ≤ 1000 := by omega
  cases hth : thB L.val i
  · have HX := Lib.hid (show deed (.dog i) L.val = .error 5 by unfold deed; dsimp only; rw [if_pos hth])
    have HAT := Lib.hid (f_at_no nb L i _ hN0.cel hsl0 hth)
    go_enter Tryz.func284, Tryz.ntmps284
    go_wp2_with (go_at_call 239; ((with_reducible refine (HAT.out).mono ?_); rintro e w' ⟨rfl, rfl⟩))
    exact ⟨rfl, deed_err HX.out B0⟩
  obtain ⟨i0, i1⟩ := thB_iff.1 hth
  obtain ⟨k, rfl⟩ := Int.eq_ofNat_of_zero_le i0
  have hk : k < L.sites.l.length := by omega
  obtain ⟨s, cur, hs, ha, hbs, hir, c0, c1, c2⟩ := hN0.site hk
  have hfz := hbs.frozen
  have HAT := Lib.hid (f_at nb L k _ sb 0 hN0.cel hsl0 hk ha)
  have HSA := Lib.hid (siteA_of hs)
  have hsm := hI.men hs
  have lsb := hbs.lt
  have lnb := hN0.lt
  have lw := x0.lt
  obtain ⟨y, jb, jo, hy, hja, ljb, cj, hJ, hJl⟩ := hN0.jnts hI hk
  have HJA := Lib.hid (jntA_of hy)
  have hkj : (k : Int) < (L.x.jnt.l.length : Int) := by rw [hI.lens.2]; omega
  have hle := (vSu_parts hI.su).2.2.2.2.1
  have hle2 : -9223372036854775808 < L.x.cl.le ∧ L.x.cl.le ≤ 9223372036854775807 := by
    have h1 : vCl L.x.cl = true := hle
    unfold vCl at h1
    have h2 := wn_iff.1 (Bool.and_eq_true_iff.1 (Bool.and_eq_true_iff.1 (Bool.and_eq_true_iff.1 (Bool.and_eq_true_iff.1 h1).2).2).2).1
    omega
  have HX2 := Lib.hid (show deed (.dog (k : Int)) L.val = if (!s.fel && decide (s.dogs.l.length = 0)) = false then .error 10 else if goB L.val L.val.gusts = false then .error 11
      else if fewE L.x.cl y.l ≠ 0 then .error (fewE L.x.cl y.l) else .ok (setS L.val (k : Int) { s.val with dogs := fewL L.x.cl y.l }) by
    unfold deed; dsimp only; rw [if_neg (by rw [hth]; simp), HSA.out, HJA.out]; rfl)
  have c0x : (w.alloc (.cells #[.int .i64 (k : Int)] 181)).cell? ⟨sb, k * 3, none⟩ = some (.slice s.dogs.a s.dogs.l.length s.dogs.c) := c0
  have c18 : (w.alloc (.cells #[.int .i64 (k : Int)] 181)).cell? ⟨nb, 18, none⟩ = some (.slice L.gusts.a L.gusts.l.length L.gusts.c) := hN0.cel 18 _ rfl
  have c_2 : (w.alloc (.cells #[.int .i64 (k : Int)] 181)).cell? ⟨nb, 2, none⟩ = some (.int .i64 L.x.cl.fi) := hN0.cel 2 _ rfl
  have c_3 : (w.alloc (.cells #[.int .i64 (k : Int)] 181)).cell? ⟨nb, 3, none⟩ = some (.int .i64 L.x.cl.ga) := hN0.cel 3 _ rfl
  have c_4 : (w.alloc (.cells #[.int .i64 (k : Int)] 181)).cell? ⟨nb, 4, none⟩ = some (.int .i64 L.x.cl.tp) := hN0.cel 4 _ rfl
  have c_5 : (w.alloc (.cells #[.int .i64 (k : Int)] 181)).cell? ⟨nb, 5, none⟩ = some (.int .i64 L.x.cl.le) := hN0.cel 5 _ rfl
  have c_6 : (w.alloc (.cells #[.int .i64 (k : Int)] 181)).cell? ⟨nb, 6, none⟩ = some (.int .i64 L.x.cl.la) := hN0.cel 6 _ rfl
  have c_7 : (w.alloc (.cells #[.int .i64 (k : Int)] 181)).cell? ⟨nb, 7, none⟩ = some (.int .i64 L.x.cl.st) := hN0.cel 7 _ rfl
  have cja : (w.alloc (.cells #[.int .i64 (k : Int)] 181)).cell? ⟨nb, 1, none⟩ = some (.slice (some ⟨jb, jo, none⟩) L.x.jnt.l.length L.x.jnt.c) := by rw [← hja]; exact hN0.cel 1 _ rfl
  clear c0 hle
  go_enter Tryz.func284, Tryz.ntmps284
  go_upto_region 2 with (go_at_call 239; ((with_reducible refine (HAT.out).mono ?_); rintro e w' ⟨rfl, rfl⟩))
  generalize (w.alloc (.cells #[.int .i64 (k : Int)] 181)) = w1 at *
  have HGV := Lib.hid (fun w' (h : Below w1.heap.size w1 w') v hv => (hN0.on h).goes hI (v := v) hv)
  have HFW := Lib.hid (fun w' (h : Below w1.heap.size w1 w') => (show Calls Tryz.prog 286 #[.agg #[.int .i64 L.x.cl.fi, .int .i64 L.x.cl.ga, .int .i64 L.x.cl.tp, .int .i64 L.x.cl.le, .int .i64 L.x.cl.la, .int .i64 L.x.cl.st], .slice y.a y.l.length y.c] w' (FwtP L.x.cl y.l w') from l_Fewest L.x.cl y.a y.l y.c w' hle2 (by omega) (hJ.on h).rd))
  have HI := Lib.hid hI
  have HN0 := Lib.hid hN0
  clear hI hN0
  obtain ⟨k0, k1⟩ : (0 : Int) ≤ (k : Int) ∧ (k : Int).toNat = k := ⟨by omega, by omega⟩
  cases hf : s.fel
  · rw [hf] at c1
    by_cases hd : s.dogs.l.length = 0
    · have d2 : ((s.dogs.l.length : Int) == 0) = true := by simp [hd]
      have d3 : (s.dogs.l.length == 0) = true := by simp [hd]
      have d1 : decide (s.dogs.l.length = 0) = true := decide_eq_true hd
      clear hd
      go_upto_region 3 with (go_at_call 131; ((with_reducible refine (f_must_ok _ _).mono ?_); rintro e w' ⟨rfl, rfl⟩))
      cases hg : goB L.val L.val.gusts
      · have HX := Lib.hid (show deed (.dog (k : Int)) L.val = .error 11 by rw [HX2.out, if_neg (by rw [hf, d1]; simp), if_pos hg])
        have HGO := Lib.hid (fun w' h => HGV.out w' h _ hg)
        go_wp2_with (first | (go_at_call 57; ((with_reducible refine (HGO.out _ (by (repeat' (first | assumption | exact below_refl _ | refine bl_alloc ?_ _ | refine Below.setCell ?_ ?_ _ | refine below_draw ?_ | refine below_drewN ?_ _ | refine below_tr ?_ (by assumption))) <;> (first | omega | (simp; done) | (simp; omega)))).mono ?_); rintro e w4 ⟨rfl, hb4⟩; obtain ⟨hc4, hf4⟩ := bcell hb4; have hz4 := hb4.size; (try simp [sz_drew, sz_drewN] at hz4); (try simp only [sz_drew, sz_drewN] at hc4 hf4))) | (go_at_call 131; ((with_reducible refine (f_must_no _ _).mono ?_); rintro e w' ⟨rfl, rfl⟩)))
        exact ⟨rfl, deed_err HX.out (by (repeat' (first | assumption | exact below_refl _ | refine bl_alloc ?_ _ | refine Below.setCell ?_ ?_ _ | refine below_draw ?_ | refine below_drewN ?_ _ | refine below_tr ?_ (by assumption))) <;> (first | omega | (simp; done) | (simp; omega)))⟩
      · have HGO := Lib.hid (fun w' h => HGV.out w' h _ hg)
        go_upto_region 4 with (first | (go_at_call 57; ((with_reducible refine (HGO.out _ (by (repeat' (first | assumption | exact below_refl _ | refine bl_alloc ?_ _ | refine Below.setCell ?_ ?_ _ | refine below_draw ?_ | refine below_drewN ?_ _ | refine below_tr ?_ (by assumption))) <;> (first | omega | (simp; done) | (simp; omega)))).mono ?_); rintro e w4 ⟨rfl, hb4⟩; obtain ⟨hc4, hf4⟩ := bcell hb4; have hz4 := hb4.size; (try simp [sz_drew, sz_drewN] at hz4); (try simp only [sz_drew, sz_drewN] at hc4 hf4))) | (go_at_call 131; ((with_reducible refine (f_must_ok _ _).mono ?_); rintro e w' ⟨rfl, rfl⟩)))
        have B4 : Below w1.heap.size w1 w4 := by (repeat' (first | assumption | exact below_refl _ | refine bl_alloc ?_ _ | refine Below.setCell ?_ ?_ _ | refine below_draw ?_ | refine below_drewN ?_ _ | refine below_tr ?_ (by assumption))) <;> (first | omega | (simp; done) | (simp; omega))
        obtain ⟨hcx, hfx⟩ := bcell B4
        have lz : w1.heap.size ≤ w4.heap.size := B4.size
        have q_2 := (hcx nb 2 lnb).trans c_2
        have q_3 := (hcx nb 3 lnb).trans c_3
        have q_4 := (hcx nb 4 lnb).trans c_4
        have q_5 := (hcx nb 5 lnb).trans c_5
        have q_6 := (hcx nb 6 lnb).trans c_6
        have q_7 := (hcx nb 7 lnb).trans c_7
        have q1 := (hcx nb 1 lnb).trans cja
        have qj := (hcx jb (jo + k) ljb).trans cj
        have qk := (hcx w.heap.size 0 lw).trans b0
        have lw4 : w.heap.size < w4.heap.size := by omega
        have ln4 : nb < w4.heap.size := by omega
        have ls4 : sb < w4.heap.size := by omega
        have lj4 : jb < w4.heap.size := by omega
        generalize hE : fewE L.x.cl y.l = E at *
        refine wp_region_noPanic ?_
        refine wp_region_held_drew (S := (fun w' => (∀ b o, b < w4.heap.size → w'.cell? ⟨b, o, none⟩ = w4.cell? ⟨b, o, none⟩) ∧ (∀ b o, b < w4.heap.size → w'.frozen? ⟨b, o, none⟩ = w4.frozen? ⟨b, o, none⟩) ∧ Below w4.heap.size w4 w')) (by kernel_rfl) (kq_draw kq_refl) (fun hS0 => ?_)
        refine tk 0 33 ?gv1 rfl (by kernel_rfl) (fun _ _ _ h => h) ?gy1 (by assumption) ?_
        case gy1 => (intro w' hSw; go_simp; try with_reducible rfl)
        try simp only [AP]
        refine tk 1 34 ?gv2 rfl (by kernel_rfl) (fun _ _ _ h => h) ?gy2 (by assumption) ?_
        case gy2 => (intro w' hSw; go_simp; try with_reducible rfl)
        try simp only [AP]
        refine tk 2 35 ?gv3 rfl (by kernel_rfl) (fun _ _ _ h => h) ?gy3 (by assumption) ?_
        case gy3 => (intro w' hSw; go_simp; try with_reducible rfl)
        try simp only [AP]
        refine tk 3 36 ?gv4 rfl (by kernel_rfl) (fun _ _ _ h => h) ?gy4 (by assumption) ?_
        case gy4 => (intro w' hSw; go_simp; try with_reducible rfl)
        try simp only [AP]
        refine tk 4 37 ?gv5 rfl (by kernel_rfl) (fun _ _ _ h => h) ?gy5 (by assumption) ?_
        case gy5 => (intro w' hSw; go_simp; try with_reducible rfl)
        try simp only [AP]
        refine tk 5 38 ?gv6 rfl (by kernel_rfl) (fun _ _ _ h => h) ?gy6 (by assumption) ?_
        case gy6 => (intro w' hSw; go_simp; try with_reducible rfl)
        try simp only [AP]
        refine tk 6 39 ?gv7 rfl (by kernel_rfl) (fun _ _ _ h => h) ?gy7 (by assumption) ?_
        case gy7 => (intro w' hSw; go_simp; try with_reducible rfl)
        try simp only [AP]
        refine tk 7 40 ?gv8 rfl (by kernel_rfl) (fun _ _ _ h => h) ?gy8 (by assumption) ?_
        case gy8 => (intro w' hSw; go_simp; try with_reducible rfl)
        try simp only [AP]
        refine tk 8 41 ?gv9 rfl (by kernel_rfl) (fun _ _ _ h => h) ?gy9 (by assumption) ?_
        case gy9 => (intro w' hSw; go_simp; try with_reducible rfl)
        try simp only [AP]
        refine tk 9 42 ?gv10 rfl (by kernel_rfl) (fun _ _ _ h => h) ?gy10 (by assumption) ?_
        case gy10 => (intro w' hSw; go_simp; try with_reducible rfl)
        try simp only [AP]
        refine tk 10 43 ?gv11 rfl (by kernel_rfl) (fun _ _ _ h => h) ?gy11 (by assumption) ?_
        case gy11 => (intro w' hSw; go_simp; try with_reducible rfl)
        try simp only [AP]
        refine tk 11 44 ?gv12 rfl (by kernel_rfl) (fun _ _ _ h => h) ?gy12 (by assumption) ?_
        case gy12 => (intro w' hSw; go_simp; try with_reducible rfl)
        try simp only [AP]
        refine tk 12 45 ?gv13 rfl (by kernel_rfl) (fun _ _ _ h => h) ?gy13 (by assumption) ?_
        case gy13 => (intro w' hSw; go_simp; try with_reducible rfl)
        try simp only [AP]
        refine tk 13 46 ?gv14 rfl (by kernel_rfl) (fun _ _ _ h => h) ?gy14 (by assumption) ?_
        case gy14 => (intro w' hSw; go_simp; try with_reducible rfl)
        try simp only [AP]
        refine wpAnyH_ready (rs := [14]) (by kernel_rfl) (by simp) ?_
        refine AllReadyH.cons rfl (fun K hK => ?_) AllReadyH.nil
        go_simp
        (go_at_call 286; ((with_reducible refine (HFW.out _ (below_tr B4 (by (repeat' (first | assumption | exact below_refl _ | refine bl_alloc ?_ _ | refine Below.setCell ?_ ?_ _ | refine below_draw ?_ | refine below_drewN ?_ _ | refine below_tr ?_ (by assumption))) <;> (first | omega | (simp; done) | (simp; omega))))).mono ?_); rintro e w5 ⟨hb5, v5, rfl, ho5⟩; rw [hE]; obtain ⟨hc5, hf5⟩ := bcell hb5; have hz5 := hb5.size; (try simp [sz_drew, sz_drewN] at hz5); (try simp only [sz_drew, sz_drewN] at hc5 hf5)))
        refine hK.out _ _ (by ((show Kq w4 _); (repeat' (first | assumption | exact kq_refl | refine kq_draw ?_ | refine kq_drewN ?_ | refine kq_alloc ?_ | refine kq_set ?_ ?_ | refine kq_step ?_ (by assumption))); (all_goals (first | omega | (simp; omega))))) (fun hS1 => ?_)
        clear hK K
        try simp only [AP]
        refine tk 15 32 ?gv15 rfl (by kernel_rfl) (fun _ _ _ h => h) ?gy15 (by assumption) ?_
        case gy15 => (intro w' hSw; go_simp; try with_reducible rfl)
        try simp only [AP]
        refine tk 16 48 ?gv16 rfl (by kernel_rfl) (fun _ _ _ h => h) ?gy16 (by assumption) ?_
        case gy16 => (intro w' hSw; go_simp; try with_reducible rfl)
        try simp only [AP]
        refine tk 17 49 ?gv17 rfl (by kernel_rfl) (fun _ _ _ h => h) ?gy17 (by assumption) ?_
        case gy17 => (intro w' hSw; go_simp; try with_reducible rfl)
        try simp only [AP]
        refine tk 18 5 ?gv18 rfl (by kernel_rfl) (fun _ _ _ h => h) ?gy18 (by assumption) ?_
        case gy18 => (intro w' hSw; go_simp; try with_reducible rfl)
        try simp only [AP]
        refine tk 19 6 ?gv19 rfl (by kernel_rfl) (fun _ _ _ h => h) ?gy19 (by assumption) ?_
        case gy19 => (intro w' hSw; go_simp; try with_reducible rfl)
        try simp only [AP]
        refine wpAnyH_done (by kernel_rfl) (NoPanic.normal ?_) _
        obtain ⟨A5, c5, rfl⟩ := own_slice ho5
        have lw5 : w.heap.size ≤ w4.heap.size := by omega
        have hG : Got (fun g => w.heap.size ≤ g) w5 zC 1 ⟨A5, fewL L.x.cl y.l, c5⟩ := got_own (fun _ => rfl) ho5 (fun b h1 h2 => by simp [sz_drew] at h1; omega)
        have B5 : Below w1.heap.size w1 w5 := below_tr B4 hS1.2.2
        obtain ⟨hcy, hfy⟩ := bcell B5
        have qd := (hcy sb (k * 3) lsb).trans c0x
        have qf := (hfy sb (k * 3) lsb).trans (hfz (k * 3))
        by_cases he : E = 0
        · subst he
          have HX := Lib.hid (show deed (.dog (k : Int)) L.val = .ok (setS L.val (k : Int) { s.val with dogs := fewL L.x.cl y.l }) by rw [HX2.out, if_neg (by rw [hf, d1]; simp), if_neg (by rw [hg]; simp), if_neg (by simp)])
          go_wp2_with (go_at_call 246; ((with_reducible refine (f_passed_ok _).mono ?_); rintro e w' ⟨rfl, rfl⟩))
          go_end0
          exact deed_ok HX.out (by rw [set_val (s' := { s with dogs := ⟨A5, fewL L.x.cl y.l, c5⟩ })]; rfl) (hN.turnS (j := 0) (s' := { s with dogs := ⟨A5, fewL L.x.cl y.l, c5⟩ }) (below_tr B0 B5) hs rfl (fun r hr => by rcases r with _ | _ | _ | r <;> first | rfl | exact absurd rfl hr) (.inr hG))
        · have HX := Lib.hid (show deed (.dog (k : Int)) L.val = .error E by rw [HX2.out, if_neg (by rw [hf, d1]; simp), if_neg (by rw [hg]; simp), if_pos he])
          have HNZ := Lib.hid he
          go_wp2_with (go_at_call 246; ((with_reducible refine (f_passed_no _ HNZ.out _).mono ?_); rintro e w' ⟨rfl, rfl⟩))
          exact ⟨rfl, deed_err HX.out (below_tr B0 B5)⟩
    · have d2 : ((s.dogs.l.length : Int) == 0) = false := by simp [hd]
      have d3 : (s.dogs.l.length == 0) = false := by simp [hd]
      have HX := Lib.hid (show deed (.dog (k : Int)) L.val = .error 10 by rw [HX2.out, if_pos (by rw [decide_eq_false hd]; simp)])
      clear hd
      go_wp2_with (go_at_call 131; ((with_reducible refine (f_must_no _ _).mono ?_); rintro e w' ⟨rfl, rfl⟩))
      exact ⟨rfl, deed_err HX.out (by (repeat' (first | assumption | exact below_refl _ | refine bl_alloc ?_ _ | refine Below.setCell ?_ ?_ _ | refine below_draw ?_ | refine below_drewN ?_ _ | refine below_tr ?_ (by assumption))) <;> (first | omega | (simp; done) | (simp; omega)))⟩
  · rw [hf] at c1
    have HX := Lib.hid (show deed (.dog (k : Int)) L.val = .error 10 by rw [HX2.out, if_pos (by rw [hf]; rfl)])
    go_wp2_with (go_at_call 131; ((with_reducible refine (f_must_no _ _).mono ?_); rintro e w' ⟨rfl, rfl⟩))
    exact ⟨rfl, deed_err HX.out (by (repeat' (first | assumption | exact below_refl _ | refine bl_alloc ?_ _ | refine Below.setCell ?_ ?_ _ | refine below_draw ?_ | refine below_drewN ?_ _ | refine below_tr ?_ (by assumption))) <;> (first | omega | (simp; done) | (simp; omega)))⟩
end Go.Proofs.YtmjgljdmjpabdaaGreatDoor.Fi
