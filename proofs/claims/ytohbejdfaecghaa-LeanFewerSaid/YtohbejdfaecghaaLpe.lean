/- Lean: LeanFewer walked. -/
import Derived.Test.YtohbejdfaecghaaOwn
import Derived.Test.YtohbejdfaecghaaLnd
import Derived.Test.YtohbejdfaecghaaLpb
import Derived.Test.YtohbejdfaecghaaLnh
import Derived.Outline
set_option linter.unusedSimpArgs false
set_option linter.unusedVariables false
namespace Go.Proofs.Ytohbejdfaecghaa
open Go.RowKit

theorem and31 (k : Nat) : bits .and .i64 (k : Int) 31 = ((k % 32 : Nat) : Int) := by
  have h3 : (BitVec.ofInt 64 31).toNat = 2 ^ 5 - 1 := by decide
  have key : (BitVec.ofInt 64 (k : Int) &&& BitVec.ofInt 64 31).toNat = ((k : Int) % ((2 ^ 64 : Nat) : Int)).toNat % 2 ^ 5 := by
    rw [BitVec.toNat_and, BitVec.toNat_ofInt, h3, Nat.and_two_pow_sub_one_eq_mod]
  show IntKind.i64.wrap ((BitVec.ofInt 64 (k : Int) &&& BitVec.ofInt 64 31).toNat : Nat) = _
  rw [key, IntKind.wrap_i64]
  omega
theorem sub_snoc {l r : List Pt} {k : Nat} {p : Pt} (h : r.Sublist (l.take k)) (hp : l[k]? = some p) : (r ++ [p]).Sublist (l.take (k + 1)) := by
  rw [List.take_add_one, hp]
  exact h.append (List.Sublist.refl _)
theorem sub_keep {l r : List Pt} {k : Nat} (h : r.Sublist (l.take k)) : r.Sublist (l.take (k + 1)) := by
  rw [List.take_add_one]
  exact h.trans (List.sublist_append_left _ _)
set_option maxHeartbeats 4000000 in
set_option maxRecDepth 20000 in
theorem l_fewer (A : Option Addr) (l : List Pt) (c : Nat) (o : Int) (w : World) (hR : Rd Pt.cs 2 w A l) (hn : l.length ≤ maxLen) (ho : I64 o) :
    Calls Try.prog 12 #[.slice A l.length c, .int .i64 o] w fun e w' => e = .returned (.bool true) ∧ Below w.heap.size w w' := by
  unfold maxLen at hn
  by_cases hlen : 40 < l.length
  · go_enter Try.func12, Try.ntmps12
    go_wp2_with (go_at_call 17; ((with_reducible refine (p_awake _).mono ?_); rintro e w1 ⟨rfl, hb1⟩; obtain ⟨hc1, hf1⟩ := bcell hb1; have hz1 := hb1.size; (try simp [sz_drew, sz_drewN] at hz1); (try simp only [sz_drew, sz_drewN] at hc1 hf1)))
    go_ret
    exact ⟨rfl, by (repeat' (first | assumption | exact below_refl _ | refine bl_alloc ?_ _ | refine Below.setCell ?_ ?_ _ | refine below_draw ?_ | refine below_drewN ?_ _ | refine below_tr ?_ (by assumption))) <;> (first | omega | (simp; done) | (simp; omega))⟩
  · have HR := Lib.hid hR
    have P1 := fun W (h : Below w.heap.size w W) => p_Bend A l c W (by omega) (HR.out.on h)
    cases hv : vldP l
    · rw [show bendL l = ((0, 0), 1) by simp [bendL, hv]] at P1
      have P1 := Lib.hid P1
      clear hR
      go_enter Try.func12, Try.ntmps12
      go_wp2_with (first
        | (go_at_call 39; ((with_reducible refine (P1.out _ (below_refl _)).mono ?_); rintro e w1 ⟨rfl, hb1⟩; obtain ⟨hc1, hf1⟩ := bcell hb1; have hz1 := hb1.size; (try simp [sz_drew, sz_drewN] at hz1); (try simp only [sz_drew, sz_drewN] at hc1 hf1)))
        | (go_at_call 17; ((with_reducible refine (p_awake _).mono ?_); rintro e w2 ⟨rfl, hb2⟩; obtain ⟨hc2, hf2⟩ := bcell hb2; have hz2 := hb2.size; (try simp [sz_drew, sz_drewN] at hz2); (try simp only [sz_drew, sz_drewN] at hc2 hf2))))
      go_ret
      exact ⟨rfl, by (repeat' (first | assumption | exact below_refl _ | refine bl_alloc ?_ _ | refine Below.setCell ?_ ?_ _ | refine below_draw ?_ | refine below_drewN ?_ _ | refine below_tr ?_ (by assumption))) <;> (first | omega | (simp; done) | (simp; omega))⟩
    · obtain ⟨h1, h2⟩ := vld_len hv
      have hnv := near_vld hv
      rw [show bendL l = ((gN (eMax l (nearP l)) (nearP l).2.2, gD (eMax l (nearP l)) (nearP l).2.2), 0) by simp [bendL, hv]] at P1
      obtain ⟨i0, hi, hi1, hi2, hi3⟩ := info_point
      have HS := fun (r : List Pt) hs hl => fewer_law (r := r) hv hs hl
      have HB := fun (r : List Pt) (hs : r.Sublist l) (hl : 1 ≤ r.length) A c W (hR : Rd Pt.cs 2 W A r) => (show Calls Try.prog 39 #[.slice A r.length c] W fun e w' => e = .returned (.tuple #[frV (gN (eMax r (nearP r)) (nearP r).2.2, gD (eMax r (nearP r)) (nearP r).2.2), .int .i64 0]) ∧ Below W.heap.size W w' by
        have := p_Bend A r c W (by have := hs.length_le; omega) hR
        rwa [show bendL r = ((gN (eMax r (nearP r)) (nearP r).2.2, gD (eMax r (nearP r)) (nearP r).2.2), 0) by simp [bendL, vldP_sub hv hs hl]] at this)
      have HI := fun (r : List Pt) (hs : r.Sublist l) (hl : 1 ≤ r.length) => eMax_i64 (x := nearP r) (vldP_sub hv hs hl) (near_vld (vldP_sub hv hs hl))
      have P1 := Lib.hid P1
      have HS := Lib.hid HS
      have HB := Lib.hid HB
      have HI := Lib.hid HI
      go_enter Try.func12, Try.ntmps12
      go_wp2_with (go_at_call 39; ((with_reducible refine (P1.out _ (below_refl _)).mono ?_); rintro e w1 ⟨rfl, hb1⟩; obtain ⟨hc1, hf1⟩ := bcell hb1; have hz1 := hb1.size; (try simp [sz_drew, sz_drewN] at hz1); (try simp only [sz_drew, sz_drewN] at hc1 hf1)))
      have C0 := Lib.hid (Blk.new w1 23 #[.int .i64 (gN (eMax l (nearP l)) (nearP l).2.2), .int .i64 (gD (eMax l (nearP l)) (nearP l).2.2)])
      have E0 : Below w.heap.size w (w1.alloc (.cells #[.int .i64 (gN (eMax l (nearP l)) (nearP l).2.2), .int .i64 (gD (eMax l (nearP l)) (nearP l).2.2)] 23)) := by (repeat' (first | assumption | exact below_refl _ | refine bl_alloc ?_ _ | refine Below.setCell ?_ ?_ _ | refine below_draw ?_ | refine below_drewN ?_ _ | refine below_tr ?_ (by assumption))) <;> (first | omega | (simp; done) | (simp; omega))
      have hw1 := hb1.size
      clear hb1 hc1 hf1 hz1
      generalize hW3 : w1.alloc (.cells #[.int .i64 (gN (eMax l (nearP l)) (nearP l).2.2), .int .i64 (gD (eMax l (nearP l)) (nearP l).2.2)] 23) = W3 at *
      have hz3 : W3.heap.size = w1.heap.size + 1 := by rw [← hW3]; simp
      have HZ3 := Lib.hid hz3
      clear hW3 hz3
      generalize w1.heap.size = T at *
      go_loopw [7, 8] (fun v i wr => ∃ (k : Nat) (r : List Pt), k ≤ l.length ∧ i = .int .i64 k ∧ Below w.heap.size w wr ∧ Hid (Blk wr T 23 #[.int .i64 (gN (eMax l (nearP l)) (nearP l).2.2), .int .i64 (gD (eMax l (nearP l)) (nearP l).2.2)]) ∧ r.Sublist (l.take k) ∧ wr.ownsRow (T + 1) 28 2 v r.length (fl Pt.cs r)) (fun _ i _ => l.length - (intOf i).toNat)
      case atStart => exact ⟨0, [], by omega, rfl, E0, C0, by simp, World.ownsRow_nil W3 _ _ _⟩
      case round =>
        obtain ⟨k, r, hk, rfl, hB, D0, hsub, hown⟩ := hrel
        obtain ⟨ad, cp, rfl⟩ := own_slice hown
        have hrl : r.length ≤ 40 := by have := hsub.length_le; rw [List.length_take] at this; omega
        by_cases hlt : k < l.length
        · have k0 : (0 : Int) ≤ (k : Int) := Int.natCast_nonneg _
          have k1 : (k : Int) < (l.length : Int) := by omega
          obtain ⟨p, ab, off, hx, rfl, hab, c0, c1⟩ := rdP (hR.on hB) hlt
          have ha := and31 k
          have hm : (0 : Int) ≤ ((k % 32 : Nat) : Int) := Int.natCast_nonneg _
          have hm2 : ((k % 32 : Nat) : Int) < 32 := by omega
          generalize ((k % 32 : Nat) : Int) = sh at *
          have HX := Lib.hid hx
          clear hx
          have hTw := D0.out.lt
          go_wp2_with (at_builtin; refine wpList_append_own _ rfl _ _ 42 rfl (T + 1) 28 i0 (.agg #[.int .i64 0, .int .i64 0]) 2 16 (by kernel_rfl) hi hi1 hi2 hi3 rfl (by omega) _ _ _ rfl (hown.alloc _) ⟨wr.heap.size, 0, none⟩ 1 1 [.int .i64 p.h, .int .i64 p.x] rfl rfl (cells_new _ _ _) (fun u hu => by simp at hu; rcases hu with rfl | rfl <;> rfl) (by unfold maxLen; omega) (by omega) (by simp; have := D0.out.lt; omega) ?_; intro v' w4 hown4 hgrow _)
          · go_roundw
            case rel => exact ⟨k + 1, r ++ [p], by omega, by go_num, bl_app hB hown hgrow (by omega) (by have := hB.size; omega), Lib.hid ((D0.out.alloc _).grown hgrow (own_ne hown (by omega))), sub_snoc hsub HX.out, by rw [fl_snoc, List.length_append]; exact hown4⟩
            case measure => simp [intOf]; omega
          · go_roundw
            case rel => exact ⟨k + 1, r, by omega, by go_num, hB, D0, sub_keep hsub, hown⟩
            case measure => simp [intOf]; omega
        · obtain rfl : k = l.length := by omega
          rw [List.take_length] at hsub
          have hTw := D0.out.lt
          by_cases hr0 : r.length = 0
          · have t0 : ((r.length : Int) == 0) = true := by simpa using hr0
            have HR0 := Lib.hid hr0
            clear hr0 hown hsub
            go_wp2_with (go_at_call 17; ((with_reducible refine (p_awake _).mono ?_); rintro e w2 ⟨rfl, hb2⟩; obtain ⟨hc2, hf2⟩ := bcell hb2; have hz2 := hb2.size; (try simp [sz_drew, sz_drewN] at hz2); (try simp only [sz_drew, sz_drewN] at hc2 hf2)))
            go_ret
            exact ⟨rfl, by (repeat' (first | assumption | exact below_refl _ | refine bl_alloc ?_ _ | refine Below.setCell ?_ ?_ _ | refine below_draw ?_ | refine below_drewN ?_ _ | refine below_tr ?_ (by assumption))) <;> (first | omega | (simp; done) | (simp; omega))⟩
          · have t0 : ((r.length : Int) == 0) = false := by simpa using hr0
            have hrd := own_rd' Pt.cs_len hown
            have P2 := HB.out r hsub (by omega) ad cp wr hrd
            have hcl := HS.out r hsub (by omega)
            obtain ⟨j1, j2⟩ := HI.out r hsub (by omega)
            obtain ⟨j3, j4⟩ := eMax_i64 (x := nearP l) hv hnv
            have PC := fun W => r_Compare _ _ _ _ W j1 j2 j3 j4
            have P3 := fun W (h : Below w.heap.size w W) => p_Nearest A l c W (by omega) (HR.out.on h)
            have PD := fun (k : Nat) (p : Pt) (hp : l[k]? = some p) W => p_Distance (nearP l).1 (nearP l).2.1 (nearP l).2.2 p W
            have hdl := fun (k : Nat) (p : Pt) (hp : l[k]? = some p) => dist_law (x := nearP l) (vld_pos hnv) (List.mem_of_getElem? hp)
            have hdi := fun (k : Nat) (p : Pt) (hp : l[k]? = some p) => (show I64 (gN (farV (nearP l).1 (nearP l).2.1 (nearP l).2.2 p) (nearP l).2.2) ∧ I64 (gD (farV (nearP l).1 (nearP l).2.1 (nearP l).2.2 p) (nearP l).2.2) by
              have hlb := lb_of (vld_in hnv)
              have hfb := far_bd hlb (vld_sp hv p (List.mem_of_getElem? hp))
              exact low_i64 hfb.1 hfb.2 (by have := hlb.d0; omega) hlb.d1)
            have hdd := fun (k : Nat) (p : Pt) (hp : l[k]? = some p) => (show dstL ((nearP l).1, (nearP l).2.1, (nearP l).2.2) p = ((gN (farV (nearP l).1 (nearP l).2.1 (nearP l).2.2 p) (nearP l).2.2, gD (farV (nearP l).1 (nearP l).2.1 (nearP l).2.2 p) (nearP l).2.2), 0) by
              have hsp := List.all_eq_true.1 (vld_snd hv) p (List.mem_of_getElem? hp)
              simp [dstL, hnv, hsp])
            have hon := on_law (l := l) (x := nearP l) (vld_pos hnv) h1
            rw [show nearL l = (nearP l, 0) by simp [nearL, hv]] at P3
            generalize cmpR (gN (eMax r (nearP r)) (nearP r).2.2) (gD (eMax r (nearP r)) (nearP r).2.2) (gN (eMax l (nearP l)) (nearP l).2.2) (gD (eMax l (nearP l)) (nearP l).2.2) = C at *
            generalize gN (eMax r (nearP r)) (nearP r).2.2 = n2 at *
            generalize gD (eMax r (nearP r)) (nearP r).2.2 = d2 at *
            generalize gN (eMax l (nearP l)) (nearP l).2.2 = bn at *
            generalize gD (eMax l (nearP l)) (nearP l).2.2 = bd at *
            generalize nearP l = N at *
            obtain ⟨x0, x1, x2⟩ := N
            dsimp only at P3 PD hdl hdi hdd hon
            have c0 : decide (0 < C) = false := by simp; omega
            obtain ⟨b0, b1, b2, b3⟩ := blk2 D0.out
            have P2 := Lib.hid P2
            have PC := Lib.hid PC
            have P3 := Lib.hid P3
            have PD := Lib.hid PD
            have HDL := Lib.hid hdl
            have HDI := Lib.hid hdi
            have HDD := Lib.hid hdd
            have HON := Lib.hid hon
            clear hdl hdi hdd hon hown hrd hsub hcl hnv
            go_wp2_with (first
              | ((go_at_call 39; ((with_reducible refine (P2.out).mono ?_); rintro e w2 ⟨rfl, hb2⟩; obtain ⟨hc2, hf2⟩ := bcell hb2; have hz2 := hb2.size; (try simp [sz_drew, sz_drewN] at hz2); (try simp only [sz_drew, sz_drewN] at hc2 hf2); have y2_0 : T < w2.heap.size := (by omega))); have B2 : Below w.heap.size w w2 := (by (repeat' (first | assumption | exact below_refl _ | refine bl_alloc ?_ _ | refine Below.setCell ?_ ?_ _ | refine below_draw ?_ | refine below_drewN ?_ _ | refine below_tr ?_ (by assumption))) <;> (first | omega | (simp; done) | (simp; omega))))
              | ((go_at_call 16; ((with_reducible refine (PC.out _).mono ?_); rintro e w3 ⟨rfl, hb3⟩; obtain ⟨hc3, hf3⟩ := bcell hb3; have hz3 := hb3.size; (try simp [sz_drew, sz_drewN] at hz3); (try simp only [sz_drew, sz_drewN] at hc3 hf3); have y3_0 : T < w3.heap.size := (by omega))); have B3 : Below w.heap.size w w3 := (by (repeat' (first | assumption | exact below_refl _ | refine bl_alloc ?_ _ | refine Below.setCell ?_ ?_ _ | refine below_draw ?_ | refine below_drewN ?_ _ | refine below_tr ?_ (by assumption))) <;> (first | omega | (simp; done) | (simp; omega))))
              | ((go_at_call 37; ((with_reducible refine (P3.out _ B3).mono ?_); rintro e w4 ⟨rfl, hb4⟩; obtain ⟨hc4, hf4⟩ := bcell hb4; have hz4 := hb4.size; (try simp [sz_drew, sz_drewN] at hz4); (try simp only [sz_drew, sz_drewN] at hc4 hf4); have y4_0 : T < w4.heap.size := (by omega))); have B4 : Below w.heap.size w w4 := (by (repeat' (first | assumption | exact below_refl _ | refine bl_alloc ?_ _ | refine Below.setCell ?_ ?_ _ | refine below_draw ?_ | refine below_drewN ?_ _ | refine below_tr ?_ (by assumption))) <;> (first | omega | (simp; done) | (simp; omega)))))
            have F0 := Lib.hid (((((D0.out.below hb2 hTw).alloc (.cells #[.int .i64 n2, .int .i64 d2] 23)).below hb3 (by simp; omega)).below hb4 y3_0).alloc (.cells #[.int .i64 x0, .int .i64 x1, .int .i64 x2] 30))
            have F1 := Lib.hid (Blk.new w4 30 #[.int .i64 x0, .int .i64 x1, .int .i64 x2])
            have B5 : Below w.heap.size w (w4.alloc (.cells #[.int .i64 x0, .int .i64 x1, .int .i64 x2] 30)) := by (repeat' (first | assumption | exact below_refl _ | refine bl_alloc ?_ _ | refine Below.setCell ?_ ?_ _ | refine below_draw ?_ | refine below_drewN ?_ _ | refine below_tr ?_ (by assumption))) <;> (first | omega | (simp; done) | (simp; omega))
            have hTU : T < w4.heap.size := y4_0
            clear hc2 hf2 hc3 hf3 hc4 hf4 hb2 hb3 hb4 b0 b1 b2 b3
            generalize w4.alloc (.cells #[.int .i64 x0, .int .i64 x1, .int .i64 x2] 30) = W5 at *
            generalize w4.heap.size = U at *
            go_loopw [13, 14] (fun v i wr => ∃ k : Nat, k ≤ l.length ∧ i = .int .i64 k ∧ v = .bool ((l.take k).all fun p => decide (gN (farV x0 x1 x2 p) x2 = 0)) ∧ Below w.heap.size w wr ∧ Hid (Blk wr T 23 #[.int .i64 bn, .int .i64 bd]) ∧ Hid (Blk wr U 30 #[.int .i64 x0, .int .i64 x1, .int .i64 x2])) (fun _ i _ => l.length - (intOf i).toNat)
            case atStart => exact ⟨0, by omega, rfl, by simp, B5, F0, F1⟩
            case round =>
              obtain ⟨k, hk, rfl, rfl, hBw, G0, G1⟩ := hrel
              by_cases hlt : k < l.length
              · have k0 : (0 : Int) ≤ (k : Int) := Int.natCast_nonneg _
                have k1 : (k : Int) < (l.length : Int) := by omega
                obtain ⟨p, ab, off, hx, rfl, hab, c1, c2⟩ := rdP (hR.on hBw) hlt
                have PD2 := PD.out k p hx
                rw [HDD.out k p hx] at PD2
                have hdl := HDL.out k p hx
                obtain ⟨q1, q2⟩ := HDI.out k p hx
                have PC2 := fun W => r_Compare _ _ _ _ W q1 q2 j3 j4
                have HALL := Lib.hid (show ((l.take (k + 1)).all fun p => decide (gN (farV x0 x1 x2 p) x2 = 0)) = (((l.take k).all fun p => decide (gN (farV x0 x1 x2 p) x2 = 0)) && decide (gN (farV x0 x1 x2 p) x2 = 0)) by rw [List.take_add_one, hx, List.all_append]; simp)
                generalize cmpR (gN (farV x0 x1 x2 p) x2) (gD (farV x0 x1 x2 p) x2) bn bd = C2 at *
                generalize hoo : ((l.take k).all fun p => decide (gN (farV x0 x1 x2 p) x2 = 0)) = oo at *
                clear hoo
                generalize gN (farV x0 x1 x2 p) x2 = dn at *
                generalize gD (farV x0 x1 x2 p) x2 = dd at *
                have c3 : decide (0 < C2) = false := by simp; omega
                obtain ⟨b0, b1, b2, b3⟩ := blk2 G0.out
                obtain ⟨e0, e1, e2, e3, e4, e5⟩ := blk3 G1.out
                have hg0 := G0.out.lt
                have hg1 := G1.out.lt
                have PD2 := Lib.hid PD2
                have PC2 := Lib.hid PC2
                clear hx hdl q1 q2
                obtain ⟨wq, rfl⟩ : ∃ wq : World, wq = wr := ⟨_, rfl⟩
                go_wp2
                go_region_held3 (fun w' => (∀ b o, b < wq.heap.size → w'.cell? ⟨b, o, none⟩ = wq.cell? ⟨b, o, none⟩) ∧ (∀ b o, b < wq.heap.size → w'.frozen? ⟨b, o, none⟩ = wq.frozen? ⟨b, o, none⟩) ∧ Below wq.heap.size wq w') ((first | assumption | (refine kp_of ?_; (repeat' (first | assumption | exact below_refl _ | refine bl_alloc ?_ _ | refine Below.setCell ?_ ?_ _ | refine below_draw ?_ | refine below_drewN ?_ _ | refine below_tr ?_ (by assumption))) <;> (first | omega | (simp; done) | (simp; omega))))) ((first | (go_at_call 20; ((with_reducible refine (PD2.out _).mono ?_); rintro e w6 ⟨rfl, hb6⟩; obtain ⟨hc6, hf6⟩ := bcell hb6; have hz6 := hb6.size; (try simp [sz_drew, sz_drewN] at hz6); (try simp only [sz_drew, sz_drewN] at hc6 hf6); have y6_0 : T < w6.heap.size := (by omega); have y6_1 : U < w6.heap.size := (by omega)))))
                all_goals
                  (try have y6x : wq.heap.size < w6.heap.size := (by omega))
                  cases oo
                  all_goals
                    go_wp2_with ((go_at_call 16; ((with_reducible refine (PC2.out _).mono ?_); rintro e w7 ⟨rfl, hb7⟩; obtain ⟨hc7, hf7⟩ := bcell hb7; have hz7 := hb7.size; (try simp [sz_drew, sz_drewN] at hz7); (try simp only [sz_drew, sz_drewN] at hc7 hf7); have y7_0 : T < w7.heap.size := (by omega); have y7_1 : U < w7.heap.size := (by omega); have y7_2 : wq.heap.size < w7.heap.size := (by omega))); (try have y7x : w6.heap.size < w7.heap.size := (by omega)))
                    go_roundw
                    case rel => exact ⟨k + 1, by omega, by go_num, by rw [HALL.out]; first | rfl | simp, by (repeat' (first | assumption | exact below_refl _ | refine bl_alloc ?_ _ | refine Below.setCell ?_ ?_ _ | refine below_draw ?_ | refine below_drewN ?_ _ | refine below_tr ?_ (by assumption))) <;> (first | omega | (simp; done) | (simp; omega)), Lib.hid (by first | exact (((G0.out).drew.below hb6 (by first | assumption | (simp; omega))).alloc _).below hb7 (by simp; omega) | exact ((((G0.out.alloc _).drew.below hb6 (by simp; omega)).far (by simp; omega) _).far (by simp; omega) _).below hb7 (by simp [World.setCell]; omega)), Lib.hid (by first | exact (((G1.out).drew.below hb6 (by first | assumption | (simp; omega))).alloc _).below hb7 (by simp; omega) | exact ((((G1.out.alloc _).drew.below hb6 (by simp; omega)).far (by simp; omega) _).far (by simp; omega) _).below hb7 (by simp [World.setCell]; omega))⟩
                    case measure => simp [intOf]; omega
              · obtain rfl : k = l.length := by omega
                have hb : ((l.take l.length).all fun p => decide (gN (farV x0 x1 x2 p) x2 = 0)) = (bn == 0) := by
                  rw [List.take_length, Bool.eq_iff_iff, List.all_eq_true]
                  simp only [decide_eq_true_eq, beq_iff_eq]
                  exact HON.out
                obtain ⟨b0, b1, b2, b3⟩ := blk2 G0.out
                have hg0 := G0.out.lt
                generalize ((l.take l.length).all fun p => decide (gN (farV x0 x1 x2 p) x2 = 0)) = oo at *
                have HOO := Lib.hid hb
                cases hbn : (bn == 0)
                · rw [hbn] at hb
                  subst hb
                  go_wp2_with (go_at_call 17; ((with_reducible refine (p_awake _).mono ?_); rintro e w8 ⟨rfl, hb8⟩; obtain ⟨hc8, hf8⟩ := bcell hb8; have hz8 := hb8.size; (try simp [sz_drew, sz_drewN] at hz8); (try simp only [sz_drew, sz_drewN] at hc8 hf8)))
                  go_ret
                  exact ⟨rfl, by (repeat' (first | assumption | exact below_refl _ | refine bl_alloc ?_ _ | refine Below.setCell ?_ ?_ _ | refine below_draw ?_ | refine below_drewN ?_ _ | refine below_tr ?_ (by assumption))) <;> (first | omega | (simp; done) | (simp; omega))⟩
                · rw [hbn] at hb
                  subst hb
                  go_wp2_with (go_at_call 17; ((with_reducible refine (p_awake _).mono ?_); rintro e w8 ⟨rfl, hb8⟩; obtain ⟨hc8, hf8⟩ := bcell hb8; have hz8 := hb8.size; (try simp [sz_drew, sz_drewN] at hz8); (try simp only [sz_drew, sz_drewN] at hc8 hf8)))
                  go_ret
                  exact ⟨rfl, by (repeat' (first | assumption | exact below_refl _ | refine bl_alloc ?_ _ | refine Below.setCell ?_ ?_ _ | refine below_draw ?_ | refine below_drewN ?_ _ | refine below_tr ?_ (by assumption))) <;> (first | omega | (simp; done) | (simp; omega))⟩
theorem l_fewerF (A : Option Addr) (l : List Pt) (c : Nat) (o : Int) (w : World) (hn : l.length ≤ maxLen) (hR : Rd Pt.cs 2 w A l) (_ : ∀ p ∈ l, I64 p.h ∧ I64 p.x) (ho : (Lit.int .i64 o).wf = true) :
    Calls Try.prog 12 #[.slice A l.length c, .int .i64 o] w fun e w' => e = .returned (.bool true) ∧ Below w.heap.size w w' := l_fewer A l c o w hR hn (i64_of ho)
end Go.Proofs.Ytohbejdfaecghaa
