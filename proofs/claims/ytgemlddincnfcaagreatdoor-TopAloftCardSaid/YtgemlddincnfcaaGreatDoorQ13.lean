/- The parts of the proof, part 13. -/
import Derived.Test.YtgemlddincnfcaaGreatDoorQ0
import Derived.Test.YtgemlddincnfcaaGreatDoorQ12
import Derived.WalkSpells
set_option maxHeartbeats 16000000
set_option maxRecDepth 20000
set_option linter.unusedSimpArgs false
set_option linter.unusedVariables false
namespace Go.Proofs.YtgemlddincnfcaaGreatDoor.Fi
open Go.RowKit Go.Lib Go.Maps Tx
theorem sdN_nodup (l : List Jt) (k : Nat) : (sdN l k).Nodup := List.Nodup.sublist List.filter_sublist List.nodup_range
theorem sdN_asc (l : List Jt) (k : Nat) : (sdN l k).Pairwise (· < ·) := List.Pairwise.sublist List.filter_sublist List.pairwise_lt_range
theorem rev_take {l : List Jt} {k d : Nat} (h : (sdN l l.length).reverse[k]? = some d) : ((sdN l l.length).reverse.take k).Perm ((sdN l l.length).filter fun x => decide (d < x)) := by
 obtain ⟨s, hs⟩ : ∃ s, s = sdN l l.length := ⟨_, rfl⟩
 have ha := sdN_asc l l.length
 rw [← hs] at h ha ⊢
 have e : ∀ s : List Nat, s.Pairwise (· < ·) -> ∀ k d, s.reverse[k]? = some d -> (s.reverse.take k) = (s.filter fun x => decide (d < x)).reverse := fun s => by
  induction s with
  | nil => intro _ k d h; simp at h
  | cons x r ih =>
   intro ha k d h
   obtain ⟨h1, h2⟩ := List.pairwise_cons.1 ha
   rw [List.reverse_cons] at h ⊢
   rcases Nat.lt_trichotomy k r.length with hk | hk | hk
   ·rw [List.getElem?_append_left (by simpa using hk)] at h
    rw [List.take_append_of_le_length (by simp; omega), ih h2 k d h, List.filter_cons_of_neg]
    have : d ∈ r := by have := List.mem_of_getElem? h; simpa using this
    have := h1 d this
    simp; omega
   ·subst hk
    rw [List.getElem?_append_right (by simp)] at h
    simp at h
    subst h
    rw [List.take_append_of_le_length (by simp), List.take_of_length_le (by simp), List.filter_cons_of_neg (by simp), List.filter_eq_self.2]
    intro y hy; simpa using h1 y hy
   ·rw [List.getElem?_eq_none (by simp; omega)] at h; cases h
 rw [e s ha k d h]
 exact (List.reverse_perm _)
theorem natV_fl (q : List Nat) : S.natV q = fl nC q := by
 unfold S.natV fl nC
 induction q with
 | nil => rfl
 | cons x q ih => rw [List.map_cons, ih]; rfl
theorem natV_rd {w : World} {base : Nat} {A : Option Addr} {c : Nat} {q : List Nat} (h : w.ownsRow base 3 1 (.slice A q.length c) q.length (S.natV q)) : Rd nC 1 w A q := own_rd' nC_len (by rw [natV_fl] at h; exact h)
theorem rd_keep {α : Type} {enc : α -> List Value} {sz mb : Nat} {w w3 wr : World} {A : Option Addr} {l : List α} (h : Rd enc sz w A l) (hb : Below w.heap.size w w3) (hs : Stp (fun x => x = mb) w3 wr) (hm : w.heap.size <= mb) : Rd enc sz wr A l := fun hne => by
 obtain ⟨b, off, e, hlt, hc⟩ := h hne
 have h1 := hb.size
 exact ⟨b, off, e, by have := hs.size; omega, fun k x hx j v hv => hs.cell (((bcell hb).1 b _ hlt).trans (hc k x hx j v hv)) (by omega)⟩
theorem rd_nat {w : World} {A : Option Addr} {q : List Nat} (h : Rd nC 1 w A q) {k : Nat} (hk : k < q.length) :
  ∃ x b off, q[k]? = some x ∧ A = some ⟨b, off, none⟩ ∧ b < w.heap.size ∧ w.cell? ⟨b, off + k, none⟩ = some (.int .i64 (x : Nat)) := by
 obtain ⟨x, hx⟩ := get_lt hk
 obtain ⟨b, off, e, hb, hc⟩ := h.get hx
 have := hc 0 _ rfl
 rw [Nat.mul_one, Nat.add_zero] at this
 exact ⟨x, b, off, hx, e, hb, this⟩
def ctF (c : Cl) (l : List Jt) (q : List Nat) (k : Nat) (x : Nat) : Int := if x ∈ q.take k then ndA c l x else 0
theorem ct_zero (c : Cl) (l : List Jt) (q : List Nat) : ctF c l q 0 = fun _ => 0 := by funext x; unfold ctF; rw [List.take_zero, if_neg (List.not_mem_nil)]
theorem ct_step {c : Cl} {l : List Jt} {q : List Nat} {k d : Nat} (h : q[k]? = some d) : ctF c l q (k + 1) = fun x => if x = d then ndA c l d else ctF c l q k x := by
 funext x
 unfold ctF
 rw [List.take_add_one, h]
 by_cases hx : x = d
 ·subst hx; rw [if_pos (by simp), if_pos rfl]
 ·rw [if_neg hx]
  by_cases hm : x ∈ q.take k
  ·rw [if_pos hm, if_pos (by simp [hm])]
  ·rw [if_neg hm, if_neg (by simp [hm, hx])]
theorem ct_self {c : Cl} {l : List Jt} {q : List Nat} {k d : Nat} (hn : q.Nodup) (h : q[k]? = some d) : ctF c l q k d = 0 := by
 unfold ctF
 rw [if_neg]
 intro hm
 obtain ⟨j, hj, e⟩ := List.getElem_of_mem hm
 rw [List.getElem_take] at e
 rw [List.length_take] at hj
 have h1 : q[j]? = some d := by rw [List.getElem?_eq_getElem (by omega), e]
 have : j = k := by first | exact List.getElem?_inj (by omega) hn (h1.trans h.symm) | exact (List.getElem?_inj (by omega) hn).1 (h1.trans h.symm)
 omega
theorem ct_at {c : Cl} {l : List Jt} {q : List Nat} {k j x : Nat} (hj : j < k) (h : q[j]? = some x) : ctF c l q k x = ndA c l x := by
 unfold ctF
 rw [if_pos]
 refine List.mem_of_getElem? (i := j) ?_
 rw [List.getElem?_take, if_pos hj, h]
def ctI (f : Nat -> Int) (d : Nat) (a : Int) (x : Nat) : Int := if x = d then a else f x
theorem mp_eq {w : World} {b n : Nat} {f g : Nat -> Int} (h : MpIs w b n f) (e : f = g) : MpIs w b n g := e ▸ h
theorem ctI_put (f : Nat -> Int) (d : Nat) (a a' : Int) : (fun x => if x = d then a' else ctI f d a x) = ctI f d a' := by funext x; unfold ctI; split <;> simp_all
theorem l_counts (c : Cl) (A : Option Addr) (l : List Jt) (cc : Nat) (w : World) (hJ : JB l) (hga : 1 <= c.ga ∧ c.ga <= 200000) (hR : Rd Jt.cs 2 w A l) :
  Calls Tryz.prog 279 #[clV c, .slice A l.length cc] w fun e w' => ∃ b n, e = .returned (.map (some b)) ∧ w.heap.size <= b ∧ MpIs w' b n (ctF c l (sdN l l.length).reverse (sdN l l.length).reverse.length) ∧ Below w.heap.size w w' := by
 have x0 := Blk.new w 25 (clA c)
 have B0 := bl_alloc (below_refl w) (.cells (clA c) 25)
 have hn2 := hJ.n
 have HS := Lib.hid (fun W (h : Below w.heap.size w W) => l_sound A l cc W (by omega) (hR.on h))
 have hmm := @run_makeMap Tryz.prog
 have hq := sdN_nodup l l.length
 have hqm : ∀ x ∈ (sdN l l.length).reverse, x < l.length ∧ (jAt l x).s = true := fun x hx => sdN_mem (List.mem_reverse.1 hx)
 have hql : (sdN l l.length).reverse.length <= l.length := by rw [List.length_reverse]; exact sdN_len l l.length
 have hrt := Lib.hid (fun k d h => rev_take (l := l) (k := k) (d := d) h)
 have hqn : (sdN l l.length).reverse.Nodup := (List.reverse_perm _).nodup_iff.2 hq
 have hsl : (sdN l l.length).length <= 100000 := by have := sdN_len l l.length; omega
 obtain ⟨q, hqq⟩ : ∃ q, q = (sdN l l.length).reverse := ⟨_, rfl⟩
 rw [← hqq] at hqm hql hrt hqn ⊢
 go_enter Tryz.func279, Tryz.ntmps279
 go_upto_region 4 with (first
  | (go_at_call 280; ((with_reducible refine (HS.out _ (bl_alloc B0 _)).mono ?_); rintro e w1 ⟨v1, rfl, hv1, hb1⟩; obtain ⟨A1, c1, rfl⟩ := own_slice hv1))
  | (go_at_call 281; ((with_reducible refine (S.s_reverse _ _ _ _ hv1 hsl).mono ?_); rintro e w3 ⟨rfl, hv3, hb3⟩)))
 have hz1 := hb1.size
 rw [World.size_alloc, World.size_alloc] at hz1 hv1 hb3
 rw [World.size_alloc, World.size_alloc] at hv3
 have b3 : Below (w.heap.size + 1 + 1) ((w.alloc (.cells (clA c) 25)).alloc (.map #[] 0)) w3 := (hb1.mono (by simp)).trans hb3
 have hm3 : MpIs w3 (w.heap.size + 1) 0 (fun _ => 0) := by
  have h := mp_made (w.alloc (.cells (clA c) 25))
  rw [World.size_alloc] at h
  exact mp_on h (b3.mono (by simp))
 have hx3 : Blk w3 w.heap.size 25 (clA c) := (x0.alloc (.map #[] 0)).below b3 (by omega)
 have B3 : Below w.heap.size w w3 := (bl_alloc (bl_alloc (below_refl w) (.cells (clA c) 25)) (.map #[] 0)).trans (b3.mono (by omega))
 have hz3 : w.heap.size + 2 <= w3.heap.size := by have := b3.size; simp at this; omega
 have hge := own_ge hv3
 have hl2 : (sdN l l.length).length = q.length := by rw [hqq, List.length_reverse]
 rw [← hqq] at hv3
 rw [hl2] at hv3 hge ⊢
 have hrq : Rd nC 1 w3 A1 q := natV_rd hv3
 have hc1 := (own_caps hv3).1
 have HQK : Hid (∀ wr, Stp (fun x => x = w.heap.size + 1) w3 wr -> Rd nC 1 wr A1 q) := Lib.hid fun wr hs hne => by
  obtain ⟨b, off, e, hlt, hc⟩ := hrq hne
  have := hge b (by rw [e]; rfl)
  exact ⟨b, off, e, by have := hs.size; omega, fun k x hx j v hv => hs.cell (hc k x hx j v hv) (by omega)⟩
 have HRK : Hid (∀ wr, Stp (fun x => x = w.heap.size + 1) w3 wr -> Rd Jt.cs 2 wr A l) := Lib.hid fun wr hs => rd_keep hR B3 hs (by omega)
 have hct0 := ct_zero c l q
 have HBX : Hid (∀ wr, Stp (fun x => x = w.heap.size + 1) w3 wr -> Blk wr w.heap.size 25 (clA c) ∧ Below w.heap.size w wr) := Lib.hid fun wr hs => ⟨hs.blk hx3 (by omega), B3.trans (hs.toBelow (by omega) (fun b hb => by omega))⟩
 clear hv1 hb1 hb3 b3 hv3 hge hrq hR x0 B0 HS hmm hl2
 clear hqq hq hsl hz1
 go_wp2
 go_loopw [20] (fun i wr => ∃ k n : Nat, k <= q.length ∧ i = .int .i64 k ∧ Stp (fun x => x = w.heap.size + 1) w3 wr ∧ MpIs wr (w.heap.size + 1) n (ctF c l q k) ∧ n <= 300 * k) (fun i _ => q.length - (RowKit.intOf i).toNat)
 case atStart => exact ⟨0, 0, by omega, rfl, Stp.refl _ _, by rw [hct0]; exact hm3, by omega⟩
 case round =>
  obtain ⟨k, n, hk, rfl, hst, hmp, hnk⟩ := hrel
  rename World => wr
  have k0 := nn k
  by_cases hlt : k < q.length
  ·have k1 : (k : Int) < (q.length : Int) := by omega
   obtain ⟨d, ab, ao, hd, rfl, hab, d0⟩ := rd_nat (HQK.out wr hst) hlt
   obtain ⟨hdl, hds⟩ := hqm d (List.mem_of_getElem? hd)
   have dd0 := nn d
   have dd1 : (d : Int) < (l.length : Int) := by omega
   obtain ⟨jd, jb, jo, hjd, rfl, hjb, e0, e1⟩ := rdJ (HRK.out wr hst) hdl
   obtain ⟨hbx, hbw⟩ := HBX.out wr hst
   have b0 := hbx.cell 0
   have b1 := hbx.cell 1
   have b2 := hbx.cell 2
   have b3 := hbx.cell 3
   have b4 := hbx.cell 4
   have b5 := hbx.cell 5
   simp only [GA] at b0 b1 b2 b3 b4 b5
   have hJd := hJ.h d jd hjd
   have HLS := Lib.hid (fun W => l_last c jd W (by omega) (by omega))
   have HJD := Lib.hid hjd
   have HD := Lib.hid hd
   obtain ⟨JH, JS⟩ := jd
   dsimp only at *
   clear hjd hd
   go_upto_region 7 with fail
   refine wp_region_still_tail 5 (by kernel_rfl) (by kernel_rfl) ?_
   change wpStill _ _ wr.drew _ _ _
   simp only [List.take_succ_cons, List.take_zero, List.drop_succ_cons, List.drop_zero]
   repeat still_step
   refine wpStill_nil ?_
   change wpList _ _ _ _ _ wr.drew
   have hst1 := hst.drew
   have hmp1 : MpIs wr.drew (w.heap.size + 1) n (ctF c l q k) := mp_on hmp (below_draw (below_refl wr))
   have hself := ct_self (c := c) (l := l) hqn HD.out
   have hmp2 : MpIs wr.drew (w.heap.size + 1) n (ctI (ctF c l q k) d 0) := mp_eq hmp1 (by funext x; unfold ctI; split; · rename_i h; rw [h, hself]
                                                                                          ·rfl)
   have hszd : wr.drew.heap.size = wr.heap.size := rfl
   have hlm := mp_lt hmp1
   clear hst hmp hmp1 b0 b1 b2 b3 b4 b5 e0 e1 d0 hbx hbw hself
   generalize wr.drew = wd at *
   have BD : ∀ W, Below wd.heap.size wd W -> Stp (fun x => x = w.heap.size + 1) w3 W := fun W h => hst1.below h hst1.size
   have hkey : keyOf Tryz.prog 3 (.int .i64 (d : Nat)) = some (G.kyZ (d : Nat)) := G.keyZ (WalkArith.wf_i64 (by omega))
   go_upto_if 30 with (go_at_call 59; ((with_reducible refine (HLS.out _).mono ?_); rintro e w5 ⟨rfl, hb5⟩))
   go_cut [] (fun wx => Stp (fun x => x = w.heap.size + 1) w3 wx ∧ ∃ n', n' <= 300 * k + 1 ∧ MpIs wx (w.heap.size + 1) n' (ctI (ctF c l q k) d (if lastB c ⟨JH, JS⟩ = true then 1 else 0)))
   case first =>
    have hmp5 := mp_on hmp2 hb5
    have hst5 := BD _ hb5
    cases hL : lastB c ⟨JH, JS⟩
    ·go_wp2
     go_meet
     exact ⟨hst5, n, by omega, by rw [hL, if_neg (by simp)]; exact hmp5⟩
    ·obtain ⟨D, hoz, htd, hfd⟩ := hmp5
     go_wp2_with (first
      | (at_mapUpdate; refine wpList_mapUpdate_own _ rfl _ _ _ 214 rfl 3 3 G.lawZ G.und_mapZ _ (w.heap.size + 1) n _ rfl hoz (by unfold maxLen; omega) _ _ _ rfl rfl hkey _ [] (plainElem_int G.und_int (WalkArith.wf_i64 (by omega))) ?_; intro w6 hown6 hgrow6)
      | go_in)
     have hst6 := hst5.grown hgrow6 (fun r h => by injection h with h; exact .inl h.symm)
     have hm6 := mp_eq (mp_put htd hfd (by decide) hown6) (ctI_put _ _ _ _)
     clear hown6 hgrow6 hoz
     go_wp2
     go_meet
     exact ⟨hst6, n + 1, by omega, by rw [hL, if_pos rfl]; exact hm6⟩
   case rest =>
    obtain ⟨hst5, n5, hn5, hm5⟩ := hcut
    clear hst1 hmp2 hb5 BD HLS
    generalize wc = w6 at *
    have kc1 : (k : Int) <= (c1 : Int) := by omega
    have hjs : (⟨JH, JS⟩ : Jt).s = true := by rw [← hds, jAt_of HJD.out]
    have HACC := Lib.hid (acc_nd (c := c) HJD.out hjs (hrt.out k d HD.out))
    have ha01 : (if lastB c ⟨JH, JS⟩ = true then (1 : Int) else 0) = 0 ∨ (if lastB c ⟨JH, JS⟩ = true then (1 : Int) else 0) = 1 := by split <;> simp
    generalize (if lastB c ⟨JH, JS⟩ = true then (1 : Int) else 0) = a0 at *
    have hw5 := hst5.size
    clear hjs
    go_wp2
    go_loopw [37] (fun i wv => ∃ j m : Nat, j <= k ∧ i = .int .i64 j ∧ Stp (fun x => x = w.heap.size + 1) w3 wv ∧ MpIs wv (w.heap.size + 1) m (ctI (ctF c l q k) d (accN c l d a0 (q.take j))) ∧ m <= 300 * k + 1 + j) (fun i _ => k - (RowKit.intOf i).toNat)
    case atStart => exact ⟨0, n5, by omega, rfl, hst5, hm5, by omega⟩
    case round =>
     obtain ⟨j, m, hj, rfl, hst6, hm6, hmj⟩ := hrel
     rename World => wv
     have j0 := nn j
     by_cases hjk : j < k
     ·have j1 : (j : Int) < (k : Int) := by omega
      obtain ⟨x, ab', ao', hx, e', hab', x0⟩ := rd_nat (HQK.out wv hst6) (show j < q.length by omega)
      cases e'
      obtain ⟨hxl, _⟩ := hqm x (List.mem_of_getElem? hx)
      obtain ⟨hbx, hbw⟩ := HBX.out wv hst6
      have b0 := hbx.cell 0
      have b1 := hbx.cell 1
      have b2 := hbx.cell 2
      have b3 := hbx.cell 3
      have b4 := hbx.cell 4
      have b5 := hbx.cell 5
      simp only [GA] at b0 b1 b2 b3 b4 b5
      have hxd : x ≠ d := fun e => by
       subst e
       have : j = k := by first | exact List.getElem?_inj (by omega) hqn (hx.trans HD.out.symm) | exact (List.getElem?_inj (by omega) hqn).1 (hx.trans HD.out.symm)
       omega
      have hval : ctI (ctF c l q k) d (accN c l d a0 (q.take j)) x = ndA c l x := by unfold ctI; rw [if_neg hxd]; exact ct_at hjk hx
      have hself : ctI (ctF c l q k) d (accN c l d a0 (q.take j)) d = accN c l d a0 (q.take j) := by unfold ctI; simp
      have hlo := mp_look_ok hm6 x (by omega)
      rw [hval] at hlo
      have hsn : q.take (j + 1) = q.take j ++ [x] := by rw [List.take_add_one, hx]; rfl
      have HSN := Lib.hid ((congrArg (accN c l d a0) hsn).trans (accN_snoc c l d a0 (q.take j) x))
      have hnb := ndA_bd c l x
      have hab2 := accN_bd (c := c) (l := l) (d := d) (q := q.take j) ha01
      have HLK : Hid (∀ W, Below wv.heap.size wv W -> (Instr.lookup 214 (.map (some (w.heap.size + 1))) (.int .i64 (d : Nat)) false).run Tryz.prog W = .ok (.int .i64 (accN c l d a0 (q.take j))) W) := Lib.hid fun W h => by
       have := mp_look (mp_on hm6 h) d (by omega)
       rwa [hself] at this
      have HFO := Lib.hid (fun v (h : folB c l (d : Int) x = v) => l_followsV (cc := cc) h hJ hxl (show (d : Int) < (l.length : Int) by omega) (HRK.out wv hst6))
      have BD6 : ∀ W, Below wv.heap.size wv W -> Stp (fun x => x = w.heap.size + 1) w3 W := fun W h => hst6.below h hst6.size
      clear hx hsn hval hself
      generalize accN c l d a0 (q.take j) = aj at *
      by_cases hN0 : ndA c l x = 0
      ·rw [hN0] at hlo
       have hlo2 : (Instr.lookup 214 (.map (some (w.heap.size + 1))) (.int .i64 (x : Nat)) true).run Tryz.prog wv = .ok (.tuple #[.int .i64 0, .bool false]) wv := hlo
       have HS2 := Lib.hid (show accN c l d a0 (q.take (j + 1)) = aj by
        rw [HSN.out, hN0]
        split
        ·exact upM_no (by omega)
        ·rfl)
       clear HSN hlo HFO HLK
       go_wp2
       go_roundw
       case rel => exact ⟨j + 1, m, by omega, by go_num, hst6, by rw [HS2.out]; exact hm6, by omega⟩
       case measure => simp [RowKit.intOf]; omega
      ·have hN1 : 0 < ndA c l x := by omega
       have hlo2 : (Instr.lookup 214 (.map (some (w.heap.size + 1))) (.int .i64 (x : Nat)) true).run Tryz.prog wv = .ok (.tuple #[.int .i64 (ndA c l x), .bool true]) wv := by rw [hlo, decide_eq_true hN0]
       generalize ndA c l x = N at *
       clear hlo
       cases hv : folB c l (d : Int) x
       ·have HF := Lib.hid (HFO.out _ hv)
        have HS2 := Lib.hid (show accN c l d a0 (q.take (j + 1)) = aj by rw [HSN.out, hv]; rfl)
        clear HFO HLK HSN
        go_wp2_with (go_at_call 58; ((with_reducible refine HF.out.mono ?_); rintro e w7 ⟨rfl, hb7⟩))
        go_roundw
        case rel => exact ⟨j + 1, m, by omega, by go_num, BD6 _ hb7, by rw [HS2.out]; exact mp_on hm6 hb7, by omega⟩
        case measure => simp [RowKit.intOf]; omega
       ·have HF := Lib.hid (HFO.out _ hv)
        rw [hv, if_pos rfl] at HSN
        have hwN : IntKind.i64.wrap (N + 1) = N + 1 := fits_wrap ⟨by omega, by omega⟩
        clear HFO hv
        by_cases hup : aj = 0 ∨ N + 1 < aj
        ·have HS2 := Lib.hid (show accN c l d a0 (q.take (j + 1)) = N + 1 by rw [HSN.out]; unfold upM; rw [if_pos ⟨hN1, hup⟩])
         clear HSN
         rcases (by omega : aj = 0 ∨ (¬ aj = 0 ∧ N + 1 < aj)) with h0 | ⟨h0, h1⟩
         ·subst h0
          go_upto_region 14 with (go_at_call 58; ((with_reducible refine HF.out.mono ?_); rintro e w7 ⟨rfl, hb7⟩; have hl7 := HLK.out w7 hb7))
          obtain ⟨D, hoz, htd, hfd⟩ := mp_on hm6 hb7
          have hst7 := BD6 _ hb7
          go_wp2_with (first
           | (at_mapUpdate; refine wpList_mapUpdate_own _ rfl _ _ _ 214 rfl 3 3 G.lawZ G.und_mapZ _ (w.heap.size + 1) m _ rfl hoz (by unfold maxLen; omega) _ _ _ rfl rfl hkey _ [] (plainElem_int G.und_int (WalkArith.wf_i64 (by omega))) ?_; intro w8 hown8 hgrow8)
           | go_in)
          have hst8 := hst7.grown hgrow8 (fun r h => by injection h with h; exact .inl h.symm)
          have hm8 := mp_eq (mp_put htd hfd (show N + 1 ≠ 0 by omega) hown8) (ctI_put _ _ _ _)
          clear hown8 hgrow8 hoz
          go_wp2
          go_roundw
          case rel => exact ⟨j + 1, m + 1, by omega, by go_num, hst8, by rw [HS2.out]; exact hm8, by omega⟩
          case measure => simp [RowKit.intOf]; omega
         ·have g0 : (aj == 0) = false := beq_eq_false_iff_ne.2 h0
          go_upto_region 14 with (go_at_call 58; ((with_reducible refine HF.out.mono ?_); rintro e w7 ⟨rfl, hb7⟩; have hl7 := HLK.out w7 hb7))
          obtain ⟨D, hoz, htd, hfd⟩ := mp_on hm6 hb7
          have hst7 := BD6 _ hb7
          go_wp2_with (first
           | (at_mapUpdate; refine wpList_mapUpdate_own _ rfl _ _ _ 214 rfl 3 3 G.lawZ G.und_mapZ _ (w.heap.size + 1) m _ rfl hoz (by unfold maxLen; omega) _ _ _ rfl rfl hkey _ [] (plainElem_int G.und_int (WalkArith.wf_i64 (by omega))) ?_; intro w8 hown8 hgrow8)
           | go_in)
          have hst8 := hst7.grown hgrow8 (fun r h => by injection h with h; exact .inl h.symm)
          have hm8 := mp_eq (mp_put htd hfd (show N + 1 ≠ 0 by omega) hown8) (ctI_put _ _ _ _)
          clear hown8 hgrow8 hoz
          go_wp2
          go_roundw
          case rel => exact ⟨j + 1, m + 1, by omega, by go_num, hst8, by rw [HS2.out]; exact hm8, by omega⟩
          case measure => simp [RowKit.intOf]; omega
        ·have HS2 := Lib.hid (show accN c l d a0 (q.take (j + 1)) = aj by rw [HSN.out]; unfold upM; rw [if_neg (fun h => hup h.2)])
         have g0 : (aj == 0) = false := beq_eq_false_iff_ne.2 (fun h => hup (.inl h))
         have g1 : ¬ N + 1 < aj := fun h => hup (.inr h)
         clear HSN hup
         go_wp2_with (go_at_call 58; ((with_reducible refine HF.out.mono ?_); rintro e w7 ⟨rfl, hb7⟩; have hl7 := HLK.out w7 hb7))
         go_roundw
         case rel => exact ⟨j + 1, m, by omega, by go_num, BD6 _ hb7, by rw [HS2.out]; exact mp_on hm6 hb7, by omega⟩
         case measure => simp [RowKit.intOf]; omega
     ·obtain rfl : j = k := by omega
      have HE := Lib.hid (show ctI (ctF c l q j) d (accN c l d a0 (q.take j)) = ctF c l q (j + 1) by
       rw [ct_step HD.out, HACC.out]
       funext x
       unfold ctI; rfl)
      go_wp2
      go_roundw
      case rel => exact ⟨j + 1, m, by omega, by go_num, hst6, by rw [← HE.out]; exact hm6, by omega⟩
      case measure => simp [RowKit.intOf]; omega
  ·obtain rfl : k = q.length := by omega
   obtain ⟨_, hbw⟩ := HBX.out wr hst
   go_wp2
   go_ret
   exact ⟨_, n, rfl, by omega, hmp, hbw⟩
theorem ct_all (c : Cl) (l : List Jt) : ctF c l (sdN l l.length).reverse (sdN l l.length).reverse.length = ndA c l := by
 funext x
 unfold ctF
 rw [List.take_length]
 by_cases h : x ∈ (sdN l l.length).reverse
 ·rw [if_pos h]
 ·rw [if_neg h]
  symm
  apply ndA_sound
  rw [List.mem_reverse] at h
  by_cases hx : x < l.length
  ·cases hs : (jAt l x).s
   ·rfl
   ·exact absurd (by unfold sdN; rw [List.mem_filter]; exact ⟨by simpa using hx, by simpa using hs⟩) h
  ·unfold jAt; rw [List.getElem?_eq_none (by omega)]; rfl
theorem fol_gt {c : Cl} {l : List Jt} {b : Int} {n : Nat} (h : folB c l b n = true) : b < (n : Int) := by
 unfold folB at h
 split at h
 ·omega
 ·rw [Bool.and_eq_true, decide_eq_true_eq] at h; exact h.1
theorem bst_mem {c : Cl} {l : List Jt} {b : Int} {s : List Nat} : ∀ {a : Option Nat}, (∀ i, a = some i -> i < l.length ∧ 0 < ndA c l i ∧ b < (i : Int)) -> (∀ i ∈ s, i < l.length) -> ∀ i, s.foldl (btr c l b) a = some i -> i < l.length ∧ 0 < ndA c l i ∧ b < (i : Int) := by
 induction s with
 | nil => intro a ha _ i h; exact ha i h
 | cons x s ih =>
  intro a ha hs i h
  rw [List.foldl_cons] at h
  refine ih (fun k hk => ?_) (fun k hk => hs k (List.mem_cons_of_mem _ hk)) i h
  unfold btr at hk
  have hx := hs x (List.mem_cons_self ..)
  split at hk
  ·rename_i hc
   rw [Bool.and_eq_true, decide_eq_true_eq] at hc
   have hg := fol_gt hc.2
   split at hk
   ·cases hk; exact ⟨hx, hc.1, hg⟩
   ·rename_i m
    split at hk
    ·cases hk; exact ⟨hx, hc.1, hg⟩
    ·cases hk; exact ha _ rfl
  ·exact ha k hk
theorem fewF_step {c : Cl} {l : List Jt} {f : Nat} {b : Int} : fewF c l (f + 1) b = match bstN c l b with
  | none => none
  | some i => if ndA c l i = 1 then some [i] else (fewF c l f i).map (i :: ·) := rfl
def bEnc : Option Nat -> Value
 | none => .int .i64 (-1)
 | some i => .int .i64 (i : Nat)
def FewAt (c : Cl) (l : List Jt) (out : List Nat) (b : Int) : Prop :=
 (out = [] -> b = -1) ∧ (out ≠ [] -> 0 <= b ∧ 1 <= ndA c l b.toNat) ∧ ∃ f : Nat, (l.length : Int) - b <= f ∧ fewN c l = if out ≠ [] ∧ ndA c l b.toNat = 1 then some out else (fewF c l f b).map (out ++ ·)
theorem few_zero (c : Cl) (l : List Jt) : FewAt c l [] (-1) := ⟨fun _ => rfl, fun h => absurd rfl h, l.length + 1, by omega, by
 rw [if_neg (fun h => h.1 rfl)]
 unfold fewN
 cases fewF c l (l.length + 1) (-1) <;> rfl⟩
theorem few_none {c : Cl} {l : List Jt} {out : List Nat} {b : Int} (h : FewAt c l out b) (hb : b < (l.length : Int)) (hg : ¬ (out ≠ [] ∧ ndA c l b.toNat = 1)) (hn : bstN c l b = none) : fewN c l = none := by
 obtain ⟨_, _, f, hf, h3⟩ := h
 obtain ⟨f', rfl⟩ : ∃ f', f = f' + 1 := ⟨f - 1, by omega⟩
 rw [h3, if_neg hg, fewF_step, hn]; rfl
theorem few_some {c : Cl} {l : List Jt} {out : List Nat} {b : Int} {i : Nat} (h : FewAt c l out b) (hb : b < (l.length : Int)) (hg : ¬ (out ≠ [] ∧ ndA c l b.toNat = 1)) (hn : bstN c l b = some i) (hi : 0 < ndA c l i) (hbi : b < (i : Int)) : FewAt c l (out ++ [i]) i := by
 obtain ⟨_, _, f, hf, h3⟩ := h
 obtain ⟨f', rfl⟩ : ∃ f', f = f' + 1 := ⟨f - 1, by omega⟩
 refine ⟨fun h => by simp at h, fun _ => ⟨by omega, by simpa using (show 1 <= ndA c l i by omega)⟩, f', by omega, ?_⟩
 rw [h3, if_neg hg, fewF_step, hn]
 dsimp only
 rw [Int.toNat_natCast]
 by_cases h1 : ndA c l i = 1
 ·rw [if_pos h1, if_pos ⟨by simp, h1⟩]; rfl
 ·rw [if_neg h1, if_neg (fun q => h1 q.2), Option.map_map]
  congr 1
  funext x
  simp
theorem few_done {c : Cl} {l : List Jt} {out : List Nat} {b : Int} (h : FewAt c l out b) (hg : out ≠ [] ∧ ndA c l b.toNat = 1) : fewN c l = some out := by
 obtain ⟨_, _, f, hf, h3⟩ := h
 rw [h3, if_pos hg]
def FewP (c : Cl) (l : List Jt) (w : World) (e : Ending) (w' : World) : Prop :=
 Below w.heap.size w w' ∧ ((fewN c l = none ∧ e = .returned (.slice none 0 0)) ∨ ∃ v d, fewN c l = some d ∧ d ≠ [] ∧ e = .returned v ∧ w'.ownsRow w.heap.size 3 1 v d.length (S.natV d))
theorem l_fewest (c : Cl) (A : Option Addr) (l : List Jt) (cc : Nat) (w : World) (hJ : JB l) (hga : 1 <= c.ga ∧ c.ga <= 200000) (hR : Rd Jt.cs 2 w A l) :
  Calls Tryz.prog 278 #[clV c, .slice A l.length cc] w (FewP c l w) := by
 have x0 := Blk.new w 25 (clA c)
 have B0 := bl_alloc (below_refl w) (.cells (clA c) 25)
 have hn2 := hJ.n
 have HCT := Lib.hid (l_counts c A l cc _ hJ hga (hR.on B0))
 obtain ⟨i0, hi, hi1, hi2, hi3⟩ := info_intF
 have b0 := x0.cell 0
 have b1 := x0.cell 1
 have b2 := x0.cell 2
 have b3 := x0.cell 3
 have b4 := x0.cell 4
 have b5 := x0.cell 5
 simp only [GA] at b0 b1 b2 b3 b4 b5
 rw [ct_all] at HCT
 go_enter Tryz.func278, Tryz.ntmps278
 go_wp2_with (go_at_call 279; ((with_reducible refine HCT.out.mono ?_); rintro e w2 ⟨mb, n, rfl, hmb, hmp, hb2⟩))
 have B2 := below_tr B0 hb2
 have hz2 := B2.size
 have hbx := x0.below hb2 x0.lt
 have HM := Lib.hid (fun W (h : Below w2.heap.size w2 W) => mp_on hmp h)
 have HBX : Hid (∀ W, Below w2.heap.size w2 W -> Blk W w.heap.size 25 (clA c) ∧ Below w.heap.size w W) := Lib.hid fun W h => ⟨hbx.below h hbx.lt, below_tr B2 h⟩
 have HRK := Lib.hid (fun W (h : Below w2.heap.size w2 W) => (hR.on B2).on h)
 clear b0 b1 b2 b3 b4 b5 hmp hbx hb2 HCT x0 B0
 go_loopw [6, 7] (fun v b wr => ∃ (out : List Nat) (bz : Int), b = .int .i64 bz ∧ -1 <= bz ∧ bz < (l.length : Int) + 1 ∧ (out ≠ [] -> bz < (l.length : Int)) ∧ out.length <= (bz + 1).toNat ∧ wr.ownsRow w2.heap.size 3 1 v out.length (S.natV out) ∧ Below w2.heap.size w2 wr ∧ Hid (FewAt c l out bz)) (fun _ b _ => ((l.length : Int) - RowKit.intOf b).toNat)
 case atStart => exact ⟨[], -1, rfl, by omega, by omega, fun h => absurd rfl h, by simp, World.ownsRow_nil w2 _ _ _, below_refl _, Lib.hid (few_zero c l)⟩
 case round =>
  obtain ⟨out, bz, rfl, hbz0, hbz1, hbz2, hol, hown, hbw, HF⟩ := hrel
  obtain ⟨ad, cp, rfl⟩ := own_slice hown
  rename World => wr
  have hbvs := hbw.size
  have hbl : bz < (l.length : Int) := by
   by_cases h : out = []
   ·have := HF.out.1 h; omega
   ·exact hbz2 h
  have HN := Lib.hid (fun h h2 => few_none HF.out hbl h h2)
  have HSM := Lib.hid (fun i h h2 h3 h4 => few_some (i := i) HF.out hbl h h2 h3 h4)
  by_cases hd : out ≠ [] ∧ ndA c l bz.toNat = 1
  ·have HD := Lib.hid (few_done HF.out hd)
   have hb0 := (HF.out.2.1 hd.1).1
   obtain ⟨bn, rfl⟩ := Int.eq_ofNat_of_zero_le hb0
   have hlk := mp_look (HM.out wr hbw) bn (by omega)
   have hd2 := hd.2
   rw [Int.toNat_natCast] at hd2
   rw [hd2] at hlk
   have hol2 : 0 < out.length := List.length_pos_iff.2 hd.1
   have g0 : ((out.length : Int) == 0) = false := beq_eq_false_iff_ne.2 (by omega)
   have HNE := Lib.hid hd.1
   have hbB := (HBX.out wr hbw).2
   clear hd HN HSM HF hd2
   go_wp2
   go_ret
   exact ⟨hbB, .inr ⟨_, out, HD.out, HNE.out, rfl, own_base hown hz2⟩⟩
  have HG := Lib.hid hd
  have HSO := Lib.hid (fun W (h : Below w2.heap.size w2 W) => l_sound A l cc W (by omega) (HRK.out W h))
  have hsl := sdN_len l l.length
  have hsm : ∀ x ∈ sdN l l.length, x < l.length := fun x hx => (sdN_mem hx).1
  rcases (by by_cases h : out = []; exact .inl h; exact .inr h : out = [] ∨ out ≠ []) with h0 | h0
  case' inl =>
   have g0 : ((out.length : Int) == 0) = true := by rw [h0]; rfl
   clear hd h0
   go_upto_region 6 with fail
  case' inr =>
   have hb0 := (HF.out.2.1 h0).1
   have hb1 := (HF.out.2.1 h0).2
   have hol2 : 0 < out.length := List.length_pos_iff.2 h0
   have g0 : ((out.length : Int) == 0) = false := beq_eq_false_iff_ne.2 (by omega)
   have g1 : (1 : Int) < ndA c l bz.toNat := by
    rcases (by omega : ndA c l bz.toNat = 1 ∨ 1 < ndA c l bz.toNat) with h | h
    ·exact absurd ⟨h0, h⟩ hd
    ·exact h
   have hlk := mp_look (HM.out wr hbw) bz.toNat (by omega)
   rw [show ((bz.toNat : Nat) : Int) = bz by omega] at hlk
   clear hd h0
   generalize ndA c l bz.toNat = NB at *
   go_upto_region 6 with fail
   clear hlk g1 hb1 hb0
  all_goals
   go_wp2_with (go_at_call 280; ((with_reducible refine (HSO.out _ hbw).mono ?_); rintro e w4 ⟨v4, rfl, hv4, hb4⟩; obtain ⟨A4, c4, rfl⟩ := own_slice hv4))
   have hbw4 := below_tr hbw hb4
   have hz4 := hb4.size
   have rd4 := natV_rd hv4
   have HO4 := Lib.hid (fun W (h : Below w4.heap.size w4 W) => own_on (own_on hown hb4) h)
   have HR4 := Lib.hid (fun W (h : Below w4.heap.size w4 W) => rd4.on h)
   clear hv4 hb4 rd4 hown
   obtain ⟨s, hs⟩ : ∃ s, s = sdN l l.length := ⟨_, rfl⟩
   have HBN := Lib.hid (show bstN c l bz = s.foldl (btr c l bz) none by rw [hs]; rfl)
   rw [← hs] at hsl hsm HR4 ⊢
   clear hs
   go_loopw [8, 28] (fun bv i wv => ∃ (j : Nat) (b : Option Nat), j <= s.length ∧ i = .int .i64 j ∧ bv = bEnc b ∧ Below w4.heap.size w4 wv ∧ Hid (b = (s.take j).foldl (btr c l bz) none ∧ ∀ i, b = some i -> i < l.length)) (fun _ i _ => s.length - (RowKit.intOf i).toNat)
   case atStart => exact ⟨0, none, by omega, rfl, rfl, below_refl _, Lib.hid ⟨rfl, fun i h => by cases h⟩⟩
   case round =>
    obtain ⟨j, b, hj, rfl, rfl, hbv, HB⟩ := hrel
    rename World => wv
    have hbB := below_tr hbw4 hbv
    have j0 := nn j
    by_cases hjs : j < s.length
    ·have j1 : (j : Int) < (s.length : Int) := by omega
     obtain ⟨x, ab, ao, hx, rfl, hab, x0⟩ := rd_nat (HR4.out wv hbv) hjs
     have hxl := hsm x (List.mem_of_getElem? hx)
     obtain ⟨hbx, _⟩ := HBX.out wv hbB
     have b0 := hbx.cell 0
     have b1 := hbx.cell 1
     have b2 := hbx.cell 2
     have b3 := hbx.cell 3
     have b4 := hbx.cell 4
     have b5 := hbx.cell 5
     simp only [GA] at b0 b1 b2 b3 b4 b5
     have hlo := mp_look_ok (HM.out wv hbB) x (by omega)
     have hnb := ndA_bd c l x
     have hsn : s.take (j + 1) = s.take j ++ [x] := by rw [List.take_add_one, hx]; rfl
     have HSN : Hid ((s.take (j + 1)).foldl (btr c l bz) none = btr c l bz b x) := Lib.hid (by rw [hsn, List.foldl_append, ← HB.out.1]; rfl)
     have HFO := Lib.hid (fun v (h : folB c l bz x = v) => l_followsV (cc := cc) h hJ hxl hbl (HRK.out wv hbB))
     have hxz : (x : Int) <= 9223372036854775807 := by omega
     clear hx hsn
     by_cases hN0 : ndA c l x = 0
     ·rw [hN0] at hlo
      have hlo2 : (Instr.lookup 214 (.map (some mb)) (.int .i64 (x : Nat)) true).run Tryz.prog wv = .ok (.tuple #[.int .i64 0, .bool false]) wv := hlo
      have HS2 := Lib.hid (show b = (s.take (j + 1)).foldl (btr c l bz) none by
       rw [HSN.out]; unfold btr; rw [if_neg]
       rw [hN0]; simp)
      have HBL := Lib.hid HB.out.2
      clear HSN hlo HFO HB
      go_wp2
      go_roundw
      case rel => exact ⟨j + 1, b, by omega, by go_num, rfl, hbv, Lib.hid ⟨HS2.out, HBL.out⟩⟩
      case measure => simp [RowKit.intOf]; omega
     ·have hlo2 : (Instr.lookup 214 (.map (some mb)) (.int .i64 (x : Nat)) true).run Tryz.prog wv = .ok (.tuple #[.int .i64 (ndA c l x), .bool true]) wv := by rw [hlo, decide_eq_true hN0]
      have hN1 : 0 < ndA c l x := by omega
      clear hlo
      cases hv : folB c l bz x
      ·have HF2 := Lib.hid (HFO.out _ hv)
       have HS2 := Lib.hid (show b = (s.take (j + 1)).foldl (btr c l bz) none by
        rw [HSN.out]; unfold btr; rw [if_neg]
        rw [hv]; simp)
       have HBL := Lib.hid HB.out.2
       clear HFO HSN HB
       go_wp2_with (go_at_call 58; ((with_reducible refine HF2.out.mono ?_); rintro e w7 ⟨rfl, hb7⟩))
       go_roundw
       case rel => exact ⟨j + 1, b, by omega, by go_num, rfl, below_tr hbv hb7, Lib.hid ⟨HS2.out, HBL.out⟩⟩
       case measure => simp [RowKit.intOf]; omega
      ·have HF2 := Lib.hid (HFO.out _ hv)
       have hco : (decide (0 < ndA c l x) && folB c l bz x) = true := by rw [decide_eq_true hN1, hv]; rfl
       cases b with
       | none =>
        have HS2 := Lib.hid (show some x = (s.take (j + 1)).foldl (btr c l bz) none by
         rw [HSN.out]; unfold btr; rw [if_pos hco])
        clear HFO HSN HB hco hv
        unfold bEnc
        go_wp2_with (go_at_call 58; ((with_reducible refine HF2.out.mono ?_); rintro e w7 ⟨rfl, hb7⟩))
        go_roundw
        case rel => exact ⟨j + 1, some x, by omega, by go_num, rfl, below_tr hbv hb7, Lib.hid ⟨HS2.out, fun i h => by cases h; exact hxl⟩⟩
        case measure => simp [RowKit.intOf]; omega
       | some m =>
        have hml := HB.out.2 m rfl
        have hm0 : ¬ ((m : Nat) : Int) < 0 := by omega
        have HLK := Lib.hid (fun W (h : Below wv.heap.size wv W) => mp_look (HM.out W (below_tr hbB h)) m (by omega))
        by_cases hlt : ndA c l x < ndA c l m
        ·have HS2 := Lib.hid (show some x = (s.take (j + 1)).foldl (btr c l bz) none by
          rw [HSN.out]; unfold btr; rw [if_pos hco]; dsimp only; rw [if_pos hlt])
         clear HFO HSN HB hco hv
         unfold bEnc
         generalize ndA c l m = NM at *
         go_wp2_with (go_at_call 58; ((with_reducible refine HF2.out.mono ?_); rintro e w7 ⟨rfl, hb7⟩; have hl7 := HLK.out w7 hb7))
         go_roundw
         case rel => exact ⟨j + 1, some x, by omega, by go_num, rfl, below_tr hbv hb7, Lib.hid ⟨HS2.out, fun i h => by cases h; exact hxl⟩⟩
         case measure => simp [RowKit.intOf]; omega
        ·have HS2 := Lib.hid (show some m = (s.take (j + 1)).foldl (btr c l bz) none by
          rw [HSN.out]; unfold btr; rw [if_pos hco]; dsimp only; rw [if_neg hlt])
         clear HFO HSN HB hco hv
         unfold bEnc
         generalize ndA c l m = NM at *
         go_wp2_with (go_at_call 58; ((with_reducible refine HF2.out.mono ?_); rintro e w7 ⟨rfl, hb7⟩; have hl7 := HLK.out w7 hb7))
         go_roundw
         case rel => exact ⟨j + 1, some m, by omega, by go_num, rfl, below_tr hbv hb7, Lib.hid ⟨HS2.out, fun i h => by cases h; exact hml⟩⟩
         case measure => simp [RowKit.intOf]; omega
    ·obtain rfl : j = s.length := by omega
     have HBE := Lib.hid (show bstN c l bz = b by rw [HBN.out, HB.out.1, List.take_length])
     have HBL := Lib.hid HB.out.2
     have hown9 := HO4.out wv hbv
     have hbB9 := (HBX.out wv hbB).2
     have HSB := Lib.hid (fun i (h : bstN c l bz = some i) => bst_mem (c := c) (l := l) (b := bz) (a := none) (s := sdN l l.length) (fun i h => by cases h) (fun x hx => (sdN_mem hx).1) i h)
     clear HB HM HRK HO4 HR4 HSO
     cases b with
     | none =>
      have HNN := Lib.hid (HN.out HG.out HBE.out)
      unfold bEnc
      go_wp2
      go_ret
      exact ⟨hbB9, .inl ⟨HNN.out, rfl⟩⟩
     | some m =>
      have hml := HBL.out m rfl
      have hm0 : ¬ ((m : Nat) : Int) < 0 := by omega
      obtain ⟨_, hm1, hm2⟩ := HSB.out m HBE.out
      have HSS := Lib.hid (HSM.out m HG.out HBE.out hm1 hm2)
      clear HBE HSB HSM HN HBN
      unfold bEnc
      have t2 : w2.heap.size <= wv.heap.size := hbB.size
      go_wp2_with (at_builtin; (refine wpList_append_own _ rfl _ _ 48 rfl w2.heap.size 3 i0 (.int .i64 0) 1 8 (by kernel_rfl) hi hi1 hi2 hi3 rfl (by omega) _ _ _ rfl (hown9.alloc _) ⟨wv.heap.size, 0, none⟩ 1 1 [.int .i64 (m : Nat)] rfl rfl (cells_new wv [.int .i64 (m : Nat)] 3) (fun u hu => by simp at hu; subst hu; rfl) (by unfold maxLen; omega) (by omega) (by simp; omega) ?_; intro v8 w8 hown8 hgrow8 _))
      have B8 : Below w2.heap.size w2 w8 := bl_app hbB hown9 hgrow8 (Nat.le_refl _) hbB.size
      have own8 : w8.ownsRow w2.heap.size 3 1 v8 (out ++ [m]).length (S.natV (out ++ [m])) := by simpa [S.natV] using hown8
      clear hown8 hgrow8 hown9
      go_wp2
      go_roundw
      case rel => exact ⟨out ++ [m], (m : Int), rfl, by omega, by omega, fun _ => by omega, by simp; omega, own8, B8, HSS⟩
      case measure => simp [RowKit.intOf]; omega
theorem natV_toZ {w : World} {base : Nat} {v : Value} {d : List Nat} (h : w.ownsRow base 3 1 v d.length (S.natV d)) : w.ownsRow base 3 1 v (toZ d).length (fl zC (toZ d)) := by
 have go : ∀ d : List Nat, fl zC (toZ d) = S.natV d := fun d => by
  induction d with
  | nil => rfl
  | cons x d ih =>
   show zC x ++ fl zC (toZ d) = Value.int .i64 (x : Nat) :: S.natV d
   rw [ih]; rfl
 have e := go d
 rw [e]
 unfold toZ
 rw [List.length_map]
 exact h
theorem l_valid (c : Cl) (A : Option Addr) (l : List Jt) (cc : Nat) (w : World) (hle : -9223372036854775808 < c.le ∧ c.le <= 9223372036854775807) (hl : l.length <= 100000) (hR : Rd Jt.cs 2 w A l) :
  Calls Tryz.prog 56 #[clV c, .slice A l.length cc] w fun e w' => e = .returned (.bool (vCl c && vJ l)) ∧ Below w.heap.size w w' := by
 have x0 := Blk.new w 25 (clA c)
 have B0 := bl_alloc (below_refl w) (.cells (clA c) 25)
 have b0 := x0.cell 0
 have b1 := x0.cell 1
 have b2 := x0.cell 2
 have b3 := x0.cell 3
 have b4 := x0.cell 4
 have b5 := x0.cell 5
 simp only [GA] at b0 b1 b2 b3 b4 b5
 have HC := Lib.hid (fun v (h : vCl c = v) W => l_ValidClimbV h W hle)
 have HJ := Lib.hid (fun v (h : vJ l = v) W (hb : Below w.heap.size w W) => l_ValidJointsV (c := cc) h hl (hR.on hb))
 cases h1 : vCl c
 ·have H1 := Lib.hid (HC.out _ h1)
  go_enter Tryz.func56, Tryz.ntmps56
  go_wp2_with (go_at_call 70; ((with_reducible refine (H1.out _).mono ?_); rintro e w3 ⟨rfl, hb3⟩))
  go_ret
  exact ⟨rfl, below_tr B0 hb3⟩
 ·have H1 := Lib.hid (HC.out _ h1)
  cases h2 : vJ l
  all_goals
   have H2 := Lib.hid (HJ.out _ h2)
   go_enter Tryz.func56, Tryz.ntmps56
   go_wp2_with (first
    | (go_at_call 70; ((with_reducible refine (H1.out _).mono ?_); rintro e w3 ⟨rfl, hb3⟩))
    | (go_at_call 69; ((with_reducible refine (H2.out _ (below_tr B0 hb3)).mono ?_); rintro e w4 ⟨rfl, hb4⟩)))
   go_ret
   exact ⟨rfl, below_tr (below_tr B0 hb3) hb4⟩
def FwtP (c : Cl) (l : List Jt) (w : World) (e : Ending) (w' : World) : Prop :=
 Below w.heap.size w w' ∧ ∃ v, e = .returned (.tuple #[v, .int .i64 (fewE c l)]) ∧ w'.ownsRow w.heap.size 3 1 v (fewL c l).length (fl zC (fewL c l))
theorem l_Fewest (c : Cl) (A : Option Addr) (l : List Jt) (cc : Nat) (w : World) (hle : -9223372036854775808 < c.le ∧ c.le <= 9223372036854775807) (hl : l.length <= 100000) (hR : Rd Jt.cs 2 w A l) :
  Calls Tryz.prog 277 #[clV c, .slice A l.length cc] w (FwtP c l w) := by
 have x0 := Blk.new w 25 (clA c)
 have B0 := bl_alloc (below_refl w) (.cells (clA c) 25)
 have b0 := x0.cell 0
 have b1 := x0.cell 1
 have b2 := x0.cell 2
 have b3 := x0.cell 3
 have b4 := x0.cell 4
 have b5 := x0.cell 5
 simp only [GA] at b0 b1 b2 b3 b4 b5
 have hq : ∀ (w : World) (a : Option Addr) (n c n' c' : Nat), (binOp .neq 48 (.slice a n c) (.slice none n' c')).run Tryz.prog w = .ok (.bool (!a.isNone)) w := fun w a n c n' c' => run_neq_slice_nil_any w _ _ a n c n' c' Tryz.underlying48
 have HV := Lib.hid (fun v (h : (vCl c && vJ l) = v) => h ▸ l_valid c A l cc _ hle hl (hR.on B0))
 cases h1 : (vCl c && vJ l)
 ·have H1 := Lib.hid (HV.out _ h1)
  have HE := Lib.hid (show fewE c l = 1 ∧ fewL c l = [] by unfold fewE fewL; rw [if_neg (by rw [h1]; simp), if_neg (by rw [h1]; simp)]; exact ⟨rfl, rfl⟩)
  go_enter Tryz.func277, Tryz.ntmps277
  go_wp2_with (go_at_call 56; ((with_reducible refine H1.out.mono ?_); rintro e w3 ⟨rfl, hb3⟩))
  go_ret2
  refine ⟨below_tr B0 hb3, _, by rw [HE.out.1]; rfl, ?_⟩
  rw [HE.out.2]
  exact World.ownsRow_nil w3 _ _ _
 ·have H1 := Lib.hid (HV.out _ h1)
  rw [Bool.and_eq_true] at h1
  have hJ := jb_of h1.2
  have hga : 1 <= c.ga ∧ c.ga <= 200000 := by
   have h := h1.1
   unfold vCl at h
   exact wn_iff.1 (Bool.and_eq_true_iff.1 (Bool.and_eq_true_iff.1 h).2).1
  have HF := Lib.hid (fun W (hb : Below w.heap.size w W) => l_fewest c A l cc W hJ hga (hR.on hb))
  have HE := Lib.hid (show fewE c l = (match fewN c l with | some _ => 0 | none => 8) ∧ fewL c l = (match fewN c l with | some d => toZ d | none => []) by unfold fewE fewL; rw [if_pos (by rw [h1.1, h1.2]; rfl), if_pos (by rw [h1.1, h1.2]; rfl)]; exact ⟨rfl, rfl⟩)
  go_enter Tryz.func277, Tryz.ntmps277
  go_wp2_with (go_at_call 56; ((with_reducible refine H1.out.mono ?_); rintro e w3 ⟨rfl, hb3⟩; have B3 := below_tr B0 hb3; have x3 := x0.below hb3 x0.lt; have d0 := x3.cell 0; have d1 := x3.cell 1; have d2 := x3.cell 2; have d3 := x3.cell 3; have d4 := x3.cell 4; have d5 := x3.cell 5; simp only [GA] at d0 d1 d2 d3 d4 d5))
  refine (HF.out _ B3).mono ?_
  rintro e w4 ⟨hb4, ⟨hn, rfl⟩ | ⟨v, d, hd, hne, rfl, hown⟩⟩
  ·have HEE := Lib.hid HE.out
   go_wp2
   go_ret2
   refine ⟨below_tr B3 hb4, _, by rw [HEE.out.1, hn]; rfl, ?_⟩
   rw [HEE.out.2, hn]
   exact World.ownsRow_nil w4 _ _ _
  ·have hown2 := natV_toZ hown
   have hz3 := B3.size
   rcases hown.2 with ⟨_, h0⟩ | ⟨g', cap, cur, rfl, _⟩
   ·exact absurd (List.eq_nil_of_length_eq_zero h0) hne
   have HEE := Lib.hid HE.out
   go_wp2
   go_ret2
   refine ⟨below_tr B3 hb4, _, by rw [HEE.out.1, hd]; rfl, ?_⟩
   rw [HEE.out.2, hd]
   exact own_base hown2 hz3
end Go.Proofs.YtgemlddincnfcaaGreatDoor.Fi
