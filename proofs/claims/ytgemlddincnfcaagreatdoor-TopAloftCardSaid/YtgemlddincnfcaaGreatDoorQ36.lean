/- The parts of the proof, part 36. -/
import Derived.Test.YtgemlddincnfcaaGreatDoorQ0
import Derived.Test.YtgemlddincnfcaaGreatDoorQ35
set_option maxHeartbeats 16000000
set_option maxRecDepth 20000
set_option linter.unusedSimpArgs false
set_option linter.unusedVariables false
namespace Go.Proofs.YtgemlddincnfcaaGreatDoor.Fi
open Go.RowKit Go.Lib Tx
theorem brgV_bd (w : Wl) (s : List Int) : -1000000 <= brgV w s ∧ brgV w s <= 1000000000 := by
 unfold brgV
 by_cases h : brgE w s = 0
 ·rw [if_pos h]
  have hst : 1 <= w.c.st ∧ w.c.st <= 1000000 := by
   unfold brgE at h
   split at h
   ·rename_i h1
    have h2 := (Bool.and_eq_true_iff.1 h1).1
    unfold vCl at h2
    simp only [Bool.and_eq_true, decide_eq_true_eq] at h2
    exact h2.2.2.2.2.2
   ·exact absurd h (by decide)
  have go : ∀ (l : List Int) (a : Int), -1000000 <= a -> a <= 1000000000 -> -1000000 <= l.foldl (brgS w) a ∧ l.foldl (brgS w) a <= 1000000000 := by
   intro l
   induction l with
   | nil => intro a h1 h2; exact ⟨h1, h2⟩
   | cons x l ih =>
    intro a h1 h2
    rw [List.foldl_cons]
    have h3 : -1000000 <= w.c.st * ((onN w x.toNat : Nat) - 1 : Int) := by
     rcases Nat.eq_zero_or_pos (onN w x.toNat) with h | h
     ·rw [h]; simp; omega
     ·have := Int.mul_nonneg (show 0 <= w.c.st by omega) (show 0 <= ((onN w x.toNat : Nat) : Int) - 1 by omega); omega
    exact ih _ (by unfold brgS; omega) (by unfold brgS; omega)
  exact go s _ (by omega) (by omega)
 ·rw [if_neg h]; omega
theorem brgE_i64 (w : Wl) (s : List Int) : I64 (brgE w s) := by
 unfold brgE I64
 split
 ·split <;> omega
 ·omega
theorem ladE_i64 (w : Wl) : I64 (ladE w) := by
 unfold ladE I64
 split
 ·split
  ·split <;> omega
  ·omega
 ·omega
theorem bears_len (x : St) (k : Int) : (bearsT x k).length <= 1000000 := by
 unfold bearsT
 split
 ·have := errT_len (ladE_i64 (walA x k)); omega
 ·have h1 := brgV_bd (walA x k) (ladL (walA x k))
  have h2 := tldT_len (l := [brgV (walA x k) (ladL (walA x k))]) (brgE_i64 (walA x k) (ladL (walA x k))) (by
   have := nT_le (n := brgV (walA x k) (ladL (walA x k))) ⟨by omega, by omega⟩
   simp [wsT]; omega)
  omega
theorem ladL_le (w : Wl) (hd : w.d.length <= 300) : (ladL w).length <= 300 := by
 unfold ladL
 split
 ·split
  ·rename_i q hq
   unfold ladN at hq
   obtain ⟨n, hn, hq2⟩ := List.exists_of_findSome?_eq_some hq
   rw [List.mem_range] at hn
   unfold ladT at hq2
   split at hq2
   ·rename_i h1
    cases hq2
    rw [toZ_len, grd_len n (-1) h1]; omega
   ·cases hq2
  ·simp
 ·simp
theorem f_bears {b : Nat} {L : LS} {T : Nat -> Prop} {w : World} (hF : FirmAt w b L T) (hI : Inv L.val) (hE : Env w b L) (k : Nat) (hk : k < L.sites.l.length) :
  Calls Tryz.prog 102 #[.pointer (some ⟨b, 0, none⟩), .int .i64 (k : Nat)] w fun e w' => e = .returned (.string (bts (bearsT L.val k))) ∧ Below w.heap.size w w' := by
 have hsl : L.sites.l.length <= 8 := hI.slen
 have lb := hF.blk.lt
 have c1 : w.cell? ⟨b, 1, none⟩ = some (.slice L.x.jnt.a L.x.jnt.l.length L.x.jnt.c) := hF.cel 1 _ rfl
 have c2 : w.cell? ⟨b, 2, none⟩ = some (.int .i64 L.x.cl.fi) := hF.cel 2 _ rfl
 have c3 : w.cell? ⟨b, 3, none⟩ = some (.int .i64 L.x.cl.ga) := hF.cel 3 _ rfl
 have c4 : w.cell? ⟨b, 4, none⟩ = some (.int .i64 L.x.cl.tp) := hF.cel 4 _ rfl
 have c5 : w.cell? ⟨b, 5, none⟩ = some (.int .i64 L.x.cl.le) := hF.cel 5 _ rfl
 have c6 : w.cell? ⟨b, 6, none⟩ = some (.int .i64 L.x.cl.la) := hF.cel 6 _ rfl
 have c7 : w.cell? ⟨b, 7, none⟩ = some (.int .i64 L.x.cl.st) := hF.cel 7 _ rfl
 have c20 : w.cell? ⟨b, 20, none⟩ = some (.slice L.sites.a L.sites.l.length L.sites.c) := hF.cel 20 _ rfl
 obtain ⟨si, hsi⟩ := get_lt hk
 obtain ⟨y, hy⟩ := get_lt (show k < L.x.jnt.l.length by rw [hI.lens.2]; exact hk)
 obtain ⟨sb, so, hsa, lsb, hsc⟩ := hF.ok.sites.rd.get hsi
 obtain ⟨jb, jo, hja, ljb, hjc⟩ := hF.ok.su.jnt.rd.get hy
 have cs : w.cell? ⟨sb, so + k * 3, none⟩ = some (.slice si.dogs.a si.dogs.l.length si.dogs.c) := by have := hsc 0 _ rfl; simpa using this
 have cj : w.cell? ⟨jb, jo + k, none⟩ = some (.slice y.a y.l.length y.c) := by have := hjc 0 _ rfl; simpa using this
 have hJ := (vSu_parts hI.su).2.2.2.1 y.l (by unfold LS.val LSu.val; exact List.mem_map.2 ⟨y, List.mem_of_getElem? hy, rfl⟩)
 have hyl : y.l.length <= 100000 := by have := (jb_of hJ).n; omega
 have hcl := (vSu_parts hI.su).2.2.2.2.1
 have hle : -9223372036854775808 < L.x.cl.le ∧ L.x.cl.le <= 9223372036854775807 := by
  have h : vCl L.x.cl = true := hcl
  unfold vCl at h
  simp only [Bool.and_eq_true, decide_eq_true_eq] at h
  omega
 have hdg : si.dogs.l.length <= 300 := hI.sd si.val (List.mem_map.2 ⟨si, List.mem_of_getElem? hsi, rfl⟩)
 have gj := hF.ok.su.jnts y (List.mem_of_getElem? hy)
 have gd := hF.ok.sk si (List.mem_of_getElem? hsi)
 obtain ⟨x, hx⟩ : ∃ x : LWl, x = ⟨⟨L.x.cl, y.l, si.dogs.l⟩, y.a, y.c, si.dogs.a, si.dogs.c⟩ := ⟨_, rfl⟩
 have HX := Lib.hid (show walA L.val (k : Int) = x.w by unfold walA; rw [jntA_of hy, siteA_of hsi, hx]; rfl)
 have HLD := Lib.hid (fun W (h : Below w.heap.size w W) => (show Calls Tryz.prog 152 #[clV L.x.cl, .slice y.a y.l.length y.c, .slice si.dogs.a si.dogs.l.length si.dogs.c] W (LadP x.w W) from by
  have := l_Ladders x W (by rw [hx]; exact hle) (by rw [hx]; exact hyl) (by rw [hx]; show si.dogs.l.length <= maxLen; unfold maxLen; omega) (by rw [hx]; exact gj.rd.on h) (by rw [hx]; exact gd.rd.on h)
  rw [hx] at this ⊢; exact this))
 have HGR := Lib.hid (fun (q : Sl Int) W (h : Below w.heap.size w W) (hq : q.l.length <= 300) (hr : Rd zC 1 W q.a q.l) => (show Calls Tryz.prog 153 #[clV L.x.cl, .slice y.a y.l.length y.c, .slice si.dogs.a si.dogs.l.length si.dogs.c, .slice q.a q.l.length q.c] W fun e w' => e = .returned (.tuple #[.int .i64 (brgV x.w q.l), .int .i64 (brgE x.w q.l)]) ∧ Below W.heap.size W w' from by
  have := l_Greatest x q W (by rw [hx]; exact hle) (by rw [hx]; exact hyl) (by rw [hx]; show si.dogs.l.length <= maxLen; unfold maxLen; omega) (by unfold maxLen; omega) (by rw [hx]; exact gj.rd.on h) (by rw [hx]; exact gd.rd.on h) hr
  rw [hx] at this ⊢; exact this))
 have hLL := ladL_le x.w (by rw [hx]; exact hdg)
 have HT := Lib.hid (show bearsT L.val (k : Int) = if ladE x.w ≠ 0 then errT (ladE x.w) else tldT (brgE x.w (ladL x.w)) [brgV x.w (ladL x.w)] by unfold bearsT; rw [HX.out])
 have hEI := ladE_i64 x.w
 have HVB := Lib.hid (brgV_bd x.w (ladL x.w))
 have HEB := Lib.hid (brgE_i64 x.w (ladL x.w))
 have HFA := Lib.hid (fun W (h : Below w.heap.size w W) => f_failed (ladE x.w) W hEI (hE.ld.on h))
 have HTO := Lib.hid (fun W (h : Below w.heap.size w W) (n : Nat) (hr : Rd zC 1 W (some ⟨n, 0, none⟩) [brgV x.w (ladL x.w)]) => (show Calls Tryz.prog 100 #[.int .i64 (brgE x.w (ladL x.w)), .slice (some ⟨n, 0, none⟩) 1 1] W fun e w' => e = .returned (.string (bts (tldT (brgE x.w (ladL x.w)) [brgV x.w (ladL x.w)]))) ∧ Below W.heap.size W w' from
  f_told _ _ [brgV x.w (ladL x.w)] 1 W (brgE_i64 _ _) (by simp) (fun z hz => by simp at hz; subst hz; have := brgV_bd x.w (ladL x.w); exact ⟨by omega, by omega⟩) (hE.ld.on h) hr))
 have HRN := Lib.hid (fun W => (show Rd zC 1 (W.alloc (.cells #[.int .i64 (brgV x.w (ladL x.w))] 3)) (some ⟨W.heap.size, 0, none⟩) [brgV x.w (ladL x.w)] from rd_new W [brgV x.w (ladL x.w)]))
 rw [hsa] at c20
 rw [hja] at c1
 have k0 := nn k
 have k1 : (k : Int) < (L.sites.l.length : Int) := by omega
 have k2 : (k : Int) < (L.x.jnt.l.length : Int) := by rw [hI.lens.2]; omega
 obtain ⟨RR, hRR⟩ : ∃ R, R = bts (bearsT L.val (k : Int)) := ⟨_, rfl⟩
 rw [← hRR]
 have HRR := Lib.hid hRR
 clear hRR hsc hjc hy hsi hsa hja hJ hcl gj gd hx hF hI hE
 go_enter Tryz.func102, Tryz.ntmps102
 go_upto_region 2 with fail
 refine wp_region_noPanic ?_
 refine th w fun hS0 => ?_
 refine tq 0 ?_
 refine tq 1 ?_
 refine tq 2 ?_
 refine tq 3 ?_
 refine tq 4 ?_
 refine tq 5 ?_
 refine tq 6 ?_
 refine tq 7 ?_
 refine tq 8 ?_
 refine tq 9 ?_
 refine tq 10 ?_
 refine tq 11 ?_
 refine tq 12 ?_
 refine tq 13 ?_
 refine tq 14 ?_
 refine tq 15 ?_
 refine tr 16 fun K hK => ?_
 go_simp
 (go_at_call 152; ((with_reducible refine (HLD.out _ bl).mono ?_); rintro e w3 ⟨lA, lC, rfl, hlR, hb3⟩; obtain ⟨hc3, hf3, hz3⟩ := qz hb3))
 refine hK.out _ _ kq (fun hS1 => ?_)
 clear hK K
 try simp only [AP]
 refine tq 17 ?_
 refine tq 18 ?_
 refine tq 19 ?_
 refine tq 20 ?_
 refine tq 21 ?_
 refine wpAnyH_done (by kernel_rfl) (NoPanic.normal ?_) _
 have B3 : Below w.heap.size w w3 := bl
 by_cases hE0 : ladE x.w = 0
 rotate_left
 ·have HR2 := Lib.hid (show RR = bts (errT (ladE x.w)) by rw [HRR.out, HT.out, if_pos hE0])
  have hE1 : (ladE x.w == 0) = false := beq_eq_false_iff_ne.2 hE0
  have HF3 := Lib.hid (HFA.out w3 B3)
  clear HT HFA HRR
  generalize ladE x.w = E at *
  go_wp2_with (go_at_call 47; ((with_reducible refine HF3.out.mono ?_); rintro e w4 ⟨rfl, hb4⟩))
  go_ret
  exact ⟨by rw [HR2.out]; rfl, below_tr B3 hb4⟩
 have HR2 := Lib.hid (show RR = bts (tldT (brgE x.w (ladL x.w)) [brgV x.w (ladL x.w)]) by rw [HRR.out, HT.out, if_neg (by rw [hE0]; simp)])
 replace HGR := Lib.hid (fun W (h : Below w.heap.size w W) (h3 : Below w3.heap.size w3 W) => HGR.out ⟨lA, ladL x.w, lC⟩ W h hLL (hlR.on h3))
 dsimp only at HGR
 clear HT HFA HRR HLD
 rw [hE0]
 clear hE0 hEI
 generalize hLq : ladL x.w = Lq at *
 generalize brgV x.w Lq = V at *
 generalize brgE x.w Lq = E at *
 obtain ⟨hcx, hfx⟩ := bcell B3
 have d1 := (hcx b 1 lb).trans c1
 have d2 := (hcx b 2 lb).trans c2
 have d3 := (hcx b 3 lb).trans c3
 have d4 := (hcx b 4 lb).trans c4
 have d5 := (hcx b 5 lb).trans c5
 have d6 := (hcx b 6 lb).trans c6
 have d7 := (hcx b 7 lb).trans c7
 have dj := (hcx jb (jo + k) ljb).trans cj
 have lb3 := Nat.lt_of_lt_of_le lb B3.size
 have lj3 := Nat.lt_of_lt_of_le ljb B3.size
 clear c1 c2 c3 c4 c5 c6 c7 c20 cj cs hcx hfx hc3 hf3 hS1
 go_upto_region 5 with fail
 refine wp_region_noPanic ?_
 refine th w3 fun hS0 => ?_
 refine tq 0 ?_
 refine tq 1 ?_
 refine tq 2 ?_
 refine tq 3 ?_
 refine tq 4 ?_
 refine tq 5 ?_
 refine tq 6 ?_
 refine tq 7 ?_
 refine tq 8 ?_
 refine tq 9 ?_
 refine tq 10 ?_
 refine tq 11 ?_
 refine tq 12 ?_
 refine tq 13 ?_
 refine tq 14 ?_
 refine tq 15 ?_
 refine tq 16 ?_
 refine tr 17 fun K hK => ?_
 go_simp
 (go_at_call 153; ((with_reducible refine (HGR.out _ (below_tr B3 bl) bl).mono ?_); rintro e w4 ⟨rfl, hb4⟩; obtain ⟨hc4, hf4, hz4⟩ := qz hb4))
 refine hK.out _ _ kq (fun hS1 => ?_)
 clear hK K
 try simp only [AP]
 refine tq 18 ?_
 refine tq 19 ?_
 refine tq 20 ?_
 refine tq 21 ?_
 refine tq 22 ?_
 refine wpAnyH_done (by kernel_rfl) (NoPanic.normal ?_) _
 have B4 : Below w.heap.size w w4 := below_tr B3 bl
 have B5 := bl_alloc B4 (.cells #[.int .i64 V] 3)
 have HT5 := Lib.hid (HTO.out _ B5 _ (HRN.out w4))
 go_wp2_with (go_at_call 100; ((with_reducible refine HT5.out.mono ?_); rintro e w5 ⟨rfl, hb5⟩))
 go_ret
 exact ⟨by rw [HR2.out]; rfl, below_tr B5 hb5⟩
theorem bears_brp {b : Nat} {L : LS} {T : Nat -> Prop} {w : World} (hF : FirmAt w b L T) (hI : Inv L.val) (hE : Env w b L) : BrP bearsT b L w := fun W hb k hk => f_bears (hF.on hb) hI (hE.on hb) k hk
theorem f_DoA {b : Nat} {L : LS} {T : Nat -> Prop} {w : World} (s : List UInt8) (hF : FirmAt w b L T) (hI : Inv L.val) (hE : Env w b L) :
  Calls Tryz.prog 18 #[.pointer (some ⟨b, 0, none⟩), .string (bts s)] w (ScrP bearsT b L T s w) := f_Do s hF hI hE (fun x k => bears_len x k) (fun _ L' T' W h1 h2 h3 => bears_brp h1 h2 h3)
end Go.Proofs.YtgemlddincnfcaaGreatDoor.Fi
