/- The statement FirmHolds is proved: whatever the input, the law returns true and each argument reads as it read before. No condition. -/
import Derived.Test.YtgemlddincnfcaaGreatDoorP0
import Derived.Test.YtgemlddincnfcaaGreatDoorP35
import Derived.Test.YtgemlddincnfcaaGreatDoorCards
set_option linter.unusedSimpArgs false
set_option linter.unusedVariables false
namespace Go.Proofs.YtgemlddincnfcaaGreatDoor.Fi
open Go.RowKit Go.Lib Tx
theorem lift_at {L L6 : LS} {o : Op} {ys : List (Sl G.Lk)} (hk : o.k % 12 = 7) (h : (doC (opC o) L.val).1 = 0) (hv : L6.val = (doC (opC o) L.val).2) (hy : ys.map (·.l) = L.rigs.l.map (·.lk.l)) :
  ∃ (m : Nat) (y : Sl G.Lk), o.n = (m : Int) ∧ ys[m]? = some y ∧ L6.day = L.day ∧ G.wkE L.items.l y.l L.back.l L.day o.ld.l = 0 ∧ G.mayB L.items.l y.l L.back.l L.day o.ld.l = true := by
 have e : opC o = .lift o.n o.ld.l := by simp [opC, hk]
 rw [e] at h hv
 obtain ⟨h1, h2, h3, h4, h5⟩ := lift_ok h
 rw [← hv] at h1
 obtain ⟨m, hm⟩ := Int.eq_ofNat_of_zero_le h2
 have hrl : L.val.rigs = L.rigs.l.map LRg.val := rfl
 have hml : m < L.rigs.l.length := by rw [hrl, List.length_map] at h3; omega
 obtain ⟨q, hq⟩ := get_lt hml
 have hyl : ys.length = L.rigs.l.length := by
  have := congrArg List.length hy
  rwa [List.length_map, List.length_map] at this
 obtain ⟨y, hym⟩ := get_lt (l := ys) (k := m) (by omega)
 have hyq : y.l = q.lk.l := by
  have h6 : (ys.map (·.l))[m]? = (L.rigs.l.map (·.lk.l))[m]? := by rw [hy]
  rw [List.getElem?_map, List.getElem?_map, hym, hq] at h6
  exact Option.some.inj h6
 have hA : (rigA L.val o.n).lk = y.l := by
  unfold rigA
  rw [hm, show ((m : Nat) : Int).toNat = m from Int.toNat_natCast m, hrl, List.getD_eq_getElem?_getD, List.getElem?_map, hq, hyq]
  rfl
 rw [hA] at h4 h5
 exact ⟨m, y, hm, hym, h1, h4, h5⟩
set_option maxHeartbeats 8000000 in
set_option maxRecDepth 20000 in
theorem l_FirmHolds (x : LSu) (A : Option Addr) (l : List Op) (c : Nat) (w : World) (hL : LdW w) (hS : SuOk (fun _ => True) w x) (hle : I64 x.cl.le) (hgw : ∀ i ∈ x.gear.l, G.IW i) (hl : l.length ≤ maxLen) (hR : Rd Op.cs 6 w A l) (hO : ∀ o ∈ l, OpIn w o) :
  Calls Tryz.prog 3 #[.agg x.cs.toArray, .slice A l.length c] w fun e w' => e = .returned (.bool true) ∧ Below w.heap.size w w' := by
 have x0 := Blk.new w 32 x.cs.toArray
 have B0 := bl_alloc (below_refl w) (.cells x.cs.toArray 32)
 have HAW := Lib.hid (fun W (h : Below w.heap.size w W) => f_awake W (hL.on h))
 have HLG := Lib.hid (fun W (h : Below w.heap.size w W) => f_large x W (hS.on h))
 have HMY := Lib.hid (fun W (h : Below w.heap.size w W) => f_many A l c W hl (hR.on h) (fun o ho => ((hO o ho).on h).ok))
 have HNW := Lib.hid (fun W (h : Below w.heap.size w W) (hm : Small x) hv => f_NewT x W (hS.on h) ⟨by have := hm.s; omega, fun y hy => by have := hm.ss y hy; omega, by have := hm.j; omega, fun y hy => by have := hm.jj y hy; omega, hle, by have := hm.g; omega, hgw⟩ hv)
 have HNF := Lib.hid (fun W (h : Below w.heap.size w W) (hm : Small x) hv => f_NewF x W (hS.on h) ⟨by have := hm.s; omega, fun y hy => by have := hm.ss y hy; omega, by have := hm.j; omega, fun y hy => by have := hm.jj y hy; omega, hle, by have := hm.g; omega, hgw⟩ hv)
 have HLW := Lib.hid hL
 have HR := Lib.hid (fun W (h : Below w.heap.size w W) => hR.on h)
 have HO := Lib.hid hO
 have HSU := Lib.hid (fun W (h : Below w.heap.size w W) => hS.on h)
 have HHO := Lib.hid (fun (w0 W : World) (b : Nat) (L : LS) (T : Nat → Prop) (hH : Hd w0 W b L T) (h : Below w.heap.size w W) (hx : x.val = L.val.x) => f_holds x hH (hS.on h) hx)
 have hCs := su_cs x
 have lN : w.heap.size < (w.alloc (.cells x.cs.toArray 32)).heap.size := x0.lt
 clear hS hle hgw hR hO hL
 unfold maxLen at hl
 obtain ⟨CA, hCA⟩ : ∃ CA, x.cs.toArray = CA := ⟨_, rfl⟩
 rw [hCA] at x0 B0 HLG HNW HNF hCs lN HHO ⊢
 clear hCA
 go_enter Tryz.func3, Tryz.ntmps3
 go_upto_region 3 with (go_at_call 5; ((with_reducible refine (HAW.out _ B0).mono ?_); rintro e w1 ⟨rfl, hb1⟩))
 have x1 := x0.below hb1 lN
 have B1 := below_tr B0 hb1
 have lN1 := Nat.lt_of_lt_of_le lN hb1.size
 clear x0 B0 hb1 lN HAW
 have HLG1 := Lib.hid (HLG.out w1 B1)
 clear HLG
 cases hMB : manyB l
 rotate_left
 ·rw [hMB] at HMY
  go_wp2_with (first | (refine wpList_load_row rfl 32 _ rfl w.heap.size rfl 32 CA (0, 0) _ x1 Tryz.underlying32 rfl hCs ?_) | (go_at_call 6; go_loud ((with_reducible refine HLG1.out.mono ?_); rintro e w2 ⟨⟨r, rfl, hsm⟩, hb2⟩; have x2 := x1.below hb2 lN1; have B2 := below_tr B1 hb2; have lN2 := Nat.lt_of_lt_of_le lN1 hb2.size; replace hsm := Lib.hid hsm; cases r)) | (go_at_call 7; ((with_reducible refine (HMY.out w2 B2).mono ?_); rintro e w' ⟨rfl, rfl⟩)))
  all_goals
   go_ret
   exact ⟨rfl, B2⟩
 rw [hMB] at HMY
 have HMN := Lib.hid (many_no hMB)
 clear hMB
 cases hv : vSu x.val
 ·go_wp2_with (first
   | (refine wpList_load_row rfl 32 _ rfl w.heap.size rfl 32 CA (0, 0) _ x1 Tryz.underlying32 rfl hCs ?_) | (refine wpList_load_row rfl 32 _ rfl w.heap.size rfl 32 CA (0, 0) _ x2 Tryz.underlying32 rfl hCs ?_) | (go_at_call 6; go_loud ((with_reducible refine HLG1.out.mono ?_); rintro e w2 ⟨⟨r, rfl, hsm⟩, hb2⟩; have x2 := x1.below hb2 lN1; have B2 := below_tr B1 hb2; have lN2 := Nat.lt_of_lt_of_le lN1 hb2.size; replace hsm := Lib.hid hsm; cases r))
   | (go_at_call 7; ((with_reducible refine (HMY.out w2 B2).mono ?_); rintro e w' ⟨rfl, rfl⟩))
   | (go_at_call 8; ((with_reducible refine (HNF.out w2 B2 (by first | exact hsm.out | exact hsm.out rfl | exact hsm.out trivial) hv).mono ?_); rintro e w3 ⟨rfl, hb3⟩; have B3 := below_tr B2 hb3)))
  all_goals
   go_ret
   first | exact ⟨rfl, B3⟩ | exact ⟨rfl, B2⟩
 have HV := Lib.hid hv
 go_wp2_with (first
   | (refine wpList_load_row rfl 32 _ rfl w.heap.size rfl 32 CA (0, 0) _ x1 Tryz.underlying32 rfl hCs ?_) | (refine wpList_load_row rfl 32 _ rfl w.heap.size rfl 32 CA (0, 0) _ x2 Tryz.underlying32 rfl hCs ?_) | (go_at_call 6; go_loud ((with_reducible refine HLG1.out.mono ?_); rintro e w2 ⟨⟨r, rfl, hsm⟩, hb2⟩; have x2 := x1.below hb2 lN1; have B2 := below_tr B1 hb2; have lN2 := Nat.lt_of_lt_of_le lN1 hb2.size; replace hsm := Lib.hid hsm; cases r))
   | (go_at_call 7; ((with_reducible refine (HMY.out w2 B2).mono ?_); rintro e w' ⟨rfl, rfl⟩))
   | (go_at_call 8; ((with_reducible refine (HNW.out w2 B2 (by first | exact hsm.out | exact hsm.out rfl | exact hsm.out trivial) hv).mono ?_); rintro e w3 ⟨b, L, T, rfl, n1⟩)))
 rotate_left
 ·go_ret
  exact ⟨rfl, B2⟩
 have HH := Lib.hid (show Hd w2 w3 b L T from ⟨HLW.out.on B2, n1.out.bel, n1.out.at_, n1.out.inv, by rw [n1.out.val]; exact safe_new _ HV.out, n1.out.ft⟩)
 have HX := Lib.hid (show L.val.x = x.val by rw [n1.out.val]; rfl)
 clear HLG1 HNW HNF HMY hsm hv n1 x1 lN1 HV HLW
 go_loopw [7] (fun i wr => ∃ k : Nat, k ≤ l.length ∧ i = .int .i64 k ∧ ∃ L T, Hid (Hd w2 wr b L T) ∧ Hid (L.val.x = x.val)) (fun i _ => l.length - (RowKit.intOf i).toNat)
 case atStart => exact ⟨0, Nat.zero_le _, rfl, L, T, HH, HX⟩
 case round =>
  clear HH HX
  obtain ⟨k, hk, rfl, L, T, HH, HX⟩ := hrel
  rename World => wr
  have k0 : (0 : Int) ≤ (k : Int) := Int.natCast_nonneg _
  have Br := below_tr B2 HH.out.bel
  by_cases hlt : k < l.length
  ·have k1 : (k : Int) < (l.length : Int) := by omega
   obtain ⟨o, ho⟩ := get_lt hlt
   have hom := List.mem_of_getElem? ho
   have HOA := Lib.hid (fun W (h : Below w.heap.size w W) => opA_of ((HO.out o hom).on h) (HMN.out.2 o hom))
   have hil : L.items.l.length ≤ 100000 := by
    have h1 := HH.out.inv.it
    unfold G.vldG at h1
    have h2 := of_decide_eq_true (Bool.and_eq_true_iff.1 h1).2
    have h3 : L.val.items.length = L.items.l.length := rfl
    omega
   have hbl : L.back.l.length ≤ 100000 := by
    have h1 := HH.out.inv.bl
    have h3 : L.val.back.length = L.back.l.length := rfl
    omega
   have HGE := Lib.hid (f_GearA HH.out.at_ hil)
   have HBK := Lib.hid (fun W (h : Below wr.heap.size wr W) => f_BackA (HH.out.at_.on h) hbl)
   have HRG := Lib.hid (fun W (h : Below wr.heap.size wr W) => f_RigsA (HH.out.at_.on h) HH.out.inv)
   go_upto_region 12 with (first
    | (go_at_call 9; ((with_reducible refine HGE.out.mono ?_); rintro e w3 ⟨y3, rfl, hy3, ho3, _, _, hb3⟩))
    | (go_at_call 10; ((with_reducible refine (HBK.out _ hb3).mono ?_); rintro e w4 ⟨y4, rfl, hy4, ho4, _, _, hb4⟩; have hb34 := below_tr hb3 hb4))
    | (go_at_call 11; ((with_reducible refine (HRG.out _ hb34).mono ?_); rintro e w5 ⟨ys, rfl, hys, hyo, hyi, hb5⟩; have hb35 := below_tr hb34 hb5)))
   have H5 := Lib.hid (HH.out.below hb35)
   have B5 := below_tr Br hb35
   have HMD := Lib.hid (f_madeA H5.out.at_ H5.out.inv H5.out.lw o (HOA.out w5 B5))
   have HSTP := Lib.hid (fun (w' : World) (L' : LS) (T' : Nat → Prop) (hv : L'.val = (doC (opC o) L.val).2) (hf : Fut w5 b L T w' L' T') => H5.out.step (opC_ok (HOA.out w5 B5)) hv hf)
   obtain ⟨b1, o1, ha1, lb1, hc1⟩ := (HR.out w5 B5).get ho
   have d0 : w5.cell? ⟨b1, o1 + k * 6, none⟩ = some (.int .u8 (o.k : Nat)) := by have := hc1 0 _ rfl; simpa using this
   have d1 : w5.cell? ⟨b1, o1 + k * 6 + 1, none⟩ = some (.int .i64 o.st) := hc1 1 _ rfl
   have d2 : w5.cell? ⟨b1, o1 + k * 6 + 2, none⟩ = some (.int .i64 o.n) := hc1 2 _ rfl
   have d3 : w5.cell? ⟨b1, o1 + k * 6 + 3, none⟩ = some (.string o.nm) := hc1 3 _ rfl
   have d4 : w5.cell? ⟨b1, o1 + k * 6 + 4, none⟩ = some (.slice o.lk.a o.lk.l.length o.lk.c) := hc1 4 _ rfl
   have d5 : w5.cell? ⟨b1, o1 + k * 6 + 5, none⟩ = some (.slice o.ld.a o.ld.l.length o.ld.c) := hc1 5 _ rfl
   have HR1 := Lib.hid (fun W (h : Below w.heap.size w W) => (HR.out W h).get ho)
   clear hc1
   subst ha1
   have HC := Lib.hid (fun W (h : Below w.heap.size w W) => (show b1 < W.heap.size ∧ W.cell? ⟨b1, o1 + k * 6, none⟩ = some (.int .u8 (o.k : Nat)) ∧ W.cell? ⟨b1, o1 + k * 6 + 2, none⟩ = some (.int .i64 o.n) ∧ W.cell? ⟨b1, o1 + k * 6 + 5, none⟩ = some (.slice o.ld.a o.ld.l.length o.ld.c) from by
    obtain ⟨b6, o6, ha6, lb6, hc6⟩ := HR1.out W h
    cases ha6
    exact ⟨lb6, by have := hc6 0 _ rfl; simpa using this, hc6 2 _ rfl, hc6 5 _ rfl⟩))
   have hk8 := (HO.out o hom).k
   have hkm : (o.k : Int) % 12 = ((o.k % 12 : Nat) : Int) := by omega
   obtain ⟨E, hE⟩ : ∃ E, E = (doC (opC o) L.val).1 := ⟨_, rfl⟩
   have HMD := Lib.hid (show Calls Tryz.prog 12 #[.pointer (some ⟨b, 0, none⟩), .agg #[.int .u8 (o.k : Nat), .int .i64 o.st, .int .i64 o.n, .string o.nm, .slice o.lk.a o.lk.l.length o.lk.c, .slice o.ld.a o.ld.l.length o.ld.c]] w5 fun e w' => e = .returned (.int .i64 E) ∧ ∃ L' T', Hid (Hd w2 w' b L' T' ∧ L'.val.x = x.val) ∧ Hid (L'.val = (doC (opC o) L.val).2 ∧ Fut w5 b L T w' L' T') from by
    refine (f_madeA H5.out.at_ H5.out.inv H5.out.lw o (HOA.out w5 B5)).mono ?_
    rintro e w' ⟨rfl, L', T', hv, hf⟩
    exact ⟨by rw [hE], L', T', Lib.hid ⟨HSTP.out _ _ _ hv hf, by rw [hv, doC_x]; exact HX.out⟩, Lib.hid ⟨hv, hf⟩⟩)
   have HE := Lib.hid hE
   clear hE HGE HBK HRG HSTP HR1 HMN
   by_cases h7 : o.k % 12 = 7
   rotate_left
   ·have hk7 : ((o.k : Int) % 12 == 7) = false := beq_eq_false_iff_ne.2 (by omega)
    clear hkm
    go_wp2_with (first | (go_at_call 12; ((with_reducible refine HMD.out.mono ?_); rintro e w6 ⟨rfl, L6, T6, h6, hv6⟩; have x6 := x2.below h6.out.1.bel lN2; have B6 := below_tr B2 h6.out.1.bel; obtain ⟨lb6, k6, n6, l6⟩ := HC.out w6 B6)) | (refine wpList_load_row rfl 32 _ rfl w.heap.size rfl 32 CA (0, 0) _ x6 Tryz.underlying32 rfl hCs ?_) | (go_at_call 15; ((with_reducible refine (HHO.out _ _ _ _ _ h6.out.1 B6 h6.out.2.symm).mono ?_); rintro e w9 ⟨rfl, hb9⟩)))
    go_roundw
    case rel => exact ⟨k + 1, by omega, by go_num, L6, T6, Lib.hid (h6.out.1.below hb9), Lib.hid h6.out.2⟩
    case measure => simp [RowKit.intOf]; omega
   have HK7 := Lib.hid h7
   rw [h7] at hkm
   clear h7
   by_cases h0 : E = 0
   rotate_left
   ·have q0 : (E == 0) = false := beq_eq_false_iff_ne.2 h0
    go_wp2_with (first | (go_at_call 12; ((with_reducible refine HMD.out.mono ?_); rintro e w6 ⟨rfl, L6, T6, h6, hv6⟩; have x6 := x2.below h6.out.1.bel lN2; have B6 := below_tr B2 h6.out.1.bel; obtain ⟨lb6, k6, n6, l6⟩ := HC.out w6 B6)) | (refine wpList_load_row rfl 32 _ rfl w.heap.size rfl 32 CA (0, 0) _ x6 Tryz.underlying32 rfl hCs ?_) | (go_at_call 15; ((with_reducible refine (HHO.out _ _ _ _ _ h6.out.1 B6 h6.out.2.symm).mono ?_); rintro e w9 ⟨rfl, hb9⟩)))
    go_roundw
    case rel => exact ⟨k + 1, by omega, by go_num, L6, T6, Lib.hid (h6.out.1.below hb9), Lib.hid h6.out.2⟩
    case measure => simp [RowKit.intOf]; omega
   subst h0
   go_upto_region 14 with (go_at_call 12; ((with_reducible refine HMD.out.mono ?_); rintro e w6 ⟨rfl, L6, T6, h6, hv6⟩; have x6 := x2.below h6.out.1.bel lN2; have B6 := below_tr B2 h6.out.1.bel; obtain ⟨lb6, k6, n6, l6⟩ := HC.out w6 B6))
   obtain ⟨m, y, hm, hym, hday, hwk, hmay⟩ := lift_at HK7.out HE.out.symm hv6.out.1 hys
   have hns : ∀ g, wr.heap.size ≤ g → ¬ Foot b L g := fun g hg hq => by have := HH.out.at_.flt g hq; omega
   have G3 := (((got_own (T := fun g => wr.heap.size ≤ g) G.It.cs_len ho3 fun _ h _ => h).on hb4).on hb5).stp hv6.out.2.stp hns
   have hz3 := hb3.size
   have hz34 := hb34.size
   have G4 := (((got_own (enc := G.sC) (sz := 1) (T := fun g => wr.heap.size ≤ g) (fun _ => rfl) ho4 fun _ h _ => by omega).on hb5).stp hv6.out.2.stp hns)
   have G5 := ((hyo.mono (T' := fun g => wr.heap.size ≤ g) fun _ _ h => by omega).stp hv6.out.2.stp hns)
   have hymm := List.mem_of_getElem? hym
   have G6 := (((hyi y hymm).mono (T' := fun g => wr.heap.size ≤ g) fun _ _ h => by omega).stp hv6.out.2.stp hns)
   have hyl32 : y.l.length ≤ 32 ∧ ∀ z ∈ y.l, G.LW z := by
    have h1 : y.l ∈ L.rigs.l.map (·.lk.l) := by rw [← hys]; exact List.mem_map.2 ⟨y, hymm, rfl⟩
    obtain ⟨q, hq, he⟩ := List.mem_map.1 h1
    have h2 := HH.out.inv.rk q.val (List.mem_map.2 ⟨q, hq, rfl⟩)
    have h3 : q.val.lk = y.l := he
    rw [h3] at h2
    exact ⟨h2.1, fun z hz => (h2.2 z hz).1⟩
   have hiw := HH.out.inv.iw
   have HOX := Lib.hid (HOA.out w6 B6)
   have HNO := Lib.hid (fun W (h : Below w6.heap.size w6 W) => (show Calls Tryz.prog 14 #[.pointer (some ⟨b, 0, none⟩)] W fun e w' => e = .returned (.int .i64 L.day) ∧ W = w' from hday ▸ f_NowA (h6.out.1.at_.on h)))
   have HMA := Lib.hid (fun W (h : Below w6.heap.size w6 W) => (show Calls Tryz.prog 13 #[.slice y3.a L.items.l.length y3.c, .slice y.a y.l.length y.c, .slice y4.a L.back.l.length y4.c, .int .i64 L.day, .slice o.ld.a o.ld.l.length o.ld.c] W fun e w' => e = .returned (.tuple #[.bool true, .int .i64 0]) ∧ Below W.heap.size W w' from by
    have := G.p_May y3.a y.a y4.a o.ld.a y3.l y.l y4.l L.day o.ld.l y3.c y.c y4.c o.ld.c W (by rw [hy3]; exact hil) (by have := hyl32.1; omega) (by rw [hy4]; exact hbl) HOX.out.dl (G3.rd.on h) (by rw [hy3]; exact hiw) (G6.rd.on h) hyl32.2 (G4.rd.on h) (HOX.out.rd.on h)
    rw [hy3, hy4, hwk, hmay] at this
    exact this))
   obtain ⟨b7, o7, hya, lb7, hc7⟩ := G5.rd.get hym
   have d7 : w6.cell? ⟨b7, o7 + m, none⟩ = some (.slice y.a y.l.length y.c) := by have := hc7 0 _ rfl; simpa using this
   have m0 : (0 : Int) ≤ (m : Int) := Int.natCast_nonneg _
   have m1 : (m : Int) < (ys.l.length : Int) := by have := (List.getElem?_eq_some_iff.1 hym).1; omega
   rw [hm] at n6
   obtain ⟨yA, yl, yc⟩ := ys
   dsimp only [Sl.v] at *
   subst hya
   clear G3 G4 G5 G6 hym hymm hiw hc7 hm hwk hmay hday hys hyo hyi ho3 ho4 hyl32 hns HOA HMD
   refine wp_region_noPanic ?_
   refine wp_region_held_drew (S := (fun w' => (∀ b o, b < w6.heap.size → w'.cell? ⟨b, o, none⟩ = w6.cell? ⟨b, o, none⟩) ∧ (∀ b o, b < w6.heap.size → w'.frozen? ⟨b, o, none⟩ = w6.frozen? ⟨b, o, none⟩) ∧ Below w6.heap.size w6 w')) (by kernel_rfl) (kq_draw kq_refl) (fun hS0 => ?_)
   refine tk 0 59 ?gv1 rfl ?_; try simp only [AP]
   refine tk 1 60 ?gv2 rfl ?_; try simp only [AP]
   refine tk 2 61 ?gv3 rfl ?_; try simp only [AP]
   refine tk 3 62 ?gv4 rfl ?_; try simp only [AP]
   refine tk 4 63 ?gv5 rfl ?_; try simp only [AP]
   refine tk 5 64 ?gv6 rfl ?_; try simp only [AP]
   refine tk 6 65 ?gv7 rfl ?_; try simp only [AP]
   refine tk 7 66 ?gv8 rfl ?_; try simp only [AP]
   refine tk 8 67 ?gv9 rfl ?_; try simp only [AP]
   refine tk 9 68 ?gv10 rfl ?_; try simp only [AP]
   refine tk 10 69 ?gv11 rfl ?_; try simp only [AP]
   refine tk 12 71 ?gv12 rfl ?_; try simp only [AP]
   refine tk 13 72 ?gv13 rfl ?_; try simp only [AP]
   refine tk 14 73 ?gv14 rfl ?_; try simp only [AP]
   refine tk 15 74 ?gv15 rfl ?_; try simp only [AP]
   refine tk 16 75 ?gv16 rfl ?_; try simp only [AP]
   refine wpAnyH_ready (rs := [11]) (by kernel_rfl) (by simp) ?_
   refine AllReadyH.cons rfl (fun K hK => ?_) AllReadyH.nil
   go_simp
   (go_at_call 14; ((with_reducible refine (HNO.out _ bl).mono ?_); rintro e w' ⟨rfl, rfl⟩))
   refine hK.out _ _ kq (fun hS1 => ?_)
   clear hK K
   try simp only [AP]
   refine wpAnyH_ready (rs := [17]) (by kernel_rfl) (by simp) ?_
   refine AllReadyH.cons rfl (fun K hK => ?_) AllReadyH.nil
   go_simp
   (go_at_call 13; ((with_reducible refine (HMA.out _ bl).mono ?_); rintro e w8 ⟨rfl, hb8⟩; obtain ⟨hc8, hf8⟩ := bcell hb8; have hz8 := hb8.size; (try simp [SZ] at hz8); (try simp only [SZ] at hc8 hf8)))
   refine hK.out _ _ kq (fun hS2 => ?_)
   clear hK K
   try simp only [AP]
   refine tk 18 58 ?gv17 rfl ?_; try simp only [AP]
   refine tk 19 77 ?gv18 rfl ?_; try simp only [AP]
   refine tk 20 78 ?gv19 rfl ?_; try simp only [AP]
   refine tk 21 12 ?gv20 rfl ?_; try simp only [AP]
   refine tk 22 13 ?gv21 rfl ?_; try simp only [AP]
   refine wpAnyH_done (by kernel_rfl) (NoPanic.normal ?_) _
   have B68 : Below w6.heap.size w6 w8 := bl
   have H8 := Lib.hid (h6.out.1.below B68)
   have B8 := below_tr B6 B68
   have x8 := x6.below B68 (Nat.lt_of_lt_of_le lN2 h6.out.1.bel.size)
   go_wp2_with (first | (refine wpList_load_row rfl 32 _ rfl w.heap.size rfl 32 CA (0, 0) _ x8 Tryz.underlying32 rfl hCs ?_) | (go_at_call 15; ((with_reducible refine (HHO.out _ _ _ _ _ H8.out B8 h6.out.2.symm).mono ?_); rintro e w9 ⟨rfl, hb9⟩)))
   go_roundw
   case rel => exact ⟨k + 1, by omega, by go_num, L6, T6, Lib.hid (H8.out.below hb9), Lib.hid h6.out.2⟩
   case measure => simp [RowKit.intOf]; omega
  ·obtain rfl : k = l.length := by omega
   go_wp2
   go_ret
   exact ⟨rfl, Br⟩
end Go.Proofs.YtgemlddincnfcaaGreatDoor.Fi
namespace Go.Proofs.YtgemlddincnfcaaGreatDoor.Fi
open Go.ChangeShapes Go.WideShapes Go.ChangeAt Go.RowKit Go.Deep Go.Joins Tx
def Cl.cs (c : Cl) : List Value := [.int .i64 c.fi, .int .i64 c.ga, .int .i64 c.tp, .int .i64 c.le, .int .i64 c.la, .int .i64 c.st]
def ruCs (c : V.Ru) : List Value := [.int .i64 c.s, .int .i64 c.g, .int .i64 c.c]
def Rt.cs (c : Rt) : List Value := [.int .i64 c.lo, .int .i64 c.hi, .int .i64 c.ab, .int .i64 c.co]
section
variable {H : Type} {enc : TypeId × Value → H} {w : World} {base : Nat} {spare : Nat → Bool} {held : Bool}
theorem dec_course (n : Nat) (cs : List Value) (x) (h : DataW.trod enc Tryz.prog w base spare held n 99 cs = some x) : ∃ a : S.Course, cs = S.Course.cs a ∧ True := by
 obtain ⟨hl, hf⟩ := dec_fields Tryz.underlying99 (by kernel_rfl) (by kernel_rfl) n cs x h
 match cs, hl with
 | [c0, c1, c2, c3, c4, c5], _ =>
  obtain ⟨m0, y0, e0⟩ := hf 0 _ c0 rfl rfl
  obtain ⟨m1, y1, e1⟩ := hf 1 _ c1 rfl rfl
  obtain ⟨m2, y2, e2⟩ := hf 2 _ c2 rfl rfl
  obtain ⟨m3, y3, e3⟩ := hf 3 _ c3 rfl rfl
  obtain ⟨m4, y4, e4⟩ := hf 4 _ c4 rfl rfl
  obtain ⟨m5, y5, e5⟩ := hf 5 _ c5 rfl rfl
  obtain ⟨a0, g0, f0⟩ := dec_int Tryz.underlying3 _ _ _ e0
  obtain ⟨a1, g1, f1⟩ := dec_int Tryz.underlying3 _ _ _ e1
  obtain ⟨a2, g2, f2⟩ := dec_int Tryz.underlying3 _ _ _ e2
  obtain ⟨a3, g3, f3⟩ := dec_int Tryz.underlying3 _ _ _ e3
  obtain ⟨a4, g4, f4⟩ := dec_int Tryz.underlying3 _ _ _ e4
  obtain ⟨a5, g5, f5⟩ := dec_int Tryz.underlying3 _ _ _ e5
  cases g0; cases g1; cases g2; cases g3; cases g4; cases g5
  exact ⟨⟨a0, a1, a2, a3, a4, a5⟩, rfl, trivial⟩
theorem dec_climb (n : Nat) (cs : List Value) (x) (h : DataW.trod enc Tryz.prog w base spare held n 25 cs = some x) : ∃ a : Cl, cs = Cl.cs a ∧ I64 a.le := by
 obtain ⟨hl, hf⟩ := dec_fields Tryz.underlying25 (by kernel_rfl) (by kernel_rfl) n cs x h
 match cs, hl with
 | [c0, c1, c2, c3, c4, c5], _ =>
  obtain ⟨m0, y0, e0⟩ := hf 0 _ c0 rfl rfl
  obtain ⟨m1, y1, e1⟩ := hf 1 _ c1 rfl rfl
  obtain ⟨m2, y2, e2⟩ := hf 2 _ c2 rfl rfl
  obtain ⟨m3, y3, e3⟩ := hf 3 _ c3 rfl rfl
  obtain ⟨m4, y4, e4⟩ := hf 4 _ c4 rfl rfl
  obtain ⟨m5, y5, e5⟩ := hf 5 _ c5 rfl rfl
  obtain ⟨a0, g0, f0⟩ := dec_int Tryz.underlying3 _ _ _ e0
  obtain ⟨a1, g1, f1⟩ := dec_int Tryz.underlying3 _ _ _ e1
  obtain ⟨a2, g2, f2⟩ := dec_int Tryz.underlying3 _ _ _ e2
  obtain ⟨a3, g3, f3⟩ := dec_int Tryz.underlying3 _ _ _ e3
  obtain ⟨a4, g4, f4⟩ := dec_int Tryz.underlying3 _ _ _ e4
  obtain ⟨a5, g5, f5⟩ := dec_int Tryz.underlying3 _ _ _ e5
  cases g0; cases g1; cases g2; cases g3; cases g4; cases g5
  exact ⟨⟨a0, a1, a2, a3, a4, a5⟩, rfl, i64_of f3⟩
theorem dec_rule (n : Nat) (cs : List Value) (x) (h : DataW.trod enc Tryz.prog w base spare held n 28 cs = some x) : ∃ a : V.Ru, cs = ruCs a ∧ True := by
 obtain ⟨hl, hf⟩ := dec_fields Tryz.underlying28 (by kernel_rfl) (by kernel_rfl) n cs x h
 match cs, hl with
 | [c0, c1, c2], _ =>
  obtain ⟨m0, y0, e0⟩ := hf 0 _ c0 rfl rfl
  obtain ⟨m1, y1, e1⟩ := hf 1 _ c1 rfl rfl
  obtain ⟨m2, y2, e2⟩ := hf 2 _ c2 rfl rfl
  obtain ⟨a0, g0, f0⟩ := dec_int Tryz.underlying3 _ _ _ e0
  obtain ⟨a1, g1, f1⟩ := dec_int Tryz.underlying3 _ _ _ e1
  obtain ⟨a2, g2, f2⟩ := dec_int Tryz.underlying3 _ _ _ e2
  cases g0; cases g1; cases g2
  exact ⟨⟨a0, a1, a2⟩, rfl, trivial⟩
theorem dec_rate (n : Nat) (cs : List Value) (x) (h : DataW.trod enc Tryz.prog w base spare held n 30 cs = some x) : ∃ a : Rt, cs = Rt.cs a ∧ True := by
 obtain ⟨hl, hf⟩ := dec_fields Tryz.underlying30 (by kernel_rfl) (by kernel_rfl) n cs x h
 match cs, hl with
 | [c0, c1, c2, c3], _ =>
  obtain ⟨m0, y0, e0⟩ := hf 0 _ c0 rfl rfl
  obtain ⟨m1, y1, e1⟩ := hf 1 _ c1 rfl rfl
  obtain ⟨m2, y2, e2⟩ := hf 2 _ c2 rfl rfl
  obtain ⟨m3, y3, e3⟩ := hf 3 _ c3 rfl rfl
  obtain ⟨a0, g0, f0⟩ := dec_int Tryz.underlying3 _ _ _ e0
  obtain ⟨a1, g1, f1⟩ := dec_int Tryz.underlying3 _ _ _ e1
  obtain ⟨a2, g2, f2⟩ := dec_int Tryz.underlying3 _ _ _ e2
  obtain ⟨a3, g3, f3⟩ := dec_int Tryz.underlying3 _ _ _ e3
  cases g0; cases g1; cases g2; cases g3
  exact ⟨⟨a0, a1, a2, a3⟩, rfl, trivial⟩
theorem dec_joint (n : Nat) (cs : List Value) (x) (h : DataW.trod enc Tryz.prog w base spare held n 124 cs = some x) : ∃ a : Jt, cs = a.cs ∧ True := by
 obtain ⟨hl, hf⟩ := dec_fields Tryz.underlying124 (by kernel_rfl) (by kernel_rfl) n cs x h
 match cs, hl with
 | [c0, c1], _ =>
  obtain ⟨m0, y0, e0⟩ := hf 0 _ c0 rfl rfl
  obtain ⟨m1, y1, e1⟩ := hf 1 _ c1 rfl rfl
  obtain ⟨a0, g0, f0⟩ := dec_int Tryz.underlying3 _ _ _ e0
  obtain ⟨a1, g1, _⟩ := DataW.trod_bool Tryz.underlying4 e1
  cases g0; cases g1
  exact ⟨⟨a0, a1⟩, rfl, trivial⟩
theorem dec_item (n : Nat) (cs : List Value) (x) (h : DataW.trod enc Tryz.prog w base spare held n 77 cs = some x) : ∃ a : G.It, cs = a.cs ∧ G.IW a := by
 obtain ⟨hl, hf⟩ := dec_fields Tryz.underlying77 (by kernel_rfl) (by kernel_rfl) n cs x h
 match cs, hl with
 | [c0, c1, c2, c3], _ =>
  obtain ⟨m0, y0, e0⟩ := hf 0 _ c0 rfl rfl
  obtain ⟨m1, y1, e1⟩ := hf 1 _ c1 rfl rfl
  obtain ⟨m2, y2, e2⟩ := hf 2 _ c2 rfl rfl
  obtain ⟨m3, y3, e3⟩ := hf 3 _ c3 rfl rfl
  obtain ⟨a0, g0, _, f0⟩ := DataW.trod_string Tryz.underlying9 e0
  obtain ⟨a1, g1, f1⟩ := dec_int Tryz.underlying3 _ _ _ e1
  obtain ⟨a2, g2, f2⟩ := dec_int Tryz.underlying3 _ _ _ e2
  obtain ⟨a3, g3, _, f3⟩ := DataW.trod_string Tryz.underlying9 e3
  cases g0; cases g1; cases g2; cases g3
  exact ⟨⟨a0, a1, a2, a3⟩, rfl, f0, f3, (i64_of f1).1, (i64_of f1).2, (i64_of f2).1, (i64_of f2).2⟩
theorem dec_courses (n : Nat) (cs : List Value) (x) (h : DataW.trod enc Tryz.prog w base spare held n 75 cs = some x) : ∃ a : Sl S.Course, cs = a.cs ∧ Got (fun _ => True) w S.Course.cs 6 a := by
 obtain ⟨A, l, c, g, h1, h2, h3, h4, h5⟩ := open_rdin S.Course.cs (fun _ => True) 6 Tryz.underlying75 (by kernel_rfl) (by decide) (fun n cs x h => dec_course n cs x h) h
 exact ⟨⟨A, l, c⟩, g, h1, fun _ _ _ => trivial, h4, h5⟩
theorem dec_joints (n : Nat) (cs : List Value) (x) (h : DataW.trod enc Tryz.prog w base spare held n 60 cs = some x) : ∃ a : Sl Jt, cs = a.cs ∧ Got (fun _ => True) w Jt.cs 2 a := by
 obtain ⟨A, l, c, g, h1, h2, h3, h4, h5⟩ := open_rdin Jt.cs (fun _ => True) 2 Tryz.underlying60 (by kernel_rfl) (by decide) (fun n cs x h => dec_joint n cs x h) h
 exact ⟨⟨A, l, c⟩, g, h1, fun _ _ _ => trivial, h4, h5⟩
structure SuIn (w : World) (x : LSu) : Prop where
 ok : SuOk (fun _ => True) w x
 le : I64 x.cl.le
 gw : ∀ i ∈ x.gear.l, G.IW i
set_option maxRecDepth 50000 in
set_option maxHeartbeats 2000000 in
theorem dec_setup (n : Nat) (cs : List Value) (x) (h : DataW.trod enc Tryz.prog w base spare held n 32 cs = some x) : ∃ a : LSu, cs = a.cs ∧ SuIn w a := by
 obtain ⟨ys, n', _, _, hlen, hyl, hf⟩ := DataW.trod_struct Tryz.underlying32 h
 have hl : cs.length = 17 := hlen.trans (by kernel_rfl)
 match cs, hl with
 | [c0, c1, c2, c3, c4, c5, c6, c7, c8, c9, c10, c11, c12, c13, c14, c15, c16], _ =>
  have h0 := hf 0 _ rfl
  rw [List.getElem?_eq_getElem (show 0 < ys.length by rw [hyl]; decide)] at h0
  change DataW.trod enc Tryz.prog w base spare held n' 22 (([c0, c1, c2, c3, c4, c5, c6, c7, c8, c9, c10, c11, c12, c13, c14, c15, c16].drop 0).take (Tryz.prog.cellsOf 22)) = _ at h0
  rw [show Tryz.prog.cellsOf 22 = 1 by kernel_rfl] at h0
  have k0 : DataW.trod enc Tryz.prog w base spare held n' 22 [c0] = some _ := h0
  have h1 := hf 1 _ rfl
  rw [List.getElem?_eq_getElem (show 1 < ys.length by rw [hyl]; decide)] at h1
  change DataW.trod enc Tryz.prog w base spare held n' 23 (([c0, c1, c2, c3, c4, c5, c6, c7, c8, c9, c10, c11, c12, c13, c14, c15, c16].drop 1).take (Tryz.prog.cellsOf 23)) = _ at h1
  rw [show Tryz.prog.cellsOf 23 = 1 by kernel_rfl] at h1
  have k1 : DataW.trod enc Tryz.prog w base spare held n' 23 [c1] = some _ := h1
  have h2 := hf 2 _ rfl
  rw [List.getElem?_eq_getElem (show 2 < ys.length by rw [hyl]; decide)] at h2
  change DataW.trod enc Tryz.prog w base spare held n' 25 (([c0, c1, c2, c3, c4, c5, c6, c7, c8, c9, c10, c11, c12, c13, c14, c15, c16].drop 2).take (Tryz.prog.cellsOf 25)) = _ at h2
  rw [show Tryz.prog.cellsOf 25 = 6 by kernel_rfl] at h2
  have k2 : DataW.trod enc Tryz.prog w base spare held n' 25 [c2, c3, c4, c5, c6, c7] = some _ := h2
  have h3 := hf 3 _ rfl
  rw [List.getElem?_eq_getElem (show 3 < ys.length by rw [hyl]; decide)] at h3
  change DataW.trod enc Tryz.prog w base spare held n' 26 (([c0, c1, c2, c3, c4, c5, c6, c7, c8, c9, c10, c11, c12, c13, c14, c15, c16].drop 8).take (Tryz.prog.cellsOf 26)) = _ at h3
  rw [show Tryz.prog.cellsOf 26 = 1 by kernel_rfl] at h3
  have k3 : DataW.trod enc Tryz.prog w base spare held n' 26 [c8] = some _ := h3
  have h4 := hf 4 _ rfl
  rw [List.getElem?_eq_getElem (show 4 < ys.length by rw [hyl]; decide)] at h4
  change DataW.trod enc Tryz.prog w base spare held n' 28 (([c0, c1, c2, c3, c4, c5, c6, c7, c8, c9, c10, c11, c12, c13, c14, c15, c16].drop 9).take (Tryz.prog.cellsOf 28)) = _ at h4
  rw [show Tryz.prog.cellsOf 28 = 3 by kernel_rfl] at h4
  have k4 : DataW.trod enc Tryz.prog w base spare held n' 28 [c9, c10, c11] = some _ := h4
  have h5 := hf 5 _ rfl
  rw [List.getElem?_eq_getElem (show 5 < ys.length by rw [hyl]; decide)] at h5
  change DataW.trod enc Tryz.prog w base spare held n' 30 (([c0, c1, c2, c3, c4, c5, c6, c7, c8, c9, c10, c11, c12, c13, c14, c15, c16].drop 12).take (Tryz.prog.cellsOf 30)) = _ at h5
  rw [show Tryz.prog.cellsOf 30 = 4 by kernel_rfl] at h5
  have k5 : DataW.trod enc Tryz.prog w base spare held n' 30 [c12, c13, c14, c15] = some _ := h5
  have h6 := hf 6 _ rfl
  rw [List.getElem?_eq_getElem (show 6 < ys.length by rw [hyl]; decide)] at h6
  change DataW.trod enc Tryz.prog w base spare held n' 3 (([c0, c1, c2, c3, c4, c5, c6, c7, c8, c9, c10, c11, c12, c13, c14, c15, c16].drop 16).take (Tryz.prog.cellsOf 3)) = _ at h6
  rw [show Tryz.prog.cellsOf 3 = 1 by kernel_rfl] at h6
  have k6 : DataW.trod enc Tryz.prog w base spare held n' 3 [c16] = some _ := h6
  obtain ⟨A0, l0, d0, g0, r0, _, q0, p0, s0⟩ := open_rdin Sl.cs (fun y => Got (fun _ => True) w S.Course.cs 6 y) 1 Tryz.underlying22 (by kernel_rfl) (by decide) (fun n cs x h => dec_courses n cs x h) k0
  obtain ⟨A1, l1, d1, g1, r1, _, q1, p1, s1⟩ := open_rdin Sl.cs (fun y => Got (fun _ => True) w Jt.cs 2 y) 1 Tryz.underlying23 (by kernel_rfl) (by decide) (fun n cs x h => dec_joints n cs x h) k1
  obtain ⟨⟨u0, u1, u2, u3, u4, u5⟩, g2, hle⟩ := dec_climb _ _ _ k2
  obtain ⟨A3, l3, d3, g3, r3, _, q3, p3, s3⟩ := open_rdin G.It.cs G.IW 4 Tryz.underlying26 (by kernel_rfl) (by decide) (fun n cs x h => dec_item n cs x h) k3
  obtain ⟨⟨t0, t1, t2⟩, g4, _⟩ := dec_rule _ _ _ k4
  obtain ⟨⟨v0, v1, v2, v3⟩, g5, _⟩ := dec_rate _ _ _ k5
  obtain ⟨m, g6, _⟩ := dec_int Tryz.underlying3 _ _ _ k6
  cases g0; cases g1; cases g2; cases g3; cases g4; cases g5; cases g6
  exact ⟨⟨⟨A0, l0, d0⟩, ⟨A1, l1, d1⟩, ⟨u0, u1, u2, u3, u4, u5⟩, ⟨A3, l3, d3⟩, ⟨t0, t1, t2⟩, ⟨v0, v1, v2, v3⟩, m⟩, rfl, ⟨⟨r0, fun _ _ _ => trivial, p0, s0⟩, q0, ⟨r1, fun _ _ _ => trivial, p1, s1⟩, q1, ⟨r3, fun _ _ _ => trivial, p3, s3⟩⟩, hle, q3⟩
end
end Go.Proofs.YtgemlddincnfcaaGreatDoor.Fi
namespace Go.Proofs.YtgemlddincnfcaaGreatDoor
open Go.RowKit
theorem f_FirmHolds (x : Fi.LSu) (A : Option Addr) (l : List Fi.Op) (c : Nat) (w : World) (hL : Tx.LdW w) (hx : Fi.SuIn w x) (hl : l.length ≤ maxLen) (hR : Rd Fi.Op.cs 6 w A l) (hO : ∀ o ∈ l, Fi.OpIn w o) :
  Calls Tryz.prog 3 #[.agg x.cs.toArray, .slice A l.length c] w fun e w' => e = .returned (.bool true) ∧ Below w.heap.size w w' := Fi.l_FirmHolds x A l c w hL hx.ok hx.le hx.gw hl hR hO
end Go.Proofs.YtgemlddincnfcaaGreatDoor
namespace Go.Proofs.YtgemlddincnfcaaGreatDoor
open Go.ChangeShapes Go.WideShapes Go.ChangeAt Go.RowKit Go.Deep Go.Joins
open Go.ChangeMaps (open_string shut_string)
set_option maxRecDepth 100000 in
set_option maxHeartbeats 1000000 in
theorem lifted_FirmHolds (os : Os) (started : os.Started) (H : Type) (enc : TypeId × Value → H) :
  ReturnsInHanded {} Tryz.checked os 3 .any (fun w args => (Rows.firmHoldsSpec.pre enc Tryz.prog Tryz.f3 [] false w args ∧ laidMetH Tryz.prog laidL w) ∧ sizedMet enc Tryz.prog Tryz.f3 (OpenSpec.ofChange Rows.firmHoldsSpec) false w args) (Rows.firmHoldsSpec.post enc Tryz.prog Tryz.f3 false true false false) := by
 refine ret_ls own started (by kernel_rfl) Tryz.func3
  (ChangeSpec.witness_shaped (enc := enc) (C := Tryz.checked) (os := os) (X := fun w _ => laidMetH Tryz.prog laidL w) false (World.laidAll Tryz.prog os laidL) #[.agg #[.slice none 0 0, .slice none 0 0, .int .i64 0, .int .i64 0, .int .i64 0, .int .i64 0, .int .i64 0, .int .i64 0, .slice none 0 0, .int .i64 0, .int .i64 0, .int .i64 0, .int .i64 0, .int .i64 0, .int .i64 0, .int .i64 0, .int .i64 0], .slice none 0 0] 8 (World.laidAll_os _ _ _) (World.shaped_of_ZipB (by kernel_rfl) (by kernel_rfl)) (by kernel_rfl) (by kernel_rfl) (by kernel_rfl) (door_met os _)) ?_
 intro W base args ds gs before hval0 hW hL hsh
 have hval : ∀ (j : Nat) t v, Tryz.f3.params[j]? = some t → args[j]? = some v → Value.okWide Tryz.prog W .any base t v := hval0
 have hW' := hW
 obtain ⟨p, q, hA0, hV, rfl, hfz, hnd⟩ := hW
 have hA : DataW.TrodAll enc Tryz.prog W 0 (fun _ => true) true Tryz.f3.params.toList args.toList ds p := hA0
 rw [Tryz.params3] at hA hval
 obtain ⟨v0, vs0, d0, ds0, p0, q0, hargs, rfl, rfl, h0, r0⟩ := trodAll_cons hA
 obtain ⟨v1, vs1, d1, ds1, p1, q1, rfl, rfl, rfl, h1, r1⟩ := trodAll_cons r0
 obtain ⟨rfl, rfl, rfl⟩ := trodAll_nil r1
 obtain rfl : args = #[v0, v1] := by cases args; simp_all
 obtain ⟨rfl, rfl⟩ := trodVars_none hV
 have k0 := h0
 have lt0 : ∀ x ∈ p0, x.block < W.heap.size := by obtain ⟨m, hm⟩ := k0; exact DataW.trod_lt m _ _ _ hm
 have k1 := h1
 have lt1 : ∀ x ∈ p1, x.block < W.heap.size := by obtain ⟨m, hm⟩ := k1; exact DataW.trod_lt m _ _ _ hm
 obtain ⟨a0, e0, w0⟩ := open_aggv Fi.LSu.cs (Fi.SuIn W) Tryz.underlying32 (fun n cs x h => Fi.dec_setup n cs x h) (hval 0 32 v0 rfl rfl) h0
 subst e0
 obtain ⟨A1, l1, c1, rfl, rd1, le1, ok1⟩ := open_rd Fi.Op.cs (Fi.OpIn W) 6 Tryz.underlying33 (by kernel_rfl) (by decide) (fun n cs x h => Fi.dec_op n cs x h) (hval 1 33 v1 rfl rfl) h1
 clear hA0 hval0
 refine (f_FirmHolds a0 A1 l1 c1 W (ld_of hL hsh) w0 le1 rd1 ok1).mono fun e W' ⟨he, bel⟩ => ?_
 subst he
 exact ⟨_, rfl, _, _, _, [], _, [], hW', trodAll_mk1 (shut_bool Tryz.underlying4 _), (trodAll_cons_mk (Below.trod laidOut (by kernel_rfl) (of_decide_eq_true (by kernel_rfl)) k0 bel lt0) (trodAll_cons_mk (Below.trod laidOut (by kernel_rfl) (of_decide_eq_true (by kernel_rfl)) k1 bel lt1) trodAll_mk0)), rfl, bel.frame _, fun h => by cases h⟩
theorem firmHolds_holds : Rows.FirmHoldsSaid :=
 OpenClaim.holds_of_wide 3 Tryz.f3 rfl rfl rfl rfl rfl rfl rfl ⟨rfl, rfl, rfl, rfl, rfl⟩ rfl rfl rfl rfl rfl (by kernel_rfl) Tryz.func3 (by kernel_rfl)
  (of_decide_eq_true (by kernel_rfl)) (by unfold Func.isWrapper; rw [if_neg (of_decide_eq_false (by kernel_rfl))]; exact ⟨rfl, rfl⟩)
  (fun os started H enc _ => lifted_FirmHolds os started H enc)
theorem firmHolds_card : Rows.FirmHoldsCardSaid :=
 Claim7.holds_tied_plain_at .later [] [.data, .data, .data, .data, .sentinel, .sentinel, .pinned] true (true, "88acf1750ace8782d3fb60b4a595bcd3a266a58c5b459dffb09f2450ea7c5b89") true
  firmHolds_holds (fun _ h => by cases h) (by kernel_rfl) (fun _ h => by cases h) firmHolds_row_tie rfl ⟨rfl, rfl⟩ (by kernel_rfl) rfl
  (fun f fn hf hfn => by
   obtain rfl : f = 3 := Option.some.inj ((show Tryz.prog.funcNamed "steeplejack/steeplejacklaw10.FirmHolds" = some 3 by kernel_rfl).symm.trans hf) |>.symm
   obtain rfl : fn = Tryz.f3 := (Option.some.inj (Tryz.func3.symm.trans hfn)).symm
   exact ⟨by kernel_rfl, fun j t ht => by
    rw [Tryz.params3] at ht
    have hm : t ∈ [32, 33] := by simpa using Array.mem_of_getElem? ht
    have hall : ([32, 33].all fun u => !Tryz.prog.wantsStandIn u) = true := by kernel_rfl
    exact (show Tryz.prog.wantsStandIn t = false by simpa using List.all_eq_true.1 hall t hm)⟩)
  (by kernel_rfl)
#print axioms firmHolds_card
end Go.Proofs.YtgemlddincnfcaaGreatDoor
