/- The parts of the proof, part 37. -/
import Derived.Test.YtgemlddincnfcaaGreatDoorQ0
import Derived.Test.YtgemlddincnfcaaGreatDoorQ32
import Derived.Test.YtgemlddincnfcaaGreatDoorQ36
set_option maxHeartbeats 16000000
set_option maxRecDepth 20000
set_option linter.unusedSimpArgs false
set_option linter.unusedVariables false
namespace Go.Proofs.YtgemlddincnfcaaGreatDoor.Fi
open Go.RowKit Go.Lib Tx
theorem l_TopAloft (x : LSu) (s : ByteArray) (w : World) (hL : LdW w) (hS : SuOk (fun _ => True) w x) (hle : I64 x.cl.le) (hgw : ∀ i ∈ x.gear.l, G.IW i) :
  Calls Tryz.prog 4 #[.agg x.cs.toArray, .string s] w fun e w' => e = .returned (.bool true) ∧ Below w.heap.size w w' := by
 have x0 := Blk.new w 32 x.cs.toArray
 have B0 := bl_alloc (below_refl w) (.cells x.cs.toArray 32)
 have HAW := Lib.hid (fun W (h : Below w.heap.size w W) => f_awake10 W (hL.on h))
 have HHV := Lib.hid (fun W (h : Below w.heap.size w W) => f_heavy10 x W (hS.on h) hle hgw)
 have HNW := Lib.hid (fun W (h : Below w.heap.size w W) (hm : Hvy x) => f_NewT x W (hS.on h) hm.w hm.v)
 have HLW := Lib.hid hL
 have HSU := Lib.hid (fun W (h : Below w.heap.size w W) => hS.on h)
 have hCs := su_cs x
 have lN : w.heap.size < (w.alloc (.cells x.cs.toArray 32)).heap.size := x0.lt
 clear hS hle hgw hL
 obtain ⟨CA, hCA⟩ : ∃ CA, x.cs.toArray = CA := ⟨_, rfl⟩
 have HCA := Lib.hid (show ∀ (i : Nat) (v : Value), x.cs[i]? = some v -> CA[i]? = some v from fun i v h => by rw [← hCA]; simpa using h)
 rw [hCA] at x0 B0 HHV HNW hCs lN ⊢
 clear hCA
 obtain ⟨s, rfl⟩ : ∃ l, s = bts l := by
  obtain ⟨⟨l⟩⟩ := s
  exact ⟨l, rfl⟩
 go_enter Tryz.func4, Tryz.ntmps4
 go_upto_region 1 with fail
 generalize w.alloc (.cells CA 32) = w1 at *
 by_cases hs : (2500 : Int) < ((bts s).size : Int)
 ·go_wp2_with (go_at_call 17; ((with_reducible refine (HAW.out _ B0).mono ?_); rintro e w3 ⟨rfl, hb3⟩))
  go_ret
  exact ⟨rfl, below_tr B0 hb3⟩
 have HDO := Lib.hid (fun (w2 w3 : World) (b : Nat) (L : LS) (T : Nat -> Prop) (h : Below w.heap.size w w2) (n1 : NwQ x w2 b L T w3) (hm : Hvy x) => (show Calls Tryz.prog 18 #[.pointer (some ⟨b, 0, none⟩), .string (bts s)] w3 fun e w' => ∃ S, e = .returned (.string S) ∧ ∃ L' T', Hid (Hd w2 w' b L' T' ∧ L'.val.x = x.val) from by
  have hd : Hd w2 w3 b L T := ⟨HLW.out.on h, n1.bel, n1.at_, n1.inv, by rw [n1.val]; exact safe_new _ hm.v, n1.ft⟩
  refine (f_DoA s hd.at_ hd.inv hd.env).mono ?_
  rintro e w' ⟨rfl, L', T', hv, hi, _, hf⟩
  have hsl : s.length <= 100000 := by rw [bts_size] at hs; omega
  exact ⟨_, rfl, L', T', Lib.hid ⟨hd.fut hf hi (by rw [hv]; exact doR_safe bearsT hsl hd.inv hd.safe), by rw [hv, doR_x, n1.val]; rfl⟩⟩))
 go_wp2_with (first
  | (refine wpList_load_rowG rfl 32 _ rfl w.heap.size rfl 32 CA (0, 0) _ x0 Tryz.underlying32 rfl hCs ?_) | (refine wpList_load_row rfl 32 _ rfl w.heap.size rfl 32 CA (0, 0) _ x2 Tryz.underlying32 rfl hCs ?_)
  | (go_at_call 16; go_loud ((with_reducible refine (HHV.out _ B0).mono ?_); rintro e w2 ⟨⟨r, rfl, hsm⟩, hb2⟩; have x2 := x0.below hb2 lN; have B2 := below_tr B0 hb2; have lN2 := Nat.lt_of_lt_of_le lN hb2.size; replace hsm := Lib.hid hsm; cases r))
  | (go_at_call 17; ((with_reducible refine (HAW.out _ B2).mono ?_); rintro e w3 ⟨rfl, hb3⟩))
  | (go_at_call 8; ((with_reducible refine (HNW.out w2 B2 (by first | exact hsm.out | exact hsm.out rfl | exact hsm.out trivial)).mono ?_); rintro e w3 ⟨b, L, T, rfl, n1⟩))
  | (go_at_call 18; ((with_reducible refine (HDO.out _ _ _ _ _ B2 n1.out (by first | exact hsm.out | exact hsm.out rfl | exact hsm.out trivial)).mono ?_); rintro e w4 ⟨S0, rfl, L4, T4, H4⟩)))
 rotate_left
 ·go_ret
  exact ⟨rfl, below_tr B2 hb3⟩
 have HM := Lib.hid (show Hvy x by first | exact hsm.out | exact hsm.out rfl | exact hsm.out trivial)
 clear hsm HHV HNW HDO n1 x0 lN L T hs
 have B24 := H4.out.1.bel
 have B4 := below_tr B2 B24
 have lb := Nat.lt_of_lt_of_le lN2 B24.size
 have x4 := x2.below B24 lN2
 obtain ⟨n, hn⟩ : ∃ n, n = x.stk.l.length := ⟨_, rfl⟩
 have hn8 : n <= 8 := by rw [hn]; exact HM.out.s
 have hjn : x.jnt.l.length = n := by
  have h1 := (vSu_parts HM.out.v).2.1
  have h2 : x.val.jnt.length = x.jnt.l.length := List.length_map ..
  have h3 : x.val.stk.length = x.stk.l.length := List.length_map ..
  omega
 have HXN := Lib.hid (show x.val.stk.length = n by rw [hn]; exact List.length_map ..)
 have HBC := Lib.hid (fun W (h : Below w4.heap.size w4 W) (i : Nat) (v : Value) (hv : x.cs[i]? = some v) => (show W.cell? ⟨w.heap.size, i, none⟩ = some v by rw [(x4.below h lb).cell]; exact HCA.out i v hv))
 have HB0 := Lib.hid (fun W (h : Below w4.heap.size w4 W) => (show W.cell? ⟨w.heap.size, 0, none⟩ = some (.slice x.stk.a n x.stk.c) by rw [hn]; exact HBC.out W h 0 _ rfl))
 have HB1 := Lib.hid (fun W (h : Below w4.heap.size w4 W) => (show W.cell? ⟨w.heap.size, 1, none⟩ = some (.slice x.jnt.a n x.jnt.c) by rw [← hjn]; exact HBC.out W h 1 _ rfl))
 have HBX := Lib.hid (fun W (h : Below w2.heap.size w2 W) => (show W.cell? ⟨w.heap.size, 0, none⟩ = some (.slice x.stk.a n x.stk.c) by rw [(x2.below h lN2).cell, hn]; exact HCA.out 0 _ rfl))
 have HN := Lib.hid (show n = L4.sites.l.length by
  have h1 := H4.out.1.inv.sl
  rw [H4.out.2] at h1
  have h2 : L4.val.sites.length = L4.sites.l.length := List.length_map ..
  rw [HXN.out] at h1
  omega)
 have HJN := Lib.hid hjn
 have hI := H4.out.1.inv
 have hSf := H4.out.1.safe
 have hx : x.val = L4.val.x := H4.out.2.symm
 have hcl := (vSu_parts HM.out.v).2.2.2.2.1
 have hle : -9223372036854775808 < x.cl.le ∧ x.cl.le <= 9223372036854775807 := by
  have h : vCl x.cl = true := hcl
  unfold vCl at h
  simp only [Bool.and_eq_true, decide_eq_true_eq] at h
  omega
 have hup := hSf.up
 rw [← hx] at hup
 have hup : upN L4.val <= x.men := hup
 have H0 := Lib.hid (fun W (h : Below w4.heap.size w4 W) => H4.out.1.below h)
 have HUP := Lib.hid (fun k s hs => Safe.up_at (L := L4) (k := k) (s := s) hI hSf hs)
 have HMB := Lib.hid (menN_bd hI.menL)
 have HMA := Lib.hid (menN_all L4)
 have HJE := Lib.hid (fun (k : Nat) (j : Sl Jt) (hj : x.jnt.l[k]? = some j) => (show jntA L4.val (k : Int) = j.l from jntA_eq hx hj))
 have HJV := Lib.hid (fun (j : Sl Jt) (hj : j ∈ x.jnt.l) => (show j.l.length <= 100000 from HM.out.w.jc j hj))
 have HCL := Lib.hid (show L4.val.x.cl = x.cl by rw [← hx]; rfl)
 have HSD := Lib.hid (fun s (h : s ∈ L4.sites.l) => (show s.dogs.l.length <= 300 from hI.sd s.val (List.mem_map.2 ⟨s, h, rfl⟩)))
 have HTK := Lib.hid (fun ys (h : List.map (fun y : Sl G.Lk => y.l) ys = L4.rigs.l.map (·.lk.l)) => taken_ok hI hSf h)
 have HJ := Lib.hid (fun W (h : Below w4.heap.size w4 W) => (HSU.out W (below_tr B4 h)).jnt.rd)
 have HJJ := Lib.hid (fun j (hj : j ∈ x.jnt.l) W (h : Below w4.heap.size w4 W) => ((HSU.out W (below_tr B4 h)).jnts j hj).rd)
 have hRI := hI.rl
 have HIL := Lib.hid hI.iw
 have hil : L4.items.l.length <= 100000 := by
  have h1 := hI.it
  unfold G.vldG at h1
  have h2 := of_decide_eq_true (Bool.and_eq_true_iff.1 h1).2
  have h3 : L4.val.items.length = L4.items.l.length := rfl
  omega
 have B44 := below_refl w4
 clear hI hSf hx hcl hjn hn x2 x4
 obtain ⟨L, hLL⟩ : ∃ L, L = L4 := ⟨_, rfl⟩
 subst hLL
 go_wp2
 go_loopw [7, 8] (fun a i wr => ∃ k : Nat, k <= n ∧ i = .int .i64 k ∧ a = .int .i64 (menN L.sites.l k) ∧ Below w4.heap.size w4 wr) (fun _ i _ => n - (RowKit.intOf i).toNat)
 case atStart => exact ⟨0, by omega, rfl, rfl, below_refl _⟩
 case round =>
  obtain ⟨k, hk, rfl, rfl, hbw⟩ := hrel
  rename World => wr
  have k0 := nn k
  have lwr := hbw.size
  have Bw := hbw
  have e0 := HB0.out wr hbw
  have hb0 := HMB.out k
  by_cases hlt : k < n
  ·have k1 : (k : Int) < (n : Int) := by omega
   have e1 := HB1.out wr hbw
   have e2 := HBC.out wr hbw 2 _ rfl
   have e3 := HBC.out wr hbw 3 _ rfl
   have e4 := HBC.out wr hbw 4 _ rfl
   have e5 := HBC.out wr hbw 5 _ rfl
   have e6 := HBC.out wr hbw 6 _ rfl
   have e7 := HBC.out wr hbw 7 _ rfl
   obtain ⟨s, hs⟩ := get_lt (l := L.sites.l) (k := k) (by rw [← HN.out]; exact hlt)
   obtain ⟨hm1, hmu⟩ := HUP.out k s hs
   have hH := H0.out wr Bw
   have HAL := Lib.hid (hH.at_.aloft hH.inv k hs)
   have hmb := hH.inv.menL s (List.mem_of_getElem? hs)
   have HST := Lib.hid (menN_step hs)
   by_cases hm0 : s.men = 0
   ·rw [hm0] at HAL HST
    rw [Int.add_zero] at HST
    have HS2 := Lib.hid HST.out.symm
    clear HST hmu hm1 hmb
    generalize menN L.sites.l k = N at *
    have hwr : IntKind.i64.wrap (N + 0) = N := by rw [Int.add_zero]; exact fits_wrap ⟨by omega, by omega⟩
    go_upto_region 13 with (go_at_call 19; ((with_reducible refine HAL.out.mono ?_); rintro e w3 ⟨rfl, hb3⟩))
    refine wp_region_noPanic ?_
    refine th w3 fun hS0 => ?_
    refine tq 0 ?_
    refine tq 1 ?_
    refine tq 2 ?_
    refine tq 3 ?_
    refine tq 4 ?_
    refine tq 5 ?_
    refine tv 6 ?_
    refine tv 7 ?_
    refine tv 8 ?_
    refine tv 9 ?_
    refine tv 10 ?_
    refine tv 11 ?_
    refine tv 12 ?_
    refine tv 13 ?_
    refine tv 14 ?_
    refine tv 15 ?_
    refine tv 16 ?_
    refine tv 17 ?_
    refine tv 18 ?_
    refine tv 19 ?_
    refine tv 20 ?_
    refine tv 21 ?_
    refine tv 22 ?_
    refine tv 23 ?_
    refine tv 24 ?_
    refine tv 25 ?_
    refine tv 26 ?_
    refine tv 27 ?_
    refine tq 28 ?_
    refine tq 29 ?_
    refine wpAnyH_done (by kernel_rfl) (NoPanic.normal ?_) _
    go_wp2
    go_roundw
    case rel => exact ⟨k + 1, by omega, by go_num, by first | (rw [← HS2.out]; done) | (rw [← HS2.out]; go_num), bl⟩
    case measure => simp [RowKit.intOf]; omega
   ·have q1 : 0 < s.men := by omega
    obtain ⟨hgo, hfe, hrg⟩ := hmu q1
    obtain ⟨j, hj⟩ := get_lt (l := x.jnt.l) (k := k) (by rw [HJN.out]; exact hlt)
    have hjm := List.mem_of_getElem? hj
    have HGO := Lib.hid (fun W (h : Below w4.heap.size w4 W) => (show Calls Tryz.prog 20 #[.pointer (some ⟨b, 0, none⟩)] W fun e w' => e = .returned (.bool true) ∧ Below W.heap.size W w' by
     have := (H0.out W h).at_.goes (H0.out W h).inv
     rw [hgo] at this; exact this))
    have HFE := Lib.hid (fun W (h : Below w4.heap.size w4 W) => (show Calls Tryz.prog 21 #[.pointer (some ⟨b, 0, none⟩), .int .i64 (k : Nat)] W fun e w' => e = .returned (.bool false) ∧ Below W.heap.size W w' by
     have := f_FelledA (H0.out W h).at_ (H0.out W h).inv k hs
     rw [hfe] at this; exact this))
    have HDG := Lib.hid (fun W (h : Below w4.heap.size w4 W) => f_DogsA (H0.out W h).at_ (H0.out W h).inv k hs)
    have hsd := HSD.out s (List.mem_of_getElem? hs)
    have HRT := Lib.hid (fun (y : Sl Int) (hy : y.l = s.dogs.l) W (h : Below w4.heap.size w4 W) (hr : Rd zC 1 W y.a y.l) => (show Calls Tryz.prog 22 #[clV x.cl, .slice j.a j.l.length j.c, .slice y.a y.l.length y.c] W fun e w' => e = .returned (.bool true) ∧ Below W.heap.size W w' by
     have := l_Right x.cl j.a j.l j.c y.a y.l y.c W hle (HJV.out j hjm) (by rw [hy]; unfold maxLen; omega) (HJJ.out j hjm W h) hr
     rw [hy, ← HJE.out k j hj, ← HCL.out, hrg] at this
     rw [hy, ← HJE.out k j hj, ← HCL.out]; exact this))
    have q2 : (s.men == 1) = false := beq_eq_false_iff_ne.2 hm1
    have q3 : decide (s.men < 0) = false := decide_eq_false (by omega)
    have q4 : decide (0 < s.men) = true := decide_eq_true q1
    have q5 : ¬ s.men < 0 := by omega
    clear hmu hgo hfe hrg hsd
    generalize s.men = m at *
    have HS2 := Lib.hid HST.out.symm
    clear HST
    generalize menN L.sites.l k = N at *
    have hwr : IntKind.i64.wrap (N + m) = N + m := fits_wrap ⟨by omega, by omega⟩
    go_upto_region 13 with (go_at_call 19; ((with_reducible refine HAL.out.mono ?_); rintro e w3 ⟨rfl, hb3⟩))
    have hz3 := hb3.size
    have hC3 := (bcell hb3).1
    have B3 := below_tr Bw hb3
    have g1 := (hC3 w.heap.size 1 (by omega)).trans e1
    have g2 := (hC3 w.heap.size 2 (by omega)).trans e2
    have g3 := (hC3 w.heap.size 3 (by omega)).trans e3
    have g4 := (hC3 w.heap.size 4 (by omega)).trans e4
    have g5 := (hC3 w.heap.size 5 (by omega)).trans e5
    have g6 := (hC3 w.heap.size 6 (by omega)).trans e6
    have g7 := (hC3 w.heap.size 7 (by omega)).trans e7
    obtain ⟨jb, jo, hja, ljb, hjc⟩ := (HJ.out w3 B3).get hj
    have gj : w3.cell? ⟨jb, jo + k, none⟩ = some (.slice j.a j.l.length j.c) := by have := hjc 0 _ rfl; simpa using this
    have l3 : w.heap.size < w3.heap.size := by omega
    rw [hja] at g1
    clear hjc hj hs hja e0 e1 e2 e3 e4 e5 e6 e7 hC3
    refine wp_region_noPanic ?_
    refine th w3 fun hS0 => ?_
    refine tq 0 ?_
    refine tq 1 ?_
    refine tq 2 ?_
    refine tq 3 ?_
    refine tq 4 ?_
    refine tq 5 ?_
    refine tq 6 ?_
    refine tr 7 fun K hK => ?_
    go_simp
    (go_at_call 20; ((with_reducible refine (HGO.out _ bl).mono ?_); rintro e w4 ⟨rfl, hb4⟩; obtain ⟨hc4, hf4, hz4⟩ := qz hb4))
    refine hK.out _ _ kq (fun hS1 => ?_)
    clear hK K
    try simp only [AP]
    refine tq 8 ?_
    refine tq 9 ?_
    refine tq 10 ?_
    refine tq 11 ?_
    refine tr 12 fun K hK => ?_
    go_simp
    (go_at_call 21; ((with_reducible refine (HFE.out _ bl).mono ?_); rintro e w5 ⟨rfl, hb5⟩; obtain ⟨hc5, hf5, hz5⟩ := qz hb5))
    refine hK.out _ _ kq (fun hS2 => ?_)
    clear hK K
    try simp only [AP]
    refine tq 13 ?_
    refine tq 14 ?_
    refine tq 15 ?_
    refine tq 16 ?_
    refine tq 17 ?_
    refine tq 18 ?_
    refine tq 19 ?_
    refine tq 20 ?_
    refine tq 21 ?_
    refine tq 22 ?_
    refine tq 23 ?_
    refine tr 24 fun K hK => ?_
    go_simp
    (go_at_call 23; ((with_reducible refine (HDG.out _ bl).mono ?_); rintro e w6 ⟨y, rfl, hy, hyr, hb6⟩; obtain ⟨hc6, hf6, hz6⟩ := qz hb6))
    refine hK.out _ _ kq (fun hS3 => ?_)
    clear hK K
    try simp only [AP]
    refine tr 25 fun K hK => ?_
    go_simp
    (go_at_call 22; ((with_reducible refine (HRT.out y hy _ bl (hyr.on bl)).mono ?_); rintro e w7 ⟨rfl, hb7⟩; obtain ⟨hc7, hf7, hz7⟩ := qz hb7))
    refine hK.out _ _ kq (fun hS4 => ?_)
    clear hK K
    try simp only [AP]
    refine tq 26 ?_
    refine tq 27 ?_
    refine tq 28 ?_
    refine tq 29 ?_
    refine wpAnyH_done (by kernel_rfl) (NoPanic.normal ?_) _
    go_wp2
    go_roundw
    case rel => exact ⟨k + 1, by omega, by go_num, by rw [← HS2.out], bl⟩
    case measure => simp [RowKit.intOf]; omega
  ·obtain rfl : n = k := by omega
   have hall : menN L.sites.l n <= x.men := by
    have h1 := HMA.out
    rw [← HN.out] at h1
    omega
   clear HMB
   generalize menN L.sites.l n = N at *
   have HRG := Lib.hid (f_RigsA (H0.out wr Bw).at_ (H0.out wr Bw).inv)
   have HRK := Lib.hid (fun (y : Sl G.Lk) (q : LRg) (hq : q ∈ L.rigs.l) (he : q.lk.l = y.l) => (show y.l.length <= 32 ∧ ∀ z ∈ y.l, G.LW z by
    have h1 := (H0.out wr Bw).inv.rk q.val (List.mem_map.2 ⟨q, hq, rfl⟩)
    have h2 : q.val.lk = y.l := he
    rw [h2] at h1
    exact ⟨h1.1, fun z hz => (h1.2 z hz).1⟩))
   obtain ⟨i0, hi, hi1, hi2, hi3⟩ := info_SlL
   go_wp2_with (go_at_call 11; ((with_reducible refine HRG.out.mono ?_); rintro e w6 ⟨ys, rfl, hys, hyo, hyi, hb6⟩))
   have hz6 := hb6.size
   have B6 := below_tr Bw hb6
   have l6 : w.heap.size < w6.heap.size := by omega
   have f0 : w6.cell? ⟨w.heap.size, 16, none⟩ = some (.int .i64 x.men) := HBC.out w6 B6 16 _ rfl
   obtain ⟨ht1, ht2, ht3⟩ := HTK.out ys.l hys
   have HT1 := Lib.hid ht1
   have HT2 := Lib.hid ht2
   have hyl : ys.l.length <= 50 := by
    have h2 := congrArg List.length hys
    rw [List.length_map, List.length_map] at h2
    have h3 : L.val.rigs.length = L.rigs.l.length := List.length_map ..
    omega
   have HYK := Lib.hid (fun y (hy : y ∈ ys.l) => (show y.l.length <= 32 ∧ ∀ z ∈ y.l, G.LW z by
    have h1 : y.l ∈ L.rigs.l.map (·.lk.l) := by rw [← hys]; exact List.mem_map.2 ⟨y, hy, rfl⟩
    obtain ⟨q, hq, he⟩ := List.mem_map.1 h1
    exact HRK.out y q hq he))
   have HYI := Lib.hid (fun y hy => (hyi y hy).rd)
   have HYO := Lib.hid hyo.rd
   have HYG := Lib.hid (show Alo w2 x.val (fun g => wr.heap.size <= g ∧ g < w6.heap.size) w6 b ys L T4 from
    ⟨H0.out w6 B6, H4.out.2, hyo.mono fun g hg h => ⟨h, hg⟩, fun g hg hr => by have := (H0.out wr Bw).at_.flt g hg; omega, fun g hg => hg.2⟩)
   have HYS := Lib.hid hys
   have HL := Lib.hid (fun k => hng_len (ys.l.take k))
   obtain ⟨A, l, cp0⟩ := ys
   dsimp only [Sl.v] at *
   clear ht1 ht2 hyo hyi hys HTK HRK HRG
   obtain ⟨ny, hny⟩ : ∃ ny, ny = l.length := ⟨_, rfl⟩
   rw [← hny]
   rw [← hny] at hyl
   have HNY := Lib.hid hny
   clear hny
   go_wp2
   go_loopw [10, 12] (fun v i wq => ∃ k : Nat, k <= ny ∧ i = .int .i64 k ∧ wq.ownsRow w6.heap.size 47 1 v (hngR (l.take k)).length (fl G.Rg.cs (hngR (l.take k))) ∧ Below w6.heap.size w6 wq) (fun _ i _ => ny - (RowKit.intOf i).toNat)
   case atStart => exact ⟨0, Nat.zero_le _, rfl, World.ownsRow_nil w6 _ _ _, below_refl _⟩
   case round =>
    obtain ⟨k, hk, rfl, hown, hbq⟩ := hrel
    rename World => wq
    obtain ⟨ad, cp, rfl⟩ := own_slice hown
    have hbvs := hbq.size
    have k0 := nn k
    by_cases hlt : k < ny
    ·have k1 : (k : Int) < (ny : Int) := by omega
     obtain ⟨y, hy⟩ := get_lt (l := l) (k := k) (by rw [← HNY.out]; exact hlt)
     obtain ⟨b1, o1, ha1, lb1, hc1⟩ := (HYO.out.on hbq).get hy
     have cx0 : wq.cell? ⟨b1, o1 + k, none⟩ = some (.slice y.a y.l.length y.c) := by have := hc1 0 _ rfl; simpa using this
     have hyk := (HYK.out y (List.mem_of_getElem? hy)).1
     have hhl : (hngR (l.take k)).length <= 50 := by have := HL.out k; rw [List.length_take] at this; omega
     subst ha1
     by_cases h0 : 0 < y.l.length
     ·have HST := Lib.hid (hng_yes hy h0)
      have h0' : (0 : Int) < (y.l.length : Int) := by omega
      clear hy hc1
      generalize hngR (l.take k) = R at *
      have hownA := own_on hown (bl_alloc (below_refl wq) (.cells #[.slice y.a y.l.length y.c] 47))
      go_wp2_with (at_builtin; refine wpList_append_own _ rfl _ _ 44 rfl w6.heap.size 47 i0 (.slice none 0 0) 1 24 (by kernel_rfl) hi hi1 hi2 hi3 rfl (by omega) _ _ _ rfl hownA ⟨wq.heap.size, 0, none⟩ 1 1 [.slice y.a y.l.length y.c] rfl rfl (cells_new wq [.slice y.a y.l.length y.c] 47) (by intro u hu; simp at hu; subst hu; rfl) (by unfold maxLen; omega) (by omega) (by simp; omega) ?_; intro v4 w4 hown4 hgrow4 _)
      have B4 := bl_app hbq hown hgrow4 (Nat.le_refl _) hbq.size
      go_roundw
      case rel => exact ⟨k + 1, by omega, by go_num, by rw [HST.out, fl_snoc, List.length_append]; exact hown4, B4⟩
      case measure => simp [RowKit.intOf]; omega
     ·have HST := Lib.hid (hng_no hy h0)
      have h0' : ¬ (0 : Int) < (y.l.length : Int) := by omega
      clear hy hc1
      go_wp2
      go_roundw
      case rel => exact ⟨k + 1, by omega, by go_num, by rw [HST.out]; exact hown, hbq⟩
      case measure => simp [RowKit.intOf]; omega
    ·obtain rfl : ny = k := by omega
     have HLT := Lib.hid (show l.take ny = l by rw [HNY.out, List.take_length])
     rw [HLT.out] at hown ⊢
     have Bq := below_tr B6 hbq
     have HGE := Lib.hid (f_GearA (H0.out wq Bq).at_ hil)
     have fq := ((bcell hbq).1 w.heap.size 16 (by omega)).trans f0
     have HRO := Lib.hid (show G.RgS wq (hngR l) from fun r hr => by
      obtain ⟨y, hy, _, rfl⟩ := hng_mem hr
      have h1 := HYK.out y hy
      exact ⟨⟨(HYI.out y hy).on hbq, by unfold maxLen; show y.l.length <= _; omega, h1.2⟩, by show y.l.length <= 40; omega⟩)
     have HHO := Lib.hid (own_rd' (enc := G.Rg.cs) (sz := 1) (l := hngR l) (c := cp) (fun _ => rfl) hown)
     have HTA := Lib.hid (fun (y : Sl G.It) (hy : y.l = L.items.l) W (h : Below wq.heap.size wq W) (hr : Rd G.It.cs 4 W y.a y.l) => (show Calls Tryz.prog 24 #[.slice y.a y.l.length y.c, .slice ad (hngR l).length cp] W fun e w' => ∃ A' c', e = .returned (.tuple #[.slice A' 0 c', .int .i64 0]) ∧ Below W.heap.size W w' by
      have := G.p_Taken y.a ad y.l (hngR l) y.c cp W (by rw [hy]; exact hil) (by omega) hr (by rw [hy]; exact HIL.out) (HHO.out.on h) (HRO.out.on h)
      rw [hy, HT1.out, HT2.out] at this
      rw [hy]
      refine this.mono ?_
      rintro e w' ⟨v, rfl, ⟨A', c', rfl, _⟩, hb⟩
      exact ⟨A', c', rfl, hb⟩))
     have hal : decide (x.men < N) = false := decide_eq_false (by omega)
     have hal2 : ¬ x.men < N := by omega
     clear hown HRO HHO
     go_upto_region 25 with (first | (go_at_call 9; ((with_reducible refine HGE.out.mono ?_); rintro e w7 ⟨y5, rfl, hy5, ho5, _, _, hb7⟩; have hr5 := own_rd' G.It.cs_len ho5)) | (go_at_call 24; ((with_reducible refine (HTA.out y5 hy5 _ hb7 hr5).mono ?_); rintro e w8 ⟨A6, c6, rfl, hb8⟩; have f6 := ((bcell hb8).1 w.heap.size 16 (by have := hb7.size; omega)).trans (((bcell hb7).1 w.heap.size 16 (by omega)).trans fq))))
     have B68 := below_tr hbq (below_tr hb7 hb8)
     have B48 := below_tr B6 B68
     have HA8 := Lib.hid (HYG.out.below B68)
     have HRL := Lib.hid HA8.out.hd.inv.rl
     have HLL := Lib.hid HA8.out.hd.inv.ll
     have hll : L.lines.l.length <= 2000 := HLL.out
     have HLN := Lib.hid (show Calls Tryz.prog 25 #[.pointer (some ⟨b, 0, none⟩)] w8 fun e w' => ∃ A' c', e = .returned (.slice A' L.lines.l.length c') ∧ Below w8.heap.size w8 w' from by
      refine (f_Lines HA8.out.hd.at_ (by omega)).mono ?_
      rintro e w' ⟨y, rfl, hy, _, _, _, hb⟩
      exact ⟨y.a, y.c, by rw [← hy], hb⟩)
     have HNO := Lib.hid (fun W (h : Below w8.heap.size w8 W) => (show Calls Tryz.prog 14 #[.pointer (some ⟨b, 0, none⟩)] W fun e w' => e = .returned (.int .i64 L.day) ∧ W = w' from f_NowA (HA8.out.hd.at_.on h)))
     have hdy : L.day <= 100000 := HA8.out.hd.inv.d1
     clear hb7 hb8 f6 fq f0 HTA HGE hbq hal hal2 hall HIL
     by_cases hb : (1900 : Int) < (L.lines.l.length : Int)
     ·go_wp2_with (first | (go_at_call 25; ((with_reducible refine HLN.out.mono ?_); rintro e w9 ⟨A9, c9, rfl, hb9⟩)) | (go_at_call 17; ((with_reducible refine (HAW.out _ (below_tr B4 (below_tr B48 hb9))).mono ?_); rintro e w10 ⟨rfl, hb10⟩)))
      go_ret
      exact ⟨rfl, below_tr (below_tr B4 (below_tr B48 hb9)) hb10⟩
     by_cases hd : L.day = 100000
     ·have hd2 : (L.day == 100000) = true := by rw [hd]; rfl
      go_wp2_with (first | (go_at_call 25; ((with_reducible refine HLN.out.mono ?_); rintro e w9 ⟨A9, c9, rfl, hb9⟩)) | (go_at_call 14; ((with_reducible refine (HNO.out _ hb9).mono ?_); rintro e w' ⟨rfl, rfl⟩)) | (go_at_call 17; ((with_reducible refine (HAW.out _ (below_tr B4 (below_tr B48 hb9))).mono ?_); rintro e w10 ⟨rfl, hb10⟩)))
      go_ret
      exact ⟨rfl, below_tr (below_tr B4 (below_tr B48 hb9)) hb10⟩
     have hd2 : (L.day == 100000) = false := beq_eq_false_iff_ne.2 hd
     go_wp2_with (first | (go_at_call 25; ((with_reducible refine HLN.out.mono ?_); rintro e w9 ⟨A9, c9, rfl, hb9⟩)) | (go_at_call 14; ((with_reducible refine (HNO.out _ hb9).mono ?_); rintro e w' ⟨rfl, rfl⟩)))
     have HX0 := Lib.hid (show L.val.lines.length <= 1900 ∧ L.val.day < 100000 ∧ L.val.sites.length = n by
      refine ⟨?_, ?_, ?_⟩
      ·show L.lines.l.length <= _
       omega
      ·show L.day < _
       omega
      ·rw [HN.out]; exact List.length_map ..)
     have HQ := Lib.hid (show L.val.rigs.length = ny ∧ ∀ i : Nat, ∀ y, l[i]? = some y -> ∃ r, L.val.rigs[i]? = some r ∧ r.lk = y.l by
      have h1 := HYS.out
      have h2 : L.val.rigs = L.rigs.l.map LRg.val := rfl
      have h3 := congrArg List.length h1
      rw [List.length_map, List.length_map] at h3
      refine ⟨by rw [h2, List.length_map, HNY.out]; exact h3.symm, fun i y hy => ?_⟩
      obtain ⟨r, hr⟩ := get_lt (l := L.rigs.l) (k := i) (by have := (List.getElem?_eq_some_iff.1 hy).1; omega)
      have h4 : (l.map (·.l))[i]? = (L.rigs.l.map (·.lk.l))[i]? := by rw [h1]
      rw [List.getElem?_map, List.getElem?_map, hy, hr] at h4
      exact ⟨r.val, by rw [h2, List.getElem?_map, hr]; rfl, (Option.some.inj h4).symm⟩)
     have HY50 := Lib.hid hyl
     have HA9 := Lib.hid (HA8.out.below hb9)
     have B29 := HA9.out.hd.bel
     obtain ⟨V0, hV0⟩ : ∃ V0, V0 = L.val := ⟨_, rfl⟩
     have HD0 := Lib.hid (show Dn V0 L.val 0 by rw [hV0]; exact Dn.zero HA9.out.hd.inv HA9.out.hd.safe)
     rw [← hV0] at HX0 HQ
     have HLE := Lib.hid (fun (R : Nat -> Prop) (W : World) (L' : LS) (T' : Nat -> Prop) (h : Alo w2 x.val R W b ⟨A, l, cp0⟩ L' T') => h.len HXN.out)
     generalize hRR : (fun g => wr.heap.size <= g ∧ g < w6.heap.size) = RR at *
     clear hRR HA8 HRL HLL hll HLN HNO hdy hb hd hd2 HYG HYS HT1 HT2 HL HYI HYO HYK HN
     go_loopw [15] (fun i wa => ∃ k' : Nat, k' <= n ∧ i = .int .i64 k' ∧ ∃ L' T', Hid (Alo w2 x.val RR wa b ⟨A, l, cp0⟩ L' T' ∧ Dn V0 L'.val k')) (fun i _ => n - (RowKit.intOf i).toNat)
     case atStart => exact ⟨0, Nat.zero_le _, rfl, L, T4, Lib.hid ⟨HA9.out, HD0.out⟩⟩
     case round =>
      obtain ⟨j, hj, rfl, L', T', HA⟩ := hrel
      rename World => wa
      have j0 := nn j
      have Ba := HA.out.1.hd.bel
      have a0 := HBX.out wa Ba
      have lwa := Nat.lt_of_lt_of_le lN2 Ba.size
      have hsl := HLE.out _ _ _ _ HA.out.1
      by_cases hjn : j < n
      ·have j1 : (j : Int) < (n : Int) := by omega
       obtain ⟨s, hs⟩ := get_lt (l := L'.sites.l) (k := j) (by omega)
       have HAL := Lib.hid (HA.out.1.hd.at_.aloft HA.out.1.hd.inv j hs)
       have HLI := Lib.hid (show L'.val.lines.length < 2000 by have h1 := HA.out.2.ll; have h2 := HX0.out.1; omega)
       have HSP := Lib.hid (fun W (h : Below wa.heap.size wa W) (h0 : 0 < s.men) => (HA.out.1.below h).down HA.out.2 hs h0 HLI.out)
       have HSK := Lib.hid (fun (h0 : ¬ 0 < s.men) => HA.out.2.skip (vsite hs) h0)
       by_cases h0 : 0 < s.men
       ·have q4 : decide (0 < s.men) = true := decide_eq_true h0
        clear hs
        generalize s.men = m at *
        go_wp2_with (first | (go_at_call 19; ((with_reducible refine HAL.out.mono ?_); rintro e w11 ⟨rfl, hb11⟩)) | (go_at_call 26; ((with_reducible refine (HSP.out _ hb11 h0).mono ?_); rintro e w12 ⟨rfl, L2, T2, HA2⟩)))
        go_roundw
        case rel => exact ⟨j + 1, by omega, by go_num, L2, T2, HA2⟩
        case measure => simp [RowKit.intOf]; omega
       ·have q4 : decide (0 < s.men) = false := decide_eq_false h0
        have HK1 := Lib.hid (HSK.out h0)
        clear hs
        generalize s.men = m at *
        go_wp2_with (go_at_call 19; ((with_reducible refine HAL.out.mono ?_); rintro e w11 ⟨rfl, hb11⟩))
        go_roundw
        case rel => exact ⟨j + 1, by omega, by go_num, L', T', Lib.hid ⟨HA.out.1.below hb11, HK1.out⟩⟩
        case measure => simp [RowKit.intOf]; omega
      ·obtain rfl : n = j := by omega
       have HDY := Lib.hid (HA.out.1.day (x0 := V0) (by rw [HX0.out.2.2]; exact HA.out.2) (by have h1 := HA.out.2.ll; have h2 := HX0.out.1; omega) (by rw [HA.out.2.day]; exact HX0.out.2.1))
       have HGO := Lib.hid (fun (w' : World) (L2 : LS) (T2 : Nat -> Prop) (h : Alo w2 x.val RR w' b ⟨A, l, cp0⟩ L2 T2) (Q : List Rig) (N : Nat) (hC : Calm Q N L2.val 0) => (show Calls Tryz.prog 20 #[.pointer (some ⟨b, 0, none⟩)] w' fun e w'' => e = .returned (.bool true) ∧ Below w'.heap.size w' w'' by
        have := h.hd.at_.goes h.hd.inv
        rw [hC.goes] at this
        exact this))
       have HNN := Lib.hid (show V0.lines.length + V0.sites.length + 1 <= 1909 by have h1 := HX0.out; omega)
       generalize V0.lines.length + V0.sites.length + 1 = NN at *
       clear HA
       go_wp2_with (first | (go_at_call 27; ((with_reducible refine HDY.out.mono ?_); rintro e w11 ⟨rfl, L2, T2, HA2⟩)) | (go_at_call 20; ((with_reducible refine (HGO.out _ _ _ HA2.out.1 _ _ HA2.out.2).mono ?_); rintro e w12 ⟨rfl, hb12⟩)))
       have HA3 := Lib.hid (show Alo w2 x.val RR w12 b ⟨A, l, cp0⟩ L2 T2 ∧ Calm V0.rigs NN L2.val 0 from ⟨HA2.out.1.below hb12, HA2.out.2⟩)
       clear HDY HGO HA2 hb12
       go_loopw [17] (fun i wa => ∃ k' : Nat, k' <= ny ∧ i = .int .i64 k' ∧ ∃ L' T', Hid (Alo w2 x.val RR wa b ⟨A, l, cp0⟩ L' T' ∧ Calm V0.rigs NN L'.val k')) (fun i _ => ny - (RowKit.intOf i).toNat)
       case atStart => exact ⟨0, Nat.zero_le _, rfl, L2, T2, HA3⟩
       case round =>
        clear HA3 L2 T2
        obtain ⟨i, hi', rfl, L2, T2, HB⟩ := hrel
        rename World => wb
        have i0' : (0 : Int) <= (i : Int) := Int.natCast_nonneg _
        by_cases hik : i < ny
        ·have i1 : (i : Int) < (ny : Int) := by omega
         obtain ⟨y, hy⟩ := get_lt (l := l) (k := i) (by rw [← HNY.out]; exact hik)
         obtain ⟨b1, o1, ha1, lb1, hc1⟩ := HB.out.1.got.rd.get hy
         have cx0 : wb.cell? ⟨b1, o1 + i, none⟩ = some (.slice y.a y.l.length y.c) := by have := hc1 0 _ rfl; simpa using this
         dsimp only at ha1
         have HEX := Lib.hid (show ∃ r, L2.rigs.l[i]? = some r ∧ r.lk.l = y.l by
          obtain ⟨r, hr, he⟩ := HQ.out.2 i y hy
          rw [← HB.out.2.hi i (Nat.le_refl _)] at hr
          have h2 : L2.val.rigs = L2.rigs.l.map LRg.val := rfl
          rw [h2, List.getElem?_map] at hr
          cases hq : L2.rigs.l[i]? with
          | none => rw [hq] at hr; cases hr
          | some q =>
           rw [hq] at hr
           have h3 : q.val = r := Option.some.inj hr
           exact ⟨q, rfl, by rw [← he, ← h3]; rfl⟩)
         obtain ⟨q, hq, he⟩ := HEX.out
         have HLI := Lib.hid (show L2.val.lines.length < 2000 by have h1 := HB.out.2.ll; have h2 := HNN.out; have h4 := HY50.out; omega)
         clear hc1 hy HEX
         subst ha1
         by_cases h0 : 0 < y.l.length
         ·have q4 : (0 : Int) < (y.l.length : Int) := by omega
          have HST := Lib.hid (HB.out.1.strike HB.out.2 hq (by rw [he]; exact h0) HLI.out)
          clear hq he
          go_wp2_with (go_at_call 28; ((with_reducible refine HST.out.mono ?_); rintro e w13 ⟨rfl, L3, T3, HA3⟩))
          go_roundw
          case rel => exact ⟨i + 1, by omega, by go_num, L3, T3, HA3⟩
          case measure => simp [RowKit.intOf]; omega
         ·have q4 : ¬ (0 : Int) < (y.l.length : Int) := by omega
          have HK1 := Lib.hid (HB.out.2.skip (vrig hq) (by show ¬ 0 < q.lk.l.length; rw [he]; exact h0))
          clear hq he
          go_wp2
          go_roundw
          case rel => exact ⟨i + 1, by omega, by go_num, L2, T2, Lib.hid ⟨HB.out.1, HK1.out⟩⟩
          case measure => simp [RowKit.intOf]; omega
        ·obtain rfl : ny = i := by omega
         have HBR := Lib.hid (show Bare (NN + V0.rigs.length) L2.val 0 from Calm.bare (by rw [HQ.out.1]; exact HB.out.2))
         have HNR := Lib.hid (show NN + V0.rigs.length <= 1959 by have h2 := HNN.out; have h3 := HQ.out.1; have h4 := HY50.out; omega)
         generalize NN + V0.rigs.length = NR at *
         have HA5 := Lib.hid HB.out.1
         clear HB
         go_wp2
         go_loopw [18] (fun i wa => ∃ k' : Nat, k' <= n ∧ i = .int .i64 k' ∧ ∃ L' T', Hid (Alo w2 x.val RR wa b ⟨A, l, cp0⟩ L' T' ∧ Bare NR L'.val k')) (fun i _ => n - (RowKit.intOf i).toNat)
         case atStart => exact ⟨0, Nat.zero_le _, rfl, L2, T2, Lib.hid ⟨HA5.out, HBR.out⟩⟩
         case round =>
          clear HA5 HBR L2 T2
          obtain ⟨v, hv', rfl, L2, T2, HC⟩ := hrel
          rename World => wc
          have v0 := nn v
          have Bc := HC.out.1.hd.bel
          have g0 := HBX.out wc Bc
          have lwc := Nat.lt_of_lt_of_le lN2 Bc.size
          have hsl2 := HLE.out _ _ _ _ HC.out.1
          by_cases hvj : v < n
          ·have v1 : (v : Int) < (n : Int) := by omega
           obtain ⟨s, hs⟩ := get_lt (l := L2.sites.l) (k := v) (by omega)
           have HFL := Lib.hid (f_FelledA HC.out.1.hd.at_ HC.out.1.hd.inv v hs)
           have HLI := Lib.hid (show L2.val.lines.length < 2000 by have h1 := HC.out.2.ll; have h2 := HNR.out; omega)
           cases hfl : s.fel
           ·have HCT := Lib.hid (fun W (h : Below wc.heap.size wc W) => (HC.out.1.below h).cut HC.out.2 hs hfl HLI.out)
            have HF2 := Lib.hid (fun (W : World) (L' : LS) (T' : Nat -> Prop) (E : Int) (d : Bool) (hd : decide (E = 0) = d) (h : Alo w2 x.val RR W b ⟨A, l, cp0⟩ L' T' ∧ Bare NR L'.val (v + 1) ∧ ∃ t, L'.sites.l[v]? = some t ∧ t.fel = decide (E = 0)) => (show Calls Tryz.prog 21 #[.pointer (some ⟨b, 0, none⟩), .int .i64 (v : Nat)] W fun e w' => e = .returned (.bool d) ∧ Below W.heap.size W w' from by
             obtain ⟨h1, h2, t, h3, h4⟩ := h
             have := f_FelledA h1.hd.at_ h1.hd.inv v h3
             rw [h4, hd] at this
             exact this))
            rw [hfl] at HFL
            clear hs hfl
            go_wp2_with (first | (go_at_call 21; ((with_reducible refine HFL.out.mono ?_); rintro e w14 ⟨rfl, hb14⟩)) | (go_at_call 29; go_loud ((with_reducible refine (HCT.out _ hb14).mono ?_); rintro e w15 ⟨E, rfl, hE, L3, T3, HA3⟩; rcases hE with rfl | rfl)) | (go_at_call 21; ((with_reducible refine (HF2.out _ _ _ 0 true (by decide) HA3.out).mono ?_); rintro e w16 ⟨rfl, hb16⟩)) | (go_at_call 21; ((with_reducible refine (HF2.out _ _ _ 11 false (by decide) HA3.out).mono ?_); rintro e w16 ⟨rfl, hb16⟩)))
            all_goals
             go_roundw
             case rel => exact ⟨v + 1, by omega, by go_num, L3, T3, Lib.hid ⟨HA3.out.1.below hb16, HA3.out.2.1⟩⟩
             case measure => simp [RowKit.intOf]; omega
           ·rw [hfl] at HFL
            clear hs hfl
            go_wp2_with (go_at_call 21; ((with_reducible refine HFL.out.mono ?_); rintro e w14 ⟨rfl, hb14⟩))
            go_roundw
            case rel => exact ⟨v + 1, by omega, by go_num, L2, T2, Lib.hid ⟨HC.out.1.below hb14, HC.out.2.skip⟩⟩
            case measure => simp [RowKit.intOf]; omega
          ·obtain rfl : n = v := by omega
           go_wp2_with (go_at_call 17; ((with_reducible refine (HAW.out _ (below_tr B2 Bc)).mono ?_); rintro e w17 ⟨rfl, hb17⟩))
           go_ret
           exact ⟨rfl, below_tr (below_tr B2 Bc) hb17⟩
end Go.Proofs.YtgemlddincnfcaaGreatDoor.Fi
namespace Go.Proofs.YtgemlddincnfcaaGreatDoor.Fi
open Go.ChangeShapes Go.WideShapes Go.ChangeAt Go.RowKit Go.Deep Go.Joins Tx
theorem i64_of {n : Int} (h : (Lit.int .i64 n).wf = true) : -9223372036854775808 <= n ∧ n <= 9223372036854775807 := by
 have h1 : (decide (IntKind.i64.min <= n) && decide (n <= IntKind.i64.max)) = true := h
 rw [show IntKind.i64.min = -9223372036854775808 from rfl, show IntKind.i64.max = 9223372036854775807 from rfl, Bool.and_eq_true, decide_eq_true_eq, decide_eq_true_eq] at h1
 exact ⟨h1.1, h1.2⟩
section
variable {H : Type} {enc : TypeId × Value -> H} {P : Program} {w : World} {base : Nat} {spare : Nat -> Bool} {held : Bool}
theorem open_rdin {α : Type} (encα : α -> List Value) (ok : α -> Prop) (sz : Nat) {t e : TypeId} {n0 : Nat} {cs : List Value} {x : DataW H × List MemPlace} (ht : P.underlying t = some (.slice e)) (hC : P.cellsOf e = sz) (hz : 0 < sz)
  (hdec : ∀ n cs x, DataW.trod enc P w base spare held n e cs = some x -> ∃ a : α, cs = encα a ∧ ok a)
  (hf : DataW.trod enc P w base spare held n0 t cs = some x) :
  ∃ (A : Option Addr) (l : List α) (c : Nat), cs = [.slice A l.length c] ∧ Rd encα sz w A l ∧ l.length <= maxLen ∧ (∀ a ∈ l, ok a) ∧ l.length <= c ∧ c <= maxLen := by
 rcases open_slice ht hf with ⟨hcs, _⟩ | ⟨a, n, c, m, n', D, Pl, hcs, _, hl, hm, hmm, _, hi⟩
 ·exact ⟨none, [], 0, hcs, Rd.nil_, by simp, by simp, by simp, by simp⟩
 ·rw [hC] at hi
  have hlm : n <= m := by rw [hmm]; split <;> omega
  have hex : ∀ i, i < n -> ∃ y : α, ok y ∧ ∀ j u, (encα y)[j]? = some u -> w.cell? (a.add (i * sz + j)) = some u := fun i hin => by
   obtain ⟨cs', hc, htr⟩ := hi i (by omega)
   obtain ⟨y, rfl, hy⟩ := hdec _ _ _ htr
   obtain ⟨_, hlen, hat⟩ := World.cells?_some hc
   refine ⟨y, hy, fun j u hu => ?_⟩
   have hj : j < sz := by
    rcases Nat.lt_or_ge j sz with h1 | h1
    ·exact h1
    ·rw [List.getElem?_eq_none (by omega)] at hu; cases hu
   have := hat j hj
   rw [hu] at this
   rwa [Go.Deep.add_add] at this
  obtain ⟨l, hll, hlp⟩ := list_of n hex
  subst hll
  refine ⟨some a, l, c, hcs, fun hne => ?_, by omega, fun y hy => ?_, hl, hm⟩
  ·have hl0 : 0 < l.length := List.length_pos_iff.2 hne
   obtain ⟨cs', hc, htr⟩ := hi 0 (by omega)
   obtain ⟨_, hlen, hat⟩ := World.cells?_some hc
   have hc0 := hat 0 hz
   rw [List.getElem?_eq_getElem (by omega)] at hc0
   simp only [Nat.zero_mul] at hc0
   have hspot : a.spot = none := by
    have hs := World.cell?_spot hc0
    simpa [Addr.add] using hs
   obtain ⟨b, off, spot⟩ := a
   simp only at hspot
   subst hspot
   have hb := World.block_lt_of_cell? w _ hc0
   refine ⟨b, off, rfl, by simpa [Addr.add] using hb, fun k x hx j v hv => ?_⟩
   have := (hlp k x hx).2 j v hv
   rw [addr_add0] at this
   rw [Nat.add_assoc]; exact this
  ·obtain ⟨i, hi', hiy⟩ := List.getElem_of_mem hy
   exact (hlp i y (by rw [List.getElem?_eq_getElem hi', hiy])).1
end
section
variable {H : Type} {enc : TypeId × Value -> H} {w : World} {base : Nat} {spare : Nat -> Bool} {held : Bool}
structure OpIn (w : World) (o : Op) : Prop where
 k : o.k < 256
 st : I64 o.st
 n : I64 o.n
 nm : o.nm.size <= maxLen
 rk : Rd G.Lk.cs 2 w o.lk.a o.lk.l
 lk : ∀ k ∈ o.lk.l, G.LW k
 lc : o.lk.l.length <= o.lk.c ∧ o.lk.c <= maxLen
 rd : Rd zC 1 w o.ld.a o.ld.l
 ld : ∀ z ∈ o.ld.l, I64 z
 dc : o.ld.l.length <= o.ld.c ∧ o.ld.c <= maxLen
end
theorem OpIn.ok {w : World} {o : Op} (h : OpIn w o) : OpOk w o := ⟨h.rk, Nat.le_trans h.lc.1 h.lc.2, fun k hk => (h.lk k hk).1, h.nm, h.rd, Nat.le_trans h.dc.1 h.dc.2⟩
end Go.Proofs.YtgemlddincnfcaaGreatDoor.Fi
