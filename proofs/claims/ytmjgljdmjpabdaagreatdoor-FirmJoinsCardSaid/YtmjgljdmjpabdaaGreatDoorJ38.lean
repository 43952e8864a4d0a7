/- The parts of the proof, part 38. -/
import Derived.Test.YtmjgljdmjpabdaaGreatDoorJ0
import Derived.Test.YtmjgljdmjpabdaaGreatDoorJ35
import Derived.Test.YtmjgljdmjpabdaaGreatDoorJ37
set_option linter.unusedSimpArgs false
set_option linter.unusedVariables false
namespace Go.Proofs.YtmjgljdmjpabdaaGreatDoor.Fi
open Go.RowKit Go.Lib Tx
theorem small_ok : vSu smallU = true := by decide +kernel
theorem f_NewS {x : LSu} (w w1 : World) (hL : LdW w) (hb : Below w.heap.size w w1) (hv : x.val = smallU) (hS : SuOk (fun _ => True) w1 x) (hW : SuW x) :
  Calls Tryz.prog 7 #[.agg x.cs.toArray] w1 fun e w2 => ∃ b L T, e = .returned (.tuple #[.pointer (some ⟨b, 0, none⟩), .int .i64 0]) ∧ FirmAt w2 b L T ∧ L.val = new smallU ∧ Inv L.val ∧ Env w2 b L ∧ Below w.heap.size w w2 ∧ ∀ g, Foot b L g → w.heap.size ≤ g := by
 refine (f_New x w1 hS hW).mono ?_
 rintro e w2 ⟨hb2, hn⟩
 rw [hv, small_ok] at hn
 obtain ⟨b, L, T, rfl, hF, hval, _, hft⟩ := hn
 exact ⟨b, L, T, rfl, hF, hval, by rw [hval]; exact inv_new small_ok, ⟨w1, hL.on hb, hb2, hft⟩, below_tr hb hb2, fun g hg => Nat.le_trans hb.size (hft g hg)⟩
theorem no_bears : ((cutZ 10 scrT).all fun t => !((cut t [32]).1 == [98, 101, 97, 114, 115])) = true := by decide +kernel
theorem f_DoS {b : Nat} {L : LS} {T : Nat → Prop} {w : World} (hF : FirmAt w b L T) (hI : Inv L.val) (hE : Env w b L) :
  Calls Tryz.prog 8 #[.pointer (some ⟨b, 0, none⟩), .string (bts scrT)] w (ScrP noBr b L T scrT w) :=
 f_Do scrT hF hI hE (fun _ _ => by simp [noBr]) (fun ⟨t, ht, h⟩ => by
  have := List.all_eq_true.1 no_bears t ht
  rw [h] at this
  exact absurd this (by decide))
structure Op where
 k : Nat
 st : Int
 n : Int
 nm : ByteArray
 lk : Sl G.Lk
 ld : Sl Int
abbrev Op.cs (o : Op) : List Value := [.int .u8 (o.k : Nat), .int .i64 o.st, .int .i64 o.n, .string o.nm, o.lk.v, o.ld.v]
theorem Op.cs_len (o : Op) : o.cs.length = 6 := rfl
structure OpOk (w : World) (o : Op) : Prop where
 rd : Rd G.Lk.cs 2 w o.lk.a o.lk.l
 ll : o.lk.l.length ≤ maxLen
 ln : ∀ k ∈ o.lk.l, k.nm.size ≤ maxLen
 nm : o.nm.size ≤ maxLen
 rl : Rd zC 1 w o.ld.a o.ld.l
 dl : o.ld.l.length ≤ maxLen
theorem small_first {L : LS} (h : L.val = (doR noBr (new smallU) scrT).2) : L.lines.l.length = 8 ∧ ∃ e, L.lines.l[0]? = some e ∧ e = ⟨0, 0, ⟨#[100, 111, 103, 32, 48]⟩, hsh [48, 32, 48, 32, 48, 32, 100, 111, 103, 32, 48]⟩ := by
 obtain ⟨_, h2, h3⟩ := awake_ev
 have hl : L.lines.l = (doR noBr (new smallU) scrT).2.lines := by rw [← h]; rfl
 rw [← hl] at h2 h3
 refine ⟨h2, ?_⟩
 rw [List.head?_map] at h3
 cases hl0 : L.lines.l with
 | nil => rw [hl0] at h2; simp at h2
 | cons e r =>
  rw [hl0] at h3
  obtain ⟨n, d, t, s⟩ := e
  simp only [List.head?_cons, Option.map_some, Option.some.injEq, Prod.mk.injEq] at h3
  obtain ⟨e1, e2, e3, e4⟩ := h3
  refine ⟨_, rfl, ?_⟩
  subst e1 e2 e4
  rw [En.mk.injEq]
  refine ⟨rfl, rfl, ?_, rfl⟩
  obtain ⟨⟨l⟩⟩ := t
  dsimp only at e3
  subst e3
  rfl
theorem small_out : bts (doR noBr (new smallU) scrT).1 = ({ data := ([101, 114, 114, 111, 114, 32, 49, 48, 10, 111, 107, 10, 48, 10, 111, 107, 10, 101, 114, 114, 111, 114, 32, 49, 50, 10, 111, 107, 10, 101, 114, 114, 111, 114, 32, 49, 49, 10, 101, 114, 114].append [111, 114, 32, 49, 48, 10, 111, 107, 10, 111, 107, 10, 101, 114, 114, 111, 114, 32, 49, 49, 10, 111, 107, 10, 111, 107, 10, 49, 48, 55, 10, 49, 48, 48, 48, 10, 49, 10, 121, 101, 115, 10]).toArray } : ByteArray) := by rw [awake_ev.1]; rfl
set_option maxHeartbeats 4000000 in
set_option maxRecDepth 20000 in
theorem f_awake (w : World) (hL : LdW w) : Calls Tryz.prog 5 #[] w fun e w' => e = .returned (.bool true) ∧ Below w.heap.size w w' := by
 have HSM := Lib.hid (f_small w)
 have HNW := Lib.hid (fun (x : LSu) (w1 : World) hb hv hS hW => f_NewS (x := x) w w1 hL hb hv hS hW)
 have HDO := Lib.hid (fun (b : Nat) (L : LS) (T : Nat → Prop) (W : World) hF hI hE => f_DoS (b := b) (L := L) (T := T) (w := W) hF hI hE)
 have HLI := Lib.hid (fun W => r_LineNil W)
 have HOUT := Lib.hid small_out
 have HFST := Lib.hid (fun (L : LS) h => small_first (L := L) h)
 generalize hH : hsh [48, 32, 48, 32, 48, 32, 100, 111, 103, 32, 48] = H at *
 clear hH
 go_enter Tryz.func5, Tryz.ntmps5
 go_upto_region 6 with (first
  | (go_at_call 23; ((with_reducible refine HSM.out.mono ?_); rintro e w1 ⟨x, rfl, hv, hS, hW, hb1⟩))
  | (go_at_call 7; ((with_reducible refine (HNW.out _ _ hb1 hv hS hW).mono ?_); rintro e w2 ⟨b, L, T, rfl, hF, hval, hI, hE, hb2, hft⟩))
  | (go_at_call 8; (refine (HDO.out _ _ _ _ hF hI hE).mono ?_; rintro e w3 ⟨rfl, L3, T3, hv3, _, _, hf3⟩; rw [hval] at hv3 ⊢; rw [HOUT.out]))
  | (go_at_call 21; ((with_reducible refine (f_Lines hf3.at_ (by have := (HFST.out _ hv3).1; omega)).mono ?_); rintro e w4 ⟨y, rfl, hy, ho, _, _, hb4⟩)))
 have BW : Below w.heap.size w w4 := below_tr (below_stp hb2 hf3.stp (fun g hg e => by have := hft g e; omega) hb2.size) hb4
 obtain ⟨h8, e, he, heq⟩ := HFST.out _ hv3
 rw [← hy] at h8 he
 subst heq
 obtain ⟨b2, o2, hya, hbl, hc⟩ := (own_rd' En.cs_len ho).get he
 have c0 := hc 0 _ rfl
 have c1 := hc 1 _ rfl
 have c2 := hc 2 _ rfl
 have c3 := hc 3 _ rfl
 clear hc ho hy hv3 hf3 hF hE hI hS hW hv HFST HDO HNW HSM HOUT he
 obtain ⟨yA, yl, yc⟩ := y
 dsimp only [Sl.v] at *
 subst hya
 rw [h8]
 have lb2 : b2 < w4.heap.size := hbl
 simp only [Nat.zero_mul, Nat.add_zero] at c0 c1 c2 c3
 refine wp_region_noPanic ?_
 refine wp_region_held_drew (S := (fun w' => (∀ b o, b < w4.heap.size → w'.cell? ⟨b, o, none⟩ = w4.cell? ⟨b, o, none⟩) ∧ (∀ b o, b < w4.heap.size → w'.frozen? ⟨b, o, none⟩ = w4.frozen? ⟨b, o, none⟩) ∧ Below w4.heap.size w4 w')) (by kernel_rfl) (kq_draw kq_refl) (fun hS0 => ?_)
 refine tk 0 16 ?gv1 rfl ?_; try simp only [AP]
 refine tk 1 17 ?gv2 rfl ?_; try simp only [AP]
 refine tk 2 18 ?gv3 rfl ?_; try simp only [AP]
 refine tg 3 19 2 true ?gv4 rfl ?_; try simp only [AP]
 refine tg 4 20 2 true ?gv5 rfl ?_; try simp only [AP]
 refine tg 5 21 2 true ?gv6 rfl ?_; try simp only [AP]
 refine tk 6 22 ?gv7 rfl ?_; try simp only [AP]
 refine tk 7 23 ?gv8 rfl ?_; try simp only [AP]
 refine tg 8 24 7 true ?gv9 rfl ?_; try simp only [AP]
 refine tg 9 25 7 true ?gv10 rfl ?_; try simp only [AP]
 refine tg 10 26 7 true ?gv11 rfl ?_; try simp only [AP]
 refine wpAnyH_ready (rs := [11]) (by kernel_rfl) (by simp) ?_
 refine AllReadyH.cons rfl (fun K hK => ?_) AllReadyH.nil
 go_simp
 (go_at_call 24; ((with_reducible refine (HLI.out _).mono ?_); rintro e w5 ⟨rfl, hb5⟩; obtain ⟨hc5, hf5⟩ := bcell hb5; have hz5 := hb5.size; (try simp [SZ] at hz5); (try simp only [SZ] at hc5 hf5)))
 refine hK.out _ _ kq (fun hS1 => ?_)
 clear hK K
 try simp only [AP]
 refine tg 12 28 7 true ?gv12 rfl ?_; try simp only [AP]
 refine tk 13 29 ?gv13 rfl ?_; try simp only [AP]
 refine tk 14 0 ?gv14 rfl ?_; try simp only [AP]
 refine wpAnyH_done (by kernel_rfl) (NoPanic.normal ?_) _
 go_wp2
 go_ret
 exact ⟨rfl, below_tr BW bl⟩
structure SuLn (x : LSu) : Prop where
 s : x.stk.l.length ≤ 100000
 ss : ∀ y ∈ x.stk.l, y.l.length ≤ 100000
 j : x.jnt.l.length ≤ 100000
 jj : ∀ y ∈ x.jnt.l, y.l.length ≤ 100000
 g : x.gear.l.length ≤ 100000
set_option maxHeartbeats 8000000 in
set_option maxRecDepth 20000 in
theorem e_sameSetup {T T' : Nat → Prop} (x y : LSu) (w : World) (hv : x.val = y.val) (hx : SuOk T w x) (hy : SuOk T' w y) (hn : SuLn x) :
  Calls Tryz.prog 43 #[.agg x.cs.toArray, .agg y.cs.toArray] w fun e w' => e = .returned (.bool true) ∧ Below w.heap.size w w' := by
 obtain ⟨⟨xa0, l0, xc0⟩, ⟨xa1, l1, xc1⟩, cl, ⟨xa2, gl, xc2⟩, ru, rt, mn⟩ := x
 obtain ⟨⟨ya0, m0, yc0⟩, ⟨ya1, m1, yc1⟩, cl', ⟨ya2, gl', yc2⟩, ru', rt', mn'⟩ := y
 simp only [LSu.val, Su.mk.injEq] at hv
 obtain ⟨h1, h2, rfl, rfl, rfl, rfl, rfl⟩ := hv
 obtain ⟨n1, n2, n3, n4, n5⟩ := hn
 dsimp only at n1 n2 n3 n4 n5
 have HC := Lib.hid (fun W (h : Below w.heap.size w W) => (show Calls Tryz.prog 91 #[.slice xa0 l0.length xc0, .slice ya0 m0.length yc0] W fun e w' => e = .returned (.bool true) ∧ Below W.heap.size W w' from
  e_sameCrs ⟨xa0, l0, xc0⟩ ⟨ya0, m0, yc0⟩ W n1 h1 (hx.stk.rd.on h) (hy.stk.rd.on h) (fun q hq => ⟨n2 q hq, (hx.stks q hq).rd.on h⟩) (fun q hq => (hy.stks q hq).rd.on h)))
 have HJ := Lib.hid (fun W (h : Below w.heap.size w W) => (show Calls Tryz.prog 92 #[.slice xa1 l1.length xc1, .slice ya1 m1.length yc1] W fun e w' => e = .returned (.bool true) ∧ Below W.heap.size W w' from
  e_sameJts ⟨xa1, l1, xc1⟩ ⟨ya1, m1, yc1⟩ W n3 h2 (hx.jnt.rd.on h) (hy.jnt.rd.on h) (fun q hq => ⟨n4 q hq, (hx.jnts q hq).rd.on h⟩) (fun q hq => (hy.jnts q hq).rd.on h)))
 have HG := Lib.hid (fun W (h : Below w.heap.size w W) => e_EqualItem xa2 ya2 gl xc2 yc2 W n5 (hx.gear.rd.on h) (hy.gear.rd.on h))
 have x0 := (Blk.new w 32 #[.slice xa0 l0.length xc0, .slice xa1 l1.length xc1, .int .i64 cl.fi, .int .i64 cl.ga, .int .i64 cl.tp, .int .i64 cl.le, .int .i64 cl.la, .int .i64 cl.st, .slice xa2 gl.length xc2, .int .i64 ru.s, .int .i64 ru.g, .int .i64 ru.c, .int .i64 rt.lo, .int .i64 rt.hi, .int .i64 rt.ab, .int .i64 rt.co, .int .i64 mn]).alloc (.cells #[.slice ya0 m0.length yc0, .slice ya1 m1.length yc1, .int .i64 cl.fi, .int .i64 cl.ga, .int .i64 cl.tp, .int .i64 cl.le, .int .i64 cl.la, .int .i64 cl.st, .slice ya2 gl.length yc2, .int .i64 ru.s, .int .i64 ru.g, .int .i64 ru.c, .int .i64 rt.lo, .int .i64 rt.hi, .int .i64 rt.ab, .int .i64 rt.co, .int .i64 mn] 32)
 have x1 := Blk.new (w.alloc (.cells #[.slice xa0 l0.length xc0, .slice xa1 l1.length xc1, .int .i64 cl.fi, .int .i64 cl.ga, .int .i64 cl.tp, .int .i64 cl.le, .int .i64 cl.la, .int .i64 cl.st, .slice xa2 gl.length xc2, .int .i64 ru.s, .int .i64 ru.g, .int .i64 ru.c, .int .i64 rt.lo, .int .i64 rt.hi, .int .i64 rt.ab, .int .i64 rt.co, .int .i64 mn] 32)) 32 #[.slice ya0 m0.length yc0, .slice ya1 m1.length yc1, .int .i64 cl.fi, .int .i64 cl.ga, .int .i64 cl.tp, .int .i64 cl.le, .int .i64 cl.la, .int .i64 cl.st, .slice ya2 gl.length yc2, .int .i64 ru.s, .int .i64 ru.g, .int .i64 ru.c, .int .i64 rt.lo, .int .i64 rt.hi, .int .i64 rt.ab, .int .i64 rt.co, .int .i64 mn]
 rw [World.size_alloc] at x1
 have B1 := bl_alloc (bl_alloc (below_refl w) (.cells #[.slice xa0 l0.length xc0, .slice xa1 l1.length xc1, .int .i64 cl.fi, .int .i64 cl.ga, .int .i64 cl.tp, .int .i64 cl.le, .int .i64 cl.la, .int .i64 cl.st, .slice xa2 gl.length xc2, .int .i64 ru.s, .int .i64 ru.g, .int .i64 ru.c, .int .i64 rt.lo, .int .i64 rt.hi, .int .i64 rt.ab, .int .i64 rt.co, .int .i64 mn] 32)) (.cells #[.slice ya0 m0.length yc0, .slice ya1 m1.length yc1, .int .i64 cl.fi, .int .i64 cl.ga, .int .i64 cl.tp, .int .i64 cl.le, .int .i64 cl.la, .int .i64 cl.st, .slice ya2 gl.length yc2, .int .i64 ru.s, .int .i64 ru.g, .int .i64 ru.c, .int .i64 rt.lo, .int .i64 rt.hi, .int .i64 rt.ab, .int .i64 rt.co, .int .i64 mn] 32)
 clear h1 h2 hx hy n1 n2 n3 n4 n5
 have e0 := x0.cell 0
 have e1 := x1.cell 0
 simp only [List.getElem?_toArray, List.getElem?_cons_zero] at e0 e1
 go_enter Tryz.func43, Tryz.ntmps43
 go_upto_region 1 with fail
 generalize (w.alloc (.cells #[.slice xa0 l0.length xc0, .slice xa1 l1.length xc1, .int .i64 cl.fi, .int .i64 cl.ga, .int .i64 cl.tp, .int .i64 cl.le, .int .i64 cl.la, .int .i64 cl.st, .slice xa2 gl.length xc2, .int .i64 ru.s, .int .i64 ru.g, .int .i64 ru.c, .int .i64 rt.lo, .int .i64 rt.hi, .int .i64 rt.ab, .int .i64 rt.co, .int .i64 mn] 32)).alloc (.cells #[.slice ya0 m0.length yc0, .slice ya1 m1.length yc1, .int .i64 cl.fi, .int .i64 cl.ga, .int .i64 cl.tp, .int .i64 cl.le, .int .i64 cl.la, .int .i64 cl.st, .slice ya2 gl.length yc2, .int .i64 ru.s, .int .i64 ru.g, .int .i64 ru.c, .int .i64 rt.lo, .int .i64 rt.hi, .int .i64 rt.ab, .int .i64 rt.co, .int .i64 mn] 32) = w1 at *
 go_wp2_with (first
  | (go_at_call 91; ((with_reducible refine (HC.out _ B1).mono ?_); rintro e w3 ⟨rfl, B3⟩; have p3 := x0.below B3 x0.lt; have q3 := x1.below B3 x1.lt; have c1 : w3.cell? ⟨w.heap.size, 1, none⟩ = some (.slice xa1 l1.length xc1) := p3.cell 1; have d1 : w3.cell? ⟨w.heap.size + 1, 1, none⟩ = some (.slice ya1 m1.length yc1) := q3.cell 1))
  | (go_at_call 92; ((with_reducible refine (HJ.out _ (below_tr B1 B3)).mono ?_); rintro e w4 ⟨rfl, hb4⟩; have B4 := below_tr B3 hb4; have p4 := x0.below B4 x0.lt; have q4 := x1.below B4 x1.lt; have c2 : w4.cell? ⟨w.heap.size, 2, none⟩ = some (.int .i64 cl.fi) := p4.cell 2; have d2 : w4.cell? ⟨w.heap.size + 1, 2, none⟩ = some (.int .i64 cl.fi) := q4.cell 2; have c3 : w4.cell? ⟨w.heap.size, 3, none⟩ = some (.int .i64 cl.ga) := p4.cell 3; have d3 : w4.cell? ⟨w.heap.size + 1, 3, none⟩ = some (.int .i64 cl.ga) := q4.cell 3; have c4 : w4.cell? ⟨w.heap.size, 4, none⟩ = some (.int .i64 cl.tp) := p4.cell 4; have d4 : w4.cell? ⟨w.heap.size + 1, 4, none⟩ = some (.int .i64 cl.tp) := q4.cell 4; have c5 : w4.cell? ⟨w.heap.size, 5, none⟩ = some (.int .i64 cl.le) := p4.cell 5; have d5 : w4.cell? ⟨w.heap.size + 1, 5, none⟩ = some (.int .i64 cl.le) := q4.cell 5; have c6 : w4.cell? ⟨w.heap.size, 6, none⟩ = some (.int .i64 cl.la) := p4.cell 6; have d6 : w4.cell? ⟨w.heap.size + 1, 6, none⟩ = some (.int .i64 cl.la) := q4.cell 6; have c7 : w4.cell? ⟨w.heap.size, 7, none⟩ = some (.int .i64 cl.st) := p4.cell 7; have d7 : w4.cell? ⟨w.heap.size + 1, 7, none⟩ = some (.int .i64 cl.st) := q4.cell 7; have c8 : w4.cell? ⟨w.heap.size, 8, none⟩ = some (.slice xa2 gl.length xc2) := p4.cell 8; have d8 : w4.cell? ⟨w.heap.size + 1, 8, none⟩ = some (.slice ya2 gl.length yc2) := q4.cell 8))
  | (go_at_call 41; ((with_reducible refine (HG.out _ (below_tr B1 B4)).mono ?_); rintro e w5 ⟨rfl, hb5⟩; have B5 := below_tr B4 hb5; have p5 := x0.below B5 x0.lt; have q5 := x1.below B5 x1.lt; have c9 : w5.cell? ⟨w.heap.size, 9, none⟩ = some (.int .i64 ru.s) := p5.cell 9; have d9 : w5.cell? ⟨w.heap.size + 1, 9, none⟩ = some (.int .i64 ru.s) := q5.cell 9; have c10 : w5.cell? ⟨w.heap.size, 10, none⟩ = some (.int .i64 ru.g) := p5.cell 10; have d10 : w5.cell? ⟨w.heap.size + 1, 10, none⟩ = some (.int .i64 ru.g) := q5.cell 10; have c11 : w5.cell? ⟨w.heap.size, 11, none⟩ = some (.int .i64 ru.c) := p5.cell 11; have d11 : w5.cell? ⟨w.heap.size + 1, 11, none⟩ = some (.int .i64 ru.c) := q5.cell 11; have c12 : w5.cell? ⟨w.heap.size, 12, none⟩ = some (.int .i64 rt.lo) := p5.cell 12; have d12 : w5.cell? ⟨w.heap.size + 1, 12, none⟩ = some (.int .i64 rt.lo) := q5.cell 12; have c13 : w5.cell? ⟨w.heap.size, 13, none⟩ = some (.int .i64 rt.hi) := p5.cell 13; have d13 : w5.cell? ⟨w.heap.size + 1, 13, none⟩ = some (.int .i64 rt.hi) := q5.cell 13; have c14 : w5.cell? ⟨w.heap.size, 14, none⟩ = some (.int .i64 rt.ab) := p5.cell 14; have d14 : w5.cell? ⟨w.heap.size + 1, 14, none⟩ = some (.int .i64 rt.ab) := q5.cell 14; have c15 : w5.cell? ⟨w.heap.size, 15, none⟩ = some (.int .i64 rt.co) := p5.cell 15; have d15 : w5.cell? ⟨w.heap.size + 1, 15, none⟩ = some (.int .i64 rt.co) := q5.cell 15; have c16 : w5.cell? ⟨w.heap.size, 16, none⟩ = some (.int .i64 mn) := p5.cell 16; have d16 : w5.cell? ⟨w.heap.size + 1, 16, none⟩ = some (.int .i64 mn) := q5.cell 16)))
 go_ret
 exact ⟨rfl, below_tr B1 B5⟩
section
variable {P : Program}
theorem run_loadVar_part (w : World) (g : Nat) (ty : TypeId) (cs : Array Value) (d : TypeDesc) (hc : ∀ (j : Nat) v, cs[j]? = some v → w.cell? ⟨g, j, none⟩ = some v)
  (hu : P.underlying ty = some d) (hd : (match d with | .struct _ | .array _ _ => true | _ => false) = true) (hi : (P.info? ty).map (·.size) = some cs.size) :
  (loadVar ty ⟨g, 0, none⟩).run P w = .ok (.agg cs) w := by
 have hl : (loadCells ⟨g, 0, none⟩ cs.toList.length).run P w = .ok cs.toList.toArray w :=
  run_loadCells_list (P := P) w ⟨g, 0, none⟩ cs.toList (fun j v hv => by
   have hadd : (⟨g, 0, none⟩ : Addr).add j = ⟨g, j, none⟩ := by unfold Addr.add; split <;> simp_all
   rw [hadd]
   exact hc j v (by simpa using hv))
 cases hq : P.info? ty with
 | none => simp [hq] at hi
 | some i =>
  have hs : i.size = cs.size := by simpa [hq] using hi
  have hagg : (isAgg ty).run P w = .ok true w := by
   unfold isAgg
   rw [Sem.run_bind, run_underlying hu w]
   cases d <;> simp_all
  simp only [Array.length_toList, Array.toArray_toList] at hl
  simp [loadVar, Sem.run_bind, hagg, sizeOf, typeInfo, hq, hs, hl]
theorem load_part_ok {o : Oper} {a : Act} {w : World} {ty : TypeId} {x : Operand} (ho : o.op = .load ty x) {g : Nat} (hx : a.eval x = .pointer (some ⟨g, 0, none⟩)) {v : Value}
  (h : (loadVar ty ⟨g, 0, none⟩).run P w = .ok v w) : (execOp a.eval o).run P w = .ok (.value v) w := by
 unfold execOp
 simp only [ho, hx, Instr.loadAt, Instr.sureAddr, Sem.run_bind, Sem.run_pure, Result.andThen_ok, h]
end
theorem su_ln {x : LSu} (h : vSu x.val = true) : SuLn x := by
 obtain ⟨h1, h2, h3, h4, _, h6, _⟩ := vSu_parts h
 have hl : x.val.stk.length = x.stk.l.length := by simp [LSu.val]
 have hj : x.val.jnt.length = x.jnt.l.length := by simp [LSu.val]
 refine ⟨by omega, fun y hy => ?_, by omega, fun y hy => ?_, ?_⟩
 ·have := (S.valid_all (h3 y.l (by unfold LSu.val; exact List.mem_map.2 ⟨y, hy, rfl⟩))).2.2; omega
 ·have := (jb_of (h4 y.l (by unfold LSu.val; exact List.mem_map.2 ⟨y, hy, rfl⟩))).n; omega
 ·have : x.gear.l.length ≤ 64 := G.vldG_len h6
  omega
theorem cs_pre {L : LS} {j : Nat} {v : Value} (h : L.x.cs.toArray[j]? = some v) : L.cs[j]? = some v := by
 rw [List.getElem?_toArray] at h
 have e : L.cs = L.x.cs ++ [.int .i64 L.day, L.gusts.v, L.rigs.v, L.sites.v, L.items.v, L.back.v, .int .i64 L.money, L.lines.v] := rfl
 rw [e, List.getElem?_append_left (List.getElem?_eq_some_iff.1 h).1]; exact h
theorem rig_eq {l m : List LRg} {k : Nat} {x y : LRg} (h : l.map LRg.val = m.map LRg.val) (hx : l[k]? = some x) (hy : m[k]? = some y) : x.st = y.st ∧ x.lk.l = y.lk.l := by
 have h1 : (l.map LRg.val)[k]? = (m.map LRg.val)[k]? := by rw [h]
 rw [List.getElem?_map, List.getElem?_map, hx, hy] at h1
 have h2 := Option.some.inj h1
 exact ⟨congrArg Rig.st h2, congrArg Rig.lk h2⟩
theorem site_eq {l m : List LSi} {k : Nat} {x y : LSi} (h : l.map LSi.val = m.map LSi.val) (hx : l[k]? = some x) (hy : m[k]? = some y) : x.fel = y.fel ∧ x.men = y.men ∧ x.dogs.l = y.dogs.l := by
 have h1 : (l.map LSi.val)[k]? = (m.map LSi.val)[k]? := by rw [h]
 rw [List.getElem?_map, List.getElem?_map, hx, hy] at h1
 have h2 := Option.some.inj h1
 exact ⟨congrArg Sit.fel h2, congrArg Sit.men h2, congrArg Sit.dogs h2⟩
set_option maxHeartbeats 16000000 in
set_option maxRecDepth 20000 in
theorem f_Same {b g : Nat} {L M : LS} {T T' : Nat → Prop} {w : World} (hF : FirmAt w b L T) (hG : FirmAt w g M T') (hI : Inv L.val) (hv : L.val = M.val) :
  Calls Tryz.prog 9 #[.pointer (some ⟨b, 0, none⟩), .pointer (some ⟨g, 0, none⟩)] w fun e w' => e = .returned (.bool true) ∧ Below w.heap.size w w' := by
 have lb := hF.blk.lt
 have lg := hG.blk.lt
 have hX : L.x.val = M.x.val := congrArg St.x hv
 have hday : L.day = M.day := congrArg St.day hv
 have hgus : L.gusts.l = M.gusts.l := congrArg St.gusts hv
 have hrig : L.rigs.l.map LRg.val = M.rigs.l.map LRg.val := congrArg St.rigs hv
 have hsit : L.sites.l.map LSi.val = M.sites.l.map LSi.val := congrArg St.sites hv
 have hitm : L.items.l = M.items.l := congrArg St.items hv
 have hbck : L.back.l = M.back.l := congrArg St.back hv
 have hmon : L.money = M.money := congrArg St.money hv
 have hlin : L.lines.l = M.lines.l := congrArg St.lines hv
 have hrl : L.rigs.l.length = M.rigs.l.length := by simpa using congrArg List.length hrig
 have hsl : L.sites.l.length = M.sites.l.length := by simpa using congrArg List.length hsit
 have q1 : L.gusts.l.length ≤ 100000 := by have h : L.gusts.l.length ≤ 2000 := hI.gl; omega
 have q2 : L.items.l.length ≤ 100000 := by have h : L.items.l.length ≤ 64 := G.vldG_len hI.it; omega
 have q3 : L.back.l.length ≤ 100000 := by have h : L.back.l.length ≤ 100 := hI.bl; omega
 have q4 : L.lines.l.length ≤ 100000 := by have h : L.lines.l.length ≤ 2000 := hI.ll; omega
 have q5 : L.rigs.l.length ≤ 100000 := by have h : (L.rigs.l.map LRg.val).length ≤ 50 := hI.rl; simp at h; omega
 have q6 : L.sites.l.length ≤ 100000 := by have h : L.sites.l.length ≤ 8 := hI.slen; omega
 have HR := Lib.hid (fun W (h : Below w.heap.size w W) => (show Calls Tryz.prog 35 #[.slice L.rigs.a L.rigs.l.length L.rigs.c, .slice M.rigs.a M.rigs.l.length M.rigs.c, .func (.func 36) #[] #[]] W fun e w' => e = .returned (.bool true) ∧ Below W.heap.size W w' from e_EqRig L.rigs.a M.rigs.a L.rigs.l M.rigs.l L.rigs.c M.rigs.c W q5 hrl (hF.ok.rigs.rd.on h) (hG.ok.rigs.rd.on h) (fun k x y hx hy => ⟨(rig_eq hrig hx hy).1, (rig_eq hrig hx hy).2, by have := (hI.rk x.val (List.mem_map.2 ⟨x, List.mem_of_getElem? hx, rfl⟩)).1; have h3 : x.lk.l.length ≤ 32 := this; omega, (hF.ok.rk x (List.mem_of_getElem? hx)).rd.on h, (hG.ok.rk y (List.mem_of_getElem? hy)).rd.on h⟩)))
 have HS := Lib.hid (fun W (h : Below w.heap.size w W) => (show Calls Tryz.prog 38 #[.slice L.sites.a L.sites.l.length L.sites.c, .slice M.sites.a M.sites.l.length M.sites.c, .func (.func 39) #[] #[]] W fun e w' => e = .returned (.bool true) ∧ Below W.heap.size W w' from e_EqSite L.sites.a M.sites.a L.sites.l M.sites.l L.sites.c M.sites.c W q6 hsl (hF.ok.sites.rd.on h) (hG.ok.sites.rd.on h) (fun k x y hx hy => ⟨(site_eq hsit hx hy).1, (site_eq hsit hx hy).2.1, (site_eq hsit hx hy).2.2, by have h3 : x.dogs.l.length ≤ 300 := hI.sd x.val (List.mem_map.2 ⟨x, List.mem_of_getElem? hx, rfl⟩); omega, (hF.ok.sk x (List.mem_of_getElem? hx)).rd.on h, (hG.ok.sk y (List.mem_of_getElem? hy)).rd.on h⟩)))
 have HU := Lib.hid (fun W (h : Below w.heap.size w W) => (show Calls Tryz.prog 40 #[.slice L.gusts.a L.gusts.l.length L.gusts.c, .slice M.gusts.a M.gusts.l.length M.gusts.c] W fun e w' => e = .returned (.bool true) ∧ Below W.heap.size W w' from by rw [← hgus]; exact e_EqualInt _ _ _ _ _ W q1 (hF.ok.gusts.rd.on h) (hgus ▸ hG.ok.gusts.rd.on h)))
 have HT := Lib.hid (fun W (h : Below w.heap.size w W) => (show Calls Tryz.prog 41 #[.slice L.items.a L.items.l.length L.items.c, .slice M.items.a M.items.l.length M.items.c] W fun e w' => e = .returned (.bool true) ∧ Below W.heap.size W w' from by rw [← hitm]; exact e_EqualItem _ _ _ _ _ W q2 (hF.ok.items.rd.on h) (hitm ▸ hG.ok.items.rd.on h)))
 have HB := Lib.hid (fun W (h : Below w.heap.size w W) => (show Calls Tryz.prog 42 #[.slice L.back.a L.back.l.length L.back.c, .slice M.back.a M.back.l.length M.back.c] W fun e w' => e = .returned (.bool true) ∧ Below W.heap.size W w' from by rw [← hbck]; exact e_EqualStr _ _ _ _ _ W q3 (hF.ok.back.rd.on h) (hbck ▸ hG.ok.back.rd.on h)))
 have HN := Lib.hid (fun W (h : Below w.heap.size w W) => (show Calls Tryz.prog 44 #[.slice L.lines.a L.lines.l.length L.lines.c, .slice M.lines.a M.lines.l.length M.lines.c] W fun e w' => e = .returned (.bool true) ∧ Below W.heap.size W w' from by rw [← hlin]; exact e_EqualEntry _ _ _ _ _ W q4 (own_rd' En.cs_len (own_on hF.row h)) (hlin ▸ own_rd' En.cs_len (own_on hG.row h))))
 have HP := Lib.hid (fun W (h : Below w.heap.size w W) => (show Calls Tryz.prog 43 #[.agg L.x.cs.toArray, .agg M.x.cs.toArray] W fun e w' => e = .returned (.bool true) ∧ Below W.heap.size W w' from e_sameSetup L.x M.x W hX (hF.ok.su.on h) (hG.ok.su.on h) (su_ln hI.su)))
 obtain ⟨CA, hCA⟩ : ∃ CA, CA = L.x.cs.toArray := ⟨_, rfl⟩
 obtain ⟨CB, hCB⟩ : ∃ CB, CB = M.x.cs.toArray := ⟨_, rfl⟩
 have hCz : (Tryz.prog.info? 32).map (·.size) = some CA.size := by rw [hCA]; exact su_cs L.x
 have hCy : (Tryz.prog.info? 32).map (·.size) = some CB.size := by rw [hCB]; exact su_cs M.x
 rw [← hCA, ← hCB] at HP
 have HDM := Lib.hid (show L.day = M.day ∧ L.money = M.money from ⟨hday, hmon⟩)
 clear hX hday hgus hrig hsit hitm hbck hmon hlin hrl hsl q1 q2 q3 q4 q5 q6 hv hI
 have HFF := Lib.hid hF
 have HGG := Lib.hid hG
 clear hF hG
 go_enter Tryz.func9, Tryz.ntmps9
 go_wp2
 go_quiet (fail)
 have B1 := below_drewN (below_refl w) nq
 generalize w.drewN nq = w1 at *
 have hF1 := HFF.out.on B1
 have hG1 := HGG.out.on B1
 have lb1 := Nat.lt_of_lt_of_le lb B1.size
 have lg1 := Nat.lt_of_lt_of_le lg B1.size
 have c19 : w1.cell? ⟨b, 19, none⟩ = some (.slice L.rigs.a L.rigs.l.length L.rigs.c) := hF1.cel 19 _ rfl
 have d19 : w1.cell? ⟨g, 19, none⟩ = some (.slice M.rigs.a M.rigs.l.length M.rigs.c) := hG1.cel 19 _ rfl
 clear hF1 hG1
 go_upto_region 4 with fail
 refine wp_region_noPanic ?_
 refine wp_region_held_drew (S := (fun w' => (∀ b o, b < w1.heap.size → w'.cell? ⟨b, o, none⟩ = w1.cell? ⟨b, o, none⟩) ∧ (∀ b o, b < w1.heap.size → w'.frozen? ⟨b, o, none⟩ = w1.frozen? ⟨b, o, none⟩) ∧ Below w1.heap.size w1 w')) (by kernel_rfl) (kq_draw kq_refl) (fun hS0 => ?_)
 refine tk 0 22 ?gv1 rfl ?_; try simp only [AP]
 refine tk 1 23 ?gv2 rfl ?_; try simp only [AP]
 refine tk 2 24 ?gv3 rfl ?_; try simp only [AP]
 refine tk 3 25 ?gv4 rfl ?_; try simp only [AP]
 refine tk 4 26 ?gv5 rfl ?_; try simp only [AP]
 refine tk 5 27 ?gv6 rfl ?_; try simp only [AP]
 refine tk 6 28 ?gv7 rfl ?_; try simp only [AP]
 refine tk 7 29 ?gv8 rfl ?_; try simp only [AP]
 refine wpAnyH_ready (rs := [8]) (by kernel_rfl) (by simp) ?_
 refine AllReadyH.cons rfl (fun K hK => ?_) AllReadyH.nil
 go_simp
 (go_at_call 35; ((with_reducible refine (HR.out _ (below_tr B1 bl)).mono ?_); rintro e w3 ⟨rfl, hb3⟩; obtain ⟨hc3, hf3⟩ := bcell hb3; have hz3 := hb3.size; (try simp [SZ] at hz3); (try simp only [SZ] at hc3 hf3)))
 refine hK.out _ _ kq (fun hS1 => ?_)
 clear hK K
 try simp only [AP]
 refine tk 9 7 ?gv9 rfl ?_; try simp only [AP]
 refine wpAnyH_done (by kernel_rfl) (NoPanic.normal ?_) _
 have B3 := below_tr B1 (show Below w1.heap.size w1 w3 from bl)
 clear hS1 hc3 hf3
 clear c19 d19
 have hF3 := HFF.out.on B3
 have hG3 := HGG.out.on B3
 have lb3 := Nat.lt_of_lt_of_le lb B3.size
 have lg3 := Nat.lt_of_lt_of_le lg B3.size
 have c20 : w3.cell? ⟨b, 20, none⟩ = some (.slice L.sites.a L.sites.l.length L.sites.c) := hF3.cel 20 _ rfl
 have d20 : w3.cell? ⟨g, 20, none⟩ = some (.slice M.sites.a M.sites.l.length M.sites.c) := hG3.cel 20 _ rfl
 clear hF3 hG3
 go_upto_region 5 with fail
 refine wp_region_noPanic ?_
 refine wp_region_held_drew (S := (fun w' => (∀ b o, b < w3.heap.size → w'.cell? ⟨b, o, none⟩ = w3.cell? ⟨b, o, none⟩) ∧ (∀ b o, b < w3.heap.size → w'.frozen? ⟨b, o, none⟩ = w3.frozen? ⟨b, o, none⟩) ∧ Below w3.heap.size w3 w')) (by kernel_rfl) (kq_draw kq_refl) (fun hS0 => ?_)
 refine tk 0 31 ?gv10 rfl ?_; try simp only [AP]
 refine tk 1 32 ?gv11 rfl ?_; try simp only [AP]
 refine tk 2 33 ?gv12 rfl ?_; try simp only [AP]
 refine tk 3 34 ?gv13 rfl ?_; try simp only [AP]
 refine tk 4 35 ?gv14 rfl ?_; try simp only [AP]
 refine tk 5 36 ?gv15 rfl ?_; try simp only [AP]
 refine tk 6 37 ?gv16 rfl ?_; try simp only [AP]
 refine tk 7 38 ?gv17 rfl ?_; try simp only [AP]
 refine wpAnyH_ready (rs := [8]) (by kernel_rfl) (by simp) ?_
 refine AllReadyH.cons rfl (fun K hK => ?_) AllReadyH.nil
 go_simp
 (go_at_call 38; ((with_reducible refine (HS.out _ (below_tr B3 bl)).mono ?_); rintro e w4 ⟨rfl, hb4⟩; obtain ⟨hc4, hf4⟩ := bcell hb4; have hz4 := hb4.size; (try simp [SZ] at hz4); (try simp only [SZ] at hc4 hf4)))
 refine hK.out _ _ kq (fun hS1 => ?_)
 clear hK K
 try simp only [AP]
 refine tk 9 8 ?gv18 rfl ?_; try simp only [AP]
 refine wpAnyH_done (by kernel_rfl) (NoPanic.normal ?_) _
 have B4 := below_tr B3 (show Below w3.heap.size w3 w4 from bl)
 clear hS1 hc4 hf4
 clear c20 d20
 have hF4 := HFF.out.on B4
 have hG4 := HGG.out.on B4
 have lb4 := Nat.lt_of_lt_of_le lb B4.size
 have lg4 := Nat.lt_of_lt_of_le lg B4.size
 have c18 : w4.cell? ⟨b, 18, none⟩ = some (.slice L.gusts.a L.gusts.l.length L.gusts.c) := hF4.cel 18 _ rfl
 have d18 : w4.cell? ⟨g, 18, none⟩ = some (.slice M.gusts.a M.gusts.l.length M.gusts.c) := hG4.cel 18 _ rfl
 have c21 : w4.cell? ⟨b, 21, none⟩ = some (.slice L.items.a L.items.l.length L.items.c) := hF4.cel 21 _ rfl
 have d21 : w4.cell? ⟨g, 21, none⟩ = some (.slice M.items.a M.items.l.length M.items.c) := hG4.cel 21 _ rfl
 have c22 : w4.cell? ⟨b, 22, none⟩ = some (.slice L.back.a L.back.l.length L.back.c) := hF4.cel 22 _ rfl
 have d22 : w4.cell? ⟨g, 22, none⟩ = some (.slice M.back.a M.back.l.length M.back.c) := hG4.cel 22 _ rfl
 clear hF4 hG4
 go_upto_region 6 with fail
 refine wp_region_noPanic ?_
 refine wp_region_held_drew (S := (fun w' => (∀ b o, b < w4.heap.size → w'.cell? ⟨b, o, none⟩ = w4.cell? ⟨b, o, none⟩) ∧ (∀ b o, b < w4.heap.size → w'.frozen? ⟨b, o, none⟩ = w4.frozen? ⟨b, o, none⟩) ∧ Below w4.heap.size w4 w')) (by kernel_rfl) (kq_draw kq_refl) (fun hS0 => ?_)
 refine tk 0 40 ?gv19 rfl ?_; try simp only [AP]
 refine tk 1 41 ?gv20 rfl ?_; try simp only [AP]
 refine tk 2 42 ?gv21 rfl ?_; try simp only [AP]
 refine tk 3 43 ?gv22 rfl ?_; try simp only [AP]
 refine tk 4 44 ?gv23 rfl ?_; try simp only [AP]
 refine tk 5 45 ?gv24 rfl ?_; try simp only [AP]
 refine tk 6 46 ?gv25 rfl ?_; try simp only [AP]
 refine tk 7 47 ?gv26 rfl ?_; try simp only [AP]
 refine wpAnyH_ready (rs := [8]) (by kernel_rfl) (by simp) ?_
 refine AllReadyH.cons rfl (fun K hK => ?_) AllReadyH.nil
 go_simp
 (go_at_call 40; ((with_reducible refine (HU.out _ (below_tr B4 bl)).mono ?_); rintro e w5 ⟨rfl, hb5⟩; obtain ⟨hc5, hf5⟩ := bcell hb5; have hz5 := hb5.size; (try simp [SZ] at hz5); (try simp only [SZ] at hc5 hf5)))
 refine hK.out _ _ kq (fun hS1 => ?_)
 clear hK K
 try simp only [AP]
 refine tk 9 49 ?gv27 rfl ?_; try simp only [AP]
 refine tg 10 50 9 true ?gv28 rfl ?_; try simp only [AP]
 refine tg 11 51 9 true ?gv29 rfl ?_; try simp only [AP]
 refine tg 12 52 9 true ?gv30 rfl ?_; try simp only [AP]
 refine tg 13 53 9 true ?gv31 rfl ?_; try simp only [AP]
 refine tg 14 54 9 true ?gv32 rfl ?_; try simp only [AP]
 refine tg 15 55 9 true ?gv33 rfl ?_; try simp only [AP]
 refine tg 16 56 9 true ?gv34 rfl ?_; try simp only [AP]
 refine tg 17 57 9 true ?gv35 rfl ?_; try simp only [AP]
 refine wpAnyH_ready (rs := [18]) (by kernel_rfl) (by simp) ?_
 refine AllReadyH.cons rfl (fun K hK => ?_) AllReadyH.nil
 go_simp
 (go_at_call 41; ((with_reducible refine (HT.out _ (below_tr B4 bl)).mono ?_); rintro e w6 ⟨rfl, hb6⟩; obtain ⟨hc6, hf6⟩ := bcell hb6; have hz6 := hb6.size; (try simp [SZ] at hz6); (try simp only [SZ] at hc6 hf6)))
 refine hK.out _ _ kq (fun hS2 => ?_)
 clear hK K
 try simp only [AP]
 refine tk 19 59 ?gv36 rfl ?_; try simp only [AP]
 refine tk 20 60 ?gv37 rfl ?_; try simp only [AP]
 refine tg 21 61 20 true ?gv38 rfl ?_; try simp only [AP]
 refine tg 22 62 20 true ?gv39 rfl ?_; try simp only [AP]
 refine tg 23 63 20 true ?gv40 rfl ?_; try simp only [AP]
 refine tg 24 64 20 true ?gv41 rfl ?_; try simp only [AP]
 refine tg 25 65 20 true ?gv42 rfl ?_; try simp only [AP]
 refine tg 26 66 20 true ?gv43 rfl ?_; try simp only [AP]
 refine tg 27 67 20 true ?gv44 rfl ?_; try simp only [AP]
 refine tg 28 68 20 true ?gv45 rfl ?_; try simp only [AP]
 refine wpAnyH_ready (rs := [29]) (by kernel_rfl) (by simp) ?_
 refine AllReadyH.cons rfl (fun K hK => ?_) AllReadyH.nil
 go_simp
 (go_at_call 42; ((with_reducible refine (HB.out _ (below_tr B4 bl)).mono ?_); rintro e w7 ⟨rfl, hb7⟩; obtain ⟨hc7, hf7⟩ := bcell hb7; have hz7 := hb7.size; (try simp [SZ] at hz7); (try simp only [SZ] at hc7 hf7)))
 refine hK.out _ _ kq (fun hS3 => ?_)
 clear hK K
 try simp only [AP]
 refine tk 30 70 ?gv46 rfl ?_; try simp only [AP]
 refine tk 31 9 ?gv47 rfl ?_; try simp only [AP]
 refine wpAnyH_done (by kernel_rfl) (NoPanic.normal ?_) _
 have B7 := below_tr B4 (show Below w4.heap.size w4 w7 from bl)
 clear hS1 hS2 hS3 hc5 hf5 hc6 hf6 hc7 hf7
 clear c18 d18 c21 d21 c22 d22
 have hF7 := HFF.out.on B7
 have hG7 := HGG.out.on B7
 have lb7 := Nat.lt_of_lt_of_le lb B7.size
 have lg7 := Nat.lt_of_lt_of_le lg B7.size
 have c17 : w7.cell? ⟨b, 17, none⟩ = some (.int .i64 L.day) := hF7.cel 17 _ rfl
 have d17 : w7.cell? ⟨g, 17, none⟩ = some (.int .i64 M.day) := hG7.cel 17 _ rfl
 have c23 : w7.cell? ⟨b, 23, none⟩ = some (.int .i64 L.money) := hF7.cel 23 _ rfl
 have d23 : w7.cell? ⟨g, 23, none⟩ = some (.int .i64 M.money) := hG7.cel 23 _ rfl
 have c24 : w7.cell? ⟨b, 24, none⟩ = some (.slice L.lines.a L.lines.l.length L.lines.c) := hF7.cel 24 _ rfl
 have d24 : w7.cell? ⟨g, 24, none⟩ = some (.slice M.lines.a M.lines.l.length M.lines.c) := hG7.cel 24 _ rfl
 have HLA := Lib.hid (fun w' (h : Below w7.heap.size w7 w') => run_loadVar_part w' b 32 CA _ (fun j v hv => (hF7.on h).cel j v (by rw [hCA] at hv; exact cs_pre hv)) Tryz.underlying32 rfl hCz)
 have HLB := Lib.hid (fun w' (h : Below w7.heap.size w7 w') => run_loadVar_part w' g 32 CB _ (fun j v hv => (hG7.on h).cel j v (by rw [hCB] at hv; exact cs_pre hv)) Tryz.underlying32 rfl hCy)
 clear hCA hCB hCz hCy
 obtain ⟨hd1, hd2⟩ := HDM.out
 rw [← hd1] at d17
 rw [← hd2] at d23
 clear hd1 hd2
 clear hF7 hG7
 go_upto_region 7 with fail
 refine wp_region_noPanic ?_
 refine wp_region_held_drew (S := (fun w' => (∀ b o, b < w7.heap.size → w'.cell? ⟨b, o, none⟩ = w7.cell? ⟨b, o, none⟩) ∧ (∀ b o, b < w7.heap.size → w'.frozen? ⟨b, o, none⟩ = w7.frozen? ⟨b, o, none⟩) ∧ Below w7.heap.size w7 w')) (by kernel_rfl) (kq_draw kq_refl) (fun hS0 => ?_)
 refine tk 0 71 ?gv48 rfl ?_; try simp only [AP]
 refine tk 1 72 ?gv49 rfl ?_; try simp only [AP]
 refine tk 2 73 ?gv50 rfl ?_; try simp only [AP]
 refine wpAnyH_take (i := 3) (oi := { dst := some 74, op := _, type := _, pos := _, after := _, guard := none }) (v := .agg CA) rfl (by kernel_rfl) (by kernel_rfl) (by kernel_rfl) (fun _ _ _ h => h) (Or.inl ⟨by rfl, ?gy51⟩) (by assumption) ?_
 case gy51 => (intro w' hSw; exact load_part_ok rfl rfl (HLA.out w' hSw.2.2))
 try simp only [AP]
 refine tk 4 75 ?gv52 rfl ?_; try simp only [AP]
 refine tk 5 76 ?gv53 rfl ?_; try simp only [AP]
 refine tk 6 77 ?gv54 rfl ?_; try simp only [AP]
 refine wpAnyH_take (i := 7) (oi := { dst := some 78, op := _, type := _, pos := _, after := _, guard := none }) (v := .agg CB) rfl (by kernel_rfl) (by kernel_rfl) (by kernel_rfl) (fun _ _ _ h => h) (Or.inl ⟨by rfl, ?gy55⟩) (by assumption) ?_
 case gy55 => (intro w' hSw; exact load_part_ok rfl rfl (HLB.out w' hSw.2.2))
 try simp only [AP]
 refine wpAnyH_ready (rs := [8]) (by kernel_rfl) (by simp) ?_
 refine AllReadyH.cons rfl (fun K hK => ?_) AllReadyH.nil
 go_simp
 (go_at_call 43; ((with_reducible refine (HP.out _ (below_tr B7 bl)).mono ?_); rintro e w8 ⟨rfl, hb8⟩; obtain ⟨hc8, hf8⟩ := bcell hb8; have hz8 := hb8.size; (try simp [SZ] at hz8); (try simp only [SZ] at hc8 hf8)))
 refine hK.out _ _ kq (fun hS1 => ?_)
 clear hK K
 try simp only [AP]
 refine tk 9 80 ?gv56 rfl ?_; try simp only [AP]
 refine tg 10 81 9 true ?gv57 rfl ?_; try simp only [AP]
 refine tg 11 82 9 true ?gv58 rfl ?_; try simp only [AP]
 refine tg 12 83 9 true ?gv59 rfl ?_; try simp only [AP]
 refine tg 13 84 9 true ?gv60 rfl ?_; try simp only [AP]
 refine tg 14 85 9 true ?gv61 rfl ?_; try simp only [AP]
 refine tg 15 86 9 true ?gv62 rfl ?_; try simp only [AP]
 refine tg 16 87 9 true ?gv63 rfl ?_; try simp only [AP]
 refine tg 17 88 9 true ?gv64 rfl ?_; try simp only [AP]
 refine tg 18 89 9 true ?gv65 rfl ?_; try simp only [AP]
 refine tk 19 90 ?gv66 rfl ?_; try simp only [AP]
 refine tk 20 91 ?gv67 rfl ?_; try simp only [AP]
 refine tg 21 92 20 true ?gv68 rfl ?_; try simp only [AP]
 refine tk 22 93 ?gv69 rfl ?_; try simp only [AP]
 refine tk 23 94 ?gv70 rfl ?_; try simp only [AP]
 refine tg 24 95 23 true ?gv71 rfl ?_; try simp only [AP]
 refine tk 25 96 ?gv72 rfl ?_; try simp only [AP]
 refine tk 26 97 ?gv73 rfl ?_; try simp only [AP]
 refine tg 27 98 26 true ?gv74 rfl ?_; try simp only [AP]
 refine tk 28 99 ?gv75 rfl ?_; try simp only [AP]
 refine tk 29 100 ?gv76 rfl ?_; try simp only [AP]
 refine tg 30 101 29 true ?gv77 rfl ?_; try simp only [AP]
 refine tg 31 102 29 true ?gv78 rfl ?_; try simp only [AP]
 refine tg 32 103 29 true ?gv79 rfl ?_; try simp only [AP]
 refine tg 33 104 29 true ?gv80 rfl ?_; try simp only [AP]
 refine tg 34 105 29 true ?gv81 rfl ?_; try simp only [AP]
 refine tg 35 106 29 true ?gv82 rfl ?_; try simp only [AP]
 refine tg 36 107 29 true ?gv83 rfl ?_; try simp only [AP]
 refine tg 37 108 29 true ?gv84 rfl ?_; try simp only [AP]
 refine tg 38 109 29 true ?gv85 rfl ?_; try simp only [AP]
 refine tk 39 110 ?gv86 rfl ?_; try simp only [AP]
 refine tk 40 111 ?gv87 rfl ?_; try simp only [AP]
 refine tg 41 112 40 true ?gv88 rfl ?_; try simp only [AP]
 refine tg 42 113 40 true ?gv89 rfl ?_; try simp only [AP]
 refine tg 43 114 40 true ?gv90 rfl ?_; try simp only [AP]
 refine tg 44 115 40 true ?gv91 rfl ?_; try simp only [AP]
 refine tg 45 116 40 true ?gv92 rfl ?_; try simp only [AP]
 refine tg 46 117 40 true ?gv93 rfl ?_; try simp only [AP]
 refine tg 47 118 40 true ?gv94 rfl ?_; try simp only [AP]
 refine tg 48 119 40 true ?gv95 rfl ?_; try simp only [AP]
 refine wpAnyH_ready (rs := [49]) (by kernel_rfl) (by simp) ?_
 refine AllReadyH.cons rfl (fun K hK => ?_) AllReadyH.nil
 go_simp
 (go_at_call 44; ((with_reducible refine (HN.out _ (below_tr B7 bl)).mono ?_); rintro e w9 ⟨rfl, hb9⟩; obtain ⟨hc9, hf9⟩ := bcell hb9; have hz9 := hb9.size; (try simp [SZ] at hz9); (try simp only [SZ] at hc9 hf9)))
 refine hK.out _ _ kq (fun hS2 => ?_)
 clear hK K
 try simp only [AP]
 refine tk 50 121 ?gv96 rfl ?_; try simp only [AP]
 refine tk 51 4 ?gv97 rfl ?_; try simp only [AP]
 refine wpAnyH_done (by kernel_rfl) (NoPanic.normal ?_) _
 go_wp2
 go_ret
 exact ⟨rfl, below_tr B7 bl⟩
end Go.Proofs.YtmjgljdmjpabdaaGreatDoor.Fi
