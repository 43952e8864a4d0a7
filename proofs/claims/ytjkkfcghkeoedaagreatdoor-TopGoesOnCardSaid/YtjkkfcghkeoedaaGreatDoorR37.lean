/- The parts of the proof, part 37. -/
import Derived.Test.YtjkkfcghkeoedaaGreatDoorR0
import Derived.Test.YtjkkfcghkeoedaaGreatDoorR36
set_option maxHeartbeats 16000000
set_option maxRecDepth 20000
set_option linter.unusedSimpArgs false
set_option linter.unusedVariables false
namespace Go.Proofs.YtjkkfcghkeoedaaGreatDoor.Fi
open Go.RowKit Go.Lib Tx
theorem c_SplitN (s:List UInt8) (w:World) (hs:s.length<=300000) (hL:LdW w):
  Calls Tryz.prog 169 #[.string (bts s),.string ⟨#[32]⟩,.int .i64 4] w fun e w'=>∃c,e=.returned (.slice (some ⟨w.heap.size,0,none⟩) (lnW s).length c)∧Below w.heap.size w w'∧w.heap.size<w'.heap.size∧∀(k:Nat) p,(lnW s)[k]?=some p->w'.cell? ⟨w.heap.size,k,none⟩=some (.string (bts p)):=by
 obtain⟨m,hm⟩:=hL.mx;refine(Tryz.strings_SplitN (bts s) ⟨#[32]⟩ 4 m w (by rw[bts_size];omega) hm (by decide) (by decide) (by decide)).mono ?_;rintro e w' ⟨rfl,rfl⟩;have h1:(Lib.splitB ⟨#[32]⟩ 0 (min 4 ((bts s).size+1)-1) (bts s)).map (·.data.toList)=lnW s:=by rw[splitB_data,bts_list,bts_size];rfl
 have h2:(Lib.splitB ⟨#[32]⟩ 0 (min 4 ((bts s).size+1)-1) (bts s)).length=(lnW s).length:=by rw[←h1,List.length_map]
 refine⟨_,by rw[h2],bl_alloc (below_refl w) _,by simp,fun k p hk=>?_⟩;generalize min 4 ((bts s).size+1)=N at *;generalize Lib.splitB ⟨#[32]⟩ 0 (N-1) (bts s)=X at *;rw[←h1,List.getElem?_map] at hk;obtain⟨q,hq,rfl⟩:=Option.map_eq_some_iff.1 hk;have hk1:=(List.getElem?_eq_some_iff.1 hq).1;have hb:=Blk.new w 9 (Lib.cellsOf X N);rw[hb.cell k];unfold Lib.cellsOf;rw[List.getElem?_toArray,List.getElem?_append_left (by rw[List.length_map];exact hk1),List.getElem?_map,hq,list_bts];rfl
theorem c_AtoiN (s:List UInt8) (w:World) (hs:s.length<=300000) (hL:LdW w):
  Calls Tryz.prog 149 #[.string (bts s)] w fun e w'=>∃er,e=.returned (.tuple #[.int .i64 (valA s),er])∧(Tx.okA s=true->er=.nilIface)∧(Tx.okA s=false->∃te pe,er=.iface te pe)∧Below w.heap.size w w':=by
 cases h:atoiAll s
 ·rename_i v
  refine(Tryz.strconv_Atoi_ok (bts s) (by rw[bts_size];omega) v (by rw[bts_list];exact h) w).mono ?_;rintro e w' ⟨rfl,hw⟩;refine⟨_,by unfold valA;rw[h],fun _=>rfl,fun q=>(by unfold Tx.okA at q;rw[h] at q;cases q),?_⟩;rcases hw with rfl|⟨t,rfl⟩
  ·exact below_refl _
  ·exact Lib.bytesWorld_below _ _ _
 ·obtain⟨ev,h1,h2⟩:=hL.sy;refine(Any.strconv_Atoi_syntax Tryz.laysC172 (bts s) (by rw[bts_size];omega) (by rw[bts_list];exact h) ev w h1 h2).mono ?_;rintro e w' ⟨N,rfl,_,_,hb⟩;exact⟨_,by unfold valA;rw[h],fun q=>(by unfold Tx.okA at q;rw[h] at q;cases q),fun _=>⟨_,_,rfl⟩,hb⟩
 ·obtain⟨ev,h1,h2⟩:=hL.rg;refine(Tryz.strconv_Atoi_range (bts s) (by rw[bts_size];omega) (by rw[bts_list];exact h) ev w h1 h2).mono ?_;rintro e w' ⟨N,rfl,_,_,hb⟩;refine⟨_,by unfold valA;rw[h,bts_list],fun q=>(by unfold Tx.okA at q;rw[h] at q;cases q),fun _=>⟨_,_,rfl⟩,hb⟩
theorem c_PU (s:List UInt8) (w:World) (hs:s.length<=300000) (hL:LdW w):
  Calls Tryz.prog 170 #[.string (bts s),.int .i64 10,.int .i64 64] w fun e w'=>∃er,e=.returned (.tuple #[.int .u64 (valU s:Nat),er])∧(okU s=true->er=.nilIface)∧(okU s=false->∃te pe,er=.iface te pe)∧Below w.heap.size w w':=by
 cases h:parseUintB 64 s
 ·rename_i v
  refine(Tryz.strconv_ParseUint_10_at64_ok (bts s) (by rw[bts_size];omega) v (by rw[bts_list];exact h) w).mono ?_;rintro e w' ⟨rfl,hw⟩;refine⟨_,by unfold valU;rw[h],fun _=>rfl,fun q=>(by unfold okU at q;rw[h] at q;cases q),?_⟩;rcases hw with rfl|rfl
  ·exact below_refl _
  ·exact Lib.bytesWorld_below _ _ _
 ·obtain⟨ev,h1,h2⟩:=hL.sy;refine(Any.strconv_ParseUint_10_at64_syntax Tryz.laysPu14 (bts s) (by rw[bts_size];omega) (by rw[bts_list];exact h) ev w h1 h2).mono ?_;rintro e w' ⟨N,rfl,_,_,hb⟩;exact⟨_,by unfold valU;rw[h];rfl,fun q=>(by unfold okU at q;rw[h] at q;cases q),fun _=>⟨_,_,rfl⟩,hb⟩
 ·obtain⟨ev,h1,h2⟩:=hL.rg;refine(Tryz.strconv_ParseUint_10_at64_range (bts s) (by rw[bts_size];omega) (by rw[bts_list];exact h) ev w h1 h2).mono ?_;rintro e w' ⟨N,rfl,_,_,hb⟩;exact⟨_,by unfold valU;rw[h];rfl,fun q=>(by unfold okU at q;rw[h] at q;cases q),fun _=>⟨_,_,rfl⟩,hb⟩
theorem eqB_dec (a b:List UInt8):((bts a).toList==(bts b).toList)=decide (a=b):=by
 rw[ByteArray.toList_eq,ByteArray.toList_eq,bts_list,bts_list,Bool.eq_iff_iff,decide_eq_true_iff,beq_iff_eq]
theorem f_lineOfS {s:List UInt8} (h:(lnW s).length<4∨(lnW s).getD 3 []=[]) (w:World) (hs:s.length<=300000) (hL:LdW w):
  Calls Tryz.prog 128 #[.string (bts s)] w fun e w'=>e=.returned (.tuple #[enV (lnX s),.bool (lnQ s)])∧Below w.heap.size w w':=by
 have hX:lnX s=⟨0,0,⟨#[]⟩,0⟩:=if_pos h;have hQ:lnQ s=false:=if_pos h;rw[hX,hQ];have HS:=hid (fun W (q:Below w.heap.size w W)=>c_SplitN s W hs (hL.on q));have hn:(lnW s).length<=4:=by
  have:=splitK_n (min 4 (s.length+1)-1) s;unfold lnW;omega
 have x0:=Blk.new w 62 #[.int .i64 0,.int .i64 0,.string ⟨#[]⟩,.int .u64 0];have B0:=bl_alloc (below_refl w) (.cells #[.int .i64 0,.int .i64 0,.string ⟨#[]⟩,.int .u64 0] 62);have HH:=hid (show ¬(lnW s).length<4->(lnW s)[3]?=some [] from fun k=>by
  obtain⟨p0,p1,p2,p3,e,_⟩:=lnW_four s k;rcases h with h|h
  ·exact absurd h k
  ·rw[e] at h ⊢;exact congrArg some h)
 clear hX hQ h hs hL;generalize lnW s=P at *;obtain⟨n,hP⟩:∃n,P.length=n:=⟨_,rfl⟩;rw[hP] at HS hn;have HP:=hid hP;clear hP;go_enter Tryz.func128,Tryz.ntmps128
 go_upto_region 1 with fail
 have lq:w.heap.size<(w.alloc (.cells #[.int .i64 0,.int .i64 0,.string ⟨#[]⟩,.int .u64 0] 62)).heap.size:=by simp
 generalize w.alloc (.cells #[.int .i64 0,.int .i64 0,.string ⟨#[]⟩,.int .u64 0] 62)=wq at *;go_upto_region 2 with (go_at_call 169;((with_reducible refine(HS.out _ B0).mono ?_);rintro e w1 ⟨c1,rfl,hb1,hz1,HC⟩;replace HC:=hid HC))
 have B1:=below_tr B0 hb1;have x1:=x0.below hb1 lq;have x2:=((((x1.set_ 0 (.int .i64 0)).set_ 1 (.int .i64 0)).set_ 2 (.string ⟨#[]⟩)).set_ 3 (.int .u64 0));have X2:=hid x2;have f0:=x1.cell 0;have f1:=x1.cell 1;have f2:=x1.cell 2;have f3:=x1.cell 3;simp only[GA] at f0 f1 f2 f3;have af0:=x1.frozen 0;have af1:=x1.frozen 1;have af2:=x1.frozen 2;have af3:=x1.frozen 3;clear x2;by_cases h4:(n:Int)<4
 ·go_wp2;refine bodyPost_ret (v:=.tuple #[.agg #[.int .i64 0,.int .i64 0,.string ⟨#[]⟩,.int .u64 0],.bool false]) (res_ct (u:=3) rfl rfl (load_en X2.out)) rfl ⟨rfl,?_⟩;(repeat'(first|assumption|exact below_refl _|refine bl_alloc ?_ _|refine Below.setCell ?_ ?_ _|refine below_draw ?_|refine below_drewN ?_ _|refine below_tr ?_ (by assumption)))<;>(first|omega|(simp;done)|(simp;omega))
 ·have k3:=HC.out 3 [] (HH.out (by have:=HP.out;omega));have k3':w1.cell? ⟨wq.heap.size,3,none⟩=some (.string ⟨#[]⟩):=k3;clear k3;have i3:(3:Int)<(n:Int):=by omega
  go_wp2;refine bodyPost_ret (v:=.tuple #[.agg #[.int .i64 0,.int .i64 0,.string ⟨#[]⟩,.int .u64 0],.bool false]) (res_ct (u:=3) rfl rfl (load_en X2.out)) rfl ⟨rfl,?_⟩;(repeat'(first|assumption|exact below_refl _|refine bl_alloc ?_ _|refine Below.setCell ?_ ?_ _|refine below_draw ?_|refine below_drewN ?_ _|refine below_tr ?_ (by assumption)))<;>(first|omega|(simp;done)|(simp;omega))
theorem f_lineOfG {s p0 p1 p2 p3:List UInt8} (hW:lnW s=[p0,p1,p2,p3]) (hp3:p3≠[]) (hz:p0.length<=s.length∧p1.length<=s.length∧p2.length<=s.length∧p3.length<=s.length) (w:World) (hs:s.length<=300000) (hL:LdW w):
  Calls Tryz.prog 128 #[.string (bts s)] w fun e w'=>e=.returned (.tuple #[enV (lnX s),.bool (lnQ s)])∧Below w.heap.size w w':=by
 obtain⟨z0,z1,z2,z3⟩:=hz;have hnn:¬((lnW s).length<4∨(lnW s).getD 3 []=[]):=by
  rw[hW];rintro (h|h)
  ·exact absurd h (by simp)
  ·exact hp3 h
 have hX:lnX s=⟨valA p0,valA p1,bts p3,valU p2⟩:=by
  unfold lnX;rw[if_neg hnn,hW];rfl
 have hQ:lnQ s=(Tx.okA p0&&(Tx.okA p1&&(okU p2&&((decide (itoa (valA p0)=p0)&&(decide (itoa (valA p1)=p1)&&decide (decDigits (valU p2)=p2)))&&wn (valA p1) 0 100000)))):=by
  unfold lnQ;rw[if_neg hnn,hW];rfl
 rw[hX,hQ];have HS:=hid (fun W (q:Below w.heap.size w W)=>(show Calls Tryz.prog 169 #[.string (bts s),.string ⟨#[32]⟩,.int .i64 4] W fun e w'=>∃c,e=.returned (.slice (some ⟨W.heap.size,0,none⟩) 4 c)∧Below W.heap.size W w'∧W.heap.size<w'.heap.size∧w'.cell? ⟨W.heap.size,0,none⟩=some (.string (bts p0))∧w'.cell? ⟨W.heap.size,1,none⟩=some (.string (bts p1))∧w'.cell? ⟨W.heap.size,2,none⟩=some (.string (bts p2))∧w'.cell? ⟨W.heap.size,3,none⟩=some (.string (bts p3)) from by
  refine(c_SplitN s W hs (hL.on q)).mono ?_;rintro e w' ⟨c,rfl,hb,hz,HC⟩;rw[hW] at HC ⊢;exact⟨c,rfl,hb,hz,HC 0 _ rfl,HC 1 _ rfl,HC 2 _ rfl,HC 3 _ rfl⟩))
 have HA0:=hid (fun W (q:Below w.heap.size w W)=>c_AtoiN p0 W (by omega) (hL.on q));have HA1:=hid (fun W (q:Below w.heap.size w W)=>c_AtoiN p1 W (by omega) (hL.on q));have HU:=hid (fun W (q:Below w.heap.size w W)=>c_PU p2 W (by omega) (hL.on q));have HI0:=hid (fun W (q:Below w.heap.size w W)=>c_ItoaV (valA p0) W (valA_bd p0).1 (valA_bd p0).2 (hL.on q).tab);have HI1:=hid (fun W (q:Below w.heap.size w W)=>c_ItoaV (valA p1) W (valA_bd p1).1 (valA_bd p1).2 (hL.on q).tab);have HD:=hid (fun W (q:Below w.heap.size w W)=>f_digits (valU p2) (valU_lt p2) W (hL.on q).tab);have g3:(bts p3).toList.isEmpty=false:=by
  rw[ByteArray.toList_eq,bts_list];cases p3 with
  |nil=>exact absurd rfl hp3
  |cons _ _=>rfl
 have g0:=eqB_dec (itoa (valA p0)) p0;have g1:=eqB_dec (itoa (valA p1)) p1;have g2:=eqB_dec (decDigits (valU p2)) p2;clear hp3 hW hs hL z0 z1 z2 z3 hX hQ hnn;generalize decide (itoa (valA p0)=p0)=E0 at *;generalize decide (itoa (valA p1)=p1)=E1 at *;generalize decide (decDigits (valU p2)=p2)=E2 at *;generalize hwn:wn (valA p1) 0 100000=WN at *;generalize Tx.okA p0=A0 at *;generalize Tx.okA p1=A1 at *;generalize okU p2=A2 at *;generalize bts (itoa (valA p0))=S0 at *;generalize bts (itoa (valA p1))=S1 at *;generalize bts (decDigits (valU p2))=S2 at *;generalize valA p0=V0 at *;generalize valA p1=V1 at *;generalize valU p2=U at *;generalize bts p0=P0 at *;generalize bts p1=P1 at *;generalize bts p2=P2 at *;generalize bts p3=P3 at *;have G0:=hid g0;have G1:=hid g1;have G2:=hid g2;have HWN:=hid hwn;clear g0 g1 g2 hwn;have x0:=Blk.new w 62 #[.int .i64 0,.int .i64 0,.string ⟨#[]⟩,.int .u64 0];have B0:=bl_alloc (below_refl w) (.cells #[.int .i64 0,.int .i64 0,.string ⟨#[]⟩,.int .u64 0] 62);go_enter Tryz.func128,Tryz.ntmps128
 go_upto_region 1 with fail
 have lq:w.heap.size<(w.alloc (.cells #[.int .i64 0,.int .i64 0,.string ⟨#[]⟩,.int .u64 0] 62)).heap.size:=by simp
 generalize w.alloc (.cells #[.int .i64 0,.int .i64 0,.string ⟨#[]⟩,.int .u64 0] 62)=wq at *
 go_upto_region 7 with (first
  |(go_at_call 169;((with_reducible refine(HS.out _ B0).mono ?_);rintro e w1 ⟨c1,rfl,hb1,hz1,k0,k1,k2,k3⟩;have kk:wq.heap.size<w1.heap.size:=hz1))
  |(go_at_call 149;((with_reducible refine(HA0.out _ (below_tr B0 bl)).mono ?_);rintro e w2 ⟨er0,rfl,hy0,hn0,hb2⟩;replace hy0:=hid hy0;replace hn0:=hid hn0;have hc2:=(bcell hb2).1;have hz2:=hb2.size;have k0:=(hc2 _ 0 kk).trans k0;have k1:=(hc2 _ 1 kk).trans k1;have k2:=(hc2 _ 2 kk).trans k2;have k3:=(hc2 _ 3 kk).trans k3;clear hc2;have kk:=Nat.lt_of_lt_of_le kk hz2))
  |(go_at_call 149;((with_reducible refine(HA1.out _ (below_tr B0 bl)).mono ?_);rintro e w3 ⟨er1,rfl,hy1,hn1,hb3⟩;replace hy1:=hid hy1;replace hn1:=hid hn1;have hc3:=(bcell hb3).1;have hz3:=hb3.size;have k0:=(hc3 _ 0 kk).trans k0;have k1:=(hc3 _ 1 kk).trans k1;have k2:=(hc3 _ 2 kk).trans k2;have k3:=(hc3 _ 3 kk).trans k3;clear hc3;have kk:=Nat.lt_of_lt_of_le kk hz3))
  |(go_at_call 170;((with_reducible refine(HU.out _ (below_tr B0 bl)).mono ?_);rintro e w4 ⟨er2,rfl,hy2,hn2,hb4⟩;replace hy2:=hid hy2;replace hn2:=hid hn2;have hc4:=(bcell hb4).1;have hz4:=hb4.size;have k0:=(hc4 _ 0 kk).trans k0;have k1:=(hc4 _ 1 kk).trans k1;have k2:=(hc4 _ 2 kk).trans k2;have k3:=(hc4 _ 3 kk).trans k3;clear hc4;have kk:=Nat.lt_of_lt_of_le kk hz4)))
 have B04:Below wq.heap.size wq w4:=bl;have B4:=below_tr B0 B04;have x4:=x0.below B04 x0.lt;clear hz1 hb1 hb2 hb3 hb4 hz2 hz3 hz4 HS HA0 HA1 HU g3 x0 B0 B04;go_cut [11] (fun v wx=>v=.bool (E0&&(E1&&E2))∧Below w4.heap.size w4 wx)
 case first=>
  cases E0
  ·have g0:=G0.out;refine wp_region_noPanic ?_;refine th w4 fun hS0=>?_;refine tq 0 ?_;refine tq 2 ?_;refine tq 3 ?_;refine tq 4 ?_;refine tr 1 fun K hK=>?_;go_simp
   (go_at_call 70;((with_reducible refine(HI0.out _ (below_tr B4 bl)).mono ?_);rintro e w5 ⟨rfl,hb5⟩;obtain⟨hc5,hf5,hz5⟩:=qz hb5))
   refine hK.out _ _ kq (fun hS1=>?_);clear hK K;try simp only[AP]
   refine tq 5 ?_;refine tq 6 ?_;refine tv 7 ?_;refine tv 8 ?_;refine tv 9 ?_;refine tv 10 ?_;refine tv 11 ?_;refine tv 12 ?_;refine tq 13 ?_;refine tq 14 ?_;refine tv 15 ?_;refine tv 16 ?_;refine tv 17 ?_;refine tv 18 ?_;refine tv 19 ?_;refine tv 20 ?_;refine tq 21 ?_;refine tq 22 ?_;refine wpAnyH_done (by kernel_rfl) (NoPanic.normal ?_) _;rotate_left
   all_goals
    try simp only[Act.put,List.getElem_toArray,List.getElem_cons_zero,List.getElem_cons_succ,List.setIfInBounds_toArray,List.set_cons_zero,List.set_cons_succ]
    go_wp2;go_meet
    exact⟨rfl,bl⟩
  cases E1
  ·have g0:=G0.out;have g1:=G1.out;refine wp_region_noPanic ?_;refine th w4 fun hS0=>?_;refine tq 0 ?_;refine tq 2 ?_;refine tq 3 ?_;refine tq 4 ?_;refine tr 1 fun K hK=>?_;go_simp
   (go_at_call 70;((with_reducible refine(HI0.out _ (below_tr B4 bl)).mono ?_);rintro e w5 ⟨rfl,hb5⟩;obtain⟨hc5,hf5,hz5⟩:=qz hb5))
   refine hK.out _ _ kq (fun hS1=>?_);clear hK K;try simp only[AP]
   refine tq 5 ?_;refine tq 6 ?_;refine tq 7 ?_;refine tq 9 ?_;refine tq 10 ?_;refine tq 11 ?_;refine tr 8 fun K hK=>?_;go_simp
   (go_at_call 70;((with_reducible refine(HI1.out _ (below_tr B4 bl)).mono ?_);rintro e w6 ⟨rfl,hb6⟩;obtain⟨hc6,hf6,hz6⟩:=qz hb6))
   refine hK.out _ _ kq (fun hS2=>?_);clear hK K;try simp only[AP]
   refine tq 12 ?_;refine tq 13 ?_;refine tq 14 ?_;refine tv 15 ?_;refine tv 16 ?_;refine tv 17 ?_;refine tv 18 ?_;refine tv 19 ?_;refine tv 20 ?_;refine tq 21 ?_;refine tq 22 ?_;refine wpAnyH_done (by kernel_rfl) (NoPanic.normal ?_) _;rotate_left
   all_goals
    try simp only[Act.put,List.getElem_toArray,List.getElem_cons_zero,List.getElem_cons_succ,List.setIfInBounds_toArray,List.set_cons_zero,List.set_cons_succ]
    go_wp2;go_meet
    exact⟨rfl,bl⟩
  ·have g0:=G0.out;have g1:=G1.out;have g2:=G2.out;refine wp_region_noPanic ?_;refine th w4 fun hS0=>?_;refine tq 0 ?_;refine tq 2 ?_;refine tq 3 ?_;refine tq 4 ?_;refine tr 1 fun K hK=>?_;go_simp
   (go_at_call 70;((with_reducible refine(HI0.out _ (below_tr B4 bl)).mono ?_);rintro e w5 ⟨rfl,hb5⟩;obtain⟨hc5,hf5,hz5⟩:=qz hb5))
   refine hK.out _ _ kq (fun hS1=>?_);clear hK K;try simp only[AP]
   refine tq 5 ?_;refine tq 6 ?_;refine tq 7 ?_;refine tq 9 ?_;refine tq 10 ?_;refine tq 11 ?_;refine tr 8 fun K hK=>?_;go_simp
   (go_at_call 70;((with_reducible refine(HI1.out _ (below_tr B4 bl)).mono ?_);rintro e w6 ⟨rfl,hb6⟩;obtain⟨hc6,hf6,hz6⟩:=qz hb6))
   refine hK.out _ _ kq (fun hS2=>?_);clear hK K;try simp only[AP]
   refine tq 12 ?_;refine tq 13 ?_;refine tq 14 ?_;refine tq 15 ?_;refine tq 17 ?_;refine tq 18 ?_;refine tq 19 ?_;refine tr 16 fun K hK=>?_;go_simp
   (go_at_call 71;((with_reducible refine(HD.out _ (below_tr B4 bl)).mono ?_);rintro e w7 ⟨rfl,hb7⟩;obtain⟨hc7,hf7,hz7⟩:=qz hb7))
   refine hK.out _ _ kq (fun hS3=>?_);clear hK K;try simp only[AP]
   refine tq 20 ?_;refine tq 21 ?_;refine tq 22 ?_;refine wpAnyH_done (by kernel_rfl) (NoPanic.normal ?_) _;rotate_left
   all_goals
    try simp only[Act.put,List.getElem_toArray,List.getElem_cons_zero,List.getElem_cons_succ,List.setIfInBounds_toArray,List.set_cons_zero,List.set_cons_succ]
    go_wp2;go_meet
    exact⟨rfl,bl⟩
 case rest=>
  obtain⟨rfl,B7⟩:=hcut;generalize hSM:(E0&&(E1&&E2))=SM at *;have HSM:=hid hSM;clear hSM;have k37:=((bcell B7).1 _ 3 kk).trans k3;have x7:=x4.below B7 x4.lt;have l7:=x7.lt;have kb:wq.heap.size<wc.heap.size:=Nat.lt_of_lt_of_le kk B7.size;have B07:=below_tr B4 B7;have nq:wq.heap.size≠w.heap.size:=by omega
  have f0:=x7.cell 0;have f1:=x7.cell 1;have f2:=x7.cell 2;have f3:=x7.cell 3;simp only[GA] at f0 f1 f2 f3;have af0:=x7.frozen 0;have af1:=x7.frozen 1;have af2:=x7.frozen 2;have af3:=x7.frozen 3;have X7:=hid x7;have NB:=hid B07;clear k0 k1 k2 k3 x4 x7 B4 B7 B07 kk HI0 HI1 HD G0 G1 G2 lq;generalize wq.heap.size=bq at *;go_upto_region 8 with fail
  have HB:=((((X7.out.drew.set_ 0 (.int .i64 V0)).set_ 1 (.int .i64 V1)).set_ 2 (.string P3)).set_ 3 (.int .u64 (U:Nat)));replace HB:=hid HB
  cases A0
  ·obtain⟨te,pe,rfl⟩:=hn0.out rfl;clear hn0 hy0 hn1 hy1 hn2 hy2;refine wp_region_noPanic ?_;refine wp_region_held_drew (S:=(fun w'=>(∀b o,b<wc.heap.size->b≠w.heap.size->w'.cell? ⟨b,o,none⟩=wc.cell? ⟨b,o,none⟩)∧(∀b o,b<wc.heap.size->w'.frozen? ⟨b,o,none⟩=wc.frozen? ⟨b,o,none⟩)∧Stp (fun g=>g=w.heap.size) wc w')) (by kernel_rfl) (kn_draw kn_refl) (fun hS0=>?_);refine tq 0 ?_;refine tq 1 ?_;refine tq 2 ?_;refine tq 3 ?_;refine tq 4 ?_;refine tq 5 ?_;refine tq 6 ?_;refine tq 7 ?_;refine tq 8 ?_;refine tq 9 ?_;refine tv 10 ?_;refine tv 11 ?_;refine tq 12 ?_;refine tq 13 ?_;refine tv 14 ?_;refine tv 15 ?_;refine tq 16 ?_;refine tq 17 ?_;refine tv 18 ?_;refine tq 19 ?_;refine tq 20 ?_;refine tv 21 ?_;refine tv 22 ?_;refine tq 23 ?_;refine tr 24 fun K hK=>?_;go_simp
   refine hK.out _ _ (by((show Kn wc w.heap.size _);(repeat'(first|refine kn_set ?_|refine kn_draw ?_|refine kn_drewN ?_|refine kn_alloc ?_|with_reducible exact kn_refl|assumption|refine kn_step ?_ (by assumption)));(all_goals(first|omega|(simp;omega))))) (fun hS1=>?_);clear hK K;try simp only[AP]
   refine tq 25 ?_;refine wpAnyH_done (by kernel_rfl) (NoPanic.normal ?_) _;rotate_left
   all_goals
    try simp only[Act.put,List.getElem_toArray,List.getElem_cons_zero,List.getElem_cons_succ,List.setIfInBounds_toArray,List.set_cons_zero,List.set_cons_succ]
    go_wp2;refine bodyPost_ret (v:=.tuple #[.agg #[.int .i64 V0,.int .i64 V1,.string P3,.int .u64 (U:Nat)],.bool false]) (res_ct (u:=3) rfl rfl (load_en HB.out)) rfl ⟨rfl,?_⟩;have B07:=NB.out;(repeat'(first|assumption|exact below_refl _|refine bl_alloc ?_ _|refine Below.setCell ?_ ?_ _|refine below_draw ?_|refine below_drewN ?_ _|refine below_tr ?_ (by assumption)))<;>(first|omega|(simp;done)|(simp;omega))
  obtain rfl:=hy0.out rfl;cases A1
  ·obtain⟨te,pe,rfl⟩:=hn1.out rfl;clear hn0 hy0 hn1 hy1 hn2 hy2;refine wp_region_noPanic ?_;refine wp_region_held_drew (S:=(fun w'=>(∀b o,b<wc.heap.size->b≠w.heap.size->w'.cell? ⟨b,o,none⟩=wc.cell? ⟨b,o,none⟩)∧(∀b o,b<wc.heap.size->w'.frozen? ⟨b,o,none⟩=wc.frozen? ⟨b,o,none⟩)∧Stp (fun g=>g=w.heap.size) wc w')) (by kernel_rfl) (kn_draw kn_refl) (fun hS0=>?_);refine tq 0 ?_;refine tq 1 ?_;refine tq 2 ?_;refine tq 3 ?_;refine tq 4 ?_;refine tq 5 ?_;refine tq 6 ?_;refine tq 7 ?_;refine tq 8 ?_;refine tq 9 ?_;refine tq 10 ?_;refine tq 11 ?_;refine tq 12 ?_;refine tq 13 ?_;refine tv 14 ?_;refine tv 15 ?_;refine tq 16 ?_;refine tq 17 ?_;refine tv 18 ?_;refine tq 19 ?_;refine tq 20 ?_;refine tv 21 ?_;refine tv 22 ?_;refine tq 23 ?_;refine tr 24 fun K hK=>?_;go_simp
   refine hK.out _ _ (by((show Kn wc w.heap.size _);(repeat'(first|refine kn_set ?_|refine kn_draw ?_|refine kn_drewN ?_|refine kn_alloc ?_|with_reducible exact kn_refl|assumption|refine kn_step ?_ (by assumption)));(all_goals(first|omega|(simp;omega))))) (fun hS1=>?_);clear hK K;try simp only[AP]
   refine tq 25 ?_;refine wpAnyH_done (by kernel_rfl) (NoPanic.normal ?_) _;rotate_left
   all_goals
    try simp only[Act.put,List.getElem_toArray,List.getElem_cons_zero,List.getElem_cons_succ,List.setIfInBounds_toArray,List.set_cons_zero,List.set_cons_succ]
    go_wp2;refine bodyPost_ret (v:=.tuple #[.agg #[.int .i64 V0,.int .i64 V1,.string P3,.int .u64 (U:Nat)],.bool false]) (res_ct (u:=3) rfl rfl (load_en HB.out)) rfl ⟨rfl,?_⟩;have B07:=NB.out;(repeat'(first|assumption|exact below_refl _|refine bl_alloc ?_ _|refine Below.setCell ?_ ?_ _|refine below_draw ?_|refine below_drewN ?_ _|refine below_tr ?_ (by assumption)))<;>(first|omega|(simp;done)|(simp;omega))
  obtain rfl:=hy1.out rfl;cases A2
  ·obtain⟨te,pe,rfl⟩:=hn2.out rfl;clear hn0 hy0 hn1 hy1 hn2 hy2;refine wp_region_noPanic ?_;refine wp_region_held_drew (S:=(fun w'=>(∀b o,b<wc.heap.size->b≠w.heap.size->w'.cell? ⟨b,o,none⟩=wc.cell? ⟨b,o,none⟩)∧(∀b o,b<wc.heap.size->w'.frozen? ⟨b,o,none⟩=wc.frozen? ⟨b,o,none⟩)∧Stp (fun g=>g=w.heap.size) wc w')) (by kernel_rfl) (kn_draw kn_refl) (fun hS0=>?_);refine tq 0 ?_;refine tq 1 ?_;refine tq 2 ?_;refine tq 3 ?_;refine tq 4 ?_;refine tq 5 ?_;refine tq 6 ?_;refine tq 7 ?_;refine tq 8 ?_;refine tq 9 ?_;refine tq 10 ?_;refine tq 11 ?_;refine tq 12 ?_;refine tq 13 ?_;refine tq 14 ?_;refine tq 15 ?_;refine tq 16 ?_;refine tq 17 ?_;refine tv 18 ?_;refine tq 19 ?_;refine tq 20 ?_;refine tv 21 ?_;refine tv 22 ?_;refine tq 23 ?_;refine tr 24 fun K hK=>?_;go_simp
   refine hK.out _ _ (by((show Kn wc w.heap.size _);(repeat'(first|refine kn_set ?_|refine kn_draw ?_|refine kn_drewN ?_|refine kn_alloc ?_|with_reducible exact kn_refl|assumption|refine kn_step ?_ (by assumption)));(all_goals(first|omega|(simp;omega))))) (fun hS1=>?_);clear hK K;try simp only[AP]
   refine tq 25 ?_;refine wpAnyH_done (by kernel_rfl) (NoPanic.normal ?_) _;rotate_left
   all_goals
    try simp only[Act.put,List.getElem_toArray,List.getElem_cons_zero,List.getElem_cons_succ,List.setIfInBounds_toArray,List.set_cons_zero,List.set_cons_succ]
    go_wp2;refine bodyPost_ret (v:=.tuple #[.agg #[.int .i64 V0,.int .i64 V1,.string P3,.int .u64 (U:Nat)],.bool false]) (res_ct (u:=3) rfl rfl (load_en HB.out)) rfl ⟨rfl,?_⟩;have B07:=NB.out;(repeat'(first|assumption|exact below_refl _|refine bl_alloc ?_ _|refine Below.setCell ?_ ?_ _|refine below_draw ?_|refine below_drewN ?_ _|refine below_tr ?_ (by assumption)))<;>(first|omega|(simp;done)|(simp;omega))
  obtain rfl:=hy2.out rfl;clear hn0 hy0 hn1 hy1 hn2 hy2;cases SM
  ·skip
   refine wp_region_noPanic ?_;refine wp_region_held_drew (S:=(fun w'=>(∀b o,b<wc.heap.size->b≠w.heap.size->w'.cell? ⟨b,o,none⟩=wc.cell? ⟨b,o,none⟩)∧(∀b o,b<wc.heap.size->w'.frozen? ⟨b,o,none⟩=wc.frozen? ⟨b,o,none⟩)∧Stp (fun g=>g=w.heap.size) wc w')) (by kernel_rfl) (kn_draw kn_refl) (fun hS0=>?_);refine tq 0 ?_;refine tq 1 ?_;refine tq 2 ?_;refine tq 3 ?_;refine tq 4 ?_;refine tq 5 ?_;refine tq 6 ?_;refine tq 7 ?_;refine tq 8 ?_;refine tq 9 ?_;refine tq 10 ?_;refine tq 11 ?_;refine tq 12 ?_;refine tq 13 ?_;refine tq 14 ?_;refine tq 15 ?_;refine tq 16 ?_;refine tq 17 ?_;refine tq 18 ?_;refine tq 19 ?_;refine tq 20 ?_;refine tv 21 ?_;refine tv 22 ?_;refine tq 23 ?_;refine tr 24 fun K hK=>?_;go_simp
   refine hK.out _ _ (by((show Kn wc w.heap.size _);(repeat'(first|refine kn_set ?_|refine kn_draw ?_|refine kn_drewN ?_|refine kn_alloc ?_|with_reducible exact kn_refl|assumption|refine kn_step ?_ (by assumption)));(all_goals(first|omega|(simp;omega))))) (fun hS1=>?_);clear hK K;try simp only[AP]
   refine tq 25 ?_;refine wpAnyH_done (by kernel_rfl) (NoPanic.normal ?_) _;rotate_left
   all_goals
    try simp only[Act.put,List.getElem_toArray,List.getElem_cons_zero,List.getElem_cons_succ,List.setIfInBounds_toArray,List.set_cons_zero,List.set_cons_succ]
    go_wp2;refine bodyPost_ret (v:=.tuple #[.agg #[.int .i64 V0,.int .i64 V1,.string P3,.int .u64 (U:Nat)],.bool false]) (res_ct (u:=3) rfl rfl (load_en HB.out)) rfl ⟨by rw[HSM.out];rfl,?_⟩;have B07:=NB.out;(repeat'(first|assumption|exact below_refl _|refine bl_alloc ?_ _|refine Below.setCell ?_ ?_ _|refine below_draw ?_|refine below_drewN ?_ _|refine below_tr ?_ (by assumption)))<;>(first|omega|(simp;done)|(simp;omega))
  ·skip
   refine wp_region_noPanic ?_;refine wp_region_held_drew (S:=(fun w'=>(∀b o,b<wc.heap.size->b≠w.heap.size->w'.cell? ⟨b,o,none⟩=wc.cell? ⟨b,o,none⟩)∧(∀b o,b<wc.heap.size->w'.frozen? ⟨b,o,none⟩=wc.frozen? ⟨b,o,none⟩)∧Stp (fun g=>g=w.heap.size) wc w')) (by kernel_rfl) (kn_draw kn_refl) (fun hS0=>?_);refine tq 0 ?_;refine tq 1 ?_;refine tq 2 ?_;refine tq 3 ?_;refine tq 4 ?_;refine tq 5 ?_;refine tq 6 ?_;refine tq 7 ?_;refine tq 8 ?_;refine tq 9 ?_;refine tq 10 ?_;refine tq 11 ?_;refine tq 12 ?_;refine tq 13 ?_;refine tq 14 ?_;refine tq 15 ?_;refine tq 16 ?_;refine tq 17 ?_;refine tq 18 ?_;refine tq 19 ?_;refine tq 20 ?_;refine tq 21 ?_;refine tr 22 fun K hK=>?_;go_simp
   (go_at_call 24;((with_reducible refine(f_withinV HWN.out _).mono ?_);rintro e w' ⟨rfl,rfl⟩))
   refine hK.out _ _ (by((show Kn wc w.heap.size _);(repeat'(first|refine kn_set ?_|refine kn_draw ?_|refine kn_drewN ?_|refine kn_alloc ?_|with_reducible exact kn_refl|assumption|refine kn_step ?_ (by assumption)));(all_goals(first|omega|(simp;omega))))) (fun hS1=>?_);clear hK K;try simp only[AP]
   refine tq 23 ?_;refine tr 24 fun K hK=>?_;go_simp
   refine hK.out _ _ (by((show Kn wc w.heap.size _);(repeat'(first|refine kn_set ?_|refine kn_draw ?_|refine kn_drewN ?_|refine kn_alloc ?_|with_reducible exact kn_refl|assumption|refine kn_step ?_ (by assumption)));(all_goals(first|omega|(simp;omega))))) (fun hS2=>?_);clear hK K;try simp only[AP]
   refine tq 25 ?_;refine wpAnyH_done (by kernel_rfl) (NoPanic.normal ?_) _;rotate_left
   all_goals
    try simp only[Act.put,List.getElem_toArray,List.getElem_cons_zero,List.getElem_cons_succ,List.setIfInBounds_toArray,List.set_cons_zero,List.set_cons_succ]
    go_wp2;refine bodyPost_ret (v:=.tuple #[.agg #[.int .i64 V0,.int .i64 V1,.string P3,.int .u64 (U:Nat)],.bool WN]) (res_ct (u:=3) rfl rfl (load_en HB.out)) rfl ⟨by rw[HSM.out];rfl,?_⟩;have B07:=NB.out;(repeat'(first|assumption|exact below_refl _|refine bl_alloc ?_ _|refine Below.setCell ?_ ?_ _|refine below_draw ?_|refine below_drewN ?_ _|refine below_tr ?_ (by assumption)))<;>(first|omega|(simp;done)|(simp;omega))
theorem f_lineOf (s:List UInt8) (w:World) (hs:s.length<=300000) (hL:LdW w):
  Calls Tryz.prog 128 #[.string (bts s)] w fun e w'=>e=.returned (.tuple #[enV (lnX s),.bool (lnQ s)])∧Below w.heap.size w w':=by
 by_cases h:(lnW s).length<4∨(lnW s).getD 3 []=[]
 ·exact f_lineOfS h w hs hL
 ·obtain⟨p0,p1,p2,p3,hW,hz⟩:=lnW_four s (fun k=>h (.inl k));exact f_lineOfG hW (fun e=>h (.inr (by rw[hW,e];rfl))) hz w hs hL
end Go.Proofs.YtjkkfcghkeoedaaGreatDoor.Fi
namespace Go.Proofs.YtjkkfcghkeoedaaGreatDoor.Fi
open Go.Lib Tx
def hungL (x:St):List (List UInt8):=x.rigs.flatMap fun r=>r.lk.map fun k=>k.nm.data.toList
structure Safe (x:St):Prop where
 up:upN x<=x.x.men
 go:upN x=0∨goB x x.gusts=true
 site:∀s∈x.sites,s.men≠1∧(0<s.men->s.fel=false∧0<s.dogs.length)
 dg:∀(i:Nat) (s:Sit),x.sites[i]?=some s->s.dogs=[]∨rgtB x.x.cl (jntA x (i:Int)) s.dogs=true
 rg:∀r∈x.rigs,r.lk=[]∨G.vldR x.items r.lk=true
 once:(hungL x).Nodup
theorem upF (l:List Sit):∀a:Int,l.foldl (fun a s=>a+s.men) a=a+l.foldl (fun a s=>a+s.men) 0:=by
 induction l with
 |nil=>intro a;simp
 |cons s l ih=>
  intro a;rw[List.foldl_cons,List.foldl_cons,ih,ih (0+s.men)];omega
theorem upF_set:∀(l:List Sit) (i:Nat) (s t:Sit),l[i]?=some s->(l.set i t).foldl (fun a s=>a+s.men) 0=l.foldl (fun a s=>a+s.men) (0:Int)-s.men+t.men
 |[],i,s,t,h=>by simp at h
 |y::l,0,s,t,h=>by
  cases h;rw[List.set_cons_zero,List.foldl_cons,List.foldl_cons,upF,upF l (0+y.men)];omega
 |y::l,i+1,s,t,h=>by
  rw[List.set_cons_succ,List.foldl_cons,List.foldl_cons,upF,upF l,upF_set l i s t h];omega
theorem siteA_get {x:St} {i:Int} (h:thB x i=true):x.sites[i.toNat]?=some (siteA x i):=by
 unfold thB at h;obtain⟨h1,h2⟩:=wn_iff.1 h;have hl:i.toNat<x.sites.length:=by omega
 unfold siteA;rw[List.getD_eq_getElem?_getD,List.getElem?_eq_getElem hl];rfl
theorem upN_set {x:St} {i:Int} (h:thB x i=true) (t:Sit):upN (setS x i t)=upN x-(siteA x i).men+t.men:=upF_set _ _ _ t (siteA_get h)
theorem Safe.set {x:St} (h:Safe x) {i:Int} (hi:thB x i=true) (t:Sit) (h1:upN x-(siteA x i).men+t.men<=x.x.men) (h2:upN x-(siteA x i).men+t.men=0∨goB x x.gusts=true)
  (h3:t.men≠1∧(0<t.men->t.fel=false∧0<t.dogs.length)) (h4:t.dogs=[]∨rgtB x.x.cl (jntA x i) t.dogs=true):Safe (setS x i t):=by
 have hu:=upN_set hi t;have hi0:((i.toNat:Nat):Int)=i:=by
  unfold thB at hi;have:=(wn_iff.1 hi).1;omega
 refine⟨by rw[hu];exact h1,by rw[hu];exact h2,fun s hs=>?_,fun k s hs=>?_,h.rg,h.once⟩
 ·rcases List.mem_or_eq_of_mem_set hs with h5|rfl
  ·exact h.site s h5
  ·exact h3
 ·have hs:(x.sites.set i.toNat t)[k]?=some s:=hs;rw[List.getElem?_set] at hs;split at hs
  ·rename_i hk
   split at hs
   ·cases hs;rw[←hk,hi0];exact h4
   ·cases hs
  ·exact h.dg k s hs
theorem Safe.zero {x:St} (h:Inv x) (h0:upN x=0):∀s∈x.sites,s.men=0:=fun s hs=>by
 have h1:=upN_ge (fun s hs=>(h.sm s hs).1) hs;have:=(h.sm s hs).1;omega
theorem mk_get {r:List G.Lk} {k:Nat} {x:G.Lk} (h:r[k]?=some x):G.lkAt r k=x:=by unfold G.lkAt;rw[h];rfl
end Go.Proofs.YtjkkfcghkeoedaaGreatDoor.Fi
namespace Go.Proofs.YtjkkfcghkeoedaaGreatDoor.Fi
open Go.RowKit Go.Lib Tx
theorem deed_x {c:Cm} {x y:St} (h:deed c x=.ok y):y.x=x.x:=by
 cases c<;>(unfold deed at h;dsimp only at h;(repeat' split at h)<;>first|(cases h;done)|(cases h;rfl))
theorem doC_x {c:Cm} {x:St}:(doC c x).2.x=x.x:=by
 unfold doC;split
 ·rfl
 ·split
  ·rfl
  ·rename_i y hy
   exact(deed_x hy:y.x=x.x)
theorem getD_i64 {l:List Int} (h:∀x∈l,I64 x) (i:Nat):I64 (l.getD i 0):=by
 rw[List.getD_eq_getElem?_getD];cases hx:l[i]? with
 |none=>exact⟨by decide,by decide⟩
 |some x=>exact h x (List.mem_of_getElem? hx)
theorem sng_ok {w:List UInt8} {n:Int} {c:Cm} (hn:I64 n) (h:sngO w n=some c):CmOk c:=by
 unfold sngO at h;repeat' split at h
 all_goals first|(cases h;done)|(cases h;exact hn)
theorem bts_le {s:List UInt8} (h:s.length<=100000):(bts s).size<=maxLen:=by rw[bts_size];unfold maxLen;omega
theorem cmd_ok {s:List UInt8} {c:Cm} (hs:s.length<=100000) (h:cmdO s=some c):CmOk c:=by
 have hP:∀p∈cutZ 32 s,p.length<=100000:=fun p hp=>Nat.le_trans (cut_szZ 32 s p hp) hs;have hN:(cutZ 32 s).length<=100001:=by have:=cutZ_len 32 s;omega
 unfold cmdO at h;split at h
 ·cases h
 ·rename_i w r hc
  rw[hc] at hP hN;have hr:∀p∈r,p.length<=100000:=fun p hp=>hP p (List.mem_cons_of_mem _ hp);have h0:(r.getD 0 []).length<=100000:=by
   cases r with
   |nil=>simp
   |cons p q=>exact hr p (List.mem_cons_self ..)
  rw[List.length_cons] at hN;split at h
  ·cases h
  split at h
  ·split at h
   ·rename_i n l h1 h2
    cases h;have e1:=(nms_some h1).2 n (List.mem_singleton_self n);have e2:=lks_some (fun p hp=>hr p (List.mem_of_mem_drop hp)) h2;refine⟨e1,?_,e2.2⟩;rw[e2.1,List.length_drop];omega
   ·cases h
  split at h
  ·cases h;exact bts_le h0
  split at h
  ·cases h;exact bts_le h0
  split at h
  ·cases h
  ·rename_i n hn
   have e:=nms_some hn;split at h
   ·cases h;refine⟨getD_i64 e.2 0,?_,fun x hx=>e.2 x (List.mem_of_mem_drop hx)⟩;rw[List.length_drop,e.1];omega
   split at h
   ·cases h;exact trivial
   split at h
   ·exact sng_ok (getD_i64 e.2 0) h
   split at h
   ·cases h;exact⟨getD_i64 e.2 0,getD_i64 e.2 1⟩
   split at h
   ·cases h;exact⟨getD_i64 e.2 0,getD_i64 e.2 1⟩
   ·cases h
theorem linR_x (br:St->Int->List UInt8) {x:St} {s:List UInt8}:(linR br x s).2.x=x.x:=by
 unfold linR;split
 ·rfl
 split
 ·rfl
 split
 ·rfl
 ·exact doC_x
theorem linsR_x (br:St->Int->List UInt8):∀(P:List (List UInt8)) (x:St),(linsR br x P).2.x=x.x
 |[],_=>rfl
 |p::P,x=>by
  show(linsR br (linR br x p).2 P).2.x=x.x;rw[linsR_x br P,linR_x]
theorem doR_x (br:St->Int->List UInt8) {x:St} {s:List UInt8}:(doR br x s).2.x=x.x:=by
 unfold doR;split
 ·rfl
 ·exact linsR_x br _ _
end Go.Proofs.YtjkkfcghkeoedaaGreatDoor.Fi
