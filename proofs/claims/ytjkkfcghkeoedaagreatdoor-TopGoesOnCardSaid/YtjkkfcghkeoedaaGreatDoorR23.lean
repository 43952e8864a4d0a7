/- The parts of the proof, part 23. -/
import Derived.Test.YtjkkfcghkeoedaaGreatDoorR0
import Derived.Test.YtjkkfcghkeoedaaGreatDoorR19
import Derived.Test.YtjkkfcghkeoedaaGreatDoorR20
import Derived.Test.YtjkkfcghkeoedaaGreatDoorR22
import Derived.Deep.DeepCutAuto
set_option maxHeartbeats 16000000
set_option maxRecDepth 20000
set_option linter.unusedSimpArgs false
set_option linter.unusedVariables false
namespace Go.Proofs.YtjkkfcghkeoedaaGreatDoor.Fi
open Go.RowKit Go.Lib Tx
theorem d_rigup (i:Int) (l:Sl G.Lk) (T:Nat->Prop) (nb sb rb:Nat) (L:LS) (w:World) (hN:Nxt T nb sb rb w L) (hI:Inv L.val) (hll:l.l.length<=100000) (hlw:∀q∈l.l,G.LW q) (hRl:Rd G.Lk.cs 2 w l.a l.l):
  Calls Tryz.prog 272 #[.agg #[.int .i64 i,.slice l.a l.l.length l.c],.pointer (some ⟨nb,0,none⟩)] w (DeedP (.rig i l.l) T nb sb rb L w):=by
 have x0:=Blk.new w 183 #[.int .i64 i,.slice l.a l.l.length l.c];have B0:=bl_alloc (below_refl w) (.cells #[.int .i64 i,.slice l.a l.l.length l.c] 183);have b0:=x0.cell 0;have b1:=x0.cell 1;simp only[GA] at b0 b1;have hN0:=hN.on B0;have hsl:L.sites.l.length<=8:=hI.slen;have hsl0:L.sites.l.length<=1000:=by omega
 cases hth:thB L.val i
 ·have HX:=hid (show deed (.rig i l.l) L.val=.error 5 by unfold deed;dsimp only;rw[if_pos hth]);have HAT:=hid (f_at_no nb L i _ hN0.cel hsl0 hth);go_enter Tryz.func272,Tryz.ntmps272
  go_wp2_with (go_at_call 274;((with_reducible refine(HAT.out).mono ?_);rintro e w' ⟨rfl,rfl⟩))
  exact⟨rfl,deed_err HX.out B0⟩
 obtain⟨i0,i1⟩:=thB_iff.1 hth;obtain⟨k,rfl⟩:=Int.eq_ofNat_of_zero_le i0;have hk:k<L.sites.l.length:=by omega
 obtain⟨s,cur,hs,ha,hbs,hir,c0,c1,c2⟩:=hN0.site hk;have hfz:=hbs.frozen;have HAT:=hid (f_at nb L k _ sb 0 hN0.cel hsl0 hk ha);have HSA:=hid (siteA_of hs);have hsm:=hI.men hs;have lsb:=hbs.lt;have lnb:=hN0.lt;have lw:=x0.lt;have hRl0:=hRl.on B0;have hrl:L.rigs.l.length<=50:=by have h:=hI.rl;unfold LS.val at h;dsimp only at h;rw[List.length_map] at h;exact h
 have hit:G.vldG L.items.l=true:=hI.it;have hiw:∀x∈L.items.l,G.IW x:=hI.iw;have hil:L.items.l.length<=100000:=by have:=G.vldG_len hit;omega
 have hbl:L.back.l.length<=100000:=by have:L.back.l.length<=100:=hI.bl;omega
 have dd0:0<=L.day:=hI.d0;have dd1:L.day<=100000:=hI.d1
 have HX2:=hid (show deed (.rig (k:Int) l.l) L.val=if s.fel=true then .error 10 else if ((G.vldG L.items.l&&G.vldR L.items.l l.l)&&decide (L.rigs.l.length<50))=false then .error 1
   else if l.l.any (badK L.val)=true then .error 12 else .ok {L.val with rigs:=L.val.rigs++[⟨(k:Int),l.l⟩]} by
  have e:L.val.rigs.length=L.rigs.l.length:=by unfold LS.val;dsimp only;rw[List.length_map]
  unfold deed;dsimp only;rw[if_neg (by rw[hth];simp),HSA.out,e];rfl)
 have hfn:=hN0.blk.frozen;have c17:(w.alloc (.cells #[.int .i64 (k:Int),.slice l.a l.l.length l.c] 183)).cell? ⟨nb,17,none⟩=some (.int .i64 L.day):=hN0.cel 17 _ rfl;have c19:(w.alloc (.cells #[.int .i64 (k:Int),.slice l.a l.l.length l.c] 183)).cell? ⟨nb,19,none⟩=some (.slice L.rigs.a L.rigs.l.length L.rigs.c):=hN0.cel 19 _ rfl;have c21:(w.alloc (.cells #[.int .i64 (k:Int),.slice l.a l.l.length l.c] 183)).cell? ⟨nb,21,none⟩=some (.slice L.items.a L.items.l.length L.items.c):=hN0.cel 21 _ rfl;have c22:(w.alloc (.cells #[.int .i64 (k:Int),.slice l.a l.l.length l.c] 183)).cell? ⟨nb,22,none⟩=some (.slice L.back.a L.back.l.length L.back.c):=hN0.cel 22 _ rfl;clear c0 c2;cases hfel:s.fel;rotate_left
 ·have HX:=hid (show deed (.rig (k:Int) l.l) L.val=.error 10 by rw[HX2.out,if_pos hfel]);rw[hfel] at c1;go_enter Tryz.func272,Tryz.ntmps272
  go_wp2_with (first|(go_at_call 274;((with_reducible refine(HAT.out).mono ?_);rintro e w' ⟨rfl,rfl⟩))|(go_at_call 131;((with_reducible refine(f_must_no _ _).mono ?_);rintro e w' ⟨rfl,rfl⟩)))
  exact⟨rfl,deed_err HX.out B0⟩
 rw[hfel] at c1;go_enter Tryz.func272,Tryz.ntmps272
 go_upto_region 2 with (first|(go_at_call 274;((with_reducible refine(HAT.out).mono ?_);rintro e w' ⟨rfl,rfl⟩))|(go_at_call 131;((with_reducible refine(f_must_ok _ _).mono ?_);rintro e w' ⟨rfl,rfl⟩)))
 generalize (w.alloc (.cells #[.int .i64 (k:Int),.slice l.a l.l.length l.c] 183))=w1 at *;have HVRr:=hid (fun w' (h:Below w1.heap.size w1 w') b hb=>G.p_ValidRigV (b:=b) (c:=L.items.c) (d:=l.c) hb hil hll ((hN0.on h).items.rd) hiw (hRl0.on h) hlw);have HHG:=hid (fun w' (h:Below w1.heap.size w1 w') m lb hc=>(hN0.on h).hangs hI m lb hc);have HFDr:=hid (fun w' (h:Below w1.heap.size w1 w') (m:ByteArray) (hm:m.size<=maxLen)=>G.p_Find L.items.a L.items.l L.items.c m w' hil ((hN0.on h).items.rd) hiw hm);have HCTr:=hid (fun w' (h:Below w1.heap.size w1 w') (m:ByteArray)=>G.p_contains L.back.a L.back.l L.back.c m w' hbl (hN0.on h).back.rd);have HIR:=hid (hN0.items.rd);have HLR:=hid hRl0;have HLW:=hid hlw;have HIT:=hid hit;have HCLr:=hid (fun w' (h:Below w1.heap.size w1 w')=>(show Calls Tryz.prog 105 #[.slice l.a l.l.length l.c] w' (CloP G.Lk.cs 2 104 l.l w') from c_CloneLink l w' hll (hRl0.on h)));have HN0:=hid hN0;have HI:=hid hI;clear hI hN0 hRl0 hlw hit hiw hRl;cases hvr:(G.vldG L.items.l&&G.vldR L.items.l l.l)
 ·have HX:=hid (show deed (.rig (k:Int) l.l) L.val=.error 1 by rw[HX2.out,if_neg (by rw[hfel];simp),hvr];rfl);have HVR:=hid (fun w' (h:Below w1.heap.size w1 w')=>HVRr.out w' h _ hvr);refine th w1 fun hS0=>?_;refine tq 0 ?_;refine tq 1 ?_;refine tq 2 ?_;refine tq 3 ?_;refine tq 4 ?_;refine tq 5 ?_;refine tr 6 fun K hK=>?_;go_simp
  (go_at_call 275;((with_reducible refine(HVR.out _ bl).mono ?_);rintro e w3 ⟨rfl,hb3⟩;obtain⟨hc3,hf3,hz3⟩:=qz hb3))
  refine hK.out _ _ kq (fun hS1=>?_);clear hK K;try simp only[AP]
  refine tq 7 ?_;refine tv 8 ?_;refine tv 9 ?_;refine tv 10 ?_;refine tv 11 ?_;refine tv 12 ?_;refine tv 13 ?_;refine tq 14 ?_;refine tr 15 fun K hK=>?_;go_simp
  (go_at_call 131;((with_reducible refine(f_must_no _ _).mono ?_);rintro e w' ⟨rfl,rfl⟩))
  exact⟨rfl,deed_err HX.out bl⟩
 have HVR:=hid (fun w' (h:Below w1.heap.size w1 w')=>HVRr.out w' h _ hvr);by_cases hlen:L.rigs.l.length<50
 rotate_left
 ·have g1:decide (L.rigs.l.length<50)=false:=decide_eq_false hlen;have g2:decide ((L.rigs.l.length:Int)<50)=false:=decide_eq_false (by omega);have HX:=hid (show deed (.rig (k:Int) l.l) L.val=.error 1 by rw[HX2.out,if_neg (by rw[hfel];simp),hvr,g1];rfl);refine th w1 fun hS0=>?_;refine tq 0 ?_;refine tq 1 ?_;refine tq 2 ?_;refine tq 3 ?_;refine tq 4 ?_;refine tq 5 ?_;refine tr 6 fun K hK=>?_;go_simp
  (go_at_call 275;((with_reducible refine(HVR.out _ bl).mono ?_);rintro e w3 ⟨rfl,hb3⟩;obtain⟨hc3,hf3,hz3⟩:=qz hb3))
  refine hK.out _ _ kq (fun hS1=>?_);clear hK K;try simp only[AP]
  refine tq 7 ?_;refine tq 8 ?_;refine tq 9 ?_;refine tq 10 ?_;refine tq 11 ?_;refine tq 12 ?_;refine tq 13 ?_;refine tq 14 ?_;refine tr 15 fun K hK=>?_;go_simp
  (go_at_call 131;((with_reducible refine(f_must_no _ _).mono ?_);rintro e w' ⟨rfl,rfl⟩))
  exact⟨rfl,deed_err HX.out bl⟩
 have g1:decide (L.rigs.l.length<50)=true:=decide_eq_true hlen;have g2:decide ((L.rigs.l.length:Int)<50)=true:=decide_eq_true (by omega);have HX3:=hid (show deed (.rig (k:Int) l.l) L.val=if l.l.any (badK L.val)=true then .error 12 else .ok {L.val with rigs:=L.val.rigs++[⟨(k:Int),l.l⟩]} by rw[HX2.out,if_neg (by rw[hfel];simp),hvr,g1];rfl);have HVP:=hid (vldR_parts HIT.out (Bool.and_eq_true_iff.1 hvr).2);refine wp_region_noPanic ?_;refine th w1 fun hS0=>?_;refine tq 0 ?_;refine tq 1 ?_;refine tq 2 ?_;refine tq 3 ?_;refine tq 4 ?_;refine tq 5 ?_;refine tr 6 fun K hK=>?_;go_simp
 (go_at_call 275;((with_reducible refine(HVR.out _ bl).mono ?_);rintro e w3 ⟨rfl,hb3⟩;obtain⟨hc3,hf3,hz3⟩:=qz hb3))
 refine hK.out _ _ kq (fun hS1=>?_);clear hK K;try simp only[AP]
 refine tq 7 ?_;refine tq 8 ?_;refine tq 9 ?_;refine tq 10 ?_;refine tq 11 ?_;refine tq 12 ?_;refine tq 13 ?_;refine tq 14 ?_;refine tr 15 fun K hK=>?_;go_simp
 (go_at_call 131;((with_reducible refine(f_must_ok _ _).mono ?_);rintro e w' ⟨rfl,rfl⟩))
 refine hK.out _ _ kq (fun hS2=>?_);clear hK K;try simp only[AP]
 refine wpAnyH_done (by kernel_rfl) (NoPanic.normal ?_) _;obtain⟨wq,hwq⟩:∃x,x=w3:=⟨_,rfl⟩;have BQ:Below w1.heap.size w1 w3:=bl;rw[←hwq] at BQ;rw[←hwq];obtain⟨hcq,hfq⟩:=bcell BQ;have lzq:=BQ.size;have lq:∀z,z<w1.heap.size->z<wq.heap.size:=fun z hz=>by omega
 have lwq:=lq _ lw;have lnbq:=lq _ lnb;have qb0:=(hcq w.heap.size 0 lw).trans b0;have qb1:=(hcq w.heap.size 1 lw).trans b1;have q17:=(hcq nb 17 lnb).trans c17;have q19:=(hcq nb 19 lnb).trans c19;have q21:=(hcq nb 21 lnb).trans c21;have q22:=(hcq nb 22 lnb).trans c22;have qfn:=fun j=>(hfq nb j lnb).trans (hfn j);clear hwq hcq hfq b0 b1 c17 c19 c21 c22 hfn hc3 hf3 hz3 hb3 c1 HVR HVRr hS0 hS1 hS2;go_wp2;go_loopw [37] (fun j wr=>∃q:Nat,q<=l.l.length∧j=.int .i64 q∧Below wq.heap.size wq wr∧Hid ((l.l.take q).any (badK L.val)=false)) (fun j _=>l.l.length-(RowKit.intOf j).toNat)
 case atStart=>exact⟨0,by omega,rfl,below_refl _,hid rfl⟩
 case round=>
  obtain⟨q,hq,rfl,hbw,HB⟩:=hrel;have q0:=nn q;obtain⟨hcr,hfr⟩:=bcell hbw;have lzr:=hbw.size;have lr:∀z,z<wq.heap.size->z<wr.heap.size:=fun z hz=>by omega
  have lwr:=lr _ lwq;have lnbr:=lr _ lnbq;have BW1:=below_tr BQ hbw;by_cases hlt:q<l.l.length
  ·have q1:(q:Int)<(l.l.length:Int):=by omega
   obtain⟨x,xb,xo,hx,hxa,hxl,d0,d1⟩:=G.rdL (HLR.out.on BW1) hlt;obtain⟨v0,v1,v2,v3⟩:=HVP.out.2 x (List.mem_of_getElem? hx);have hxw:=HLW.out x (List.mem_of_getElem? hx);have hxm:=hxw.m;have HTK:=hid (show ∀b,badK L.val x=b->(l.l.take (q+1)).any (badK L.val)=b from fun b hb=>by rw[List.take_add_one,hx,List.any_append,HB.out];simp[hb]);have HAN:=hid (show badK L.val x=true->l.l.any (badK L.val)=true from fun h=>List.any_eq_true.2 ⟨x,List.mem_of_getElem? hx,h⟩);obtain⟨n,hn⟩:=Int.eq_ofNat_of_zero_le v0;have hnl:n<L.items.l.length:=by have:=(G.fnd_bd L.items.l x.nm).2;omega
   obtain⟨y,yb,yo,hy,hya,hyl,y0,y1,y2,y3⟩:=G.rdI (HIR.out.on BW1) hnl;have HBK:=hid (show badK L.val x=(hangB L.val x.nm||(decide (y.du<L.day)||G.hasB L.back.l y.bt)) by
    unfold badK;show(hangB L.val x.nm||(decide ((G.itAt L.items.l (G.fndI L.items.l x.nm).toNat).du<L.day)||memB L.back.l (G.itAt L.items.l (G.fndI L.items.l x.nm).toNat).bt))=_;rw[hn,Int.toNat_natCast,G.itAt_of hy,memB_is])
   have HFDp:=hid (fun w' (h:Below wr.heap.size wr w')=>(show Calls Tryz.prog 280 #[.slice L.items.a L.items.l.length L.items.c,.string x.nm] w' fun e w2=>e=.returned (.tuple #[.int .i64 (n:Int),.int .i64 0])∧Below w'.heap.size w' w2 by
    have h1:=HFDr.out w' (below_tr BW1 h) x.nm hxm;have e1:G.fdI L.items.l x.nm=(n:Int):=by unfold G.fdI;rw[if_pos ⟨HIT.out,by omega⟩];exact hn
    have e2:G.fdE L.items.l x.nm=0:=by unfold G.fdE;rw[if_pos HIT.out,if_pos (by omega)]
    rw[e1,e2] at h1;exact h1))
   have HCTp:=hid (fun w' (h:Below wr.heap.size wr w')=>HCTr.out w' (below_tr BW1 h) y.bt);have r17:=(hcr nb 17 lnbq).trans q17;have r19:=(hcr nb 19 lnbq).trans q19;have r21:=(hcr nb 21 lnbq).trans q21;have r22:=(hcr nb 22 lnbq).trans q22;rw[hya] at r21 HFDp;have n0:=nn n;have n1:(n:Int)<(L.items.l.length:Int):=by omega
   have x5:=Blk.new wr 104 #[.string x.nm,.int .i64 x.fr];have B5:=bl_alloc (below_refl wr) (.cells #[.string x.nm,.int .i64 x.fr] 104);have e0:=x5.cell 0;simp only[GA] at e0;have l5:=x5.lt;have HHGp:=hid (HHG.out _ (below_tr BW1 B5) x.nm wr.heap.size e0);obtain⟨LA,LL,LC⟩:=l;obtain⟨XN,XF⟩:=x;obtain⟨YN,YL,YD,YB⟩:=y;dsimp only at *;subst hxa;clear hx hy hn hya v0 v1 v2 v3 hcr hfr q17 q19 q21 q22 hxw HN0 x5;go_upto_region 6 with fail
   generalize (wr.alloc (.cells #[.string XN,.int .i64 XF] 104))=w5 at *;have HHG:=hid HHGp.out;obtain⟨hc5,hf5⟩:=bcell B5;have lz5:=B5.size;have s17:=(hc5 nb 17 lnbr).trans r17;have s19:=(hc5 nb 19 lnbr).trans r19;have s21:=(hc5 nb 21 lnbr).trans r21;have s22:=(hc5 nb 22 lnbr).trans r22;have t2:=(hc5 yb _ hyl).trans y2;have t3:=(hc5 yb _ hyl).trans y3;clear r17 r19 r21 r22 y0 y1 y2 y3 hc5 hf5;have l6:∀z,z<wr.heap.size->z<w5.heap.size:=fun z hz=>by omega
   have lnb5:=l6 _ lnbr;have lyb5:=l6 _ hyl;generalize hHB:hangB L.val XN=HB at *;go_upto_region 7 with (go_at_call 276;((with_reducible refine HHG.out.mono ?_);rintro e w6 ⟨rfl,hb6⟩))
   obtain⟨hc6,hf6⟩:=bcell hb6;have lz6:=hb6.size;have B6:Below wr.heap.size wr w6:=below_tr B5 hb6;have u17:=(hc6 nb 17 lnb5).trans s17;have u21:=(hc6 nb 21 lnb5).trans s21;have u22:=(hc6 nb 22 lnb5).trans s22;have uu2:=(hc6 yb _ lyb5).trans t2;have uu3:=(hc6 yb _ lyb5).trans t3;have ue0:=(hc6 wr.heap.size 0 l5).trans e0;clear s17 s19 s21 s22 t2 t3 e0 hc6 hf6;have l7:∀z,z<w5.heap.size->z<w6.heap.size:=fun z hz=>by omega
   have lnb6:=l7 _ lnb5;have lyb6:=l7 _ lyb5;have lx6:=l7 _ l5;have HFD:=hid (fun w' (h:Below w6.heap.size w6 w')=>HFDp.out w' (below_tr B6 h));have HCTq:=hid (fun w' (h:Below w6.heap.size w6 w')=>HCTp.out w' (below_tr B6 h));clear HHG hHB HFDp HCTp;refine wp_region_noPanic ?_;refine th w6 fun hS0=>?_;refine tq 0 ?_;refine tq 1 ?_;refine tq 2 ?_;refine tq 3 ?_;refine tq 4 ?_;refine tq 5 ?_;refine tr 6 fun K hK=>?_;go_simp
   (go_at_call 280;((with_reducible refine(HFD.out _ bl).mono ?_);rintro e w7 ⟨rfl,hb7⟩;obtain⟨hc7,hf7,hz7⟩:=qz hb7))
   refine hK.out _ _ kq (fun hS1=>?_);clear hK K;try simp only[AP]
   refine tq 7 ?_;refine tq 8 ?_;refine tq 9 ?_;refine tq 10 ?_;refine tq 11 ?_;refine wpAnyH_done (by kernel_rfl) (NoPanic.normal ?_) _;have B7:Below w6.heap.size w6 w7:=bl;obtain⟨hc7x,hf7x⟩:=bcell B7;have lz7:=B7.size;have x17:=(hc7x nb 17 lnb6).trans u17;have x21:=(hc7x nb 21 lnb6).trans u21;have x22:=(hc7x nb 22 lnb6).trans u22;have xx2:=(hc7x yb _ lyb6).trans uu2;have xx3:=(hc7x yb _ lyb6).trans uu3;clear u17 u21 u22 uu2 uu3 ue0 hc7x hf7x hc7 hf7 hz7 hS0 hS1;have l8:∀z,z<w6.heap.size->z<w7.heap.size:=fun z hz=>by omega
   have lnb7:=l8 _ lnb6;have lyb7:=l8 _ lyb6;have HCT:=hid (fun w' (h:Below w7.heap.size w7 w')=>HCTq.out w' (below_tr B7 h));have BE:Below w.heap.size w w7:=below_tr B0 (below_tr BQ (below_tr hbw (below_tr B6 B7)));have BR:Below wq.heap.size wq w7:=below_tr hbw (below_tr B6 B7);clear HCTq HFD hb7 hb6 B5 B6 B7;go_upto_region 9 with (go_at_call 281;((with_reducible refine(f_passed_ok _).mono ?_);rintro e w' ⟨rfl,rfl⟩))
   cases HB;rotate_left
   ·have HX:=hid (show deed (.rig (k:Int) LL) L.val=.error 12 by rw[HX3.out,if_pos (HAN.out (by rw[HBK.out];rfl))]);refine th w7 fun hS0=>?_;refine tq 0 ?_;refine tq 1 ?_;refine tq 2 ?_;refine tv 3 ?_;refine tv 4 ?_;refine tv 5 ?_;refine tv 6 ?_;refine tv 7 ?_;refine tv 8 ?_;refine tv 9 ?_;refine tv 10 ?_;refine tv 11 ?_;refine tv 12 ?_;refine tv 13 ?_;refine tv 14 ?_;refine tv 15 ?_;refine tq 16 ?_;refine tq 17 ?_;refine tv 18 ?_;refine tv 19 ?_;refine tv 20 ?_;refine tv 21 ?_;refine tv 22 ?_;refine tv 23 ?_;refine tv 24 ?_;refine tv 25 ?_;refine tv 26 ?_;refine tv 27 ?_;refine tv 28 ?_;refine tv 29 ?_;refine tv 30 ?_;refine tv 31 ?_;refine tq 32 ?_;refine tr 33 fun K hK=>?_;go_simp
    (go_at_call 131;((with_reducible refine(f_must_no _ _).mono ?_);rintro e w' ⟨rfl,rfl⟩))
    exact⟨rfl,deed_err HX.out bl⟩
   by_cases hdu:L.day<=YD
   rotate_left
   ·have gd:decide (L.day<=YD)=false:=decide_eq_false hdu;have HX:=hid (show deed (.rig (k:Int) LL) L.val=.error 12 by rw[HX3.out,if_pos (HAN.out (by rw[HBK.out,decide_eq_true (by omega)];rfl))]);refine th w7 fun hS0=>?_;refine tq 0 ?_;refine tq 1 ?_;refine tq 2 ?_;refine tq 3 ?_;refine tq 4 ?_;refine tq 5 ?_;refine tq 6 ?_;refine tq 7 ?_;refine tq 8 ?_;refine tq 9 ?_;refine tq 10 ?_;refine tq 11 ?_;refine tq 12 ?_;refine tq 13 ?_;refine tq 14 ?_;refine tq 15 ?_;refine tq 16 ?_;refine tq 17 ?_;refine tv 18 ?_;refine tv 19 ?_;refine tv 20 ?_;refine tv 21 ?_;refine tv 22 ?_;refine tv 23 ?_;refine tv 24 ?_;refine tv 25 ?_;refine tv 26 ?_;refine tv 27 ?_;refine tv 28 ?_;refine tv 29 ?_;refine tv 30 ?_;refine tv 31 ?_;refine tq 32 ?_;refine tr 33 fun K hK=>?_;go_simp
    (go_at_call 131;((with_reducible refine(f_must_no _ _).mono ?_);rintro e w' ⟨rfl,rfl⟩))
    exact⟨rfl,deed_err HX.out bl⟩
   have gd:decide (L.day<=YD)=true:=decide_eq_true hdu;cases hhs:G.hasB L.back.l YB;rotate_left
   ·rw[hhs] at HCT;have HX:=hid (show deed (.rig (k:Int) LL) L.val=.error 12 by rw[HX3.out,if_pos (HAN.out (by rw[HBK.out,hhs];simp))]);refine th w7 fun hS0=>?_;refine tq 0 ?_;refine tq 1 ?_;refine tq 2 ?_;refine tq 3 ?_;refine tq 4 ?_;refine tq 5 ?_;refine tq 6 ?_;refine tq 7 ?_;refine tq 8 ?_;refine tq 9 ?_;refine tq 10 ?_;refine tq 11 ?_;refine tq 12 ?_;refine tq 13 ?_;refine tq 14 ?_;refine tq 15 ?_;refine tq 16 ?_;refine tq 17 ?_;refine tq 18 ?_;refine tq 19 ?_;refine tq 20 ?_;refine tq 21 ?_;refine tq 22 ?_;refine tq 23 ?_;refine tq 24 ?_;refine tq 25 ?_;refine tq 26 ?_;refine tq 27 ?_;refine tq 28 ?_;refine tq 29 ?_;refine tr 30 fun K hK=>?_;go_simp
    (go_at_call 118;((with_reducible refine(HCT.out _ bl).mono ?_);rintro e w' ⟨rfl,rfl⟩))
    refine hK.out _ _ kq (fun hS1=>?_);clear hK K;try simp only[AP]
    refine tq 31 ?_;refine tq 32 ?_;refine tr 33 fun K hK=>?_;go_simp
    (go_at_call 131;((with_reducible refine(f_must_no _ _).mono ?_);rintro e w' ⟨rfl,rfl⟩))
    exact⟨rfl,deed_err HX.out bl⟩
   ·rw[hhs] at HCT;have HTF:=hid (HTK.out false (by rw[HBK.out,hhs,decide_eq_false (by omega)];rfl));clear hhs hdu;refine wp_region_noPanic ?_;refine th w7 fun hS0=>?_;refine tq 0 ?_;refine tq 1 ?_;refine tq 2 ?_;refine tq 3 ?_;refine tq 4 ?_;refine tq 5 ?_;refine tq 6 ?_;refine tq 7 ?_;refine tq 8 ?_;refine tq 9 ?_;refine tq 10 ?_;refine tq 11 ?_;refine tq 12 ?_;refine tq 13 ?_;refine tq 14 ?_;refine tq 15 ?_;refine tq 16 ?_;refine tq 17 ?_;refine tq 18 ?_;refine tq 19 ?_;refine tq 20 ?_;refine tq 21 ?_;refine tq 22 ?_;refine tq 23 ?_;refine tq 24 ?_;refine tq 25 ?_;refine tq 26 ?_;refine tq 27 ?_;refine tq 28 ?_;refine tq 29 ?_;refine tr 30 fun K hK=>?_;go_simp
    (go_at_call 118;((with_reducible refine(HCT.out _ bl).mono ?_);rintro e w' ⟨rfl,rfl⟩))
    refine hK.out _ _ kq (fun hS1=>?_);clear hK K;try simp only[AP]
    refine tq 31 ?_;refine tq 32 ?_;refine tr 33 fun K hK=>?_;go_simp
    (go_at_call 131;((with_reducible refine(f_must_ok _ _).mono ?_);rintro e w' ⟨rfl,rfl⟩))
    refine hK.out _ _ kq (fun hS2=>?_);clear hK K;try simp only[AP]
    refine wpAnyH_done (by kernel_rfl) (NoPanic.normal ?_) _;go_wp2;go_roundw
    case rel=>exact⟨q+1,by omega,by go_num,below_tr BR bl,HTF⟩
    case measure=>simp[RowKit.intOf];omega
  ·obtain rfl:q=l.l.length:=by omega
   have HX:=hid (show deed (.rig (k:Int) l.l) L.val=.ok {L.val with rigs:=L.val.rigs++[⟨(k:Int),l.l⟩]} by
    have h:=HB.out;rw[List.take_length] at h;rw[HX3.out,h];rfl)
   have rb0:=(hcr w.heap.size 0 lwq).trans qb0;have rb1:=(hcr w.heap.size 1 lwq).trans qb1;have r19:=(hcr nb 19 lnbq).trans q19;have rf19:=(hfr nb 19 lnbq).trans (qfn 19);have BE:Below w.heap.size w wr:=below_tr B0 BW1;have HRW:=hid ((hN.on BE).rrow);have HCL:=hid (fun w' (h:Below wr.heap.size wr w')=>HCLr.out w' (below_tr BW1 h));obtain⟨_,_,_,_,hbs00,_⟩:=hN.site hk;have lsb0:=hbs00.lt;have lnb0:=hN.lt;obtain⟨tb,htb,hnt,hbt⟩:∃tb,(∀g,L.rigs.v.ownBlock=some g->g=tb)∧nb≠tb∧w.heap.size≠tb:=by
    cases ho:L.rigs.v.ownBlock with
    |none=>exact⟨sb,fun g h=>(by cases h),hN.n1,by omega⟩
    |some g=>exact⟨g,fun g' h=>(by cases h;rfl),by have h1:=hN.rb_ g ho;have:=hN.n2;omega,by have:=(own_ge hN.rrow g ho).2;omega⟩
   have HTB:=hid htb;obtain⟨we,hwe⟩:∃x,x=wr:=⟨_,rfl⟩;rw[←hwe] at rb0 rb1 r19 rf19 BE HRW HCL lwr lnbr hbw;rw[←hwe];have lze:=hbw.size;clear hwe hcr hfr qb0 qb1 q17 q19 q21 q22 qfn htb HI HN0 HHG HFDr HCTr HIR HLR HLW HIT HCLr lr lzr lq BW1 HX2 HX3 HVP HSA HAT hvr hsm hfz hbs hir hbs00 lsb lwq lnbq;obtain⟨i0,hi,hi1,hi2,hi3⟩:=info_Rig;go_upto_region 11 with fail
   refine wp_region_noPanic ?_;refine wp_region_last 15 (fun w'=>(∀b o,b<we.heap.size->b≠tb->w'.cell? ⟨b,o,none⟩=we.cell? ⟨b,o,none⟩)∧(∀b o,b<we.heap.size->b≠tb->w'.frozen? ⟨b,o,none⟩=we.frozen? ⟨b,o,none⟩)∧Stp (fun g=>g=tb) we w') (by kernel_rfl) (km_draw km_refl) (fun hS0=>?_);refine wpAnyL_tk 0 94 ?gv263 rfl ?_;try simp only[AP]
   refine wpAnyL_tk 1 95 ?gv264 rfl ?_;try simp only[AP]
   refine wpAnyL_tk 2 96 ?gv265 rfl ?_;try simp only[AP]
   refine wpAnyL_tk 3 97 ?gv266 rfl ?_;try simp only[AP]
   refine wpAnyL_tk 4 98 ?gv267 rfl ?_;try simp only[AP]
   refine wpAnyL_tk 5 99 ?gv268 rfl ?_;try simp only[AP]
   refine wpAnyL_tk 6 100 ?gv269 rfl ?_;try simp only[AP]
   refine wpAnyL_tk 7 101 ?gv270 rfl ?_;try simp only[AP]
   refine wpAnyL_tk 8 102 ?gv271 rfl ?_;try simp only[AP]
   refine wpAnyL_ready (rs:=[9]) (by kernel_rfl) (by simp) ?_;refine AllReadyL.cons rfl (fun K hK=>?_) AllReadyL.nil;go_simp
   (go_at_call 105;((with_reducible refine(HCL.out _ bl).mono ?_);rintro e w3 ⟨⟨A3,l3,c3⟩,rfl,hl3,ho3,hle3,hcm3,hb3⟩;dsimp only at hl3;subst hl3;dsimp only[Sl.v] at *;obtain⟨hc3,hf3,hz3⟩:=qz hb3))
   refine hK.out _ _ (by((show Km we tb _);(repeat'(first|assumption|exact km_refl|refine km_draw ?_|refine km_drewN ?_|refine km_alloc ?_|refine km_step ?_ (by assumption)));(all_goals(first|omega|(simp;omega))))) (fun hS1=>?_);clear hK K;try simp only[AP]
   refine wpAnyL_tk 10 104 ?gv272 rfl ?_;try simp only[AP]
   refine wpAnyL_ready (rs:=[11]) (by kernel_rfl) (by simp) ?_;refine AllReadyL.cons rfl (fun K hK=>?_) AllReadyL.nil;go_simp
   refine hK.out _ _ (by((show Km we tb _);(repeat'(first|assumption|exact km_refl|refine km_draw ?_|refine km_drewN ?_|refine km_alloc ?_|refine km_step ?_ (by assumption)));(all_goals(first|omega|(simp;omega))))) (fun hS2=>?_);clear hK K;try simp only[AP]
   refine wpAnyL_ready (rs:=[12]) (by kernel_rfl) (by simp) ?_;refine AllReadyL.cons rfl (fun K hK=>?_) AllReadyL.nil;(refine step_append_at2 (by rfl) _ _ _ (by rfl) 0 101 i0 _ 2 32 Tryz.underlying71 hi hi1 hi2 hi3 rfl (by omega) _ _ _ (by rfl) (own_on (own_on HRW.out bl) (bl_alloc (below_refl _) _)) ⟨w3.heap.size,0,none⟩ 1 1 [.int .i64 (k:Int),.slice A3 l.l.length c3] (by rfl) rfl (cells_new w3 [.int .i64 (k:Int),.slice A3 l.l.length c3] 101) (fun u hu=>by simp at hu;rcases hu with rfl|rfl<;>rfl) (by unfold maxLen;omega) (by omega) (Nat.zero_le _) ?_;intro v4 w4 hown4 hgrow4 hnew4;obtain⟨A4,c4,rfl⟩:=own_slice hown4;have hkm4:Km we tb w4:=km_grown (km_alloc (km_step (km_draw km_refl) hb3)) hgrow4 (fun r hr=>.inl (HTB.out r hr)))
   refine hK.out _ _ (by((show Km we tb _);(repeat'(first|assumption|exact km_refl|refine km_draw ?_|refine km_drewN ?_|refine km_alloc ?_|refine km_step ?_ (by assumption)));(all_goals(first|omega|(simp;omega))))) (fun hS3=>?_);clear hK K;try simp only[AP]
   refine wpAnyL_tk 13 107 ?gv273 rfl ?_;try simp only[AP]
   refine wpAnyL_tk 14 108 ?gv274 rfl ?_;try simp only[AP]
   refine wpAnyL_last (by kernel_rfl) rfl (fun K hK=>?_);go_simp
   refine hK.out _ _ ?_;clear hK K;try simp only[AP]
   refine wpAnyL_done (by kernel_rfl) (NoPanic.normal ?_) _;go_wp2;go_end0
   have hb3W:Below we.heap.size we w3:=bl;have st4:Stp (fun g=>L.rigs.v.ownBlock=some g) w w4:=((((Stp.refl _ w).below BE (Nat.le_refl _)).below hb3W (by omega)).alloc _).grown hgrow4 (fun r hr=>.inl hr);have st:Stp (fun g=>g=nb∨g=rb) w (w4.setCell ⟨nb,19,none⟩ (.slice A4 (L.rigs.l.length+1) c4)):=Stp.setCell (N:=fun g=>g=nb∨g=rb) (p:=⟨nb,19,none⟩) (st4.mono fun b _ e=>.inr (hN.rb_ b e)) (.inl (.inl rfl)) _;have st3:Stp (fun g=>g=nb∨g=sb∨g=rb) w (w4.setCell ⟨nb,19,none⟩ (.slice A4 (L.rigs.l.length+1) c4)):=st.mono fun b _ e=>by omega
   have stn:Stp (fun g=>g=nb) w4 (w4.setCell ⟨nb,19,none⟩ (.slice A4 (L.rigs.l.length+1) c4)):=Stp.setCell (N:=fun g=>g=nb) (p:=⟨nb,19,none⟩) (Stp.refl _ _) (.inl rfl) _;have stw:Stp (fun g=>L.rigs.v.ownBlock=some g∨g=nb) w3 (w4.setCell ⟨nb,19,none⟩ (.slice A4 (L.rigs.l.length+1) c4)):=Stp.setCell (N:=fun g=>L.rigs.v.ownBlock=some g∨g=nb) (p:=⟨nb,19,none⟩) (((Stp.refl _ w3).alloc _).grown hgrow4 (fun r hr=>.inl (.inl hr))) (.inl (.inr rfl)) _;have own5:=own_snoc (enc:=LRg.cs) (x:=⟨(k:Int),⟨A3,l.l,c3⟩⟩) rfl rfl hown4;have cap5:=own_caps own5;have hnn:∀b,TT T sb rb w b->¬b=nb:=fun b hb e=>by
    subst e;have:=hN.n1;have:=hN.n2;rcases hb with h|h|h|h
    ·exact(hN.nT _ h).1 rfl
    ·omega
    ·omega
    ·omega
   have G4:Got (TT T sb rb w) w4 LRg.cs 2 ⟨A4,L.rigs.l++[⟨(k:Int),⟨A3,l.l,c3⟩⟩],c4⟩:=by
    refine⟨own_rd' LRg.cs_len own5,fun hne a ha=>?_,cap5.1,cap5.2⟩;obtain⟨b,off,e,_,_⟩:=own_rd' LRg.cs_len own5 hne;dsimp only at e ha;rw[e] at ha;cases ha;rw[e] at hnew4;rcases hnew4 with h|h
    ·exact .inr (.inr (.inl (hN.rb_ b h.symm)))
    ·have h2:b=(w3.alloc (.cells #[.int .i64 (k:Int),.slice A3 l.l.length c3] 101)).heap.size:=Option.some.inj h;have:=hb3W.size;have:=BE.size;rw[World.size_alloc] at h2;exact .inr (.inr (.inr (show w.heap.size<=b by omega)))
   have GL:Got (TT T sb rb w) (w4.setCell ⟨nb,19,none⟩ (.slice A4 (L.rigs.l.length+1) c4)) G.Lk.cs 2 ⟨A3,l.l,c3⟩:=by
    have h1:Got (fun b=>we.heap.size<=b) w3 G.Lk.cs 2 ⟨A3,l.l,c3⟩:=got_own (y:=⟨A3,l.l,c3⟩) G.Lk.cs_len ho3 (fun b h1 _=>h1);have hes:=BE.size;refine(h1.stp stw fun b hb e=>?_).mono fun b _ hb=>.inr (.inr (.inr (show w.heap.size<=b from Nat.le_trans hes hb)));rcases e with e|e
    ·have:=(own_ge hN.rrow b e).2;have:we.heap.size<=b:=hb;omega
    ·have:we.heap.size<=b:=hb;omega
   refine deed_ok (L':={L with rigs:=⟨A4,L.rigs.l++[⟨(k:Int),⟨A3,l.l,c3⟩⟩],c4⟩}) HX.out (by unfold LS.val;simp[LRg.val]) ⟨?_,⟨hN.keepSu st3,hN.keep hN.gusts st3,G4.stp stn hnn,fun r hr=>?_,hN.keepS st,fun s' hs'=>hN.keep (hN.sk s' hs') st3,hN.keep hN.items st3,hN.keep hN.back st3⟩,st3,rfl,rfl⟩
   ·have h1:=(st4.blk hN.blk (fun e=>hN.n2 (hN.rb_ nb e))).set_ 19 (.slice A4 (L.rigs.l.length+1) c4);rw[←show(L.rigs.l++[(⟨(k:Int),⟨A3,l.l,c3⟩⟩:LRg)]).length=L.rigs.l.length+1 by simp] at h1 ⊢;exact h1
   ·rcases List.mem_append.1 hr with hr|hr
    ·exact hN.keep (hN.rk r hr) st3
    ·rw[List.mem_singleton.1 hr];exact GL
def CmV (w:World):Cm->Value->Prop
 |.gust g,v=>I64 g∧v=.iface 237 (.agg #[.int .i64 g])
 |.day,v=>v=.iface 169 (.agg #[])
 |.dog i,v=>I64 i∧v=.iface 239 (.agg #[.int .i64 i])
 |.rig i l,v=>I64 i∧l.length<=100000∧(∀k∈l,G.LW k)∧∃A c,v=.iface 183 (.agg #[.int .i64 i,.slice A l.length c])∧Rd G.Lk.cs 2 w A l
 |.strike r,v=>I64 r∧v=.iface 241 (.agg #[.int .i64 r])
 |.up i m,v=>I64 i∧I64 m∧v=.iface 195 (.agg #[.int .i64 i,.int .i64 m])
 |.down i m,v=>I64 i∧I64 m∧v=.iface 196 (.agg #[.int .i64 i,.int .i64 m])
 |.lift r l,v=>I64 r∧l.length<=100000∧(∀n∈l,I64 n)∧∃A c,v=.iface 189 (.agg #[.int .i64 r,.slice A l.length c])∧Rd zC 1 w A l
 |.look m,v=>m.size<=maxLen∧v=.iface 185 (.agg #[.string m])
 |.call b,v=>b.size<=maxLen∧v=.iface 187 (.agg #[.string b])
 |.cut i,v=>I64 i∧v=.iface 242 (.agg #[.int .i64 i])
 |.bill i,v=>I64 i∧v=.iface 243 (.agg #[.int .i64 i])
theorem CmV.ok {w:World} {c:Cm} {v:Value} (h:CmV w c v):CmOk c:=by
 cases c with
 |rig i l=>exact⟨h.1,h.2.1,h.2.2.1⟩
 |lift r l=>exact⟨h.1,h.2.1,h.2.2.1⟩
 |up i m=>exact⟨h.1,h.2.1⟩
 |down i m=>exact⟨h.1,h.2.1⟩
 |day=>trivial
 |gust _=>exact h.1
 |dog _=>exact h.1
 |strike _=>exact h.1
 |look _=>exact h.1
 |call _=>exact h.1
 |cut _=>exact h.1
 |bill _=>exact h.1
theorem CmV.on {w w':World} {c:Cm} {v:Value} (h:CmV w c v) (hb:Below w.heap.size w w'):CmV w' c v:=by
 cases c with
 |rig i l=>
  obtain⟨h1,h2,h3,A,cc,h4,h5⟩:=h;exact⟨h1,h2,h3,A,cc,h4,h5.on hb⟩
 |lift r l=>
  obtain⟨h1,h2,h3,A,cc,h4,h5⟩:=h;exact⟨h1,h2,h3,A,cc,h4,h5.on hb⟩
 |up i m=>exact h
 |down i m=>exact h
 |day=>exact h
 |gust _=>exact h
 |dog _=>exact h
 |strike _=>exact h
 |look _=>exact h
 |call _=>exact h
 |cut _=>exact h
 |bill _=>exact h
theorem rig_ok {i:Int} {l:List G.Lk} {x y:St} (hI:Inv x) (h:deed (.rig i l) x=.ok y):l.length<=32∧∀k∈l,k.nm.size<=16 ∧ -1<=k.fr∧k.fr<=32:=by
 unfold deed at h;dsimp only at h;split at h;cases h
 split at h;cases h
 split at h;cases h
 rename_i h3
 have h3:((G.vldG x.items&&G.vldR x.items l)&&decide (x.rigs.length<50))=true:=by cases hb:((G.vldG x.items&&G.vldR x.items l)&&decide (x.rigs.length<50));exact absurd hb h3;rfl
 obtain⟨h3,h4⟩:=Bool.and_eq_true_iff.1 h3;obtain⟨h5,h6⟩:=Bool.and_eq_true_iff.1 h3;obtain⟨⟨q0,q1⟩,q2⟩:=vldR_parts h5 h6;exact⟨q1,fun k hk=>(q2 k hk).2⟩
theorem CmV.k {w:World} {c:Cm} {v:Value} {x:St} (h:CmV w c v) (hI:Inv x) (hL:LdW w):∃ty V kd kt,v=.iface ty V∧CmK c w x ty V kd kt:=by
 cases c with
 |gust g=>
  obtain⟨h1,rfl⟩:=h;exact⟨_,_,316,317,rfl,⟨fun n w=>by kernel_rfl,fun n w=>by kernel_rfl,enters_of Tryz.func316 (by kernel_rfl) rfl,enters_of Tryz.func317 (by kernel_rfl) rfl,fun L hv T nb sb rb w' hb hn=>d_gust g T nb sb rb L w' hn (by rw[hv];exact hI),fun y hd w' hb=>t_gust g w' h1 (hL.on hb)⟩⟩
 |day=>
  obtain rfl:=h;exact⟨_,_,270,271,rfl,⟨fun n w=>by kernel_rfl,fun n w=>by kernel_rfl,enters_of Tryz.func270 (by kernel_rfl) rfl,enters_of Tryz.func271 (by kernel_rfl) rfl,fun L hv T nb sb rb w' hb hn=>d_day T nb sb rb L w' hn (by rw[hv];exact hI),fun y hd w' hb=>t_day w'⟩⟩
 |dog i=>
  obtain⟨h1,rfl⟩:=h;exact⟨_,_,318,319,rfl,⟨fun n w=>by kernel_rfl,fun n w=>by kernel_rfl,enters_of Tryz.func318 (by kernel_rfl) rfl,enters_of Tryz.func319 (by kernel_rfl) rfl,fun L hv T nb sb rb w' hb hn=>d_dog i T nb sb rb L w' hn (by rw[hv];exact hI),fun y hd w' hb=>t_dog i w' h1 (hL.on hb)⟩⟩
 |rig i l=>
  obtain⟨h1,h2,h3,A,cc,rfl,h5⟩:=h;exact⟨_,_,272,273,rfl,⟨fun n w=>by kernel_rfl,fun n w=>by kernel_rfl,enters_of Tryz.func272 (by kernel_rfl) rfl,enters_of Tryz.func273 (by kernel_rfl) rfl,fun L hv T nb sb rb w' hb hn=>d_rigup i ⟨A,l,cc⟩ T nb sb rb L w' hn (by rw[hv];exact hI) h2 h3 (h5.on hb),fun y hd w' hb=>t_rig i ⟨A,l,cc⟩ w' h1 (rig_ok hI hd).1 (rig_ok hI hd).2 (hL.on hb) (h5.on hb)⟩⟩
 |strike r=>
  obtain⟨h1,rfl⟩:=h;exact⟨_,_,325,326,rfl,⟨fun n w=>by kernel_rfl,fun n w=>by kernel_rfl,enters_of Tryz.func325 (by kernel_rfl) rfl,enters_of Tryz.func326 (by kernel_rfl) rfl,fun L hv T nb sb rb w' hb hn=>d_strike r T nb sb rb L w' hn (by rw[hv];exact hI),fun y hd w' hb=>t_strike r w' h1 (hL.on hb)⟩⟩
 |up i m=>
  obtain⟨h1,h2,rfl⟩:=h;exact⟨_,_,311,312,rfl,⟨fun n w=>by kernel_rfl,fun n w=>by kernel_rfl,enters_of Tryz.func311 (by kernel_rfl) rfl,enters_of Tryz.func312 (by kernel_rfl) rfl,fun L hv T nb sb rb w' hb hn=>d_up i m T nb sb rb L w' hn (by rw[hv];exact hI),fun y hd w' hb=>t_up i m w' h1 h2 (hL.on hb)⟩⟩
 |down i m=>
  obtain⟨h1,h2,rfl⟩:=h;exact⟨_,_,313,314,rfl,⟨fun n w=>by kernel_rfl,fun n w=>by kernel_rfl,enters_of Tryz.func313 (by kernel_rfl) rfl,enters_of Tryz.func314 (by kernel_rfl) rfl,fun L hv T nb sb rb w' hb hn=>d_down i m T nb sb rb L w' hn (by rw[hv];exact hI),fun y hd w' hb=>t_down i m w' h1 h2 (hL.on hb)⟩⟩
 |lift r l=>
  obtain⟨h1,h2,h3,A,cc,rfl,h5⟩:=h;exact⟨_,_,291,292,rfl,⟨fun n w=>by kernel_rfl,fun n w=>by kernel_rfl,enters_of Tryz.func291 (by kernel_rfl) rfl,enters_of Tryz.func292 (by kernel_rfl) rfl,fun L hv T nb sb rb w' hb hn=>d_lift r ⟨A,l,cc⟩ T nb sb rb L w' hn (by rw[hv];exact hI) h2 (h5.on hb),fun y hd w' hb=>t_lift r ⟨A,l,cc⟩ w' h1 h2 h3 (hL.on hb) (h5.on hb)⟩⟩
 |look m=>
  obtain⟨h1,rfl⟩:=h;exact⟨_,_,285,286,rfl,⟨fun n w=>by kernel_rfl,fun n w=>by kernel_rfl,enters_of Tryz.func285 (by kernel_rfl) rfl,enters_of Tryz.func286 (by kernel_rfl) rfl,fun L hv T nb sb rb w' hb hn=>d_look m T nb sb rb L w' hn (by rw[hv];exact hI) h1,fun y hd w' hb=>t_look m w' (by have h9:=(inv_deed (c:=.look m) hI h1 hd).2.2;have e9:m.size=m.data.toList.length:=(by rw[Array.length_toList];rfl);simp[txt] at h9;simp at e9;omega)⟩⟩
 |call b=>
  obtain⟨h1,rfl⟩:=h;exact⟨_,_,288,289,rfl,⟨fun n w=>by kernel_rfl,fun n w=>by kernel_rfl,enters_of Tryz.func288 (by kernel_rfl) rfl,enters_of Tryz.func289 (by kernel_rfl) rfl,fun L hv T nb sb rb w' hb hn=>d_call b T nb sb rb L w' hn (by rw[hv];exact hI) h1,fun y hd w' hb=>t_call b w' (by have h9:=(inv_deed (c:=.call b) hI h1 hd).2.2;have e9:b.size=b.data.toList.length:=(by rw[Array.length_toList];rfl);simp[txt] at h9;simp at e9;omega)⟩⟩
 |cut i=>
  obtain⟨h1,rfl⟩:=h;exact⟨_,_,327,328,rfl,⟨fun n w=>by kernel_rfl,fun n w=>by kernel_rfl,enters_of Tryz.func327 (by kernel_rfl) rfl,enters_of Tryz.func328 (by kernel_rfl) rfl,fun L hv T nb sb rb w' hb hn=>d_cut i T nb sb rb L w' hn (by rw[hv];exact hI),fun y hd w' hb=>t_cut i w' h1 (hL.on hb)⟩⟩
 |bill i=>
  obtain⟨h1,rfl⟩:=h;exact⟨_,_,334,335,rfl,⟨fun n w=>by kernel_rfl,fun n w=>by kernel_rfl,enters_of Tryz.func334 (by kernel_rfl) rfl,enters_of Tryz.func335 (by kernel_rfl) rfl,fun L hv T nb sb rb w' hb hn=>d_bill i T nb sb rb L w' hn (by rw[hv];exact hI),fun y hd w' hb=>t_bill i w' h1 (hL.on hb)⟩⟩
theorem f_doV {c:Cm} {v:Value} {b:Nat} {L:LS} {T:Nat->Prop} {w:World} (hF:FirmAt w b L T) (hI:Inv L.val) (hL:LdW w) (hc:CmV w c v):
  Calls Tryz.prog 74 #[.pointer (some ⟨b,0,none⟩),v] w (DoP c b L T w):=by
 obtain⟨ty,V,kd,kt,rfl,hk⟩:=hc.k hI hL;exact f_do hF hI hc.ok hL hk
end Go.Proofs.YtjkkfcghkeoedaaGreatDoor.Fi
