/- The parts of the proof, part 34. -/
import Derived.Test.YtjkkfcghkeoedaaGreatDoorR0
import Derived.Test.YtjkkfcghkeoedaaGreatDoorR33
import Derived.Deep.DeepCutAuto
import Derived.BigQuiet
set_option maxHeartbeats 16000000
set_option maxRecDepth 20000
set_option linter.unusedSimpArgs false
set_option linter.unusedVariables false
namespace Go.Proofs.YtjkkfcghkeoedaaGreatDoor.Fi
open Go.RowKit Go.Lib Tx
theorem brgV_bd (w:Wl) (s:List Int):-1000000<=brgV w s∧brgV w s<=1000000000:=by
 unfold brgV;by_cases h:brgE w s=0
 ·rw[if_pos h];have hst:1<=w.c.st∧w.c.st<=1000000:=by
   unfold brgE at h;split at h
   ·rename_i h1
    have h2:=(Bool.and_eq_true_iff.1 h1).1;unfold vCl at h2;simp only[Bool.and_eq_true,decide_eq_true_eq] at h2;exact h2.2.2.2.2.2
   ·exact absurd h (by decide)
  have go:∀(l:List Int) (a:Int),-1000000<=a->a<=1000000000 -> -1000000<=l.foldl (brgS w) a∧l.foldl (brgS w) a<=1000000000:=by
   intro l;induction l with
   |nil=>intro a h1 h2;exact⟨h1,h2⟩
   |cons x l ih=>
    intro a h1 h2;rw[List.foldl_cons];have h3:-1000000<=w.c.st*((onN w x.toNat:Nat)-1:Int):=by
     rcases Nat.eq_zero_or_pos (onN w x.toNat) with h|h
     ·rw[h];simp;omega
     ·have:=Int.mul_nonneg (show 0<=w.c.st by omega) (show 0<=((onN w x.toNat:Nat):Int)-1 by omega);omega
    exact ih _ (by unfold brgS;omega) (by unfold brgS;omega)
  exact go s _ (by omega) (by omega)
 ·rw[if_neg h];omega
theorem brgE_i64 (w:Wl) (s:List Int):I64 (brgE w s):=by
 unfold brgE I64;split
 ·split<;>omega
 ·omega
theorem ladE_i64 (w:Wl):I64 (ladE w):=by
 unfold ladE I64;split
 ·split
  ·split<;>omega
  ·omega
 ·omega
theorem bears_len (x:St) (k:Int):(bearsT x k).length<=1000000:=by
 unfold bearsT;split
 ·have:=errT_len (ladE_i64 (walA x k));omega
 ·have h1:=brgV_bd (walA x k) (ladL (walA x k));have h2:=tldT_len (l:=[brgV (walA x k) (ladL (walA x k))]) (brgE_i64 (walA x k) (ladL (walA x k))) (by
   have:=nT_le (n:=brgV (walA x k) (ladL (walA x k))) ⟨by omega,by omega⟩;simp[wsT];omega)
  omega
theorem ladL_le (w:Wl) (hd:w.d.length<=300):(ladL w).length<=300:=by
 unfold ladL;split
 ·split
  ·rename_i q hq
   unfold ladN at hq;obtain⟨n,hn,hq2⟩:=List.exists_of_findSome?_eq_some hq;rw[List.mem_range] at hn;unfold ladT at hq2;split at hq2
   ·rename_i h1
    cases hq2;rw[toZ_len,grd_len n (-1) h1];omega
   ·cases hq2
  ·simp
 ·simp
theorem f_bears {b:Nat} {L:LS} {T:Nat->Prop} {w:World} (hF:FirmAt w b L T) (hI:Inv L.val) (hE:Env w b L) (k:Nat) (hk:k<L.sites.l.length):
  Calls Tryz.prog 117 #[.pointer (some ⟨b,0,none⟩),.int .i64 (k:Nat)] w fun e w'=>e=.returned (.string (bts (bearsT L.val k)))∧Below w.heap.size w w':=by
 have hsl:L.sites.l.length<=8:=hI.slen;have lb:=hF.blk.lt;have c1:w.cell? ⟨b,1,none⟩=some (.slice L.x.jnt.a L.x.jnt.l.length L.x.jnt.c):=hF.cel 1 _ rfl;have c2:w.cell? ⟨b,2,none⟩=some (.int .i64 L.x.cl.fi):=hF.cel 2 _ rfl;have c3:w.cell? ⟨b,3,none⟩=some (.int .i64 L.x.cl.ga):=hF.cel 3 _ rfl;have c4:w.cell? ⟨b,4,none⟩=some (.int .i64 L.x.cl.tp):=hF.cel 4 _ rfl;have c5:w.cell? ⟨b,5,none⟩=some (.int .i64 L.x.cl.le):=hF.cel 5 _ rfl;have c6:w.cell? ⟨b,6,none⟩=some (.int .i64 L.x.cl.la):=hF.cel 6 _ rfl;have c7:w.cell? ⟨b,7,none⟩=some (.int .i64 L.x.cl.st):=hF.cel 7 _ rfl;have c20:w.cell? ⟨b,20,none⟩=some (.slice L.sites.a L.sites.l.length L.sites.c):=hF.cel 20 _ rfl;obtain⟨si,hsi⟩:=get_lt hk;obtain⟨y,hy⟩:=get_lt (show k<L.x.jnt.l.length by rw[hI.lens.2];exact hk);obtain⟨sb,so,hsa,lsb,hsc⟩:=hF.ok.sites.rd.get hsi;obtain⟨jb,jo,hja,ljb,hjc⟩:=hF.ok.su.jnt.rd.get hy;have cs:w.cell? ⟨sb,so+k*3,none⟩=some (.slice si.dogs.a si.dogs.l.length si.dogs.c):=by have:=hsc 0 _ rfl;simpa using this
 have cj:w.cell? ⟨jb,jo+k,none⟩=some (.slice y.a y.l.length y.c):=by have:=hjc 0 _ rfl;simpa using this
 have hJ:=(vSu_parts hI.su).2.2.2.1 y.l (by unfold LS.val LSu.val;exact List.mem_map.2 ⟨y,List.mem_of_getElem? hy,rfl⟩);have hyl:y.l.length<=100000:=by have:=(jb_of hJ).n;omega
 have hcl:=(vSu_parts hI.su).2.2.2.2.1;have hle:-9223372036854775808<L.x.cl.le∧L.x.cl.le<=9223372036854775807:=by
  have h:vCl L.x.cl=true:=hcl;unfold vCl at h;simp only[Bool.and_eq_true,decide_eq_true_eq] at h;omega
 have hdg:si.dogs.l.length<=300:=hI.sd si.val (List.mem_map.2 ⟨si,List.mem_of_getElem? hsi,rfl⟩);have gj:=hF.ok.su.jnts y (List.mem_of_getElem? hy);have gd:=hF.ok.sk si (List.mem_of_getElem? hsi);obtain⟨x,hx⟩:∃x:LWl,x=⟨⟨L.x.cl,y.l,si.dogs.l⟩,y.a,y.c,si.dogs.a,si.dogs.c⟩:=⟨_,rfl⟩;have HX:=hid (show walA L.val (k:Int)=x.w by unfold walA;rw[jntA_of hy,siteA_of hsi,hx];rfl);have HLD:=hid (fun W (h:Below w.heap.size w W)=>(show Calls Tryz.prog 154 #[clV L.x.cl,.slice y.a y.l.length y.c,.slice si.dogs.a si.dogs.l.length si.dogs.c] W (LadP x.w W) from by
  have:=l_Ladders x W (by rw[hx];exact hle) (by rw[hx];exact hyl) (by rw[hx];show si.dogs.l.length<=maxLen;unfold maxLen;omega) (by rw[hx];exact gj.rd.on h) (by rw[hx];exact gd.rd.on h);rw[hx] at this ⊢;exact this))
 have HGR:=hid (fun(q:Sl Int) W (h:Below w.heap.size w W) (hq:q.l.length<=300) (hr:Rd zC 1 W q.a q.l)=>(show Calls Tryz.prog 155 #[clV L.x.cl,.slice y.a y.l.length y.c,.slice si.dogs.a si.dogs.l.length si.dogs.c,.slice q.a q.l.length q.c] W fun e w'=>e=.returned (.tuple #[.int .i64 (brgV x.w q.l),.int .i64 (brgE x.w q.l)])∧Below W.heap.size W w' from by
  have:=l_Greatest x q W (by rw[hx];exact hle) (by rw[hx];exact hyl) (by rw[hx];show si.dogs.l.length<=maxLen;unfold maxLen;omega) (by unfold maxLen;omega) (by rw[hx];exact gj.rd.on h) (by rw[hx];exact gd.rd.on h) hr;rw[hx] at this ⊢;exact this))
 have hLL:=ladL_le x.w (by rw[hx];exact hdg);have HT:=hid (show bearsT L.val (k:Int)=if ladE x.w≠0 then errT (ladE x.w) else tldT (brgE x.w (ladL x.w)) [brgV x.w (ladL x.w)] by unfold bearsT;rw[HX.out]);have hEI:=ladE_i64 x.w;have HVB:=hid (brgV_bd x.w (ladL x.w));have HEB:=hid (brgE_i64 x.w (ladL x.w));have HFA:=hid (fun W (h:Below w.heap.size w W)=>f_failed (ladE x.w) W hEI (hE.ld.on h))
 have HTO:=hid (fun W (h:Below w.heap.size w W) (n:Nat) (hr:Rd zC 1 W (some ⟨n,0,none⟩) [brgV x.w (ladL x.w)])=>(show Calls Tryz.prog 115 #[.int .i64 (brgE x.w (ladL x.w)),.slice (some ⟨n,0,none⟩) 1 1] W fun e w'=>e=.returned (.string (bts (tldT (brgE x.w (ladL x.w)) [brgV x.w (ladL x.w)])))∧Below W.heap.size W w' from
  f_told _ _ [brgV x.w (ladL x.w)] 1 W (brgE_i64 _ _) (by simp) (fun z hz=>by simp at hz;subst hz;have:=brgV_bd x.w (ladL x.w);exact⟨by omega,by omega⟩) (hE.ld.on h) hr))
 have HRN:=hid (fun W=>(show Rd zC 1 (W.alloc (.cells #[.int .i64 (brgV x.w (ladL x.w))] 3)) (some ⟨W.heap.size,0,none⟩) [brgV x.w (ladL x.w)] from rd_new W [brgV x.w (ladL x.w)]));rw[hsa] at c20;rw[hja] at c1;have k0:=nn k;have k1:(k:Int)<(L.sites.l.length:Int):=by omega
 have k2:(k:Int)<(L.x.jnt.l.length:Int):=by rw[hI.lens.2];omega
 obtain⟨RR,hRR⟩:∃R,R=bts (bearsT L.val (k:Int)):=⟨_,rfl⟩;rw[←hRR];have HRR:=hid hRR;clear hRR hsc hjc hy hsi hsa hja hJ hcl gj gd hx hF hI hE;go_enter Tryz.func117,Tryz.ntmps117
 go_upto_region 2 with fail
 refine wp_region_noPanic ?_;refine th w fun hS0=>?_;refine tq 0 ?_;refine tq 1 ?_;refine tq 2 ?_;refine tq 3 ?_;refine tq 4 ?_;refine tq 5 ?_;refine tq 6 ?_;refine tq 7 ?_;refine tq 8 ?_;refine tq 9 ?_;refine tq 10 ?_;refine tq 11 ?_;refine tq 12 ?_;refine tq 13 ?_;refine tq 14 ?_;refine tq 15 ?_;refine tr 16 fun K hK=>?_;go_simp
 (go_at_call 154;((with_reducible refine(HLD.out _ bl).mono ?_);rintro e w3 ⟨lA,lC,rfl,hlR,hb3⟩;obtain⟨hc3,hf3,hz3⟩:=qz hb3))
 refine hK.out _ _ kq (fun hS1=>?_);clear hK K;try simp only[AP]
 refine tq 17 ?_;refine tq 18 ?_;refine tq 19 ?_;refine tq 20 ?_;refine tq 21 ?_;refine wpAnyH_done (by kernel_rfl) (NoPanic.normal ?_) _;have B3:Below w.heap.size w w3:=bl;by_cases hE0:ladE x.w=0
 rotate_left
 ·have HR2:=hid (show RR=bts (errT (ladE x.w)) by rw[HRR.out,HT.out,if_pos hE0]);have hE1:(ladE x.w==0)=false:=beq_eq_false_iff_ne.2 hE0;have HF3:=hid (HFA.out w3 B3);clear HT HFA HRR;generalize ladE x.w=E at *;go_wp2_with (go_at_call 62;((with_reducible refine HF3.out.mono ?_);rintro e w4 ⟨rfl,hb4⟩))
  go_ret;exact⟨by rw[HR2.out];rfl,below_tr B3 hb4⟩
 have HR2:=hid (show RR=bts (tldT (brgE x.w (ladL x.w)) [brgV x.w (ladL x.w)]) by rw[HRR.out,HT.out,if_neg (by rw[hE0];simp)]);replace HGR:=hid (fun W (h:Below w.heap.size w W) (h3:Below w3.heap.size w3 W)=>HGR.out ⟨lA,ladL x.w,lC⟩ W h hLL (hlR.on h3))
 dsimp only at HGR;clear HT HFA HRR HLD;rw[hE0];clear hE0 hEI;generalize hLq:ladL x.w=Lq at *;generalize brgV x.w Lq=V at *;generalize brgE x.w Lq=E at *;obtain⟨hcx,hfx⟩:=bcell B3;have d1:=(hcx b 1 lb).trans c1;have d2:=(hcx b 2 lb).trans c2;have d3:=(hcx b 3 lb).trans c3;have d4:=(hcx b 4 lb).trans c4;have d5:=(hcx b 5 lb).trans c5;have d6:=(hcx b 6 lb).trans c6;have d7:=(hcx b 7 lb).trans c7;have dj:=(hcx jb (jo+k) ljb).trans cj;have lb3:=Nat.lt_of_lt_of_le lb B3.size;have lj3:=Nat.lt_of_lt_of_le ljb B3.size;clear c1 c2 c3 c4 c5 c6 c7 c20 cj cs hcx hfx hc3 hf3 hS1;go_upto_region 5 with fail
 refine wp_region_noPanic ?_;refine th w3 fun hS0=>?_;refine tq 0 ?_;refine tq 1 ?_;refine tq 2 ?_;refine tq 3 ?_;refine tq 4 ?_;refine tq 5 ?_;refine tq 6 ?_;refine tq 7 ?_;refine tq 8 ?_;refine tq 9 ?_;refine tq 10 ?_;refine tq 11 ?_;refine tq 12 ?_;refine tq 13 ?_;refine tq 14 ?_;refine tq 15 ?_;refine tq 16 ?_;refine tr 17 fun K hK=>?_;go_simp
 (go_at_call 155;((with_reducible refine(HGR.out _ (below_tr B3 bl) bl).mono ?_);rintro e w4 ⟨rfl,hb4⟩;obtain⟨hc4,hf4,hz4⟩:=qz hb4))
 refine hK.out _ _ kq (fun hS1=>?_);clear hK K;try simp only[AP]
 refine tq 18 ?_;refine tq 19 ?_;refine tq 20 ?_;refine tq 21 ?_;refine tq 22 ?_;refine wpAnyH_done (by kernel_rfl) (NoPanic.normal ?_) _;have B4:Below w.heap.size w w4:=below_tr B3 bl;have B5:=bl_alloc B4 (.cells #[.int .i64 V] 3);have HT5:=hid (HTO.out _ B5 _ (HRN.out w4));go_wp2_with (go_at_call 115;((with_reducible refine HT5.out.mono ?_);rintro e w5 ⟨rfl,hb5⟩))
 go_ret;exact⟨by rw[HR2.out];rfl,below_tr B5 hb5⟩
theorem bears_brp {b:Nat} {L:LS} {T:Nat->Prop} {w:World} (hF:FirmAt w b L T) (hI:Inv L.val) (hE:Env w b L):BrP bearsT b L w:=fun W hb k hk=>f_bears (hF.on hb) hI (hE.on hb) k hk
theorem f_DoA {b:Nat} {L:LS} {T:Nat->Prop} {w:World} (s:List UInt8) (hF:FirmAt w b L T) (hI:Inv L.val) (hE:Env w b L):
  Calls Tryz.prog 16 #[.pointer (some ⟨b,0,none⟩),.string (bts s)] w (ScrP bearsT b L T s w):=f_Do s hF hI hE (fun x k=>bears_len x k) (fun _ L' T' W h1 h2 h3=>bears_brp h1 h2 h3)
theorem e_EqualCourse (A B:Option Addr) (l:List (S.Course)) (c d:Nat) (w:World) (hl:l.length<=100000) (hA:Rd S.Course.cs 6 w A l) (hB:Rd S.Course.cs 6 w B l):
  Calls Tryz.prog 142 #[.slice A l.length c,.slice B l.length d] w fun e w'=>e=.returned (.bool true)∧Below w.heap.size w w':=by
 go_enter Tryz.func142,Tryz.ntmps142
 go_wp2;go_loopw [13] (fun i wr=>∃k:Nat,k<=l.length∧i=.int .i64 k∧Below w.heap.size w wr) (fun i _=>l.length-(RowKit.intOf i).toNat)
 case atStart=>exact⟨0,by omega,rfl,below_refl _⟩
 case round=>
  obtain⟨k,hk,rfl,hbw⟩:=hrel;rename World=>wr
  have k0:=nn k;by_cases hlt:k<l.length
  ·have k1:(k:Int)<(l.length:Int):=by omega
   obtain⟨x,hx⟩:=get_lt hlt;obtain⟨b,off,rfl,hb,hc⟩:=(hA.on hbw).get hx;obtain⟨b',off',rfl,hb',hc'⟩:=(hB.on hbw).get hx;have c0:wr.cell? ⟨b,off+k*6,none⟩=some (.int .i64 x.h):=hc 0 _ rfl;have c1:wr.cell? ⟨b,off+k*6+1,none⟩=some (.int .i64 x.o):=hc 1 _ rfl;have c2:wr.cell? ⟨b,off+k*6+2,none⟩=some (.int .i64 x.i):=hc 2 _ rfl;have c3:wr.cell? ⟨b,off+k*6+3,none⟩=some (.int .i64 x.wt):=hc 3 _ rfl;have c4:wr.cell? ⟨b,off+k*6+4,none⟩=some (.int .i64 x.e):=hc 4 _ rfl;have c5:wr.cell? ⟨b,off+k*6+5,none⟩=some (.int .i64 x.n):=hc 5 _ rfl;have d0:wr.cell? ⟨b',off'+k*6,none⟩=some (.int .i64 x.h):=hc' 0 _ rfl;have d1:wr.cell? ⟨b',off'+k*6+1,none⟩=some (.int .i64 x.o):=hc' 1 _ rfl;have d2:wr.cell? ⟨b',off'+k*6+2,none⟩=some (.int .i64 x.i):=hc' 2 _ rfl;have d3:wr.cell? ⟨b',off'+k*6+3,none⟩=some (.int .i64 x.wt):=hc' 3 _ rfl;have d4:wr.cell? ⟨b',off'+k*6+4,none⟩=some (.int .i64 x.e):=hc' 4 _ rfl;have d5:wr.cell? ⟨b',off'+k*6+5,none⟩=some (.int .i64 x.n):=hc' 5 _ rfl;clear hx hc hc';go_wp2;go_quiet (fail)
   go_wp2;go_roundw
   case rel=>exact⟨k+1,by omega,by go_num,below_drewN hbw _⟩
   case measure=>simp[RowKit.intOf];omega
  ·obtain rfl:k=l.length:=by omega
   go_wp2;go_ret;exact⟨rfl,hbw⟩
theorem e_EqualJoint (A B:Option Addr) (l:List (Jt)) (c d:Nat) (w:World) (hl:l.length<=100000) (hA:Rd Jt.cs 2 w A l) (hB:Rd Jt.cs 2 w B l):
  Calls Tryz.prog 144 #[.slice A l.length c,.slice B l.length d] w fun e w'=>e=.returned (.bool true)∧Below w.heap.size w w':=by
 go_enter Tryz.func144,Tryz.ntmps144
 go_wp2;go_loopw [13] (fun i wr=>∃k:Nat,k<=l.length∧i=.int .i64 k∧Below w.heap.size w wr) (fun i _=>l.length-(RowKit.intOf i).toNat)
 case atStart=>exact⟨0,by omega,rfl,below_refl _⟩
 case round=>
  obtain⟨k,hk,rfl,hbw⟩:=hrel;rename World=>wr
  have k0:=nn k;by_cases hlt:k<l.length
  ·have k1:(k:Int)<(l.length:Int):=by omega
   obtain⟨x,hx⟩:=get_lt hlt;obtain⟨b,off,rfl,hb,hc⟩:=(hA.on hbw).get hx;obtain⟨b',off',rfl,hb',hc'⟩:=(hB.on hbw).get hx;have c0:wr.cell? ⟨b,off+k*2,none⟩=some (.int .i64 x.h):=hc 0 _ rfl;have c1:wr.cell? ⟨b,off+k*2+1,none⟩=some (.bool x.s):=hc 1 _ rfl;have d0:wr.cell? ⟨b',off'+k*2,none⟩=some (.int .i64 x.h):=hc' 0 _ rfl;have d1:wr.cell? ⟨b',off'+k*2+1,none⟩=some (.bool x.s):=hc' 1 _ rfl;clear hx hc hc';go_wp2;go_quiet (fail)
   go_wp2;go_roundw
   case rel=>exact⟨k+1,by omega,by go_num,below_drewN hbw _⟩
   case measure=>simp[RowKit.intOf];omega
  ·obtain rfl:k=l.length:=by omega
   go_wp2;go_ret;exact⟨rfl,hbw⟩
theorem e_EqualLink (A B:Option Addr) (l:List (G.Lk)) (c d:Nat) (w:World) (hl:l.length<=100000) (hA:Rd G.Lk.cs 2 w A l) (hB:Rd G.Lk.cs 2 w B l):
  Calls Tryz.prog 53 #[.slice A l.length c,.slice B l.length d] w fun e w'=>e=.returned (.bool true)∧Below w.heap.size w w':=by
 go_enter Tryz.func53,Tryz.ntmps53
 go_wp2;go_loopw [13] (fun i wr=>∃k:Nat,k<=l.length∧i=.int .i64 k∧Below w.heap.size w wr) (fun i _=>l.length-(RowKit.intOf i).toNat)
 case atStart=>exact⟨0,by omega,rfl,below_refl _⟩
 case round=>
  obtain⟨k,hk,rfl,hbw⟩:=hrel;rename World=>wr
  have k0:=nn k;by_cases hlt:k<l.length
  ·have k1:(k:Int)<(l.length:Int):=by omega
   obtain⟨x,hx⟩:=get_lt hlt;obtain⟨b,off,rfl,hb,hc⟩:=(hA.on hbw).get hx;obtain⟨b',off',rfl,hb',hc'⟩:=(hB.on hbw).get hx;have c0:wr.cell? ⟨b,off+k*2,none⟩=some (.string x.nm):=hc 0 _ rfl;have c1:wr.cell? ⟨b,off+k*2+1,none⟩=some (.int .i64 x.fr):=hc 1 _ rfl;have d0:wr.cell? ⟨b',off'+k*2,none⟩=some (.string x.nm):=hc' 0 _ rfl;have d1:wr.cell? ⟨b',off'+k*2+1,none⟩=some (.int .i64 x.fr):=hc' 1 _ rfl;clear hx hc hc';go_wp2;go_quiet (fail)
   go_wp2;go_roundw
   case rel=>exact⟨k+1,by omega,by go_num,below_drewN hbw _⟩
   case measure=>simp[RowKit.intOf];omega
  ·obtain rfl:k=l.length:=by omega
   go_wp2;go_ret;exact⟨rfl,hbw⟩
theorem e_EqualItem (A B:Option Addr) (l:List (G.It)) (c d:Nat) (w:World) (hl:l.length<=100000) (hA:Rd G.It.cs 4 w A l) (hB:Rd G.It.cs 4 w B l):
  Calls Tryz.prog 57 #[.slice A l.length c,.slice B l.length d] w fun e w'=>e=.returned (.bool true)∧Below w.heap.size w w':=by
 go_enter Tryz.func57,Tryz.ntmps57
 go_wp2;go_loopw [13] (fun i wr=>∃k:Nat,k<=l.length∧i=.int .i64 k∧Below w.heap.size w wr) (fun i _=>l.length-(RowKit.intOf i).toNat)
 case atStart=>exact⟨0,by omega,rfl,below_refl _⟩
 case round=>
  obtain⟨k,hk,rfl,hbw⟩:=hrel;rename World=>wr
  have k0:=nn k;by_cases hlt:k<l.length
  ·have k1:(k:Int)<(l.length:Int):=by omega
   obtain⟨x,hx⟩:=get_lt hlt;obtain⟨b,off,rfl,hb,hc⟩:=(hA.on hbw).get hx;obtain⟨b',off',rfl,hb',hc'⟩:=(hB.on hbw).get hx;have c0:wr.cell? ⟨b,off+k*4,none⟩=some (.string x.nm):=hc 0 _ rfl;have c1:wr.cell? ⟨b,off+k*4+1,none⟩=some (.int .i64 x.ld):=hc 1 _ rfl;have c2:wr.cell? ⟨b,off+k*4+2,none⟩=some (.int .i64 x.du):=hc 2 _ rfl;have c3:wr.cell? ⟨b,off+k*4+3,none⟩=some (.string x.bt):=hc 3 _ rfl;have d0:wr.cell? ⟨b',off'+k*4,none⟩=some (.string x.nm):=hc' 0 _ rfl;have d1:wr.cell? ⟨b',off'+k*4+1,none⟩=some (.int .i64 x.ld):=hc' 1 _ rfl;have d2:wr.cell? ⟨b',off'+k*4+2,none⟩=some (.int .i64 x.du):=hc' 2 _ rfl;have d3:wr.cell? ⟨b',off'+k*4+3,none⟩=some (.string x.bt):=hc' 3 _ rfl;clear hx hc hc';go_wp2;go_quiet (fail)
   go_wp2;go_roundw
   case rel=>exact⟨k+1,by omega,by go_num,below_drewN hbw _⟩
   case measure=>simp[RowKit.intOf];omega
  ·obtain rfl:k=l.length:=by omega
   go_wp2;go_ret;exact⟨rfl,hbw⟩
theorem e_EqualEntry (A B:Option Addr) (l:List (En)) (c d:Nat) (w:World) (hl:l.length<=100000) (hA:Rd En.cs 4 w A l) (hB:Rd En.cs 4 w B l):
  Calls Tryz.prog 60 #[.slice A l.length c,.slice B l.length d] w fun e w'=>e=.returned (.bool true)∧Below w.heap.size w w':=by
 go_enter Tryz.func60,Tryz.ntmps60
 go_wp2;go_loopw [13] (fun i wr=>∃k:Nat,k<=l.length∧i=.int .i64 k∧Below w.heap.size w wr) (fun i _=>l.length-(RowKit.intOf i).toNat)
 case atStart=>exact⟨0,by omega,rfl,below_refl _⟩
 case round=>
  obtain⟨k,hk,rfl,hbw⟩:=hrel;rename World=>wr
  have k0:=nn k;by_cases hlt:k<l.length
  ·have k1:(k:Int)<(l.length:Int):=by omega
   obtain⟨x,hx⟩:=get_lt hlt;obtain⟨b,off,rfl,hb,hc⟩:=(hA.on hbw).get hx;obtain⟨b',off',rfl,hb',hc'⟩:=(hB.on hbw).get hx;have c0:wr.cell? ⟨b,off+k*4,none⟩=some (.int .i64 x.n):=hc 0 _ rfl;have c1:wr.cell? ⟨b,off+k*4+1,none⟩=some (.int .i64 x.d):=hc 1 _ rfl;have c2:wr.cell? ⟨b,off+k*4+2,none⟩=some (.string x.t):=hc 2 _ rfl;have c3:wr.cell? ⟨b,off+k*4+3,none⟩=some (.int .u64 (x.s:Nat)):=hc 3 _ rfl;have d0:wr.cell? ⟨b',off'+k*4,none⟩=some (.int .i64 x.n):=hc' 0 _ rfl;have d1:wr.cell? ⟨b',off'+k*4+1,none⟩=some (.int .i64 x.d):=hc' 1 _ rfl;have d2:wr.cell? ⟨b',off'+k*4+2,none⟩=some (.string x.t):=hc' 2 _ rfl;have d3:wr.cell? ⟨b',off'+k*4+3,none⟩=some (.int .u64 (x.s:Nat)):=hc' 3 _ rfl;clear hx hc hc';go_wp2;go_quiet (fail)
   go_wp2;go_roundw
   case rel=>exact⟨k+1,by omega,by go_num,below_drewN hbw _⟩
   case measure=>simp[RowKit.intOf];omega
  ·obtain rfl:k=l.length:=by omega
   go_wp2;go_ret;exact⟨rfl,hbw⟩
theorem e_EqualInt (A B:Option Addr) (l:List (Int)) (c d:Nat) (w:World) (hl:l.length<=100000) (hA:Rd zC 1 w A l) (hB:Rd zC 1 w B l):
  Calls Tryz.prog 56 #[.slice A l.length c,.slice B l.length d] w fun e w'=>e=.returned (.bool true)∧Below w.heap.size w w':=by
 go_enter Tryz.func56,Tryz.ntmps56
 go_wp2;go_loopw [13] (fun i wr=>∃k:Nat,k<=l.length∧i=.int .i64 k∧Below w.heap.size w wr) (fun i _=>l.length-(RowKit.intOf i).toNat)
 case atStart=>exact⟨0,by omega,rfl,below_refl _⟩
 case round=>
  obtain⟨k,hk,rfl,hbw⟩:=hrel;rename World=>wr
  have k0:=nn k;by_cases hlt:k<l.length
  ·have k1:(k:Int)<(l.length:Int):=by omega
   obtain⟨x,hx⟩:=get_lt hlt;obtain⟨b,off,rfl,hb,hc⟩:=(hA.on hbw).get hx;obtain⟨b',off',rfl,hb',hc'⟩:=(hB.on hbw).get hx;have c0:wr.cell? ⟨b,off+k,none⟩=some (.int .i64 x):=by have:=hc 0 _ rfl;simpa using this
   have d0:wr.cell? ⟨b',off'+k,none⟩=some (.int .i64 x):=by have:=hc' 0 _ rfl;simpa using this
   clear hx hc hc';go_wp2;go_quiet (fail)
   go_wp2;go_roundw
   case rel=>exact⟨k+1,by omega,by go_num,below_drewN hbw _⟩
   case measure=>simp[RowKit.intOf];omega
  ·obtain rfl:k=l.length:=by omega
   go_wp2;go_ret;exact⟨rfl,hbw⟩
theorem e_EqualStr (A B:Option Addr) (l:List (ByteArray)) (c d:Nat) (w:World) (hl:l.length<=100000) (hA:Rd G.sC 1 w A l) (hB:Rd G.sC 1 w B l):
  Calls Tryz.prog 58 #[.slice A l.length c,.slice B l.length d] w fun e w'=>e=.returned (.bool true)∧Below w.heap.size w w':=by
 go_enter Tryz.func58,Tryz.ntmps58
 go_wp2;go_loopw [13] (fun i wr=>∃k:Nat,k<=l.length∧i=.int .i64 k∧Below w.heap.size w wr) (fun i _=>l.length-(RowKit.intOf i).toNat)
 case atStart=>exact⟨0,by omega,rfl,below_refl _⟩
 case round=>
  obtain⟨k,hk,rfl,hbw⟩:=hrel;rename World=>wr
  have k0:=nn k;by_cases hlt:k<l.length
  ·have k1:(k:Int)<(l.length:Int):=by omega
   obtain⟨x,hx⟩:=get_lt hlt;obtain⟨b,off,rfl,hb,hc⟩:=(hA.on hbw).get hx;obtain⟨b',off',rfl,hb',hc'⟩:=(hB.on hbw).get hx;have c0:wr.cell? ⟨b,off+k,none⟩=some (.string x):=by have:=hc 0 _ rfl;simpa using this
   have d0:wr.cell? ⟨b',off'+k,none⟩=some (.string x):=by have:=hc' 0 _ rfl;simpa using this
   clear hx hc hc';go_wp2;go_quiet (fail)
   go_wp2;go_roundw
   case rel=>exact⟨k+1,by omega,by go_num,below_drewN hbw _⟩
   case measure=>simp[RowKit.intOf];omega
  ·obtain rfl:k=l.length:=by omega
   go_wp2;go_ret;exact⟨rfl,hbw⟩
theorem e_Same1 (x y:LRg) (w:World) (hs:x.st=y.st) (hl:x.lk.l=y.lk.l) (hn:x.lk.l.length<=100000) (hx:Rd G.Lk.cs 2 w x.lk.a x.lk.l) (hy:Rd G.Lk.cs 2 w y.lk.a y.lk.l):
  Calls Tryz.prog 52 #[.agg #[.int .i64 x.st,.slice x.lk.a x.lk.l.length x.lk.c],.agg #[.int .i64 y.st,.slice y.lk.a y.lk.l.length y.lk.c]] w fun e w'=>e=.returned (.bool true)∧Below w.heap.size w w':=by
 obtain⟨xs,xa,xl,xc⟩:=x;obtain⟨ys,ya,yl,yc⟩:=y;dsimp only at *;subst hs hl;have HE:=hid (fun W (h:Below w.heap.size w W)=>e_EqualLink xa ya xl xc yc W hn (hx.on h) (hy.on h));go_enter Tryz.func52,Tryz.ntmps52
 go_wp2_with (go_at_call 53;((with_reducible refine(HE.out _ bl).mono ?_);rintro e w3 ⟨rfl,hb3⟩))
 go_ret;exact⟨rfl,bl⟩
theorem e_Same2 (x y:LSi) (w:World) (hf:x.fel=y.fel) (hm:x.men=y.men) (hl:x.dogs.l=y.dogs.l) (hn:x.dogs.l.length<=100000) (hx:Rd zC 1 w x.dogs.a x.dogs.l) (hy:Rd zC 1 w y.dogs.a y.dogs.l):
  Calls Tryz.prog 55 #[.agg #[.slice x.dogs.a x.dogs.l.length x.dogs.c,.bool x.fel,.int .i64 x.men],.agg #[.slice y.dogs.a y.dogs.l.length y.dogs.c,.bool y.fel,.int .i64 y.men]] w fun e w'=>e=.returned (.bool true)∧Below w.heap.size w w':=by
 obtain⟨⟨xa,xl,xc⟩,xf,xm⟩:=x;obtain⟨⟨ya,yl,yc⟩,yf,ym⟩:=y;dsimp only at *;subst hf hm hl;have HE:=hid (fun W (h:Below w.heap.size w W)=>e_EqualInt xa ya xl xc yc W hn (hx.on h) (hy.on h));have x0:=(Blk.new w 108 #[.slice xa xl.length xc,.bool xf,.int .i64 xm]).alloc (.cells #[.slice ya xl.length yc,.bool xf,.int .i64 xm] 108);have x1:=Blk.new (w.alloc (.cells #[.slice xa xl.length xc,.bool xf,.int .i64 xm] 108)) 108 #[.slice ya xl.length yc,.bool xf,.int .i64 xm];rw[World.size_alloc] at x1;go_enter Tryz.func55,Tryz.ntmps55
 go_wp2_with (go_at_call 56;((with_reducible refine(HE.out _ bl).mono ?_);rintro e w3 ⟨rfl,hb3⟩;have y0:=x0.below hb3 x0.lt;have y1:=x1.below hb3 x1.lt;have u1:w3.cell? ⟨w.heap.size,1,none⟩=some (.bool xf):=y0.cell 1;have u2:w3.cell? ⟨w.heap.size,2,none⟩=some (.int .i64 xm):=y0.cell 2;have v1:w3.cell? ⟨w.heap.size+1,1,none⟩=some (.bool xf):=y1.cell 1;have v2:w3.cell? ⟨w.heap.size+1,2,none⟩=some (.int .i64 xm):=y1.cell 2))
 go_ret;exact⟨rfl,bl⟩
theorem e_EqRig (A B:Option Addr) (l m:List (LRg)) (c d:Nat) (w:World) (hl:l.length<=100000) (hlm:l.length=m.length) (hA:Rd LRg.cs 2 w A l) (hB:Rd LRg.cs 2 w B m)
  (hP:∀(k:Nat) x y,l[k]?=some x->m[k]?=some y->x.st=y.st∧x.lk.l=y.lk.l∧x.lk.l.length<=100000∧Rd G.Lk.cs 2 w x.lk.a x.lk.l∧Rd G.Lk.cs 2 w y.lk.a y.lk.l):
  Calls Tryz.prog 51 #[.slice A l.length c,.slice B m.length d,.func (.func 52) #[] #[]] w fun e w'=>e=.returned (.bool true)∧Below w.heap.size w w':=by
 rw[←hlm];have HLM:=hid hlm;have HP:=hid hP;clear hlm hP;generalize hn:l.length=n at *;go_enter Tryz.func51,Tryz.ntmps51
 go_wp2;go_loopw [17] (fun i wr=>∃k:Nat,k<=n∧i=.int .i64 k∧Below w.heap.size w wr) (fun i _=>n-(RowKit.intOf i).toNat)
 case atStart=>exact⟨0,by omega,rfl,below_refl _⟩
 case round=>
  obtain⟨k,hk,rfl,hbw⟩:=hrel;rename World=>wr
  have k0:=nn k;by_cases hlt:k<n
  ·have k1:(k:Int)<(n:Int):=by omega
   obtain⟨x,hx⟩:=get_lt (show k<l.length by omega);obtain⟨y,hy⟩:=get_lt (show k<m.length by have:=HLM.out;omega);obtain⟨b,off,rfl,hb,hc⟩:=(hA.on hbw).get hx;obtain⟨b',off',rfl,hb',hc'⟩:=(hB.on hbw).get hy;have c0:wr.cell? ⟨b,off+k*2,none⟩=some (.int .i64 x.st):=hc 0 _ rfl;have c1:wr.cell? ⟨b,off+k*2+1,none⟩=some (.slice x.lk.a x.lk.l.length x.lk.c):=hc 1 _ rfl;have d0:wr.cell? ⟨b',off'+k*2,none⟩=some (.int .i64 y.st):=hc' 0 _ rfl;have d1:wr.cell? ⟨b',off'+k*2+1,none⟩=some (.slice y.lk.a y.lk.l.length y.lk.c):=hc' 1 _ rfl;obtain⟨p1,p2,p3,p4,p5⟩:=HP.out k x y hx hy;have HC:=hid (fun W (h:Below w.heap.size w W)=>(show Calls Tryz.prog 52 #[.agg #[.int .i64 x.st,.slice x.lk.a x.lk.l.length x.lk.c],.agg #[.int .i64 y.st,.slice y.lk.a y.lk.l.length y.lk.c]] W fun e w'=>e=.returned (.bool true)∧Below W.heap.size W w' from e_Same1 x y W p1 p2 p3 (p4.on h) (p5.on h)));clear hx hy hc hc' p1 p2 p3 p4;go_wp2_with (go_at_call 52;((with_reducible refine(HC.out _ bl).mono ?_);rintro e w3 ⟨rfl,hb3⟩))
   go_roundw
   case rel=>exact⟨k+1,by omega,by go_num,bl⟩
   case measure=>simp[RowKit.intOf];omega
  ·obtain rfl:k=n:=by omega
   go_wp2;go_ret;exact⟨rfl,hbw⟩
theorem e_EqSite (A B:Option Addr) (l m:List (LSi)) (c d:Nat) (w:World) (hl:l.length<=100000) (hlm:l.length=m.length) (hA:Rd LSi.cs 3 w A l) (hB:Rd LSi.cs 3 w B m)
  (hP:∀(k:Nat) x y,l[k]?=some x->m[k]?=some y->x.fel=y.fel∧x.men=y.men∧x.dogs.l=y.dogs.l∧x.dogs.l.length<=100000∧Rd zC 1 w x.dogs.a x.dogs.l∧Rd zC 1 w y.dogs.a y.dogs.l):
  Calls Tryz.prog 54 #[.slice A l.length c,.slice B m.length d,.func (.func 55) #[] #[]] w fun e w'=>e=.returned (.bool true)∧Below w.heap.size w w':=by
 rw[←hlm];have HLM:=hid hlm;have HP:=hid hP;clear hlm hP;generalize hn:l.length=n at *;go_enter Tryz.func54,Tryz.ntmps54
 go_wp2;go_loopw [17] (fun i wr=>∃k:Nat,k<=n∧i=.int .i64 k∧Below w.heap.size w wr) (fun i _=>n-(RowKit.intOf i).toNat)
 case atStart=>exact⟨0,by omega,rfl,below_refl _⟩
 case round=>
  obtain⟨k,hk,rfl,hbw⟩:=hrel;rename World=>wr
  have k0:=nn k;by_cases hlt:k<n
  ·have k1:(k:Int)<(n:Int):=by omega
   obtain⟨x,hx⟩:=get_lt (show k<l.length by omega);obtain⟨y,hy⟩:=get_lt (show k<m.length by have:=HLM.out;omega);obtain⟨b,off,rfl,hb,hc⟩:=(hA.on hbw).get hx;obtain⟨b',off',rfl,hb',hc'⟩:=(hB.on hbw).get hy;have c0:wr.cell? ⟨b,off+k*3,none⟩=some (.slice x.dogs.a x.dogs.l.length x.dogs.c):=hc 0 _ rfl;have c1:wr.cell? ⟨b,off+k*3+1,none⟩=some (.bool x.fel):=hc 1 _ rfl;have c2:wr.cell? ⟨b,off+k*3+2,none⟩=some (.int .i64 x.men):=hc 2 _ rfl;have d0:wr.cell? ⟨b',off'+k*3,none⟩=some (.slice y.dogs.a y.dogs.l.length y.dogs.c):=hc' 0 _ rfl;have d1:wr.cell? ⟨b',off'+k*3+1,none⟩=some (.bool y.fel):=hc' 1 _ rfl;have d2:wr.cell? ⟨b',off'+k*3+2,none⟩=some (.int .i64 y.men):=hc' 2 _ rfl;obtain⟨p1,p2,p3,p4,p5,p6⟩:=HP.out k x y hx hy;have HC:=hid (fun W (h:Below w.heap.size w W)=>(show Calls Tryz.prog 55 #[.agg #[.slice x.dogs.a x.dogs.l.length x.dogs.c,.bool x.fel,.int .i64 x.men],.agg #[.slice y.dogs.a y.dogs.l.length y.dogs.c,.bool y.fel,.int .i64 y.men]] W fun e w'=>e=.returned (.bool true)∧Below W.heap.size W w' from e_Same2 x y W p1 p2 p3 p4 (p5.on h) (p6.on h)));clear hx hy hc hc' p1 p2 p3 p4;go_wp2_with (go_at_call 55;((with_reducible refine(HC.out _ bl).mono ?_);rintro e w3 ⟨rfl,hb3⟩))
   go_roundw
   case rel=>exact⟨k+1,by omega,by go_num,bl⟩
   case measure=>simp[RowKit.intOf];omega
  ·obtain rfl:k=n:=by omega
   go_wp2;go_ret;exact⟨rfl,hbw⟩
theorem e_EqCrs (A B:Option Addr) (l m:List (Sl S.Course)) (c d:Nat) (w:World) (hl:l.length<=100000) (hlm:l.length=m.length) (hA:Rd Sl.cs 1 w A l) (hB:Rd Sl.cs 1 w B m)
  (hP:∀(k:Nat) x y,l[k]?=some x->m[k]?=some y->x.l=y.l∧x.l.length<=100000∧Rd S.Course.cs 6 w x.a x.l∧Rd S.Course.cs 6 w y.a y.l):
  Calls Tryz.prog 141 #[.slice A l.length c,.slice B m.length d,.func (.func 142) #[] #[]] w fun e w'=>e=.returned (.bool true)∧Below w.heap.size w w':=by
 rw[←hlm];have HLM:=hid hlm;have HP:=hid hP;clear hlm hP;generalize hn:l.length=n at *;go_enter Tryz.func141,Tryz.ntmps141
 go_wp2;go_loopw [17] (fun i wr=>∃k:Nat,k<=n∧i=.int .i64 k∧Below w.heap.size w wr) (fun i _=>n-(RowKit.intOf i).toNat)
 case atStart=>exact⟨0,by omega,rfl,below_refl _⟩
 case round=>
  obtain⟨k,hk,rfl,hbw⟩:=hrel;rename World=>wr
  have k0:=nn k;by_cases hlt:k<n
  ·have k1:(k:Int)<(n:Int):=by omega
   obtain⟨x,hx⟩:=get_lt (show k<l.length by omega);obtain⟨y,hy⟩:=get_lt (show k<m.length by have:=HLM.out;omega);obtain⟨b,off,rfl,hb,hc⟩:=(hA.on hbw).get hx;obtain⟨b',off',rfl,hb',hc'⟩:=(hB.on hbw).get hy;have c0:wr.cell? ⟨b,off+k,none⟩=some (.slice x.a x.l.length x.c):=by have:=hc 0 _ rfl;simpa using this
   have d0:wr.cell? ⟨b',off'+k,none⟩=some (.slice y.a y.l.length y.c):=by have:=hc' 0 _ rfl;simpa using this
   obtain⟨p1,p2,p3,p4⟩:=HP.out k x y hx hy;have HC:=hid (fun W (h:Below w.heap.size w W)=>(show Calls Tryz.prog 142 #[.slice x.a x.l.length x.c,.slice y.a y.l.length y.c] W fun e w'=>e=.returned (.bool true)∧Below W.heap.size W w' from(by rw[←p1];exact e_EqualCourse x.a y.a x.l x.c y.c W p2 (p3.on h) (p1▸p4.on h))));clear hx hy hc hc' p1 p2 p3 p4;go_wp2_with (go_at_call 142;((with_reducible refine(HC.out _ bl).mono ?_);rintro e w3 ⟨rfl,hb3⟩))
   go_roundw
   case rel=>exact⟨k+1,by omega,by go_num,bl⟩
   case measure=>simp[RowKit.intOf];omega
  ·obtain rfl:k=n:=by omega
   go_wp2;go_ret;exact⟨rfl,hbw⟩
theorem e_EqJts (A B:Option Addr) (l m:List (Sl Jt)) (c d:Nat) (w:World) (hl:l.length<=100000) (hlm:l.length=m.length) (hA:Rd Sl.cs 1 w A l) (hB:Rd Sl.cs 1 w B m)
  (hP:∀(k:Nat) x y,l[k]?=some x->m[k]?=some y->x.l=y.l∧x.l.length<=100000∧Rd Jt.cs 2 w x.a x.l∧Rd Jt.cs 2 w y.a y.l):
  Calls Tryz.prog 143 #[.slice A l.length c,.slice B m.length d,.func (.func 144) #[] #[]] w fun e w'=>e=.returned (.bool true)∧Below w.heap.size w w':=by
 rw[←hlm];have HLM:=hid hlm;have HP:=hid hP;clear hlm hP;generalize hn:l.length=n at *;go_enter Tryz.func143,Tryz.ntmps143
 go_wp2;go_loopw [17] (fun i wr=>∃k:Nat,k<=n∧i=.int .i64 k∧Below w.heap.size w wr) (fun i _=>n-(RowKit.intOf i).toNat)
 case atStart=>exact⟨0,by omega,rfl,below_refl _⟩
 case round=>
  obtain⟨k,hk,rfl,hbw⟩:=hrel;rename World=>wr
  have k0:=nn k;by_cases hlt:k<n
  ·have k1:(k:Int)<(n:Int):=by omega
   obtain⟨x,hx⟩:=get_lt (show k<l.length by omega);obtain⟨y,hy⟩:=get_lt (show k<m.length by have:=HLM.out;omega);obtain⟨b,off,rfl,hb,hc⟩:=(hA.on hbw).get hx;obtain⟨b',off',rfl,hb',hc'⟩:=(hB.on hbw).get hy;have c0:wr.cell? ⟨b,off+k,none⟩=some (.slice x.a x.l.length x.c):=by have:=hc 0 _ rfl;simpa using this
   have d0:wr.cell? ⟨b',off'+k,none⟩=some (.slice y.a y.l.length y.c):=by have:=hc' 0 _ rfl;simpa using this
   obtain⟨p1,p2,p3,p4⟩:=HP.out k x y hx hy;have HC:=hid (fun W (h:Below w.heap.size w W)=>(show Calls Tryz.prog 144 #[.slice x.a x.l.length x.c,.slice y.a y.l.length y.c] W fun e w'=>e=.returned (.bool true)∧Below W.heap.size W w' from(by rw[←p1];exact e_EqualJoint x.a y.a x.l x.c y.c W p2 (p3.on h) (p1▸p4.on h))));clear hx hy hc hc' p1 p2 p3 p4;go_wp2_with (go_at_call 144;((with_reducible refine(HC.out _ bl).mono ?_);rintro e w3 ⟨rfl,hb3⟩))
   go_roundw
   case rel=>exact⟨k+1,by omega,by go_num,bl⟩
   case measure=>simp[RowKit.intOf];omega
  ·obtain rfl:k=n:=by omega
   go_wp2;go_ret;exact⟨rfl,hbw⟩
theorem e_sameCrs (p q:Sl (Sl S.Course)) (w:World) (hl:p.l.length<=100000) (hlm:p.l.map (·.l)=q.l.map (·.l)) (hA:Rd Sl.cs 1 w p.a p.l) (hB:Rd Sl.cs 1 w q.a q.l) (hp:∀y∈p.l,y.l.length<=100000∧Rd S.Course.cs 6 w y.a y.l) (hq:∀y∈q.l,Rd S.Course.cs 6 w y.a y.l):
  Calls Tryz.prog 109 #[.slice p.a p.l.length p.c,.slice q.a q.l.length q.c] w fun e w'=>e=.returned (.bool true)∧Below w.heap.size w w':=by
 have hlen:p.l.length=q.l.length:=by simpa using congrArg List.length hlm
 have HE:=hid (e_EqCrs p.a q.a p.l q.l p.c q.c w hl hlen hA hB (fun k x y hx hy=>by
  have h1:(p.l.map (·.l))[k]?=(q.l.map (·.l))[k]?:=by rw[hlm]
  rw[List.getElem?_map,List.getElem?_map,hx,hy] at h1;exact⟨Option.some.inj h1,(hp x (List.mem_of_getElem? hx)).1,(hp x (List.mem_of_getElem? hx)).2,hq y (List.mem_of_getElem? hy)⟩))
 clear hlen hlm;go_enter Tryz.func109,Tryz.ntmps109
 go_wp2_with (go_at_call 141;((with_reducible refine HE.out.mono ?_);rintro e w3 ⟨rfl,hb3⟩))
 go_ret;exact⟨rfl,hb3⟩
theorem e_sameJts (p q:Sl (Sl Jt)) (w:World) (hl:p.l.length<=100000) (hlm:p.l.map (·.l)=q.l.map (·.l)) (hA:Rd Sl.cs 1 w p.a p.l) (hB:Rd Sl.cs 1 w q.a q.l) (hp:∀y∈p.l,y.l.length<=100000∧Rd Jt.cs 2 w y.a y.l) (hq:∀y∈q.l,Rd Jt.cs 2 w y.a y.l):
  Calls Tryz.prog 110 #[.slice p.a p.l.length p.c,.slice q.a q.l.length q.c] w fun e w'=>e=.returned (.bool true)∧Below w.heap.size w w':=by
 have hlen:p.l.length=q.l.length:=by simpa using congrArg List.length hlm
 have HE:=hid (e_EqJts p.a q.a p.l q.l p.c q.c w hl hlen hA hB (fun k x y hx hy=>by
  have h1:(p.l.map (·.l))[k]?=(q.l.map (·.l))[k]?:=by rw[hlm]
  rw[List.getElem?_map,List.getElem?_map,hx,hy] at h1;exact⟨Option.some.inj h1,(hp x (List.mem_of_getElem? hx)).1,(hp x (List.mem_of_getElem? hx)).2,hq y (List.mem_of_getElem? hy)⟩))
 clear hlen hlm;go_enter Tryz.func110,Tryz.ntmps110
 go_wp2_with (go_at_call 143;((with_reducible refine HE.out.mono ?_);rintro e w3 ⟨rfl,hb3⟩))
 go_ret;exact⟨rfl,hb3⟩
theorem own_blk {α:Type} {enc:α->List Value} {sz g:Nat} {W:World} {t:TypeId} {l:List α} (hs:∀a,(enc a).length=sz) (h:Blk W g t (fl enc l).toArray) (hl:l.length<=maxLen):Got (fun _=>True) W enc sz (⟨some ⟨g,0,none⟩,l,l.length⟩:Sl α):=by
 have hz:(fl enc l).length=l.length*sz:=fl_length hs l
 have ho:W.ownsRow 0 t sz (.slice (some ⟨g,0,none⟩) l.length l.length) l.length (fl enc l):=
  ⟨hz,.inr ⟨g,l.length,_,rfl,Nat.zero_le _,h,Nat.le_refl _,hl,by simpa using hz,by rw[←hz];simp⟩⟩
 exact⟨own_rd' hs ho,fun _ _ _=>trivial,Nat.le_refl _,hl⟩
def dgB (u:Nat):UInt8:=UInt8.ofNat (48+u)
structure Op where
 k:Nat
 st:Int
 n:Int
 nm:ByteArray
 lk:Sl G.Lk
 ld:Sl Int
abbrev Op.cs (o:Op):List Value:=[.int .u8 (o.k:Nat),.int .i64 o.st,.int .i64 o.n,.string o.nm,o.lk.v,o.ld.v]
theorem Op.cs_len (o:Op):o.cs.length=6:=rfl
structure OpOk (w:World) (o:Op):Prop where
 rd:Rd G.Lk.cs 2 w o.lk.a o.lk.l
 ll:o.lk.l.length<=maxLen
 ln:∀k∈o.lk.l,k.nm.size<=maxLen
 nm:o.nm.size<=maxLen
 rl:Rd zC 1 w o.ld.a o.ld.l
 dl:o.ld.l.length<=maxLen
end Go.Proofs.YtjkkfcghkeoedaaGreatDoor.Fi
