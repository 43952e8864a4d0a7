/- The parts of the proof, part 36. -/
import Derived.Test.YtjkkfcghkeoedaaGreatDoorR0
import Derived.Test.YtjkkfcghkeoedaaGreatDoorR35
import Derived.Lib.ParseIntBCases
set_option maxHeartbeats 16000000
set_option maxRecDepth 20000
set_option linter.unusedSimpArgs false
set_option linter.unusedVariables false
namespace Go.Proofs.YtjkkfcghkeoedaaGreatDoor.Fi
open Go.RowKit Go.Lib Tx
theorem r10_ValidSetup {T:Nat->Prop} (x:LSu) (w:World) (hS:SuOk T w x) (hW:SuW x):Calls Tryz.prog 11 #[.agg x.cs.toArray] w fun e w'=>e=.returned (.bool (vSu x.val))∧Below w.heap.size w w':=by
 have x0:=Blk.new w 39 x.cs.toArray;have B0:=bl_alloc (below_refl w) (.cells x.cs.toArray 39);have lw:=x0.lt;obtain⟨V0,hV0⟩:∃V0,vSu x.val=V0:=⟨_,rfl⟩;have HAL:=hid (su_all (x:=x));have HNO:=hid (fun k y z=>@su_no x k y z);rw[hV0] at HAL HNO ⊢;clear hV0;obtain⟨CA,hCA⟩:∃CA,x.cs.toArray=CA:=⟨_,rfl⟩;have HCC:=hid (show ∀(i:Nat) (v:Value),x.cs[i]?=some v->(w.alloc (.cells x.cs.toArray 39)).cell? ⟨w.heap.size,i,none⟩=some v from fun i v hv=>by rw[x0.cell i];simpa using hv);rw[hCA] at B0 lw HCC ⊢;clear x0 hCA;have HSU:=hid (fun W (h:Below w.heap.size w W)=>hS.on h);have HSW:=hid hW;obtain⟨n,hn⟩:∃n,x.stk.l.length=n:=⟨_,rfl⟩;obtain⟨m,hm⟩:∃m,x.jnt.l.length=m:=⟨_,rfl⟩;have hsl:=hW.sl;have hjl:=hW.jl;rw[hn] at hsl;rw[hm] at hjl;rw[hn,hm] at HAL;have HNn:=hid hn;have HMm:=hid hm;clear hS hW;go_enter Tryz.func11,Tryz.ntmps11
 go_upto_region 1 with fail
 generalize w.alloc (.cells CA 39)=W0 at *;have c0:W0.cell? ⟨w.heap.size,0,none⟩=some (.slice x.stk.a x.stk.l.length x.stk.c):=HCC.out 0 _ rfl;have c1:W0.cell? ⟨w.heap.size,1,none⟩=some (.slice x.jnt.a x.jnt.l.length x.jnt.c):=HCC.out 1 _ rfl;rw[hn] at c0;rw[hm] at c1;clear hn hm;have HC:=hid (show ∀W (h:Below W0.heap.size W0 W) (i:Nat) (v:Value),x.cs[i]?=some v->W.cell? ⟨w.heap.size,i,none⟩=some v from fun W h i v hv=>((bcell h).1 w.heap.size i lw).trans (HCC.out i v hv));clear HCC;cases hwn:wn (n:Int) 1 8
 ·have HX:V0=false:=by rw[HAL.out,hwn];rfl
  subst HX;clear HAL;go_wp2_with (go_at_call 31;((with_reducible refine(r10_withinV hwn _).mono ?_);rintro e w' ⟨rfl,rfl⟩))
  go_ret;exact⟨rfl,B0⟩
 by_cases hmn:m=n
 rotate_left
 ·have HX:V0=false:=by rw[HAL.out,hwn,decide_eq_false hmn];rfl
  subst HX;have g2:((m:Int)==(n:Int))=false:=beq_eq_false_iff_ne.2 (by omega);clear HAL;go_wp2_with (go_at_call 31;((with_reducible refine(r10_withinV hwn _).mono ?_);rintro e w' ⟨rfl,rfl⟩))
  go_ret;exact⟨rfl,B0⟩
 subst hmn;go_wp2_with (go_at_call 31;((with_reducible refine(r10_withinV hwn _).mono ?_);rintro e w' ⟨rfl,rfl⟩))
 go_loopw [3] (fun i wr=>∃k:Nat,k<=m∧i=.int .i64 k∧Below W0.heap.size W0 wr∧Hid ((x.stk.l.take k).all (fun y=>S.validC y.l)=true∧(x.jnt.l.take k).all (fun y=>vJ y.l)=true)) (fun i _=>m-(RowKit.intOf i).toNat)
 case atStart=>exact⟨0,Nat.zero_le _,rfl,below_refl _,hid ⟨rfl,rfl⟩⟩
 case round=>
  obtain⟨k,hk,rfl,hbw,HI⟩:=hrel;have k0:=nn k;have BW:=below_tr B0 hbw;have e0:=((bcell hbw).1 w.heap.size 0 lw).trans c0;have e1:=((bcell hbw).1 w.heap.size 1 lw).trans c1;by_cases hlt:k<m
  ·have k1:(k:Int)<(m:Int):=by omega
   obtain⟨y,hy⟩:=get_lt (l:=x.stk.l) (k:=k) (by rw[HNn.out];omega);obtain⟨z,hz⟩:=get_lt (l:=x.jnt.l) (k:=k) (by rw[HMm.out];omega);obtain⟨b1,o1,ha1,lb1,_⟩:=(HSU.out wr BW).stk.rd.get hy;obtain⟨b2,o2,ha2,lb2,_⟩:=(HSU.out wr BW).jnt.rd.get hz;have cy:wr.cell? ⟨b1,o1+k,none⟩=some (.slice y.a y.l.length y.c):=rd_slc (ha1▸(HSU.out wr BW).stk.rd) hy;have cz:wr.cell? ⟨b2,o2+k,none⟩=some (.slice z.a z.l.length z.c):=rd_slc (ha2▸(HSU.out wr BW).jnt.rd) hz;rw[ha1] at e0;rw[ha2] at e1;have HSV:=hid (fun v (hv:S.validC y.l=v) W (h:Below w.heap.size w W)=>(show Calls Tryz.prog 32 #[.slice y.a y.l.length y.c] W fun e w'=>e=.returned (.bool v)∧Below W.heap.size W w' from hv▸S.r_valid y.a y.l y.c W (HSW.out.sc y (List.mem_of_getElem? hy)) ((HSU.out W h).stks y (List.mem_of_getElem? hy)).rd));have HJV:=hid (fun v (hv:vJ z.l=v) W (h:Below w.heap.size w W)=>(show Calls Tryz.prog 33 #[.slice z.a z.l.length z.c] W fun e w'=>e=.returned (.bool v)∧Below W.heap.size W w' from hv▸r3_ValidJoints z.a z.l z.c W (HSW.out.jc z (List.mem_of_getElem? hz)) ((HSU.out W h).jnts z (List.mem_of_getElem? hz)).rd));have HY:=hid hy;have HZ:=hid hz;clear hy hz ha1 ha2 HAL;cases hv1:S.validC y.l
   ·have HX:V0=false:=HNO.out k y z HY.out HZ.out (.inl hv1);subst HX;go_wp2_with (go_at_call 32;((with_reducible refine(HSV.out _ hv1 _ BW).mono ?_);rintro e w2 ⟨rfl,hb2⟩))
    go_ret;exact⟨rfl,below_tr BW hb2⟩
   cases hv2:vJ z.l
   ·have HX:V0=false:=HNO.out k y z HY.out HZ.out (.inr hv2);subst HX;go_wp2_with (first|(go_at_call 32;((with_reducible refine(HSV.out _ hv1 _ BW).mono ?_);rintro e w2 ⟨rfl,hb2⟩;have B2:=below_tr BW hb2;have f1:=((bcell hb2).1 w.heap.size 1 (Nat.lt_of_lt_of_le lw hbw.size)).trans e1;have fz:=cell_on cz hb2))|(go_at_call 33;((with_reducible refine(HJV.out _ hv2 _ B2).mono ?_);rintro e w3 ⟨rfl,hb3⟩)))
    go_ret;exact⟨rfl,below_tr B2 hb3⟩
   have HV1:=hid hv1;have HV2:=hid hv2;go_wp2_with (first|(go_at_call 32;((with_reducible refine(HSV.out _ hv1 _ BW).mono ?_);rintro e w2 ⟨rfl,hb2⟩;have B2:=below_tr BW hb2;have f1:=((bcell hb2).1 w.heap.size 1 (Nat.lt_of_lt_of_le lw hbw.size)).trans e1;have fz:=cell_on cz hb2))|(go_at_call 33;((with_reducible refine(HJV.out _ hv2 _ B2).mono ?_);rintro e w3 ⟨rfl,hb3⟩)))
   go_roundw
   case rel=>exact⟨k+1,by omega,by go_num,below_tr hbw (below_tr hb2 hb3),hid ⟨all_snoc HY.out HI.out.1 HV1.out,all_snoc HZ.out HI.out.2 HV2.out⟩⟩
   case measure=>simp[RowKit.intOf];omega
  ·obtain rfl:k=m:=by omega
   have HAX:=hid (show V0=(vCl x.cl&&(G.vldG x.gear.l&&(V.vRu x.ru&&(vRt x.rt&&wn x.men 1 16)))) by
    have h1:=HI.out.1;have h2:=HI.out.2;rw[List.take_of_length_le (by rw[HNn.out];omega)] at h1;rw[List.take_of_length_le (by rw[HMm.out];omega)] at h2;rw[HAL.out,hwn,h1,h2];simp)
   have HGV:=hid (fun v W (h:Below W0.heap.size W0 W) (hv:G.vldG x.gear.l=v)=>(show Calls Tryz.prog 35 #[.slice x.gear.a x.gear.l.length x.gear.c] W fun e w'=>e=.returned (.bool v)∧Below W.heap.size W w' from hv▸G.r_Valid x.gear.a x.gear.l x.gear.c W HSW.out.gl (HSU.out W (below_tr B0 h)).gear.rd HSW.out.gw));have HRU:=hid (fun v W (hv:V.vRu x.ru=v)=>(show Calls Tryz.prog 36 #[V.ruV x.ru] W fun e w'=>e=.returned (.bool v)∧Below W.heap.size W w' from hv▸V.r_ValidRule x.ru W));have d2:=HC.out wr hbw 2 _ rfl;have d3:=HC.out wr hbw 3 _ rfl;have d4:=HC.out wr hbw 4 _ rfl;have d5:=HC.out wr hbw 5 _ rfl;have d6:=HC.out wr hbw 6 _ rfl;have d7:=HC.out wr hbw 7 _ rfl;clear HI HAL c0 c1 e1;rcases (show vCl x.cl=false∨vCl x.cl=true∧G.vldG x.gear.l=false∨vCl x.cl=true∧G.vldG x.gear.l=true∧V.vRu x.ru=false∨vCl x.cl=true∧G.vldG x.gear.l=true∧V.vRu x.ru=true∧vRt x.rt=false∨vCl x.cl=true∧G.vldG x.gear.l=true∧V.vRu x.ru=true∧vRt x.rt=true from by
    cases vCl x.cl<;>cases G.vldG x.gear.l<;>cases V.vRu x.ru<;>cases vRt x.rt<;>decide) with hv0|⟨hv0,hv1⟩|⟨hv0,hv1,hv2⟩|⟨hv0,hv1,hv2,hv3⟩|⟨hv0,hv1,hv2,hv3⟩
   rotate_left 4
   ·cases hv4:wn x.men 1 16
    all_goals
     have HX:=HAX.out;rw[hv0,hv1,hv2,hv3,hv4] at HX;subst HX;go_wp2_with (first
    |(go_at_call 34;((with_reducible refine(r3_ValidClimbV hv0 _).mono ?_);rintro e w2 ⟨rfl,hb2⟩;have B2:=below_tr hbw hb2;have d8:=HC.out w2 B2 8 _ rfl))
    |(go_at_call 35;((with_reducible refine(HGV.out _ _ B2 hv1).mono ?_);rintro e w3 ⟨rfl,hb3⟩;have B3:=below_tr B2 hb3;have d9:=HC.out w3 B3 9 _ rfl;have d10:=HC.out w3 B3 10 _ rfl;have d11:=HC.out w3 B3 11 _ rfl))
    |(go_at_call 36;((with_reducible refine(HRU.out _ _ hv2).mono ?_);rintro e w4 ⟨rfl,hb4⟩;have B4:=below_tr B3 hb4;have d12:=HC.out w4 B4 12 _ rfl;have d13:=HC.out w4 B4 13 _ rfl;have d14:=HC.out w4 B4 14 _ rfl;have d15:=HC.out w4 B4 15 _ rfl))
    |(go_at_call 37;((with_reducible refine(r9_ValidRateV hv3 _).mono ?_);rintro e w5 ⟨rfl,hb5⟩;have B5:=below_tr B4 hb5;have d16:=HC.out w5 B5 16 _ rfl))
    |(go_at_call 31;((with_reducible refine(r10_withinV hv4 _).mono ?_);rintro e w' ⟨rfl,rfl⟩)))
     go_ret;exact⟨rfl,below_tr B0 B5⟩
   all_goals
    have HX:V0=false:=by rw[HAX.out];simp[*]
    subst HX;go_wp2_with (first
    |(go_at_call 34;((with_reducible refine(r3_ValidClimbV hv0 _).mono ?_);rintro e w2 ⟨rfl,hb2⟩;have B2:=below_tr hbw hb2;have d8:=HC.out w2 B2 8 _ rfl))
    |(go_at_call 35;((with_reducible refine(HGV.out _ _ B2 hv1).mono ?_);rintro e w3 ⟨rfl,hb3⟩;have B3:=below_tr B2 hb3;have d9:=HC.out w3 B3 9 _ rfl;have d10:=HC.out w3 B3 10 _ rfl;have d11:=HC.out w3 B3 11 _ rfl))
    |(go_at_call 36;((with_reducible refine(HRU.out _ _ hv2).mono ?_);rintro e w4 ⟨rfl,hb4⟩;have B4:=below_tr B3 hb4;have d12:=HC.out w4 B4 12 _ rfl;have d13:=HC.out w4 B4 13 _ rfl;have d14:=HC.out w4 B4 14 _ rfl;have d15:=HC.out w4 B4 15 _ rfl))
    |(go_at_call 37;((with_reducible refine(r9_ValidRateV hv3 _).mono ?_);rintro e w5 ⟨rfl,hb5⟩;have B5:=below_tr B4 hb5;have d16:=HC.out w5 B5 16 _ rfl))
    |(go_at_call 31;((with_reducible refine(r10_withinV hv4 _).mono ?_);rintro e w' ⟨rfl,rfl⟩)))
    go_ret;first|exact⟨rfl,below_tr B0 B5⟩|exact⟨rfl,below_tr B0 B4⟩|exact⟨rfl,below_tr B0 B3⟩|exact⟨rfl,below_tr B0 B2⟩
section
variable {b:Nat} {L:LS} {T:Nat->Prop} {w:World}
theorem f_DayA (hF:FirmAt w b L T) (hI:Inv L.val) (hL:LdW w)  : Calls Tryz.prog 61 #[.pointer (some ⟨b,0,none⟩)] w (DoP (.day) b L T w):=by
 have HD:=hid (f_doV (w:=w) hF hI hL (show CmV w (.day) (.iface 169 (.agg #[])) from rfl));clear hF hI hL;go_enter Tryz.func61,Tryz.ntmps61
 go_wp2_with (go_at_call 74;((with_reducible refine HD.out.mono ?_);rintro e w3 ⟨rfl,h9⟩;replace h9:=hid h9))
 go_ret;exact⟨rfl,h9.out⟩
end
theorem DoP.on {c:Cm} {b:Nat} {L:LS} {T:Nat->Prop} {w w1 w':World} {e:Ending} (h:DoP c b L T w1 e w') (hF:FirmAt w b L T) (hb:Below w.heap.size w w1):DoP c b L T w e w':=by
 obtain⟨he,L',T',hv,hf⟩:=h;exact⟨he,L',T',hv,(Fut.of_below hF hb).trans hf⟩
section
variable {b:Nat} {L:LS} {T:Nat->Prop} {w:World}
theorem f_NowA (hF:FirmAt w b L T):Calls Tryz.prog 38 #[.pointer (some ⟨b,0,none⟩)] w fun e w'=>e=.returned (.int .i64 L.day)∧w=w':=by
 have c17:w.cell? ⟨b,17,none⟩=some (.int .i64 L.day):=hF.cel 17 _ rfl;clear hF;go_enter Tryz.func38,Tryz.ntmps38
 go_wp2;go_ret;exact⟨rfl,rfl⟩
end
def lstU:Su:=⟨[[⟨1,1,0,1,0,0⟩]],[[]],⟨1,1,1,1,0,1⟩,[],⟨1,1,1⟩,⟨0,1,0,0⟩,1⟩
theorem lst_ok:vSu lstU=true:=by decide +kernel
theorem lst_day:(doC .day (new lstU)).1=0∧(doC .day (new lstU)).2.day=1:=by decide +kernel
theorem f_awake10 (w:World) (hL:LdW w):Calls Tryz.prog 15 #[] w fun e w'=>e=.returned (.bool true)∧Below w.heap.size w w':=by
 have b0:=((Blk.new w 115 #[.int .i64 1,.int .i64 1,.int .i64 0,.int .i64 1,.int .i64 0,.int .i64 0]).alloc (.cells #[.slice (some ⟨w.heap.size,0,none⟩) 1 1] 64)).alloc (.cells #[.slice none 0 0] 65);have b1:=(Blk.new (w.alloc (.cells #[.int .i64 1,.int .i64 1,.int .i64 0,.int .i64 1,.int .i64 0,.int .i64 0] 115)) 64 #[.slice (some ⟨w.heap.size,0,none⟩) 1 1]).alloc (.cells #[.slice none 0 0] 65);have b2:=Blk.new ((w.alloc (.cells #[.int .i64 1,.int .i64 1,.int .i64 0,.int .i64 1,.int .i64 0,.int .i64 0] 115)).alloc (.cells #[.slice (some ⟨w.heap.size,0,none⟩) 1 1] 64)) 65 #[.slice none 0 0];have B0:Below w.heap.size w (((w.alloc (.cells #[.int .i64 1,.int .i64 1,.int .i64 0,.int .i64 1,.int .i64 0,.int .i64 0] 115)).alloc (.cells #[.slice (some ⟨w.heap.size,0,none⟩) 1 1] 64)).alloc (.cells #[.slice none 0 0] 65)):=bl;simp only[World.size_alloc] at b1 b2
 have HNW:=Lib.hid (show Calls Tryz.prog 7 #[.agg #[.slice (some ⟨w.heap.size+1,0,none⟩) 1 1,.slice (some ⟨w.heap.size+1+1,0,none⟩) 1 1,.int .i64 1,.int .i64 1,.int .i64 1,.int .i64 1,.int .i64 0,.int .i64 1,.slice none 0 0,.int .i64 1,.int .i64 1,.int .i64 1,.int .i64 0,.int .i64 1,.int .i64 0,.int .i64 0,.int .i64 1]]
   (((w.alloc (.cells #[.int .i64 1,.int .i64 1,.int .i64 0,.int .i64 1,.int .i64 0,.int .i64 0] 115)).alloc (.cells #[.slice (some ⟨w.heap.size,0,none⟩) 1 1] 64)).alloc (.cells #[.slice none 0 0] 65))
   fun e w'=>∃b,e=.returned (.tuple #[.pointer (some ⟨b,0,none⟩),.int .i64 0])∧Hid (Below w.heap.size w w'∧∃L T,FirmAt w' b L T∧Inv L.val∧L.val=new lstU∧∀g,Foot b L g->w.heap.size<=g) from by
  have hS:SuOk (fun _=>True) _ (⟨⟨some ⟨w.heap.size+1,0,none⟩,[⟨some ⟨w.heap.size,0,none⟩,[⟨1,1,0,1,0,0⟩],1⟩],1⟩,⟨some ⟨w.heap.size+1+1,0,none⟩,[⟨none,[],0⟩],1⟩,⟨1,1,1,1,0,1⟩,⟨none,[],0⟩,⟨1,1,1⟩,⟨0,1,0,0⟩,1⟩:LSu):=
   ⟨own_blk (fun _=>rfl) b1 (by simp[maxLen]),fun y hy=>by simp at hy;subst hy;exact own_blk (α:=S.Course) (enc:=S.Course.cs) (l:=[⟨1,1,0,1,0,0⟩]) (fun _=>rfl) b0 (by simp[maxLen]),
    own_blk (fun _=>rfl) b2 (by simp[maxLen]),fun y hy=>by simp at hy;subst hy;exact got_nil _ _ _ _,got_nil _ _ _ _⟩
  refine(f_NewT _ _ hS ⟨by simp,by simp,by simp,by simp,(show(-9223372036854775808:Int)<=1∧(1:Int)<=9223372036854775807 by decide),by simp,by simp⟩ lst_ok).mono ?_;rintro e w' ⟨b,L,T,rfl,n⟩;exact⟨b,rfl,Lib.hid ⟨below_tr B0 n.out.bel,L,T,n.out.at_,n.out.inv,n.out.val,fun g hg=>Nat.le_trans B0.size (n.out.ft g hg)⟩⟩)
 have HDY:=Lib.hid (fun b W (h:Below w.heap.size w W∧∃L T,FirmAt W b L T∧Inv L.val∧L.val=new lstU∧∀g,Foot b L g->w.heap.size<=g)=>(show Calls Tryz.prog 61 #[.pointer (some ⟨b,0,none⟩)] W fun e w'=>e=.returned (.int .i64 0)∧Hid (Below w.heap.size w w'∧∃L T,FirmAt w' b L T∧L.day=1) from by
  obtain⟨hb,L,T,hF,hI,hv,hft⟩:=h;refine(f_DayA hF hI (hL.on hb)).mono ?_;rintro e w' ⟨rfl,L',T',hv',hf⟩;rw[hv] at hv' ⊢;exact⟨by rw[lst_day.1],Lib.hid ⟨below_stp hb hf.stp (fun g hg e=>by have:=hft g e;omega) hb.size,L',T',hf.at_,by have:=lst_day.2;rw[←hv'] at this;exact this⟩⟩))
 have HNO:=Lib.hid (fun b W (h:Below w.heap.size w W∧∃L T,FirmAt W b L T∧L.day=1)=>(show Calls Tryz.prog 38 #[.pointer (some ⟨b,0,none⟩)] W fun e w'=>e=.returned (.int .i64 1)∧W=w' from by
  obtain⟨_,L,T,hF,hd⟩:=h;exact hd▸f_NowA hF))
 clear b0 b1 b2 B0 hL;go_enter Tryz.func15,Tryz.ntmps15
 go_wp2_with (first
  |(go_at_call 7;((with_reducible refine HNW.out.mono ?_);rintro e w2 ⟨b,rfl,n2⟩))
  |(go_at_call 61;((with_reducible refine(HDY.out _ _ n2.out).mono ?_);rintro e w3 ⟨rfl,n3⟩))
  |(go_at_call 38;((with_reducible refine(HNO.out _ _ n3.out).mono ?_);rintro e w' ⟨rfl,rfl⟩)))
 go_ret;exact⟨rfl,n3.out.1⟩
structure Hvy (x:LSu):Prop where
 w:SuW x
 v:vSu x.val=true
 s:x.stk.l.length<=8
theorem f_heavy10 {T:Nat->Prop} (x:LSu) (w:World) (hS:SuOk T w x) (hle:I64 x.cl.le) (hgw:∀i∈x.gear.l,G.IW i):
  Calls Tryz.prog 14 #[.agg x.cs.toArray] w fun e w'=>LgP (Hvy x) e∧Below w.heap.size w w':=by
 have x0:=Blk.new w 32 x.cs.toArray;have B0:=bl_alloc (below_refl w) (.cells x.cs.toArray 32);have c0:(w.alloc (.cells x.cs.toArray 32)).cell? ⟨w.heap.size,0,none⟩=some (.slice x.stk.a x.stk.l.length x.stk.c):=x0.cell 0;have c1:(w.alloc (.cells x.cs.toArray 32)).cell? ⟨w.heap.size,1,none⟩=some (.slice x.jnt.a x.jnt.l.length x.jnt.c):=x0.cell 1;have c8:(w.alloc (.cells x.cs.toArray 32)).cell? ⟨w.heap.size,8,none⟩=some (.slice x.gear.a x.gear.l.length x.gear.c):=x0.cell 8;have lb:=x0.lt;have hCs:=su_cs x;have hst:=hS.stk.rd.on B0;have hjn:=hS.jnt.rd.on B0;have HVS:=Lib.hid (fun W (h:Below w.heap.size w W) (hW:SuW x) v (hv:vSu x.val=v)=>(show Calls Tryz.prog 11 #[.agg x.cs.toArray] W fun e w'=>e=.returned (.bool v)∧Below W.heap.size W w' from hv▸r10_ValidSetup x W (hS.on h) hW));have HSW:=Lib.hid (fun(h1:x.stk.l.length<=8) (h2:∀y∈x.stk.l,y.l.length<=6) (h3:x.jnt.l.length<=8) (h4:∀y∈x.jnt.l,y.l.length<=10) (h5:x.gear.l.length<=64)=>(show SuW x from⟨by omega,fun y hy=>by have:=h2 y hy;omega,by omega,fun y hy=>by have:=h4 y hy;omega,hle,by omega,hgw⟩));have HHV:=Lib.hid (fun h1 h2 h3=>Hvy.mk (x:=x) h1 h2 h3);obtain⟨V0,hV0⟩:∃V0,vSu x.val=V0:=⟨_,rfl⟩;have HV0:=Lib.hid hV0;clear hV0 hS hle hgw;obtain⟨CA,hCA⟩:∃CA,CA=x.cs.toArray:=⟨_,rfl⟩;rw[←hCA] at B0 c0 c1 c8 lb hst hjn hCs x0 HVS ⊢;clear hCA;generalize Hvy x=SM at *;obtain⟨⟨sa,sl,sc⟩,⟨ja,jl,jc⟩,cl,⟨ga,gl,gc⟩,ru,rt,mn⟩:=x;dsimp only at *;go_enter Tryz.func14,Tryz.ntmps14
 go_upto_region 1 with fail
 generalize w.alloc (.cells CA 32)=w1 at *;rcases (by omega:(8:Int)<(sl.length:Int)∨(¬(8:Int)<(sl.length:Int)∧(8:Int)<(jl.length:Int))∨(¬(8:Int)<(sl.length:Int)∧¬(8:Int)<(jl.length:Int)∧(64:Int)<(gl.length:Int))∨(¬(8:Int)<(sl.length:Int)∧¬(8:Int)<(jl.length:Int)∧¬(64:Int)<(gl.length:Int))) with h1|⟨h1,h2⟩|⟨h1,h2,h3⟩|⟨h1,h2,h3⟩
 ·go_wp2;go_ret;exact⟨⟨true,rfl,fun h=>by cases h⟩,B0⟩
 ·go_wp2;go_ret;exact⟨⟨true,rfl,fun h=>by cases h⟩,B0⟩
 ·go_wp2;go_ret;exact⟨⟨true,rfl,fun h=>by cases h⟩,B0⟩
 go_wp2;go_loop [3] (fun i=>∃k:Nat,k<=sl.length∧i=.int .i64 k∧Hid (∀y∈sl.take k,y.l.length<=6)) (fun i=>sl.length-(RowKit.intOf i).toNat)
 case atStart=>exact⟨0,by omega,rfl,Lib.hid (by simp)⟩
 case round=>
  obtain⟨k,hk,rfl,HK⟩:=hrel;have k0:=nn k;by_cases hlt:k<sl.length
  ·have k1:(k:Int)<(sl.length:Int):=by omega
   obtain⟨y,hy⟩:=get_lt hlt;obtain⟨b,off,rfl,hb,hc⟩:=hst.get hy;have d0:w1.cell? ⟨b,off+k,none⟩=some (.slice y.a y.l.length y.c):=by have:=hc 0 _ rfl;simpa using this
   have HK2:=Lib.hid (fun(h:y.l.length<=6)=>(show ∀z∈sl.take (k+1),z.l.length<=6 from fun z hz=>by
    rw[List.take_add_one,hy] at hz;rcases List.mem_append.1 hz with hz|hz
    ·exact HK.out z hz
    ·simp at hz;rw[hz];exact h))
   clear hc hy HK;by_cases g1:(6:Int)<(y.l.length:Int)
   ·go_wp2;go_ret;exact⟨⟨true,rfl,fun h=>by cases h⟩,B0⟩
   ·have HK3:=Lib.hid (HK2.out (by omega));go_wp2;go_round
    case rel=>exact⟨k+1,by omega,by go_num,HK3⟩
    case measure=>simp[RowKit.intOf];omega
  ·obtain rfl:k=sl.length:=by omega
   have HS:=Lib.hid (show ∀y∈sl,y.l.length<=6 by have:=HK.out;rwa [List.take_length] at this);clear HK;go_wp2;go_loop [4] (fun i=>∃k:Nat,k<=jl.length∧i=.int .i64 k∧Hid (∀y∈jl.take k,y.l.length<=10)) (fun i=>jl.length-(RowKit.intOf i).toNat)
   case atStart=>exact⟨0,by omega,rfl,Lib.hid (by simp)⟩
   case round=>
    obtain⟨k,hk,rfl,HK⟩:=hrel;have k0:=nn k;by_cases hlt:k<jl.length
    ·have k1:(k:Int)<(jl.length:Int):=by omega
     obtain⟨y,hy⟩:=get_lt hlt;obtain⟨b,off,rfl,hb,hc⟩:=hjn.get hy;have d0:w1.cell? ⟨b,off+k,none⟩=some (.slice y.a y.l.length y.c):=by have:=hc 0 _ rfl;simpa using this
     have HK2:=Lib.hid (fun(h:y.l.length<=10)=>(show ∀z∈jl.take (k+1),z.l.length<=10 from fun z hz=>by
      rw[List.take_add_one,hy] at hz;rcases List.mem_append.1 hz with hz|hz
      ·exact HK.out z hz
      ·simp at hz;rw[hz];exact h))
     clear hc hy HK;by_cases g1:(10:Int)<(y.l.length:Int)
     ·go_wp2;go_ret;exact⟨⟨true,rfl,fun h=>by cases h⟩,B0⟩
     ·have HK3:=Lib.hid (HK2.out (by omega));go_wp2;go_round
      case rel=>exact⟨k+1,by omega,by go_num,HK3⟩
      case measure=>simp[RowKit.intOf];omega
    ·obtain rfl:k=jl.length:=by omega
     have HJ:=Lib.hid (show ∀y∈jl,y.l.length<=10 by have:=HK.out;rwa [List.take_length] at this);have HW:=Lib.hid (HSW.out (by omega) HS.out (by omega) HJ.out (by omega));have HV:=Lib.hid (HVS.out w1 B0 HW.out V0 HV0.out);have HL:=Lib.hid (show sl.length<=8 by omega);clear HK HS HJ HSW HVS hst hjn;cases V0
     all_goals
      go_wp2_with (first|(refine wpList_load_row rfl 32 _ rfl w.heap.size rfl 32 CA (0,0) _ x0 Tryz.underlying32 rfl hCs ?_)|(go_at_call 11;go_loud ((with_reducible refine HV.out.mono ?_);rintro e w3 ⟨rfl,hb3⟩)))
      go_ret;first|exact⟨⟨true,rfl,fun h=>by cases h⟩,below_tr B0 hb3⟩|exact⟨⟨false,rfl,fun _=>HHV.out HW.out HV0.out HL.out⟩,below_tr B0 hb3⟩
def okU (s:List UInt8):Bool:=match parseUintB 64 s with|.ok _=>true|_=>false
def valU (s:List UInt8):Nat:=match parseUintB 64 s with|.ok u=>u|.range=>18446744073709551615|.syntax=>0
def lnE (W:List (List UInt8)):En:=⟨valA (W.getD 0 []),valA (W.getD 1 []),bts (W.getD 3 []),valU (W.getD 2 [])⟩
def lnB (W:List (List UInt8)):Bool:=Tx.okA (W.getD 0 [])&&(Tx.okA (W.getD 1 [])&&(okU (W.getD 2 [])&&((decide (itoa (valA (W.getD 0 []))=W.getD 0 [])&&(decide (itoa (valA (W.getD 1 []))=W.getD 1 [])&&decide (decDigits (valU (W.getD 2 []))=W.getD 2 [])))&&wn (valA (W.getD 1 [])) 0 100000)))
def lnW (s:List UInt8):List (List UInt8):=Lib.splitK [32] 0 (min 4 (s.length+1)-1) s
def lnO (s:List UInt8):Option En:=let W:=lnW s;if W.length<4∨W.getD 3 []=[] then none else if lnB W=true then some (lnE W) else none
theorem valU_lt (s:List UInt8):valU s<18446744073709551616:=by
 unfold valU;cases h:parseUintB 64 s with
 |ok u=>have:=parseUintB_le h;dsimp only;omega
 |range=>dsimp only;omega
 | _=>dsimp only;omega
theorem splitK_sz:∀(k:Nat) (l p:List UInt8),p∈Lib.splitK [32] 0 k l->p.length<=l.length
 |0,l,p,h=>by
  have h:p∈[l]:=h;rw[List.mem_singleton.1 h];omega
 |k+1,l,p,h=>by
  have h:p∈(if (Lib.index l [32] == -1)=true then [l] else l.take ((Lib.index l [32]).toNat+0)::Lib.splitK [32] 0 k (l.drop ((Lib.index l [32]).toNat+1))):=h;split at h
  ·rw[List.mem_singleton.1 h];omega
  ·rcases List.mem_cons.1 h with h|h
   ·rw[h,List.length_take];omega
   ·have:=splitK_sz k _ p h;rw[List.length_drop] at this;omega
theorem splitK_n:∀(k:Nat) (l:List UInt8),(Lib.splitK [32] 0 k l).length<=k+1
 |0,l=>by show [l].length<=_;simp
 |k+1,l=>by
  show(if (Lib.index l [32] == -1)=true then [l] else l.take ((Lib.index l [32]).toNat+0)::Lib.splitK [32] 0 k (l.drop ((Lib.index l [32]).toNat+1))).length<=_;split
  ·simp
  ·have:=splitK_n k (l.drop ((Lib.index l [32]).toNat+1));rw[List.length_cons];omega
def lnX (s:List UInt8):En:=if (lnW s).length<4∨(lnW s).getD 3 []=[] then ⟨0,0,⟨#[]⟩,0⟩ else lnE (lnW s)
def lnQ (s:List UInt8):Bool:=if (lnW s).length<4∨(lnW s).getD 3 []=[] then false else lnB (lnW s)
theorem lnO_eq (s:List UInt8):lnO s=if lnQ s=true then some (lnX s) else none:=by
 unfold lnO lnQ lnX;dsimp only;by_cases h:(lnW s).length<4∨(lnW s).getD 3 []=[]
 ·rw[if_pos h,if_pos h,if_neg (by decide)]
 ·rw[if_neg h,if_neg h,if_neg h]
theorem lnW_four (s:List UInt8) (h:¬(lnW s).length<4):∃p0 p1 p2 p3,lnW s=[p0,p1,p2,p3]∧(p0.length<=s.length∧p1.length<=s.length∧p2.length<=s.length∧p3.length<=s.length):=by
 have hn:(lnW s).length<=4:=by
  have:=splitK_n (min 4 (s.length+1)-1) s;unfold lnW;omega
 have hz:∀p∈lnW s,p.length<=s.length:=fun p hp=>splitK_sz _ _ p hp;generalize lnW s=W at *;match W,hn,h with
 |[p0,p1,p2,p3],_,_=>exact⟨p0,p1,p2,p3,rfl,hz _ (by simp),hz _ (by simp),hz _ (by simp),hz _ (by simp)⟩
 |[],_,h=>exact absurd (show([]:List (List UInt8)).length<4 by simp) h
 |[_],_,h=>exact absurd (by simp) h
 |[_,_],_,h=>exact absurd (by simp) h
 |[_,_,_],_,h=>exact absurd (by simp) h
theorem lnX_bd (s:List UInt8):I64 (lnX s).n∧I64 (lnX s).d∧(lnX s).s<18446744073709551616∧(lnX s).t.size<=s.length:=by
 unfold lnX;split
 ·exact⟨by decide,by decide,by decide,Nat.zero_le _⟩
 ·rename_i h
  obtain⟨p0,p1,p2,p3,e,_,_,_,h3⟩:=lnW_four s (fun k=>h (.inl k));rw[e];unfold lnE;simp only[List.getD_cons_zero,List.getD_cons_succ];exact⟨valA_bd _,valA_bd _,valU_lt _,by rw[bts_size];exact h3⟩
structure ByR (w:World) (N:Nat) (A:Option Addr) (l:List UInt8) (c:Nat):Prop where
 rd:0<l.length->∃b o,A=some ⟨b,o,none⟩∧b<N∧∀i,i<l.length->w.cell? ⟨b,o+i,none⟩=some (.int .u8 ((l.getD i 0).toNat:Int))
 na:A=none->c=0
 lc:l.length<=c
theorem ByR.below {w w':World} {N:Nat} {A:Option Addr} {l:List UInt8} {c:Nat} (h:ByR w N A l c) (hb:Below N w w'):ByR w' N A l c:=by
 refine⟨fun h0=>?_,h.na,h.lc⟩;obtain⟨b,o,e,hbN,hc⟩:=h.rd h0;exact⟨b,o,e,hbN,fun i hi=>(hb.cell (p:=⟨b,o+i,none⟩) hbN).trans (hc i hi)⟩
theorem getD_int (l:List UInt8) (i:Nat):(l.map fun b=>(b.toNat:Int)).getD i 0=((l.getD i 0).toNat:Int):=by
 rw[List.getD_eq_getElem?_getD,List.getD_eq_getElem?_getD,List.getElem?_map];cases l[i]?<;>rfl
theorem bytesOf_ints (l:List UInt8):Lib.bytesOf (l.map fun b=>(b.toNat:Int))=l:=by
 unfold Lib.bytesOf;rw[List.map_map];conv=>rhs;rw[←List.map_id l]
 refine List.map_congr_left fun b _=>?_;show UInt8.ofNat (Int.toNat (b.toNat:Int))=b;rw[Int.toNat_natCast];exact UInt8.ofNat_toNat
theorem ints_byte {l:List UInt8}:∀x∈l.map (fun b=>(b.toNat:Int)),0<=x∧x<256:=fun x hx=>by
 obtain⟨b,_,rfl⟩:=List.mem_map.1 hx;have:=b.toNat_lt;omega
theorem ByR.cutF {w:World} {N:Nat} {A:Option Addr} {p q:List UInt8} {c:Nat} (h:ByR w N A (p++10::q) c):ByR w N A p c∧ByR w N (if c=p.length+1 then A else A.map fun x=>x.add (p.length+1)) q (c-(p.length+1))∧∃a,A=some a:=by
 have hn:(p++10::q).length=p.length+1+q.length:=by simp;omega
 obtain⟨b,o,e,hbN,hc⟩:=h.rd (by omega);have hlc:=h.lc;subst e;refine⟨⟨fun _=>⟨b,o,rfl,hbN,fun i hi=>?_⟩,(fun e=>by cases e),by omega⟩,⟨fun hq=>?_,fun e=>?_,by omega⟩,_,rfl⟩
 ·rw[hc i (by omega),List.getD_eq_getElem?_getD,List.getElem?_append_left hi,←List.getD_eq_getElem?_getD]
 ·rw[if_neg (by omega)];refine⟨b,o+(p.length+1),by simp[Addr.add],hbN,fun i hi=>?_⟩;rw[Nat.add_assoc,hc (p.length+1+i) (by omega),List.getD_eq_getElem?_getD,List.getElem?_append_right (by omega),show p.length+1+i-p.length=i+1 by omega,List.getElem?_cons_succ,←List.getD_eq_getElem?_getD]
 ·split at e<;>cases e
theorem c_CutB {N:Nat} {A:Option Addr} {l:List UInt8} {c g:Nat} {w:World} (hl:l.length<=300000000) (hb:ByR w N A l c) (hg:Blk w g 5 #[.int .u8 10]) (hL:LdW w):
  Calls Tryz.prog 127 #[.slice A l.length c,.slice (some ⟨g,0,none⟩) 1 1] w fun e w'=>∃A2 c2,e=.returned (.tuple #[.slice A (Lib.cut l [10]).1.length c,.slice A2 (Lib.cut l [10]).2.1.length c2,.bool (Lib.cut l [10]).2.2]) ∧
   ByR w N A (Lib.cut l [10]).1 c∧ByR w N A2 (Lib.cut l [10]).2.1 c2∧((Lib.cut l [10]).2.2=true->∃a,A=some a)∧Below w.heap.size w w':=by
 obtain⟨m,hm⟩:=hL.mx;have g0:=hg.cell 0;simp only[List.getElem?_toArray,List.getElem?_cons_zero] at g0;refine(Tryz.bytes_Cut_all A (some ⟨g,0,none⟩) l.length c 1 1 (l.map fun b=>(b.toNat:Int)) [10] m w (List.length_map ..) rfl ints_byte (by simp) ?_ ?_ hb.na hb.lc (by omega) (by decide) hm).mono ?_
 ·intro h0;obtain⟨b,o,e,_,hc⟩:=hb.rd h0;exact⟨b,o,e,fun i hi=>by rw[getD_int];exact hc i hi⟩
 ·intro _;refine⟨g,0,rfl,fun i hi=>?_⟩;obtain rfl:i=0:=by omega
  exact g0
 ·rintro e w' ⟨rfl,q,rfl⟩;rw[bytesOf_ints,show Lib.bytesOf [10]=[10] from rfl];rcases first_or 10 l with h|⟨p,r,rfl,h⟩
  ·rw[cutL_no h,index_no h];exact⟨none,0,rfl,hb,⟨fun h=>absurd h (by simp),fun _=>rfl,Nat.le_refl _⟩,(fun h=>by cases h),below_drewN (below_refl _) _⟩
  ·rw[cutL_at r h,index_at r h];obtain⟨h1,h2,h3⟩:=hb.cutF;refine⟨_,_,?_,h1,h2,fun _=>h3,below_drewN (below_refl _) _⟩;unfold Lib.cutV;rw[if_pos (by omega),Int.toNat_natCast];unfold Lib.fromV;rw[show(p++10::r).length-(p.length+1)=r.length by simp;omega]
theorem conv_by {N:Nat} {ad:Addr} {p:List UInt8} {c:Nat} {w:World} (h:ByR w N (some ad) p c):(convert 54 9 (.slice (some ad) p.length c)).run Tryz.prog w=.ok (.string (bts p)) w:=
 run_convert_bytes_back (P:=Tryz.prog) w 54 9 5 ad c p Tryz.underlying54 Tryz.underlying5 Tryz.underlying9 (fun j hj=>by
  obtain⟨b,o,e,_,hc⟩:=h.rd (by omega);cases e;rw[Go.WideShapes.add_plain,hc j hj,List.getD_eq_getElem?_getD,List.getElem?_eq_getElem hj];rfl)
theorem conv_nil (w:World):(convert 54 9 (.slice none 0 0)).run Tryz.prog w=.ok (.string (bts [])) w:=by
 rw[run_convert_bytes_string w 54 9 5 none 0 0 Tryz.underlying54 Tryz.underlying5 Tryz.underlying9];rfl
theorem by_own {w:World} {base:Nat} {v:Value} {l:List UInt8} (h:w.ownsRow base 5 1 v l.length (Lib.byteCells l)):∃A c,v=.slice A l.length c∧ByR w w.heap.size A l c:=by
 rcases h.2 with⟨h1,h0⟩|⟨g,cap,cur,h1,hB,hh,h2,h3,h4,h5⟩
 ·subst h1;have hl:l=[]:=List.length_eq_zero_iff.1 h0;subst hl;exact⟨none,0,rfl,fun h=>absurd h (by simp),fun _=>rfl,Nat.le_refl _⟩
 ·subst h1;have hc:=h.cells (g:=g) rfl;refine⟨_,_,rfl,fun h0=>⟨g,0,rfl,lt_of_block hh,fun i hi=>?_⟩,fun e=>(by cases e),h2⟩;have:=hc i (.int .u8 ((l.getD i 0).toNat:Int)) (by
   unfold Lib.byteCells;rw[List.getElem?_map,List.getD_eq_getElem?_getD,List.getElem?_eq_getElem hi];rfl)
  rwa [Go.WideShapes.add_plain] at this
theorem conv_own {w:World} {base:Nat} {v:Value} {l:List UInt8} (h:w.ownsRow base 5 1 v l.length (Lib.byteCells l)):(convert 54 9 v).run Tryz.prog w=.ok (.string (bts l)) w:=by
 obtain⟨A,c,rfl,hb⟩:=by_own h;cases A with
 |none=>
  obtain rfl:=hb.na rfl;have hl:l=[]:=List.length_eq_zero_iff.1 (Nat.le_zero.1 hb.lc);subst hl;exact conv_nil w
 |some ad=>exact conv_by hb
end Go.Proofs.YtjkkfcghkeoedaaGreatDoor.Fi
