/- The parts of the proof, part 32. -/
import Derived.Test.YtjkkfcghkeoedaaGreatDoorR0
import Derived.Test.YtjkkfcghkeoedaaGreatDoorR29
import Derived.Test.YtjkkfcghkeoedaaGreatDoorR31
set_option maxHeartbeats 16000000
set_option maxRecDepth 20000
set_option linter.unusedSimpArgs false
set_option linter.unusedVariables false
namespace Go.Proofs.YtjkkfcghkeoedaaGreatDoor.Fi
open Go.RowKit Go.Lib Go.Maps Tx
theorem toZ_len (l:List Nat):(toZ l).length=l.length:=by simp[toZ]
theorem lstF_nil:lstF []=-1:=rfl
theorem lstF_last {l:List Nat} {k:Nat} (h:l.length=k+1):zA (toZ l) k=lstF l:=by
 have hk:l.getLast?=l[k]?:=by rw[List.getLast?_eq_getElem?,h];rfl
 obtain⟨z,hz⟩:=get_lt (show k<l.length by omega);unfold lstF zA;rw[hk,hz,List.getD_eq_getElem?_getD];simp[toZ,hz]
theorem lstF_ge (l:List Nat):-1<=lstF l:=by unfold lstF;split<;>omega
theorem more_step (x:LWl) (num l bn by_ bw bm mb bo:Nat) (W0:World) (hM:MoreAt W0 x num l bn by_ bw bm mb bo) (Fin:World->Prop) (hnl:num<=300) (m:Nat) (begun:List Nat) (A:Option Addr) (c:Nat) (W:World)
  (hb:Below W0.heap.size W0 W) (ho:W.ownsRow W0.heap.size 3 1 (.slice A begun.length c) begun.length (fl zC (toZ begun))) (hn:m+1+begun.length=num) (hlt:lstF begun<(x.w.d.length:Int))
  (f:Nat) (f2:lstF begun<(f:Int)) (f1:f<=x.w.d.length) (f5:∀y,y<f->nxtP x.w (lstF begun) ((m+1:Nat):Int) y=false)
  (f4:f<x.w.d.length->rsA x.w f=((m+1:Nat):Int)∧aftB x.w (lstF begun) f=true∧∀A c W,Below W0.heap.size W0 W->W.ownsRow W0.heap.size 3 1 (.slice A (begun.length+1) c) (begun.length+1) (fl zC (toZ begun)++[.int .i64 (f:Nat)]) ->
   Calls Tryz.prog 226 #[.slice A (begun.length+1) c,.pointer (some ⟨bn,0,none⟩),.pointer (some ⟨by_,0,none⟩),.pointer (some ⟨bw,0,none⟩),.pointer (some ⟨bm,0,none⟩),.pointer (some ⟨bo,0,none⟩)] W fun e W'=>e=.returned (.bool false)∧Fin W'):
  Calls Tryz.prog 226 (#[.slice A begun.length c]++capM bn by_ bw bm bo) W fun e W'=>(f<x.w.d.length∧e=.returned (.bool false)∧Fin W')∨(f=x.w.d.length∧e=.returned (.bool true)∧Below W.heap.size W W'):=by
 have HF5:=hid f5;have HF4:=hid f4;have HHO:=hid ho;have HMM:=hid (fun W' (h:Below W.heap.size W W')=>(hM.on hb).on h);have hm0:=hM.on hb;have cn:=hm0.hn.cell 0;have lbn:=hM.hn.lt;have lby:=hM.hy.lt;have lbw:=hM.hw.lt;have lbm:=hM.hm.lt;have lbo:=hM.ho.lt;simp only[GA] at cn;have hzb:=hb.size;have hHB:=hid hb;have hRb:=own_rd' (enc:=zC) (fun _=>rfl) (by rw[toZ_len];exact ho:W.ownsRow W0.heap.size 3 1 (.slice A (toZ begun).length c) (toZ begun).length (fl zC (toZ begun)));have HLST:=hid (fun k h=>lstF_last (l:=begun) (k:=k) h);have HLN:=hid (show begun.length=0->lstF begun=-1 from fun h=>by rw[List.eq_nil_of_length_eq_zero h];rfl);have hdl:=hM.wl.dl;have HW0:=hid hM.wl;obtain⟨nq,hmq⟩:=hM.mp;obtain⟨i0,hi,hi1,hi2,hi3⟩:=info_intF;have hLge:=lstF_ge begun;clear f5 f4 ho hm0 hb hM;generalize hL:lstF begun=L at *;have HRB:=hid hRb;have HNB:=hid (toZ_len begun);generalize hnb:begun.length=nb at *;have g1:((nb:Int)==(num:Int))=false:=beq_eq_false_iff_ne.2 (by omega);have g2:¬(nb:Int)=(num:Int):=by omega
 have g3:(nb==num)=false:=beq_eq_false_iff_ne.2 (by omega);have n0:=nn nb;go_enter Tryz.func226,Tryz.ntmps226
 go_upto_if 22 with fail
 go_cut [8] (fun v wx=>v=.int .i64 L∧wx=W)
 case first=>
  by_cases hz:nb=0
  ·have q1:¬(0:Int)<(nb:Int):=by omega
   have HL:=hid (HLN.out hz);clear hz hnb;go_wp2;go_meet
   exact⟨by rw[HL.out],rfl⟩
  ·obtain⟨k,hk⟩:∃k,nb=k+1:=⟨nb-1,by omega⟩;have q1:(0:Int)<(nb:Int):=by omega
   have q2:0<nb:=by omega
   have HL:=hid (HLST.out k hk);obtain⟨ab,ao,rfl,hab,d0⟩:=rdZ HRB.out (k:=k) (by rw[HNB.out];omega);rw[HL.out] at d0;have hw1:IntKind.i64.wrap ((nb:Int)-1)=(k:Int):=by rw[fits_wrap ⟨by omega,by omega⟩];omega
   have k0:=nn k;have k1:(k:Int)<(nb:Int):=by omega
   clear hz hk hnb HL;go_wp2;go_meet
   exact⟨rfl,rfl⟩
 case rest=>
  obtain⟨rfl,rfl⟩:=hcut;have hwL:IntKind.i64.wrap (L+1)=L+1:=fits_wrap ⟨by omega,by omega⟩;have hwM:IntKind.i64.wrap ((num:Int)-(nb:Int))=((m:Int)+1):=by rw[fits_wrap ⟨by omega,by omega⟩];omega
  go_wp2;go_loopw [10] (fun i wr=>∃k:Nat,L<(k:Int)∧k<=f∧i=.int .i64 k∧Below wc.heap.size wc wr) (fun i _=>f+1-(RowKit.intOf i).toNat)
  case atStart=>exact⟨(L+1).toNat,by omega,by omega,by congr 1;omega,below_refl _⟩
  case round=>
   obtain⟨k,hLk,hk,rfl,hbr⟩:=hrel;rename World=>wr
   have hmr:=HMM.out wr hbr;have cn:=hmr.hn.cell 0;have cm:=hmr.hm.cell 0;have co:=hmr.ho.cell 0;have b0:=hmr.hw.cell 0;have b1:=hmr.hw.cell 1;have b2:=hmr.hw.cell 2;have b3:=hmr.hw.cell 3;have b4:=hmr.hw.cell 4;have b5:=hmr.hw.cell 5;have b6:=hmr.hw.cell 6;have b7:=hmr.hw.cell 7;simp only[GA] at cn cm co b0 b1 b2 b3 b4 b5 b6 b7;have rbn:=hmr.hn.lt;have rbm:=hmr.hm.lt;have rbw:=hmr.hw.lt;have rbo:=hmr.ho.lt;have k0:=nn k;have hzr:=hbr.size;have HLK:∀W',Below wr.heap.size wr W'->(Instr.lookup 305 (.map (some mb)) (.int .i64 (k:Nat)) false).run Tryz.prog W'=.ok (.int .i64 (rsA x.w k)) W':=fun W' h=>by
    obtain⟨n,hn⟩:=hmr.mp;exact mp_look (mp_on hn h) k (by omega)
   by_cases hkf:k<f
   ·have k1:(k:Int)<(x.w.d.length:Int):=by omega
    have hno:=HF5.out k hkf;unfold nxtP at hno;rw[decide_eq_true hLk,Bool.true_and] at hno;by_cases hr:rsA x.w k=((m+1:Nat):Int)
    ·rw[decide_eq_true hr,Bool.true_and] at hno;have HAF:=hid (fun W' (h:Below wr.heap.size wr W')=>w_afterV (x:=x) hno (hmr.wl.on h) (show k<x.w.d.length by omega) hlt);rw[hr] at HLK;clear hno hr;have hr1:(((m+1:Nat):Int)==((m:Int)+1))=true:=by simp
     go_upto_region 10 with fail
     refine wp_region_noPanic ?_;refine th wr fun hS0=>?_;refine tq 0 ?_;refine tq 1 ?_;refine tq 2 ?_;refine tq 3 ?_;refine tq 4 ?_;refine tq 5 ?_;refine tq 6 ?_;refine tq 7 ?_;refine tq 8 ?_;refine tq 9 ?_;refine tq 10 ?_;refine tq 11 ?_;refine tr 12 fun K hK=>?_;go_simp
     (go_at_call 227;((with_reducible refine(HAF.out _ bl).mono ?_);rintro e w3 ⟨rfl,hb3⟩;obtain⟨hc3,hf3,hz3⟩:=qz hb3))
     refine hK.out _ _ kq (fun hS1=>?_);clear hK K;try simp only[AP]
     refine tq 13 ?_;refine tq 14 ?_;refine tv 15 ?_;refine tv 16 ?_;refine tv 17 ?_;refine tv 18 ?_;refine tv 19 ?_;refine tv 20 ?_;refine tv 21 ?_;refine tq 22 ?_;refine wpAnyH_done (by kernel_rfl) (NoPanic.normal ?_) _;go_wp2;go_roundw
     case rel=>exact⟨k+1,by omega,by omega,by go_num,below_tr hbr bl⟩
     case measure=>simp[RowKit.intOf];omega
    ·have hr1:(rsA x.w k==((m:Int)+1))=false:=beq_eq_false_iff_ne.2 (by omega);have hr2:¬rsA x.w k=((m:Int)+1):=by omega
     clear hno hr;generalize rsA x.w k=R at *;go_upto_region 10 with fail
     refine wp_region_noPanic ?_;refine th wr fun hS0=>?_;refine tq 0 ?_;refine tq 1 ?_;refine tq 2 ?_;refine tq 3 ?_;refine tq 4 ?_;refine tq 5 ?_;refine tq 6 ?_;refine tq 7 ?_;refine tq 8 ?_;refine tv 9 ?_;refine tv 10 ?_;refine tv 11 ?_;refine tv 12 ?_;refine tq 13 ?_;refine tq 14 ?_;refine tv 15 ?_;refine tv 16 ?_;refine tv 17 ?_;refine tv 18 ?_;refine tv 19 ?_;refine tv 20 ?_;refine tv 21 ?_;refine tq 22 ?_;refine wpAnyH_done (by kernel_rfl) (NoPanic.normal ?_) _;go_wp2;go_roundw
     case rel=>exact⟨k+1,by omega,by omega,by go_num,below_tr hbr bl⟩
     case measure=>simp[RowKit.intOf];omega
   ·skip
    have hkf2:f=k:=by omega
    subst hkf2;by_cases hfl:f<x.w.d.length
    rotate_left
    ·have k1:¬(f:Int)<(x.w.d.length:Int):=by omega
     have HEQ:=hid (show f=x.w.d.length by omega);clear HMM hmr HLK;go_wp2;go_ret;first|exact .inr ⟨HEQ.out,rfl,hbr⟩|exact⟨HEQ.out,rfl,hbr⟩
    have k1:(f:Int)<(x.w.d.length:Int):=by omega
    obtain⟨f3,f4,fih⟩:=HF4.out hfl;have HIH:=hid fih;have HF4':=hid f4;have HF3:=hid f3;clear f3 f4 fih HF4;have hB0r:Below W0.heap.size W0 wr:=hHB.out.trans (hbr.mono hzb);have hOW:=own_on HHO.out hbr;have hrow:∀r,(Value.slice A nb c).ownBlock=some r->W0.heap.size<=r:=fun r h=>(own_ge HHO.out r h).1;have hBW:W0.heap.size<=wr.heap.size:=by omega
    have hzd:Below W0.heap.size wr wr.drew:=⟨rfl,rfl,rfl,Nat.le_refl _,fun _ _=>rfl⟩;have HAZ:=hid (fun W' (h:Below W0.heap.size wr W')=>w_afterV (x:=x) HF4'.out (HW0.out.on (hB0r.trans h)) hfl hlt);replace HLK:∀W',Below W0.heap.size wr W'->(Instr.lookup 305 (.map (some mb)) (.int .i64 (f:Nat)) false).run Tryz.prog W'=.ok (.int .i64 ((m:Int)+1)) W':=fun W' h=>by
     have:=mp_look (mp_on hmq (hB0r.trans h)) f (by omega);rw[HF3.out] at this;exact this
    clear HMM hmr;go_upto_region 10 with fail
    refine wp_region_noPanic ?_;refine wp_region_lasts [20,21,22] (fun w'=>(∀b o,b<W0.heap.size->w'.cell? ⟨b,o,none⟩=wr.cell? ⟨b,o,none⟩)∧(∀b o,b<W0.heap.size->w'.frozen? ⟨b,o,none⟩=wr.frozen? ⟨b,o,none⟩)∧Below (W0.heap.size) wr w') (by kernel_rfl) (kz_draw (kz_refl _ _)) (fun hS0=>?_);refine wpAnyM_tk 0 37 ?gv28 rfl ?_;try simp only[AP]
    refine wpAnyM_tk 1 38 ?gv29 rfl ?_;try simp only[AP]
    refine wpAnyM_tk 2 39 ?gv30 rfl ?_;try simp only[AP]
    refine wpAnyM_tk 3 40 ?gv31 rfl ?_;try simp only[AP]
    refine wpAnyM_tk 4 41 ?gv32 rfl ?_;try simp only[AP]
    refine wpAnyM_tk 5 42 ?gv33 rfl ?_;try simp only[AP]
    refine wpAnyM_tk 6 43 ?gv34 rfl ?_;try simp only[AP]
    refine wpAnyM_tk 7 44 ?gv35 rfl ?_;try simp only[AP]
    refine wpAnyM_tk 8 45 ?gv36 rfl ?_;try simp only[AP]
    refine wpAnyM_tk 9 46 ?gv37 rfl ?_;try simp only[AP]
    refine wpAnyM_tk 10 47 ?gv38 rfl ?_;try simp only[AP]
    refine wpAnyM_tk 11 48 ?gv39 rfl ?_;try simp only[AP]
    refine wpAnyM_ready (rs:=[12]) (by kernel_rfl) (by simp) ?_;refine AllReadyM.cons rfl (fun K hK=>?_) AllReadyM.nil;go_simp
    (go_at_call 227;((with_reducible refine(HAZ.out _ hzd).mono ?_);rintro e w3 ⟨rfl,hb3⟩;have ow3:=own_on hOW (below_tr (below_draw (below_refl wr)) hb3)))
    refine hK.out _ _ (by((show Kz (W0.heap.size) wr _);(repeat'(first|assumption|exact kz_refl _ _|refine kz_draw ?_|refine kz_drewN ?_|refine kz_alloc ?_ (by assumption)|refine kz_step ?_ (by assumption) (by assumption)|refine kz_grown ?_ (by assumption) ?_ (by assumption)));(all_goals(first|assumption|omega|(simp;omega))))) (fun hS1=>?_);clear hK K;try simp only[AP]
    refine wpAnyM_tk 13 50 ?gv40 rfl ?_;try simp only[AP]
    refine wpAnyM_tk 14 51 ?gv41 rfl ?_;try simp only[AP]
    refine wpAnyM_tk 15 52 ?gv42 rfl ?_;try simp only[AP]
    refine wpAnyM_tk 16 53 ?gv43 rfl ?_;try simp only[AP]
    refine wpAnyM_tk 17 54 ?gv44 rfl ?_;try simp only[AP]
    refine wpAnyM_ready (rs:=[18]) (by kernel_rfl) (by simp) ?_;refine AllReadyM.cons rfl (fun K hK=>?_) AllReadyM.nil;go_simp
    refine hK.out _ _ (by((show Kz (W0.heap.size) wr _);(repeat'(first|assumption|exact kz_refl _ _|refine kz_draw ?_|refine kz_drewN ?_|refine kz_alloc ?_ (by assumption)|refine kz_step ?_ (by assumption) (by assumption)|refine kz_grown ?_ (by assumption) ?_ (by assumption)));(all_goals(first|assumption|omega|(simp;omega))))) (fun hS2=>?_);clear hK K;try simp only[AP]
    refine wpAnyM_ready (rs:=[19]) (by kernel_rfl) (by simp) ?_;refine AllReadyM.cons rfl (fun K hK=>?_) AllReadyM.nil;(refine step_append_at3 (by rfl) _ _ _ (by rfl) W0.heap.size 3 i0 (.int .i64 0) 1 8 Tryz.underlying40 hi hi1 hi2 hi3 rfl (by omega) _ _ _ (by rfl) (ow3.alloc _) ⟨w3.heap.size,0,none⟩ 1 1 [.int .i64 (f:Nat)] (by rfl) rfl (cells_new w3 [.int .i64 (f:Nat)] 3) (fun u hu=>by simp at hu;subst hu;rfl) (by unfold maxLen;omega) (by omega) (by have:=hb3.size;simp at this;simp;omega) ?_;intro v5 w5 hown5 hgrow5 hvb5;obtain⟨A5,c5,rfl⟩:=own_slice hown5)
    refine hK.out _ _ (by((show Kz (W0.heap.size) wr _);(repeat'(first|assumption|exact kz_refl _ _|refine kz_draw ?_|refine kz_drewN ?_|refine kz_alloc ?_ (by assumption)|refine kz_step ?_ (by assumption) (by assumption)|refine kz_grown ?_ (by assumption) ?_ (by assumption)));(all_goals(first|assumption|omega|(simp;omega))))) (fun hS3=>?_);clear hK K;try simp only[AP]
    refine wpAnyM_last (k:=20) (by decide) (by kernel_rfl) rfl (fun K hK=>?_);go_simp
    (refine(HIH.out A5 c5 w5 (hB0r.trans hS3.2.2) hown5).mono ?_;rintro e w6 ⟨rfl,hfin⟩)
    refine hK.out _ _ ?_;clear hK K;try simp only[AP]
    refine wpAnyM_last (k:=21) (by decide) (by kernel_rfl) rfl (fun K hK=>?_);go_simp
    refine hK.out _ _ ?_;clear hK K;try simp only[AP]
    refine wpAnyM_last (k:=22) (by decide) (by kernel_rfl) rfl (fun K hK=>?_);go_simp
    refine hK.out _ _ ?_;clear hK K;try simp only[AP]
    refine wpAnyM_done (by kernel_rfl) (NoPanic.normal ?_) _;go_wp2;go_ret;exact .inl ⟨hfl,rfl,hfin⟩
theorem w_more {n:Nat} (x:LWl) (num l bn by_ bw bm mb bo:Nat) (W0:World) (hM:MoreAt W0 x num l bn by_ bw bm mb bo) (Fin:World->Prop) (full:List Nat) (hY:TookY W0.heap.size l W0 full n Fin) (hnl:num<=300):
  ∀(m:Nat) (begun:List Nat) (A:Option Addr) (c:Nat) (W:World),Below W0.heap.size W0 W->W.ownsRow W0.heap.size 3 1 (.slice A begun.length c) begun.length (fl zC (toZ begun)) ->
   m+begun.length=num->lstF begun<(x.w.d.length:Int)->begun++grdF x.w m (lstF begun)=full->(m=0∨∃y,nxtO x.w (lstF begun) (m:Nat)=some y) ->
   Calls Tryz.prog 226 (#[.slice A begun.length c]++capM bn by_ bw bm bo) W fun e W'=>e=.returned (.bool false)∧Fin W':=by
 intro m;induction m with
 |zero=>
  intro begun A c W hb ho hn hlt hf _;have hfb:begun=full:=by rw[←hf];simp[grdF]
  subst hfb;exact callsIn_wide.1 (more_zero x num l bn by_ bw bm mb bo W0 hM Fin begun hY A c W hb ho (by omega) (by omega))
 |succ m ih=>
  intro begun A c W hb ho hn hlt hf hex;obtain⟨f,hfo⟩:∃f,nxtO x.w (lstF begun) ((m+1:Nat):Int)=some f:=by
   rcases hex with h|⟨y,hy⟩
   ·omega
   ·exact⟨y,hy⟩
  obtain⟨f1,f2,f3,f4,f5⟩:=nxtO_some hfo;have e1:(begun++[f]).length=begun.length+1:=by simp
  have e2:fl zC (toZ (begun++[f]))=fl zC (toZ begun)++[.int .i64 (f:Nat)]:=by simp[toZ,fl,zC]
  refine(more_step x num l bn by_ bw bm mb bo W0 hM Fin hnl m begun A c W hb ho hn hlt f f2 (Nat.le_of_lt f1) f5 (fun _=>⟨f3,f4,fun A c W hb ho=>e1▸ih (begun++[f]) A c W hb (by rw[e1,e2];exact ho) (by rw[e1];omega) (by rw[lstF_snoc];omega)
   (by rw[←hf,lstF_snoc,grdF,hfo];simp)
   (by
    cases m with
    |zero=>exact .inl rfl
    |succ m=>exact .inr (by rw[lstF_snoc];exact rsA_next f3))⟩)).mono ?_
  rintro e W' (⟨_,h1,h2⟩|⟨h1,_⟩)
  ·exact⟨h1,h2⟩
  ·omega
theorem more_none (x:LWl) (num l bn by_ bw bm mb bo:Nat) (W0:World) (hM:MoreAt W0 x num l bn by_ bw bm mb bo) (hnl:num<=300) (h0:0<num) (hno:nxtO x.w (-1) (num:Nat)=none):
  Calls Tryz.prog 226 (#[.slice none 0 0]++capM bn by_ bw bm bo) W0 fun e W'=>e=.returned (.bool true)∧Below W0.heap.size W0 W':=by
 obtain⟨m,rfl⟩:∃m,num=m+1:=⟨num-1,by omega⟩;refine(more_step x (m+1) l bn by_ bw bm mb bo W0 hM (fun _=>False) hnl m [] none 0 W0 (below_refl W0) (World.ownsRow_nil W0 _ _ _) (by simp) (by rw[lstF_nil];omega) x.w.d.length (by rw[lstF_nil];omega) (Nat.le_refl _) (fun y hy=>nxtO_none hno y hy) (fun h=>absurd h (by omega))).mono ?_;rintro e W' (⟨h,_⟩|⟨_,h1,h2⟩)
 ·omega
 ·exact⟨h1,h2⟩
structure SetsAt (W:World) (x:LWl) (num bn bw bm mb:Nat):Prop where
 wl:WlAt W x
 hn:Blk W bn 3 #[.int .i64 (num:Nat)]
 hw:Blk W bw 273 x.A
 hm:Blk W bm 305 #[.map (some mb)]
 mp:∃n,MpIs W mb n (rsA x.w)
def RS (x:LWl) (bn bw bm mb:Nat):Nat->Prop:=fun b=>b=bn∨b=bw∨b=bm∨b=mb∨(∃ad,x.ja=some ad∧ad.block=b)∨(∃ad,x.da=some ad∧ad.block=b)
theorem SetsAt.stp {W W':World} {x:LWl} {num bn bw bm mb:Nat} (h:SetsAt W x num bn bw bm mb) (hs:Stp (fun b=>¬RS x bn bw bm mb b) W W'):SetsAt W' x num bn bw bm mb:=by
 have q1:RS x bn bw bm mb bn:=.inl rfl;have q2:RS x bn bw bm mb bw:=.inr (.inl rfl);have q3:RS x bn bw bm mb bm:=.inr (.inr (.inl rfl));have q4:RS x bn bw bm mb mb:=.inr (.inr (.inr (.inl rfl)))
 refine⟨⟨h.wl.jb,h.wl.fi,h.wl.ga,h.wl.tp,h.wl.le,h.wl.la,h.wl.st,h.wl.din,h.wl.dl,h.wl.rj.stp hs (fun ad e n=>n (.inr (.inr (.inr (.inr (.inl ⟨ad,e,rfl⟩)))))),h.wl.rd.stp hs (fun ad e n=>n (.inr (.inr (.inr (.inr (.inr ⟨ad,e,rfl⟩))))))⟩,
  hs.blk h.hn (fun n=>n q1),hs.blk h.hw (fun n=>n q2),hs.blk h.hm (fun n=>n q3),?_⟩
 obtain⟨n,hn⟩:=h.mp;exact⟨n,mp_stp hn hs (fun n=>n q4)⟩
def EsF (s:List Nat) (vs:Array Value) (M:Nat->Prop) (W:World) (B:Nat):Prop:=∃y:Sl Int,vs=#[y.v]∧y.l=toZ s∧W.ownsRow B 3 1 y.v y.l.length (fl zC y.l)∧∀g,y.v.ownBlock=some g->¬M g
theorem w_setsSeq {n:Nat} (x:LWl) (num bn bw bm mb:Nat) (w0:World) (h:SetsAt w0 x num bn bw bm mb) (h0:0<num) (h3:num<=300):
  SeqIsS n Tryz.prog 225 #[.pointer (some ⟨bn,0,none⟩),.pointer (some ⟨bw,0,none⟩),.pointer (some ⟨bm,0,none⟩)] EsF (ladT x.w (num-1)).toList (RS x bn bw bm mb) w0:=by
 intro l J Jx W hst hJ hJx hJ0 hY hj;have hs:=h.stp hst;refine callsIn_wide.2 ?_;have hab:∀W1,Below W.heap.size W W1->J [] (fun _=>False) W1:=fun W1 hb=>hJ [] _ _ W W1 hj (fun _ h=>h.elim) (fun _ h=>h) (fun _ h=>h.elim) (fun _ h=>h.elim) ((Stp.refl _ _).below hb (Nat.le_refl _));have HAB:=hid hab;obtain⟨Wb,hWb⟩:∃Wb,Wb=(W.alloc (.cells #[.func (.yield l) #[] #[]] 157)).alloc (.cells #[.func (.func 226) #[] (capM bn W.heap.size bw bm (W.heap.size+1))] 157):=⟨_,rfl⟩;have BB:Below W.heap.size W Wb:=by rw[hWb];(repeat'(first|assumption|exact below_refl _|refine bl_alloc ?_ _|refine Below.setCell ?_ ?_ _|refine below_draw ?_|refine below_drewN ?_ _|refine below_tr ?_ (by assumption)))<;>(first|omega|(simp;done)|(simp;omega))
 have hM:MoreAt Wb x num l bn W.heap.size bw bm mb (W.heap.size+1):=by
  have y0:=(Blk.new W 157 #[.func (.yield l) #[] #[]]).alloc (.cells #[.func (.func 226) #[] (capM bn W.heap.size bw bm (W.heap.size+1))] 157);have y1:=Blk.new (W.alloc (.cells #[.func (.yield l) #[] #[]] 157)) 157 #[.func (.func 226) #[] (capM bn W.heap.size bw bm (W.heap.size+1))];rw[World.size_alloc] at y1;obtain⟨n,hn⟩:=hs.mp;refine⟨hs.wl.on BB,hs.hn.below BB hs.hn.lt,?_,hs.hw.below BB hs.hw.lt,hs.hm.below BB hs.hm.lt,?_,⟨n,mp_on hn BB⟩⟩
  ·rw[hWb];exact y0
  ·rw[hWb];exact y1
 have HCM:Hid (Calls Tryz.prog 226 #[.slice none 0 0,.pointer (some ⟨bn,0,none⟩),.pointer (some ⟨W.heap.size,0,none⟩),.pointer (some ⟨bw,0,none⟩),.pointer (some ⟨bm,0,none⟩),.pointer (some ⟨W.heap.size+1,0,none⟩)] Wb fun e W'=>
   (∃b,e=.returned (.bool b))∧((∃M,J (ladT x.w (num-1)).toList M W')∨∃pre rest M,(ladT x.w (num-1)).toList=pre++rest∧Jx pre M W')):=by
  refine hid ?_;have hnum:((num-1+1:Nat):Int)=((num:Nat):Int):=by omega
  cases hq:nxtO x.w (-1) ((num:Nat):Int) with
  |none=>
   have hl:ladT x.w (num-1)=none:=by unfold ladT;rw[hnum,hq];rfl
   rw[hl];refine(more_none x num l bn _ bw bm mb _ Wb hM h3 h0 hq).mono ?_;rintro e W' ⟨rfl,hb⟩;exact⟨⟨_,rfl⟩,.inl ⟨_,hab W' (below_tr BB hb)⟩⟩
  |some f=>
   have hl:ladT x.w (num-1)=some (grdF x.w num (-1)):=by unfold ladT;rw[hnum,hq,show num-1+1=num by omega];rfl
   rw[hl];refine(w_more (n:=n-1) x num l bn _ bw bm mb _ Wb hM (fun W'=>∃M,Jx [grdF x.w num (-1)] M W') (grdF x.w num (-1)) ?_ h3 num [] none 0 Wb (below_refl Wb) (World.ownsRow_nil Wb _ _ _) (by simp) (by have:=(nxtO_some hq).1;rw[lstF_nil];omega) rfl (.inr ⟨f,hq⟩)).mono ?_
   ·intro W2 y hb2 hyl hyo;have hb3:=below_tr BB hb2;refine YieldAt.mono (hY [] (grdF x.w num (-1)) [] (fun _=>False) W2 #[y.v] (by rw[hl];rfl) (hab W2 hb3) ⟨y,rfl,hyl,own_mono hyo BB.size,fun _ _ h=>h⟩) ?_;rintro e W3 (⟨_,hj3,_⟩|⟨rfl,hx3⟩)
    ·exact absurd (hJ0 _ _ _ hj3) (by simp)
    ·exact⟨rfl,_,hx3⟩
   ·rintro e W' ⟨rfl,M,hx⟩;exact⟨⟨_,rfl⟩,.inr ⟨[grdF x.w num (-1)],[],M,rfl,hx⟩⟩
 clear hY hJ hJx hJ0 hj hab hs hst;show Calls Tryz.prog 225 #[.func (.yield l) #[] #[],.pointer (some ⟨bn,0,none⟩),.pointer (some ⟨bw,0,none⟩),.pointer (some ⟨bm,0,none⟩)] W _;go_enter Tryz.func225,Tryz.ntmps225
 go_upto_region 3 with fail
 rw[←hWb];have co:=hM.ho.cell 0;simp only[List.getElem?_toArray,List.getElem?_cons_zero] at co;clear hWb hM HAB;go_wp2_with (refine HCM.out.mono ?_;rintro e w4 ⟨⟨b,rfl⟩,hres⟩)
 go_end0
 exact⟨⟨_,rfl⟩,hres⟩
theorem w_sets (x:LWl) (num:Nat) (W:World) (h:WlAt W x):
  Calls Tryz.prog 188 #[.agg x.A,.int .i64 (num:Nat)] W fun e w'=>∃bn bw bm mb,e=.returned (.func (.func 225) #[] #[.pointer (some ⟨bn,0,none⟩),.pointer (some ⟨bw,0,none⟩),.pointer (some ⟨bm,0,none⟩)]) ∧
   SetsAt w' x num bn bw bm mb∧(W.heap.size<=bn∧W.heap.size<=bw∧W.heap.size<=bm∧W.heap.size<=mb)∧Below W.heap.size W w':=by
 have x0:=(Blk.new W 273 x.A).alloc (.cells #[.int .i64 (num:Nat)] 3);have x1:=Blk.new (W.alloc (.cells x.A 273)) 3 #[.int .i64 (num:Nat)];rw[World.size_alloc] at x1;have B0:=bl_alloc (bl_alloc (below_refl W) (.cells x.A 273)) (.cells #[.int .i64 (num:Nat)] 3);have b0:=x0.cell 0;have b1:=x0.cell 1;have b2:=x0.cell 2;have b3:=x0.cell 3;have b4:=x0.cell 4;have b5:=x0.cell 5;have b6:=x0.cell 6;have b7:=x0.cell 7;simp only[GA] at b0 b1 b2 b3 b4 b5 b6 b7;go_enter Tryz.func188,Tryz.ntmps188
 go_upto_region 1 with fail
 have h1:=h.on B0;have lz:W.heap.size+2<=((W.alloc (.cells x.A 273)).alloc (.cells #[.int .i64 (num:Nat)] 3)).heap.size:=by simp
 generalize (W.alloc (.cells x.A 273)).alloc (.cells #[.int .i64 (num:Nat)] 3)=w1 at *;go_upto_region 2 with (go_at_call 224;((with_reducible refine(w_rests x w1 h1).mono ?_);rintro e w2 ⟨mb,n,rfl,hmb,hn,hmp,hb2⟩))
 have hz2:=hb2.size;have y0:=(x0.below hb2 x0.lt).alloc (.cells #[.map (some mb)] 305);have y1:=(x1.below hb2 x1.lt).alloc (.cells #[.map (some mb)] 305);have y2:=Blk.new w2 305 #[.map (some mb)];have B2:=bl_alloc (below_refl w2) (.cells #[.map (some mb)] 305);have hmp2:=mp_on hmp B2;have h2:=(h1.on hb2).on B2;have BW:=below_tr (below_tr B0 hb2) B2;go_wp2;go_ret;exact⟨_,_,_,_,rfl,⟨h2,y1,y0,y2,⟨n,hmp2⟩⟩,⟨by omega,by omega,by omega,by omega⟩,BW⟩
end Go.Proofs.YtjkkfcghkeoedaaGreatDoor.Fi
