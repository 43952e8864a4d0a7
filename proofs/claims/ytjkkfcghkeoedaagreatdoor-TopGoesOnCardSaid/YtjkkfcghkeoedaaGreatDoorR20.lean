/- The parts of the proof, part 20. -/
import Derived.Test.YtjkkfcghkeoedaaGreatDoorR0
import Derived.Test.YtjkkfcghkeoedaaGreatDoorR16
set_option maxHeartbeats 16000000
set_option maxRecDepth 20000
set_option linter.unusedSimpArgs false
set_option linter.unusedVariables false
namespace Go.Proofs.YtjkkfcghkeoedaaGreatDoor.Fi
open Go.RowKit Go.Lib Tx
theorem d_dog (i:Int) (T:Nat->Prop) (nb sb rb:Nat) (L:LS) (w:World) (hN:Nxt T nb sb rb w L) (hI:Inv L.val):
  Calls Tryz.prog 318 #[.agg #[.int .i64 i],.pointer (some ⟨nb,0,none⟩)] w (DeedP (.dog i) T nb sb rb L w):=by
 have x0:=Blk.new w 239 #[.int .i64 i];have B0:=bl_alloc (below_refl w) (.cells #[.int .i64 i] 239);have b0:=x0.cell 0;simp only[GA] at b0;have hN0:=hN.on B0;have hsl:L.sites.l.length<=8:=hI.slen;have hsl0:L.sites.l.length<=1000:=by omega
 cases hth:thB L.val i
 ·have HX:=hid (show deed (.dog i) L.val=.error 5 by unfold deed;dsimp only;rw[if_pos hth]);have HAT:=hid (f_at_no nb L i _ hN0.cel hsl0 hth);go_enter Tryz.func318,Tryz.ntmps318
  go_wp2_with (go_at_call 274;((with_reducible refine(HAT.out).mono ?_);rintro e w' ⟨rfl,rfl⟩))
  exact⟨rfl,deed_err HX.out B0⟩
 obtain⟨i0,i1⟩:=thB_iff.1 hth;obtain⟨k,rfl⟩:=Int.eq_ofNat_of_zero_le i0;have hk:k<L.sites.l.length:=by omega
 obtain⟨s,cur,hs,ha,hbs,hir,c0,c1,c2⟩:=hN0.site hk;have hfz:=hbs.frozen;have HAT:=hid (f_at nb L k _ sb 0 hN0.cel hsl0 hk ha);have HSA:=hid (siteA_of hs);have hsm:=hI.men hs;have lsb:=hbs.lt;have lnb:=hN0.lt;have lw:=x0.lt;obtain⟨y,jb,jo,hy,hja,ljb,cj,hJ,hJl⟩:=hN0.jnts hI hk;have HJA:=hid (jntA_of hy);have hkj:(k:Int)<(L.x.jnt.l.length:Int):=by rw[hI.lens.2];omega
 have hle:=(vSu_parts hI.su).2.2.2.2.1;have hle2:-9223372036854775808<L.x.cl.le∧L.x.cl.le<=9223372036854775807:=by
  have h1:vCl L.x.cl=true:=hle;unfold vCl at h1;have h2:=wn_iff.1 (Bool.and_eq_true_iff.1 (Bool.and_eq_true_iff.1 (Bool.and_eq_true_iff.1 (Bool.and_eq_true_iff.1 h1).2).2).2).1;omega
 have HX2:=hid (show deed (.dog (k:Int)) L.val=if (!s.fel&&decide (s.dogs.l.length=0))=false then .error 10 else if goB L.val L.val.gusts=false then .error 11
   else if fewE L.x.cl y.l≠0 then .error (fewE L.x.cl y.l) else .ok (setS L.val (k:Int) {s.val with dogs:=fewL L.x.cl y.l}) by
  unfold deed;dsimp only;rw[if_neg (by rw[hth];simp),HSA.out,HJA.out];rfl)
 have c0x:(w.alloc (.cells #[.int .i64 (k:Int)] 239)).cell? ⟨sb,k*3,none⟩=some (.slice s.dogs.a s.dogs.l.length s.dogs.c):=c0;have c18:(w.alloc (.cells #[.int .i64 (k:Int)] 239)).cell? ⟨nb,18,none⟩=some (.slice L.gusts.a L.gusts.l.length L.gusts.c):=hN0.cel 18 _ rfl;have c_2:(w.alloc (.cells #[.int .i64 (k:Int)] 239)).cell? ⟨nb,2,none⟩=some (.int .i64 L.x.cl.fi):=hN0.cel 2 _ rfl;have c_3:(w.alloc (.cells #[.int .i64 (k:Int)] 239)).cell? ⟨nb,3,none⟩=some (.int .i64 L.x.cl.ga):=hN0.cel 3 _ rfl;have c_4:(w.alloc (.cells #[.int .i64 (k:Int)] 239)).cell? ⟨nb,4,none⟩=some (.int .i64 L.x.cl.tp):=hN0.cel 4 _ rfl;have c_5:(w.alloc (.cells #[.int .i64 (k:Int)] 239)).cell? ⟨nb,5,none⟩=some (.int .i64 L.x.cl.le):=hN0.cel 5 _ rfl;have c_6:(w.alloc (.cells #[.int .i64 (k:Int)] 239)).cell? ⟨nb,6,none⟩=some (.int .i64 L.x.cl.la):=hN0.cel 6 _ rfl;have c_7:(w.alloc (.cells #[.int .i64 (k:Int)] 239)).cell? ⟨nb,7,none⟩=some (.int .i64 L.x.cl.st):=hN0.cel 7 _ rfl;have cja:(w.alloc (.cells #[.int .i64 (k:Int)] 239)).cell? ⟨nb,1,none⟩=some (.slice (some ⟨jb,jo,none⟩) L.x.jnt.l.length L.x.jnt.c):=by rw[←hja];exact hN0.cel 1 _ rfl
 clear c0 hle;go_enter Tryz.func318,Tryz.ntmps318
 go_upto_region 2 with (go_at_call 274;((with_reducible refine(HAT.out).mono ?_);rintro e w' ⟨rfl,rfl⟩))
 generalize (w.alloc (.cells #[.int .i64 (k:Int)] 239))=w1 at *;have HGV:=hid (fun w' (h:Below w1.heap.size w1 w') v hv=>(hN0.on h).goes hI (v:=v) hv);have HFW:=hid (fun w' (h:Below w1.heap.size w1 w')=>(show Calls Tryz.prog 320 #[.agg #[.int .i64 L.x.cl.fi,.int .i64 L.x.cl.ga,.int .i64 L.x.cl.tp,.int .i64 L.x.cl.le,.int .i64 L.x.cl.la,.int .i64 L.x.cl.st],.slice y.a y.l.length y.c] w' (FwtP L.x.cl y.l w') from l_Fewest L.x.cl y.a y.l y.c w' hle2 (by omega) (hJ.on h).rd));have HI:=hid hI;have HN0:=hid hN0;clear hI hN0;obtain⟨k0,k1⟩:(0:Int)<=(k:Int)∧(k:Int).toNat=k:=⟨by omega,by omega⟩;cases hf:s.fel
 ·rw[hf] at c1;by_cases hd:s.dogs.l.length=0
  ·have d2:((s.dogs.l.length:Int)==0)=true:=by simp[hd]
   have d3:(s.dogs.l.length==0)=true:=by simp[hd]
   have d1:decide (s.dogs.l.length=0)=true:=decide_eq_true hd;clear hd;go_upto_region 3 with (go_at_call 131;((with_reducible refine(f_must_ok _ _).mono ?_);rintro e w' ⟨rfl,rfl⟩))
   cases hg:goB L.val L.val.gusts
   ·have HX:=hid (show deed (.dog (k:Int)) L.val=.error 11 by rw[HX2.out,if_neg (by rw[hf,d1];simp),if_pos hg]);have HGO:=hid (fun w' h=>HGV.out w' h _ hg);go_wp2_with (first|(go_at_call 102;((with_reducible refine(HGO.out _ bl).mono ?_);rintro e w4 ⟨rfl,hb4⟩;obtain⟨hc4,hf4,hz4⟩:=qz hb4))|(go_at_call 131;((with_reducible refine(f_must_no _ _).mono ?_);rintro e w' ⟨rfl,rfl⟩)))
    exact⟨rfl,deed_err HX.out bl⟩
   ·have HGO:=hid (fun w' h=>HGV.out w' h _ hg);go_upto_region 4 with (first|(go_at_call 102;((with_reducible refine(HGO.out _ bl).mono ?_);rintro e w4 ⟨rfl,hb4⟩;obtain⟨hc4,hf4,hz4⟩:=qz hb4))|(go_at_call 131;((with_reducible refine(f_must_ok _ _).mono ?_);rintro e w' ⟨rfl,rfl⟩)))
    have B4:Below w1.heap.size w1 w4:=bl;obtain⟨hcx,hfx⟩:=bcell B4;have lz:w1.heap.size<=w4.heap.size:=B4.size;have q_2:=(hcx nb 2 lnb).trans c_2;have q_3:=(hcx nb 3 lnb).trans c_3;have q_4:=(hcx nb 4 lnb).trans c_4;have q_5:=(hcx nb 5 lnb).trans c_5;have q_6:=(hcx nb 6 lnb).trans c_6;have q_7:=(hcx nb 7 lnb).trans c_7;have q1:=(hcx nb 1 lnb).trans cja;have qj:=(hcx jb (jo+k) ljb).trans cj;have qk:=(hcx w.heap.size 0 lw).trans b0;have lw4:w.heap.size<w4.heap.size:=by omega
    have ln4:nb<w4.heap.size:=by omega
    have ls4:sb<w4.heap.size:=by omega
    have lj4:jb<w4.heap.size:=by omega
    generalize hE:fewE L.x.cl y.l=E at *;refine wp_region_noPanic ?_;refine th w4 fun hS0=>?_;refine tq 0 ?_;refine tq 1 ?_;refine tq 2 ?_;refine tq 3 ?_;refine tq 4 ?_;refine tq 5 ?_;refine tq 6 ?_;refine tq 7 ?_;refine tq 8 ?_;refine tq 9 ?_;refine tq 10 ?_;refine tq 11 ?_;refine tq 12 ?_;refine tq 13 ?_;refine tr 14 fun K hK=>?_;go_simp
    (go_at_call 320;((with_reducible refine(HFW.out _ (below_tr B4 bl)).mono ?_);rintro e w5 ⟨hb5,v5,rfl,ho5⟩;rw[hE];obtain⟨hc5,hf5,hz5⟩:=qz hb5))
    refine hK.out _ _ kq (fun hS1=>?_);clear hK K;try simp only[AP]
    refine tq 15 ?_;refine tq 16 ?_;refine tq 17 ?_;refine tq 18 ?_;refine tq 19 ?_;refine wpAnyH_done (by kernel_rfl) (NoPanic.normal ?_) _;obtain⟨A5,c5,rfl⟩:=own_slice ho5;have lw5:w.heap.size<=w4.heap.size:=by omega
    have hG:Got (fun g=>w.heap.size<=g) w5 zC 1 ⟨A5,fewL L.x.cl y.l,c5⟩:=got_own (fun _=>rfl) ho5 (fun b h1 h2=>by simp[sz_drew] at h1;omega);have B5:Below w1.heap.size w1 w5:=below_tr B4 hS1.2.2;obtain⟨hcy,hfy⟩:=bcell B5;have qd:=(hcy sb (k*3) lsb).trans c0x;have qf:=(hfy sb (k*3) lsb).trans (hfz (k*3));by_cases he:E=0
    ·subst he;have HX:=hid (show deed (.dog (k:Int)) L.val=.ok (setS L.val (k:Int) {s.val with dogs:=fewL L.x.cl y.l}) by rw[HX2.out,if_neg (by rw[hf,d1];simp),if_neg (by rw[hg];simp),if_neg (by simp)]);go_wp2_with (go_at_call 281;((with_reducible refine(f_passed_ok _).mono ?_);rintro e w' ⟨rfl,rfl⟩))
     go_end0
     exact deed_ok HX.out (by rw[set_val (s':={s with dogs:=⟨A5,fewL L.x.cl y.l,c5⟩})];rfl) (hN.turnS (j:=0) (s':={s with dogs:=⟨A5,fewL L.x.cl y.l,c5⟩}) (below_tr B0 B5) hs rfl (fun r hr=>by rcases r with _|_|_|r<;>first|rfl|exact absurd rfl hr) (.inr hG))
    ·have HX:=hid (show deed (.dog (k:Int)) L.val=.error E by rw[HX2.out,if_neg (by rw[hf,d1];simp),if_neg (by rw[hg];simp),if_pos he]);have HNZ:=hid he;go_wp2_with (go_at_call 281;((with_reducible refine(f_passed_no _ HNZ.out _).mono ?_);rintro e w' ⟨rfl,rfl⟩))
     exact⟨rfl,deed_err HX.out (below_tr B0 B5)⟩
  ·have d2:((s.dogs.l.length:Int)==0)=false:=by simp[hd]
   have d3:(s.dogs.l.length==0)=false:=by simp[hd]
   have HX:=hid (show deed (.dog (k:Int)) L.val=.error 10 by rw[HX2.out,if_pos (by rw[decide_eq_false hd];simp)]);clear hd;go_wp2_with (go_at_call 131;((with_reducible refine(f_must_no _ _).mono ?_);rintro e w' ⟨rfl,rfl⟩))
   exact⟨rfl,deed_err HX.out bl⟩
 ·rw[hf] at c1;have HX:=hid (show deed (.dog (k:Int)) L.val=.error 10 by rw[HX2.out,if_pos (by rw[hf];rfl)]);go_wp2_with (go_at_call 131;((with_reducible refine(f_must_no _ _).mono ?_);rintro e w' ⟨rfl,rfl⟩))
  exact⟨rfl,deed_err HX.out bl⟩
theorem d_strike (r:Int) (T:Nat->Prop) (nb sb rb:Nat) (L:LS) (w:World) (hN:Nxt T nb sb rb w L) (hI:Inv L.val):
  Calls Tryz.prog 325 #[.agg #[.int .i64 r],.pointer (some ⟨nb,0,none⟩)] w (DeedP (.strike r) T nb sb rb L w):=by
 have x0:=Blk.new w 241 #[.int .i64 r];have B0:=bl_alloc (below_refl w) (.cells #[.int .i64 r] 241);have b0:=x0.cell 0;simp only[GA] at b0;have hN0:=hN.on B0;have hrl:L.rigs.l.length<=50:=by have h:=hI.rl;unfold LS.val at h;dsimp only at h;rw[List.length_map] at h;exact h
 have hrl0:L.rigs.l.length<=1000:=by omega
 cases hth:rtB L.val r
 ·have HX:=hid (show deed (.strike r) L.val=.error 5 by unfold deed;dsimp only;rw[if_pos hth]);have HAT:=hid (f_rigAt_no nb L r _ hN0.cel hrl0 hth);go_enter Tryz.func325,Tryz.ntmps325
  go_wp2_with (go_at_call 293;((with_reducible refine(HAT.out).mono ?_);rintro e w' ⟨rfl,rfl⟩))
  exact⟨rfl,deed_err HX.out B0⟩
 obtain⟨i0,i1⟩:=rtB_iff.1 hth;obtain⟨k,rfl⟩:=Int.eq_ofNat_of_zero_le i0;have hk:k<L.rigs.l.length:=by omega
 obtain⟨g,hg,hga,d0,d1x⟩:=hN0.rig hk;have HAT:=hid (f_rigAt nb L k _ rb 0 hN0.cel hrl0 hk hga);have HRA:=hid (rigA_of hg);obtain⟨gs0,gs1⟩:=hI.rs g.val (by unfold LS.val;exact List.mem_map.2 ⟨g,List.mem_of_getElem? hg,rfl⟩);have gs1:g.st<(L.sites.l.length:Int):=by unfold LS.val at gs1;dsimp only at gs1;rw[List.length_map] at gs1;exact gs1
 have gs0:0<=g.st:=gs0;obtain⟨m,hm⟩:=Int.eq_ofNat_of_zero_le gs0;obtain⟨s,cur,hs,ha,hbs,hir,c0,c1,c2⟩:=hN0.site (i:=m) (by omega);have HSA:=hid (siteA_of hs);have HX2:=hid (show deed (.strike (k:Int)) L.val=if (decide (0<g.lk.l.length)&&decide (s.men=0))=false then .error 10 else .ok {L.val with rigs:=L.val.rigs.set k ⟨g.st,[]⟩} by
  unfold deed;dsimp only;rw[if_neg (by rw[hth];simp),HRA.out,show(g.val).st=(m:Int) from hm,HSA.out,hm];rfl)
 have lrb:=hN0.rlt (by intro e;rw[e] at hk;simp at hk);have lsb:=hbs.lt;have lnb:=hN0.lt;have lw:=x0.lt;have d0y:(w.alloc (.cells #[.int .i64 (k:Int)] 241)).cell? ⟨rb,k*2,none⟩=some (.int .i64 (m:Int)):=by rw[←hm];exact d0
 have d1:(w.alloc (.cells #[.int .i64 (k:Int)] 241)).cell? ⟨rb,k*2+1,none⟩=some (.slice g.lk.a g.lk.l.length g.lk.c):=d1x;have c20:(w.alloc (.cells #[.int .i64 (k:Int)] 241)).cell? ⟨nb,20,none⟩=some (.slice (some ⟨sb,0,none⟩) L.sites.l.length L.sites.c):=by rw[←ha];exact hN0.cel 20 _ rfl
 have qf:(w.alloc (.cells #[.int .i64 (k:Int)] 241)).frozen? ⟨rb,k*2+1,none⟩=false:=hN0.rfz hk _;obtain⟨m0,m1,m2⟩:(0:Int)<=(m:Int)∧(m:Int).toNat=m∧(m:Int)<(L.sites.l.length:Int):=⟨by omega,by omega,by omega⟩;clear c0 d1x d0;go_enter Tryz.func325,Tryz.ntmps325
 go_upto_region 2 with (go_at_call 293;((with_reducible refine(HAT.out).mono ?_);rintro e w' ⟨rfl,rfl⟩))
 generalize (w.alloc (.cells #[.int .i64 (k:Int)] 241))=w1 at *;by_cases hd:0<g.lk.l.length
 ·have g1:decide (0<g.lk.l.length)=true:=decide_eq_true hd;have g2:decide ((0:Int)<(g.lk.l.length:Int))=true:=decide_eq_true (by omega);by_cases hz:s.men=0
  ·have g3:(s.men==0)=true:=by simpa using hz
   have HX:=hid (show deed (.strike (k:Int)) L.val=.ok {L.val with rigs:=L.val.rigs.set k ⟨g.st,[]⟩} by rw[HX2.out,if_neg (by rw[g1,decide_eq_true hz];simp)]);clear hz;refine wp_region_noPanic ?_;refine th w1 fun hS0=>?_;refine tq 0 ?_;refine tq 1 ?_;refine tq 2 ?_;refine tq 3 ?_;refine tq 4 ?_;refine tq 5 ?_;refine tq 6 ?_;refine tq 7 ?_;refine tq 8 ?_;refine tq 9 ?_;refine tq 10 ?_;refine tq 11 ?_;refine tq 12 ?_;refine tq 13 ?_;refine tq 14 ?_;refine tq 15 ?_;refine tq 16 ?_;refine tq 17 ?_;refine tq 18 ?_;refine tq 19 ?_;refine tr 20 fun K hK=>?_;go_simp
   (go_at_call 131;((with_reducible refine(f_must_ok _ _).mono ?_);rintro e w' ⟨rfl,rfl⟩))
   refine hK.out _ _ kq (fun hS1=>?_);clear hK K;try simp only[AP]
   refine wpAnyH_done (by kernel_rfl) (NoPanic.normal ?_) _;go_wp2;go_end0
   first
    |exact deed_ok HX.out (by rw[setR_val (s':=⟨g.st,⟨none,[],0⟩⟩)];rfl) (hN.turnR (j:=1) (s':=⟨g.st,⟨none,[],0⟩⟩) bl hg rfl (fun r hr=>by rcases r with _|_|r<;>first|rfl|exact absurd rfl hr) rfl rfl)
    |exact deed_ok HX.out (by rw[setR_val (s':=⟨g.st,⟨none,[],0⟩⟩)];rfl) (Nxd.drew (hN.turnR (j:=1) (s':=⟨g.st,⟨none,[],0⟩⟩) bl hg rfl (fun r hr=>by rcases r with _|_|r<;>first|rfl|exact absurd rfl hr) rfl rfl))
  ·have g3:(s.men==0)=false:=by simpa using hz
   have HX:=hid (show deed (.strike (k:Int)) L.val=.error 10 by rw[HX2.out,if_pos (by rw[decide_eq_false hz];simp)]);clear hz;refine th w1 fun hS0=>?_;refine tq 0 ?_;refine tq 1 ?_;refine tq 2 ?_;refine tq 3 ?_;refine tq 4 ?_;refine tq 5 ?_;refine tq 6 ?_;refine tq 7 ?_;refine tq 8 ?_;refine tq 9 ?_;refine tq 10 ?_;refine tq 11 ?_;refine tq 12 ?_;refine tq 13 ?_;refine tq 14 ?_;refine tq 15 ?_;refine tq 16 ?_;refine tq 17 ?_;refine tq 18 ?_;refine tq 19 ?_;refine tr 20 fun K hK=>?_;go_simp
   (go_at_call 131;((with_reducible refine(f_must_no _ _).mono ?_);rintro e w' ⟨rfl,rfl⟩))
   exact⟨rfl,deed_err HX.out bl⟩
 ·have g1:decide (0<g.lk.l.length)=false:=decide_eq_false hd;have g2:decide ((0:Int)<(g.lk.l.length:Int))=false:=decide_eq_false (by omega);have HX:=hid (show deed (.strike (k:Int)) L.val=.error 10 by rw[HX2.out,if_pos (by rw[g1];simp)]);refine th w1 fun hS0=>?_;refine tq 0 ?_;refine tq 1 ?_;refine tq 2 ?_;refine tq 3 ?_;refine tq 4 ?_;refine tq 5 ?_;refine tq 6 ?_;refine tv 7 ?_;refine tv 8 ?_;refine tv 9 ?_;refine tv 10 ?_;refine tv 11 ?_;refine tv 12 ?_;refine tv 13 ?_;refine tv 14 ?_;refine tv 15 ?_;refine tv 16 ?_;refine tv 17 ?_;refine tv 18 ?_;refine tq 19 ?_;refine tr 20 fun K hK=>?_;go_simp
  (go_at_call 131;((with_reducible refine(f_must_no _ _).mono ?_);rintro e w' ⟨rfl,rfl⟩))
  exact⟨rfl,deed_err HX.out bl⟩
theorem d_bill (i:Int) (T:Nat->Prop) (nb sb rb:Nat) (L:LS) (w:World) (hN:Nxt T nb sb rb w L) (hI:Inv L.val):
  Calls Tryz.prog 334 #[.agg #[.int .i64 i],.pointer (some ⟨nb,0,none⟩)] w (DeedP (.bill i) T nb sb rb L w):=by
 have x0:=Blk.new w 243 #[.int .i64 i];have B0:=bl_alloc (below_refl w) (.cells #[.int .i64 i] 243);have b0:=x0.cell 0;simp only[GA] at b0;have hN0:=hN.on B0;have hsl:L.sites.l.length<=8:=hI.slen;have hsl0:L.sites.l.length<=1000:=by omega
 cases hth:thB L.val i
 ·have HX:=hid (show deed (.bill i) L.val=.error 5 by unfold deed;dsimp only;rw[if_pos hth]);have HAT:=hid (f_at_no nb L i _ hN0.cel hsl0 hth);go_enter Tryz.func334,Tryz.ntmps334
  go_wp2_with (go_at_call 274;((with_reducible refine(HAT.out).mono ?_);rintro e w' ⟨rfl,rfl⟩))
  exact⟨rfl,deed_err HX.out B0⟩
 obtain⟨i0,i1⟩:=thB_iff.1 hth;obtain⟨k,rfl⟩:=Int.eq_ofNat_of_zero_le i0;have hk:k<L.sites.l.length:=by omega
 obtain⟨s,cur,hs,ha,hbs,hir,c0,c1,c2⟩:=hN0.site hk;have hfz:=hbs.frozen;have HAT:=hid (f_at nb L k _ sb 0 hN0.cel hsl0 hk ha);have HSA:=hid (siteA_of hs);have hsm:=hI.men hs;have lsb:=hbs.lt;have lnb:=hN0.lt;have lw:=x0.lt;obtain⟨y,jb,jo,hy,hja,ljb,cj,hJ,hJv⟩:=hN0.stks hI hk;have hJl:y.l.length<=100000:=by have:=(S.valid_all hJv).2.2;omega
 have HJA:=hid (stkA_of hy);have hkj:(k:Int)<(L.x.stk.l.length:Int):=by rw[hI.lens.1];omega
 have mm0:0<=L.money:=hI.m0;have mm1:L.money<=1000000000000:=hI.m1;obtain⟨H,hH⟩:∃H,H=S.heightR y.l:=⟨_,rfl⟩;obtain⟨hp0,hp1⟩:=pri_bd (r:=L.x.rt) (h:=H.1) (vSu_parts hI.su).2.2.2.2.2.2.2.1
 have HX2:=hid (show deed (.bill (k:Int)) L.val=if H.2≠0 then .error H.2 else if priE L.x.rt H.1≠0 then .error (priE L.x.rt H.1)
   else if ¬L.money+priV L.x.rt H.1<=1000000000000 then .error 4 else .ok {L.val with money:=L.money+priV L.x.rt H.1} by
  unfold deed;dsimp only;rw[if_neg (by rw[hth];simp),HJA.out,hH];rfl)
 have c_12:(w.alloc (.cells #[.int .i64 (k:Int)] 243)).cell? ⟨nb,12,none⟩=some (.int .i64 L.x.rt.lo):=hN0.cel 12 _ rfl;have c_13:(w.alloc (.cells #[.int .i64 (k:Int)] 243)).cell? ⟨nb,13,none⟩=some (.int .i64 L.x.rt.hi):=hN0.cel 13 _ rfl;have c_14:(w.alloc (.cells #[.int .i64 (k:Int)] 243)).cell? ⟨nb,14,none⟩=some (.int .i64 L.x.rt.ab):=hN0.cel 14 _ rfl;have c_15:(w.alloc (.cells #[.int .i64 (k:Int)] 243)).cell? ⟨nb,15,none⟩=some (.int .i64 L.x.rt.co):=hN0.cel 15 _ rfl;have c23:(w.alloc (.cells #[.int .i64 (k:Int)] 243)).cell? ⟨nb,23,none⟩=some (.int .i64 L.money):=hN0.cel 23 _ rfl;have cja:(w.alloc (.cells #[.int .i64 (k:Int)] 243)).cell? ⟨nb,0,none⟩=some (.slice (some ⟨jb,jo,none⟩) L.x.stk.l.length L.x.stk.c):=by rw[←hja];exact hN0.cel 0 _ rfl
 have hfn:=hN0.blk.frozen;clear c0 c1 c2;go_enter Tryz.func334,Tryz.ntmps334
 go_upto_region 2 with (go_at_call 274;((with_reducible refine(HAT.out).mono ?_);rintro e w' ⟨rfl,rfl⟩))
 generalize (w.alloc (.cells #[.int .i64 (k:Int)] 243))=w1 at *;have HHT:=hid (fun w' (h:Below w1.heap.size w1 w')=>(show Calls Tryz.prog 114 #[.slice y.a y.l.length y.c] w' fun e w2=>e=.returned (.tuple #[.int .i64 H.1,.int .i64 H.2])∧Below w'.heap.size w' w2 by rw[hH];exact S.s_height y.a y.l y.c w' hJl (hJ.on h).rd));have HPR:=hid (fun w' (h:Below w1.heap.size w1 w')=>(show Calls Tryz.prog 336 #[.agg #[.int .i64 L.x.rt.lo,.int .i64 L.x.rt.hi,.int .i64 L.x.rt.ab,.int .i64 L.x.rt.co],.int .i64 H.1] w' fun e w2=>e=.returned (.tuple #[.int .i64 (priV L.x.rt H.1),.int .i64 (priE L.x.rt H.1)])∧Below w'.heap.size w' w2 from j_Price L.x.rt H.1 w'));have HN0:=hid hN0;have HHH:=hid hH;clear hI hN0 hH;obtain⟨h1,h2⟩:=H;dsimp only at *;generalize hPV:priV L.x.rt h1=PV at *;generalize hPE:priE L.x.rt h1=PE at *;obtain⟨k0,k1⟩:(0:Int)<=(k:Int)∧(k:Int).toNat=k:=⟨by omega,by omega⟩;refine wp_region_noPanic ?_;refine th w1 fun hS0=>?_;refine tq 0 ?_;refine tq 1 ?_;refine tq 2 ?_;refine tq 3 ?_;refine tq 4 ?_;refine tq 5 ?_;refine tq 6 ?_;refine tq 7 ?_;refine tq 8 ?_;refine tr 9 fun K hK=>?_;go_simp
 (go_at_call 114;((with_reducible refine(HHT.out _ bl).mono ?_);rintro e w5 ⟨rfl,hb5⟩;obtain⟨hc5,hf5,hz5⟩:=qz hb5))
 refine hK.out _ _ kq (fun hS1=>?_);clear hK K;try simp only[AP]
 refine tq 10 ?_;refine tq 11 ?_;refine tq 12 ?_;refine tq 13 ?_;refine tq 14 ?_;refine wpAnyH_done (by kernel_rfl) (NoPanic.normal ?_) _;by_cases he:h2=0
 ·subst he;by_cases hp:PE=0
  ·subst hp;have B5:Below w1.heap.size w1 w5:=bl;obtain⟨hcx,hfx⟩:=bcell B5;have q_12:=(hcx nb 12 lnb).trans c_12;have q_13:=(hcx nb 13 lnb).trans c_13;have q_14:=(hcx nb 14 lnb).trans c_14;have q_15:=(hcx nb 15 lnb).trans c_15;go_upto_region 6 with (first|(go_at_call 281;((with_reducible refine(f_passed_ok _).mono ?_);rintro e w' ⟨rfl,rfl⟩))|(go_at_call 336;((with_reducible refine(HPR.out _ bl).mono ?_);rintro e w6 ⟨rfl,hb6⟩;obtain⟨hc6,hf6,hz6⟩:=qz hb6)))
   have B6:Below w1.heap.size w1 w6:=bl;obtain⟨hcy,hfy⟩:=bcell B6;have q23:=(hcy nb 23 lnb).trans c23;have qf:=(hfy nb 23 lnb).trans (hfn 23);have hw1:IntKind.i64.wrap (L.money+PV)=L.money+PV:=fits_wrap ⟨by omega,by omega⟩;by_cases hm:L.money+PV<=1000000000000
   ·have g1:decide (L.money+PV<=1000000000000)=true:=decide_eq_true hm;have HX:=hid (show deed (.bill (k:Int)) L.val=.ok {L.val with money:=L.money+PV} by rw[HX2.out,if_neg (by simp),if_neg (by simp),if_neg (by omega)]);go_wp2_with (go_at_call 131;((with_reducible refine(f_must_ok _ _).mono ?_);rintro e w' ⟨rfl,rfl⟩))
    go_end0
    have st:=nb_step (nb:=nb) (below_tr B0 B6) 23 (.int .i64 (L.money+PV));have K:=hN.kept st;exact deed_ok (L':={L with money:=L.money+PV}) HX.out rfl ⟨((HN0.out.blk.below B6 lnb).set_ 23 (.int .i64 (L.money+PV))),⟨K.su,K.gusts,K.rigs,K.rk,K.sites,K.sk,K.items,K.back⟩,K.stp,rfl,rfl⟩
   ·have g1:decide (L.money+PV<=1000000000000)=false:=decide_eq_false hm;have HX:=hid (show deed (.bill (k:Int)) L.val=.error 4 by rw[HX2.out,if_neg (by simp),if_neg (by simp)];first|rw[if_pos hm]|rw[if_pos (by omega)]);go_wp2_with (go_at_call 131;((with_reducible refine(f_must_no _ _).mono ?_);rintro e w' ⟨rfl,rfl⟩))
    exact⟨rfl,deed_err HX.out bl⟩
  ·have HX:=hid (show deed (.bill (k:Int)) L.val=.error PE by rw[HX2.out,if_neg (by simp),if_pos hp]);have HNZ:=hid hp;have B5:Below w1.heap.size w1 w5:=bl;obtain⟨hcx,hfx⟩:=bcell B5;have q_12:=(hcx nb 12 lnb).trans c_12;have q_13:=(hcx nb 13 lnb).trans c_13;have q_14:=(hcx nb 14 lnb).trans c_14;have q_15:=(hcx nb 15 lnb).trans c_15;go_wp2_with (first|(go_at_call 281;((with_reducible refine(f_passed_ok _).mono ?_);rintro e w' ⟨rfl,rfl⟩))|(go_at_call 336;((with_reducible refine(HPR.out _ bl).mono ?_);rintro e w6 ⟨rfl,hb6⟩;obtain⟨hc6,hf6,hz6⟩:=qz hb6))|(go_at_call 281;((with_reducible refine(f_passed_no _ HNZ.out _).mono ?_);rintro e w' ⟨rfl,rfl⟩)))
   exact⟨rfl,deed_err HX.out bl⟩
 ·have HX:=hid (show deed (.bill (k:Int)) L.val=.error h2 by rw[HX2.out,if_pos he]);have HNZ:=hid he;go_wp2_with (go_at_call 281;((with_reducible refine(f_passed_no _ HNZ.out _).mono ?_);rintro e w' ⟨rfl,rfl⟩))
  exact⟨rfl,deed_err HX.out bl⟩
theorem d_lift (r:Int) (l:Sl Int) (T:Nat->Prop) (nb sb rb:Nat) (L:LS) (w:World) (hN:Nxt T nb sb rb w L) (hI:Inv L.val) (hll:l.l.length<=100000) (hRl:Rd zC 1 w l.a l.l):
  Calls Tryz.prog 291 #[.agg #[.int .i64 r,.slice l.a l.l.length l.c],.pointer (some ⟨nb,0,none⟩)] w (DeedP (.lift r l.l) T nb sb rb L w):=by
 have x0:=Blk.new w 189 #[.int .i64 r,.slice l.a l.l.length l.c];have B0:=bl_alloc (below_refl w) (.cells #[.int .i64 r,.slice l.a l.l.length l.c] 189);have b0:=x0.cell 0;have b1:=x0.cell 1;simp only[GA] at b0 b1;have hN0:=hN.on B0;have hRl0:=hRl.on B0;have hrl:L.rigs.l.length<=50:=by have h:=hI.rl;unfold LS.val at h;dsimp only at h;rw[List.length_map] at h;exact h
 have hrl0:L.rigs.l.length<=1000:=by omega
 cases hth:rtB L.val r
 ·have HX:=hid (show deed (.lift r l.l) L.val=.error 5 by unfold deed;dsimp only;rw[if_pos hth]);have HAT:=hid (f_rigAt_no nb L r _ hN0.cel hrl0 hth);go_enter Tryz.func291,Tryz.ntmps291
  go_wp2_with (go_at_call 293;((with_reducible refine(HAT.out).mono ?_);rintro e w' ⟨rfl,rfl⟩))
  exact⟨rfl,deed_err HX.out B0⟩
 obtain⟨i0,i1⟩:=rtB_iff.1 hth;obtain⟨k,rfl⟩:=Int.eq_ofNat_of_zero_le i0;have hk:k<L.rigs.l.length:=by omega
 obtain⟨g,hg,hga,d0,d1x⟩:=hN0.rig hk;have HAT:=hid (f_rigAt nb L k _ rb 0 hN0.cel hrl0 hk hga);have HRA:=hid (rigA_of hg);have hgm:g.val∈L.val.rigs:=by unfold LS.val;exact List.mem_map.2 ⟨g,List.mem_of_getElem? hg,rfl⟩
 obtain⟨gs0,gs1⟩:=hI.rs g.val hgm;obtain⟨gk0,gk1⟩:=hI.rk g.val hgm;have gk0:g.lk.l.length<=32:=gk0;have gk1:∀x∈g.lk.l,G.LW x:=fun x hx=>(gk1 x hx).1;have gs1:g.st<(L.sites.l.length:Int):=by unfold LS.val at gs1;dsimp only at gs1;rw[List.length_map] at gs1;exact gs1
 have gs0:0<=g.st:=gs0;obtain⟨m,hm⟩:=Int.eq_ofNat_of_zero_le gs0;obtain⟨s,cur,hs,ha,hbs,hir,c0,c1,c2⟩:=hN0.site (i:=m) (by omega);have HSA:=hid (siteA_of hs);obtain⟨ME,hME⟩:∃x,x=G.wkE L.items.l g.lk.l L.back.l L.day l.l:=⟨_,rfl⟩;obtain⟨MB,hMB⟩:∃x,x=G.mayB L.items.l g.lk.l L.back.l L.day l.l:=⟨_,rfl⟩
 have HX2:=hid (show deed (.lift (k:Int) l.l) L.val=if (decide (0<g.lk.l.length)&&decide (0<s.men))=false then .error 10 else if goB L.val L.val.gusts=false then .error 11
   else if ME≠0 then .error ME else if MB=false then .error 12 else .ok L.val by
  unfold deed;dsimp only;rw[if_neg (by rw[hth];simp),HRA.out,show(g.val).st=(m:Int) from hm,HSA.out,hME,hMB];rfl)
 have lrb:=hN0.rlt (by intro e;rw[e] at hk;simp at hk);have lsb:=hbs.lt;have lnb:=hN0.lt;have lw:=x0.lt;have hil:L.items.l.length<=100000:=by have:=G.vldG_len (show G.vldG L.items.l=true from hI.it);omega
 have hbl:L.back.l.length<=100000:=by have:L.back.l.length<=100:=hI.bl;omega
 have hiw:∀x∈L.items.l,G.IW x:=hI.iw;have d0y:(w.alloc (.cells #[.int .i64 (k:Int),.slice l.a l.l.length l.c] 189)).cell? ⟨rb,k*2,none⟩=some (.int .i64 (m:Int)):=by rw[←hm];exact d0
 have d1:(w.alloc (.cells #[.int .i64 (k:Int),.slice l.a l.l.length l.c] 189)).cell? ⟨rb,k*2+1,none⟩=some (.slice g.lk.a g.lk.l.length g.lk.c):=d1x;have c20:(w.alloc (.cells #[.int .i64 (k:Int),.slice l.a l.l.length l.c] 189)).cell? ⟨nb,20,none⟩=some (.slice (some ⟨sb,0,none⟩) L.sites.l.length L.sites.c):=by rw[←ha];exact hN0.cel 20 _ rfl
 have c17:(w.alloc (.cells #[.int .i64 (k:Int),.slice l.a l.l.length l.c] 189)).cell? ⟨nb,17,none⟩=some (.int .i64 L.day):=hN0.cel 17 _ rfl;have c18:(w.alloc (.cells #[.int .i64 (k:Int),.slice l.a l.l.length l.c] 189)).cell? ⟨nb,18,none⟩=some (.slice L.gusts.a L.gusts.l.length L.gusts.c):=hN0.cel 18 _ rfl;have c21:(w.alloc (.cells #[.int .i64 (k:Int),.slice l.a l.l.length l.c] 189)).cell? ⟨nb,21,none⟩=some (.slice L.items.a L.items.l.length L.items.c):=hN0.cel 21 _ rfl;have c22:(w.alloc (.cells #[.int .i64 (k:Int),.slice l.a l.l.length l.c] 189)).cell? ⟨nb,22,none⟩=some (.slice L.back.a L.back.l.length L.back.c):=hN0.cel 22 _ rfl;obtain⟨m0,m1,m2⟩:(0:Int)<=(m:Int)∧(m:Int).toNat=m∧(m:Int)<(L.sites.l.length:Int):=⟨by omega,by omega,by omega⟩;clear c0 d1x d0;go_enter Tryz.func291,Tryz.ntmps291
 go_upto_region 2 with (go_at_call 293;((with_reducible refine(HAT.out).mono ?_);rintro e w' ⟨rfl,rfl⟩))
 generalize (w.alloc (.cells #[.int .i64 (k:Int),.slice l.a l.l.length l.c] 189))=w1 at *;have HGV:=hid (fun w' (h:Below w1.heap.size w1 w') v hv=>(hN0.on h).goes hI (v:=v) hv);have HMY:=hid (fun w' (h:Below w1.heap.size w1 w')=>(show Calls Tryz.prog 294 #[.slice L.items.a L.items.l.length L.items.c,.slice g.lk.a g.lk.l.length g.lk.c,.slice L.back.a L.back.l.length L.back.c,.int .i64 L.day,.slice l.a l.l.length l.c] w' fun e w2=>e=.returned (.tuple #[.bool MB,.int .i64 ME])∧Below w'.heap.size w' w2 by
  rw[hMB,hME];exact G.p_May L.items.a g.lk.a L.back.a l.a L.items.l g.lk.l L.back.l L.day l.l L.items.c g.lk.c L.back.c l.c w' hil (by omega) hbl hll (hN0.on h).items.rd hiw ((hN0.on h).rk g (List.mem_of_getElem? hg)).rd gk1 (hN0.on h).back.rd (hRl0.on h)))
 have HI:=hid hI;have HN0:=hid hN0;have HMM:=hid (And.intro hME hMB);clear hI hN0 hME hMB hiw gk1;by_cases hd:0<g.lk.l.length
 ·have g1:decide (0<g.lk.l.length)=true:=decide_eq_true hd;have g2:decide ((0:Int)<(g.lk.l.length:Int))=true:=decide_eq_true (by omega);by_cases hz:0<s.men
  ·have g3:decide (0<s.men)=true:=decide_eq_true hz;have HXA:=hid (show deed (.lift (k:Int) l.l) L.val=if goB L.val L.val.gusts=false then .error 11 else if ME≠0 then .error ME else if MB=false then .error 12 else .ok L.val by rw[HX2.out,if_neg (by rw[g1,g3];simp)]);refine wp_region_noPanic ?_;refine th w1 fun hS0=>?_;refine tq 0 ?_;refine tq 1 ?_;refine tq 2 ?_;refine tq 3 ?_;refine tq 4 ?_;refine tq 5 ?_;refine tq 6 ?_;refine tq 7 ?_;refine tq 8 ?_;refine tq 9 ?_;refine tq 10 ?_;refine tq 11 ?_;refine tq 12 ?_;refine tq 13 ?_;refine tq 14 ?_;refine tq 15 ?_;refine tq 16 ?_;refine tq 17 ?_;refine tq 18 ?_;refine tq 19 ?_;refine tr 20 fun K hK=>?_;go_simp
   (go_at_call 131;((with_reducible refine(f_must_ok _ _).mono ?_);rintro e w' ⟨rfl,rfl⟩))
   refine hK.out _ _ kq (fun hS1=>?_);clear hK K;try simp only[AP]
   refine wpAnyH_done (by kernel_rfl) (NoPanic.normal ?_) _;cases hg:goB L.val L.val.gusts
   ·have HX:=hid (show deed (.lift (k:Int) l.l) L.val=.error 11 by rw[HXA.out,if_pos hg]);have HGO:=hid (fun w' h=>HGV.out w' h _ hg);go_wp2_with (first|(go_at_call 102;((with_reducible refine(HGO.out _ bl).mono ?_);rintro e w4 ⟨rfl,hb4⟩;obtain⟨hc4,hf4,hz4⟩:=qz hb4))|(go_at_call 131;((with_reducible refine(f_must_no _ _).mono ?_);rintro e w' ⟨rfl,rfl⟩)))
    exact⟨rfl,deed_err HX.out bl⟩
   ·have HGO:=hid (fun w' h=>HGV.out w' h _ hg);go_upto_region 4 with (first|(go_at_call 102;((with_reducible refine(HGO.out _ bl).mono ?_);rintro e w4 ⟨rfl,hb4⟩;obtain⟨hc4,hf4,hz4⟩:=qz hb4))|(go_at_call 131;((with_reducible refine(f_must_ok _ _).mono ?_);rintro e w' ⟨rfl,rfl⟩)))
    have B4:Below w1.heap.size w1 w4:=bl;obtain⟨hcx,hfx⟩:=bcell B4;have lz:w1.heap.size<=w4.heap.size:=B4.size;have q17:=(hcx nb 17 lnb).trans c17;have q21:=(hcx nb 21 lnb).trans c21;have q22:=(hcx nb 22 lnb).trans c22;have qd1:=(hcx rb (k*2+1) lrb).trans d1;have qb1:=(hcx w.heap.size 1 lw).trans b1;have lw4:w.heap.size<w4.heap.size:=by omega
    have ln4:nb<w4.heap.size:=by omega
    have lr4:rb<w4.heap.size:=by omega
    refine wp_region_noPanic ?_;refine th w4 fun hS0=>?_;refine tq 0 ?_;refine tq 1 ?_;refine tq 2 ?_;refine tq 3 ?_;refine tq 4 ?_;refine tq 5 ?_;refine tq 6 ?_;refine tq 7 ?_;refine tq 8 ?_;refine tq 9 ?_;refine tq 10 ?_;refine tq 11 ?_;refine tq 12 ?_;refine tq 13 ?_;refine tq 14 ?_;refine tq 15 ?_;refine tq 16 ?_;refine tq 17 ?_;refine tr 18 fun K hK=>?_;go_simp
    (go_at_call 294;((with_reducible refine(HMY.out _ (below_tr B4 bl)).mono ?_);rintro e w5 ⟨rfl,hb5⟩;obtain⟨hc5,hf5,hz5⟩:=qz hb5))
    refine hK.out _ _ kq (fun hS1=>?_);clear hK K;try simp only[AP]
    refine tq 19 ?_;refine tq 20 ?_;refine tq 21 ?_;refine tq 22 ?_;refine tq 23 ?_;refine wpAnyH_done (by kernel_rfl) (NoPanic.normal ?_) _;have B5:Below w1.heap.size w1 w5:=below_tr B4 hS1.2.2;by_cases he:ME=0
    ·subst he;cases hb:MB
     ·have HX:=hid (show deed (.lift (k:Int) l.l) L.val=.error 12 by rw[HXA.out,if_neg (by rw[hg];simp),if_neg (by simp),if_pos hb]);subst hb;go_wp2_with (first|(go_at_call 281;((with_reducible refine(f_passed_ok _).mono ?_);rintro e w' ⟨rfl,rfl⟩))|(go_at_call 131;((with_reducible refine(f_must_no _ _).mono ?_);rintro e w' ⟨rfl,rfl⟩)))
      exact⟨rfl,deed_err HX.out (below_tr B0 B5)⟩
     ·have HX:=hid (show deed (.lift (k:Int) l.l) L.val=.ok L.val by rw[HXA.out,if_neg (by rw[hg];simp),if_neg (by simp),if_neg (by rw[hb];simp)]);subst hb;go_wp2_with (first|(go_at_call 281;((with_reducible refine(f_passed_ok _).mono ?_);rintro e w' ⟨rfl,rfl⟩))|(go_at_call 131;((with_reducible refine(f_must_ok _ _).mono ?_);rintro e w' ⟨rfl,rfl⟩)))
      go_end0
      have K:=hN.kept ((Stp.refl (fun g=>g=nb) w).below (below_tr B0 B5) (Nat.le_refl _));exact deed_ok (L':=L) HX.out rfl ⟨HN0.out.blk.below B5 lnb,⟨K.su,K.gusts,K.rigs,K.rk,K.sites,K.sk,K.items,K.back⟩,K.stp,rfl,rfl⟩
    ·have HX:=hid (show deed (.lift (k:Int) l.l) L.val=.error ME by rw[HXA.out,if_neg (by rw[hg];simp),if_pos he]);have HNZ:=hid he;go_wp2_with (go_at_call 281;((with_reducible refine(f_passed_no _ HNZ.out _).mono ?_);rintro e w' ⟨rfl,rfl⟩))
     exact⟨rfl,deed_err HX.out (below_tr B0 B5)⟩
  ·have g3:decide (0<s.men)=false:=decide_eq_false hz;have HX:=hid (show deed (.lift (k:Int) l.l) L.val=.error 10 by rw[HX2.out,if_pos (by rw[g3];simp)]);refine th w1 fun hS0=>?_;refine tq 0 ?_;refine tq 1 ?_;refine tq 2 ?_;refine tq 3 ?_;refine tq 4 ?_;refine tq 5 ?_;refine tq 6 ?_;refine tq 7 ?_;refine tq 8 ?_;refine tq 9 ?_;refine tq 10 ?_;refine tq 11 ?_;refine tq 12 ?_;refine tq 13 ?_;refine tq 14 ?_;refine tq 15 ?_;refine tq 16 ?_;refine tq 17 ?_;refine tq 18 ?_;refine tq 19 ?_;refine tr 20 fun K hK=>?_;go_simp
   (go_at_call 131;((with_reducible refine(f_must_no _ _).mono ?_);rintro e w' ⟨rfl,rfl⟩))
   exact⟨rfl,deed_err HX.out bl⟩
 ·have g1:decide (0<g.lk.l.length)=false:=decide_eq_false hd;have g2:decide ((0:Int)<(g.lk.l.length:Int))=false:=decide_eq_false (by omega);have HX:=hid (show deed (.lift (k:Int) l.l) L.val=.error 10 by rw[HX2.out,if_pos (by rw[g1];simp)]);refine th w1 fun hS0=>?_;refine tq 0 ?_;refine tq 1 ?_;refine tq 2 ?_;refine tq 3 ?_;refine tq 4 ?_;refine tq 5 ?_;refine tq 6 ?_;refine tv 7 ?_;refine tv 8 ?_;refine tv 9 ?_;refine tv 10 ?_;refine tv 11 ?_;refine tv 12 ?_;refine tv 13 ?_;refine tv 14 ?_;refine tv 15 ?_;refine tv 16 ?_;refine tv 17 ?_;refine tv 18 ?_;refine tq 19 ?_;refine tr 20 fun K hK=>?_;go_simp
  (go_at_call 131;((with_reducible refine(f_must_no _ _).mono ?_);rintro e w' ⟨rfl,rfl⟩))
  exact⟨rfl,deed_err HX.out bl⟩
end Go.Proofs.YtjkkfcghkeoedaaGreatDoor.Fi
