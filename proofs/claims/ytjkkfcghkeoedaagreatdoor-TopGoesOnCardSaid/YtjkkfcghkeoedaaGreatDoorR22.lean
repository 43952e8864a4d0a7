/- The parts of the proof, part 22. -/
import Derived.Test.YtjkkfcghkeoedaaGreatDoorR0
import Derived.Test.YtjkkfcghkeoedaaGreatDoorR17
import Derived.Test.YtjkkfcghkeoedaaGreatDoorR21
import Derived.Deep.DeepCutAuto
set_option maxHeartbeats 16000000
set_option maxRecDepth 20000
set_option linter.unusedSimpArgs false
set_option linter.unusedVariables false
namespace Go.Proofs.YtjkkfcghkeoedaaGreatDoor.Fi
open Go.RowKit Go.Lib Tx
theorem d_look (m:ByteArray) (T:Nat->Prop) (nb sb rb:Nat) (L:LS) (w:World) (hN:Nxt T nb sb rb w L) (hI:Inv L.val) (hms:m.size<=maxLen):
  Calls Tryz.prog 285 #[.agg #[.string m],.pointer (some ⟨nb,0,none⟩)] w (DeedP (.look m) T nb sb rb L w):=by
 have x0:=Blk.new w 185 #[.string m];have B0:=bl_alloc (below_refl w) (.cells #[.string m] 185);have b0:=x0.cell 0;simp only[GA] at b0;have hN0:=hN.on B0;have lnb:=hN0.lt;have lw:=x0.lt;have hfn:=hN0.blk.frozen;have dd0:0<=L.day:=hI.d0;have dd1:L.day<=100000:=hI.d1;have hit:G.vldG L.items.l=true:=hI.it;have hiw:∀x∈L.items.l,G.IW x:=hI.iw;have hil:L.items.l.length<=100000:=by have:=G.vldG_len hit;omega
 have hcap:=hN0.items.lc;have hcm:=hN0.items.cm;obtain⟨D,hD⟩:∃D,D=min (L.day+180) 100000:=⟨_,rfl⟩;have hw1:IntKind.i64.wrap (L.day+180)=L.day+180:=fits_wrap ⟨by omega,by omega⟩;have HX2:=hid (show deed (.look m) L.val=if G.lkE L.items.l m D≠0 then .error (G.lkE L.items.l m D) else .ok {L.val with items:=G.lkL L.items.l m D} by rw[hD];rfl);have c17:(w.alloc (.cells #[.string m] 185)).cell? ⟨nb,17,none⟩=some (.int .i64 L.day):=hN0.cel 17 _ rfl;have c21:(w.alloc (.cells #[.string m] 185)).cell? ⟨nb,21,none⟩=some (.slice L.items.a L.items.l.length L.items.c):=hN0.cel 21 _ rfl;go_enter Tryz.func285,Tryz.ntmps285
 go_upto_region 1 with fail
 generalize (w.alloc (.cells #[.string m] 185))=w1 at *;have HLK:=hid (fun w' (h:Below w1.heap.size w1 w')=>G.l_Looked L.items.a L.items.l L.items.c m D w' hil hcap hcm ((hN0.on h).items.rd) hiw hms);have HN0:=hid hN0;clear hI hN0 hit hiw hcap hcm;have HMN:=hid hD;clear hD;refine wp_region_noPanic ?_;refine th w1 fun hS0=>?_;refine tq 0 ?_;refine tq 1 ?_;refine tq 2 ?_;refine tq 3 ?_;refine tq 4 ?_;refine tq 5 ?_;refine tq 6 ?_;refine tq 7 ?_;refine tq 8 ?_;refine tq 9 ?_;refine tq 10 ?_;refine tq 11 ?_;refine tr 12 fun K hK=>?_;go_simp
 (go_at_call 287;(first|rw[show min (L.day+180) 100000=D from HMN.out.symm]|skip);((with_reducible refine(HLK.out _ bl).mono ?_);rintro e w3 ⟨A3,c3,rfl,hR3,hl3,hm3,hf3',hb3⟩;obtain⟨hc3,hf3,hz3⟩:=qz hb3))
 refine hK.out _ _ kq (fun hS1=>?_);clear hK K;try simp only[AP]
 refine tq 13 ?_;refine tq 14 ?_;refine tq 15 ?_;refine tq 16 ?_;refine tq 17 ?_;refine wpAnyH_done (by kernel_rfl) (NoPanic.normal ?_) _;by_cases hz:G.lkE L.items.l m D=0
 rotate_left
 ·have HNZ:=hid hz;have HX:=hid (show deed (.look m) L.val=.error (G.lkE L.items.l m D) by rw[HX2.out,if_pos hz]);clear hz;generalize G.lkE L.items.l m D=ER at *;go_wp2_with (go_at_call 281;((with_reducible refine(f_passed_no _ HNZ.out _).mono ?_);rintro e w' ⟨rfl,rfl⟩))
  exact⟨rfl,deed_err HX.out bl⟩
 have HX:=hid (show deed (.look m) L.val=.ok {L.val with items:=G.lkL L.items.l m D} by rw[HX2.out,if_neg (by rw[hz];simp)]);rw[hz];have B3:Below w1.heap.size w1 w3:=bl;obtain⟨hcx,hfx⟩:=bcell B3;have q21:=(hcx nb 21 lnb).trans c21;have qf:=(hfx nb 21 lnb).trans (hfn 21);go_wp2_with (go_at_call 281;((with_reducible refine(f_passed_ok _).mono ?_);rintro e w' ⟨rfl,rfl⟩))
 go_end0
 have st:=nb_step (nb:=nb) (below_tr B0 B3) 21 (.slice A3 (G.lkL L.items.l m D).length c3);have K:=hN.kept st;have hG5:Got (fun b=>w.heap.size<=b) w3 G.It.cs 4 ⟨A3,G.lkL L.items.l m D,c3⟩:=⟨hR3,fun hne a ha=>(by have h:=hf3' a ha;have:=B0.size;(try simp only[SZ] at h);show w.heap.size<=a.block;omega),hl3,hm3⟩;have hG6:=got_new (T:=T) (sb:=sb) (rb:=rb) hG5 hN.lt (Stp.setCell (N:=fun b=>b=nb) (p:=⟨nb,21,none⟩) (Stp.refl _ w3) (.inl rfl) (.slice A3 (G.lkL L.items.l m D).length c3));exact deed_ok (L':={L with items:=⟨A3,G.lkL L.items.l m D,c3⟩}) HX.out rfl ⟨(HN0.out.blk.below B3 lnb).set_ 21 (.slice A3 (G.lkL L.items.l m D).length c3),⟨K.su,K.gusts,K.rigs,K.rk,K.sites,K.sk,hG6,K.back⟩,K.stp,rfl,rfl⟩
theorem rdRg {w:World} {A:Option Addr} {l:List LRg} (h:Rd LRg.cs 2 w A l) {k:Nat} (hk:k<l.length):
  ∃x b off,l[k]?=some x∧A=some ⟨b,off,none⟩∧b<w.heap.size∧w.cell? ⟨b,off+k*2,none⟩=some (.int .i64 x.st)∧w.cell? ⟨b,off+k*2+1,none⟩=some (.slice x.lk.a x.lk.l.length x.lk.c):=by
 obtain⟨x,hx⟩:=get_lt hk;obtain⟨b,off,e,hb,hc⟩:=h.get hx;exact⟨x,b,off,hx,e,hb,hc 0 _ rfl,hc 1 _ rfl⟩
section
open G
theorem c_indexRg (A:Option Addr) (l:List (LRg)) (c:Nat) (p:LRg->Bool) (f:FuncId) (cap:Array Value) (w:World) (hl:l.length<=100000) (hR:Rd LRg.cs 2 w A l)
  (he:∀args W,(callFunc f args).run Tryz.prog W=.ok (.enter f args) W)
  (hf:∀W x,Below w.heap.size w W->x∈l->Calls Tryz.prog f (#[.agg #[.int .i64 x.st,.slice x.lk.a x.lk.l.length x.lk.c]]++cap) W fun e W'=>e=.returned (.bool (p x))∧Below W.heap.size W W'):
  Calls Tryz.prog 283 #[.slice A l.length c,.func (.func f) #[] cap] w fun e w'=>e=.returned (.int .i64 (idxOf p l 0))∧Below w.heap.size w w':=by
 have HF:=hid hf;clear hf;go_enter Tryz.func283,Tryz.ntmps283
 go_wp2;go_loopw [8] (fun i wr=>∃k:Nat,k<=l.length∧i=.int .i64 k∧Below w.heap.size w wr∧Hid (idxOf p l 0=idxOf p (l.drop k) k)) (fun i _=>l.length-(RowKit.intOf i).toNat)
 case atStart=>exact⟨0,by omega,rfl,Below.refl _ _,rfl⟩
 case round=>
  obtain⟨k,hk,rfl,hB,HI⟩:=hrel;by_cases hlt:k<l.length
  ·obtain⟨x,b,off,hx,rfl,hb,c0,c1⟩:=rdRg (hR.on hB) hlt;have HD:=hid (idxOf_drop p l k x hx);have hm:=List.mem_of_getElem? hx;have HC:=hid (HF.out wr x hB hm);clear hx hm;cases hp:p x
   all_goals
    have HP:=hid hp;clear hp;go_wp2_with fail
    refine HC.out.mono ?_;rintro e w1 ⟨rfl,hb1⟩;rw[HP.out];go_wp2
   ·go_roundw
    case rel=>exact⟨k+1,by omega,by go_num,hB.trans (hb1.mono hB.size),by rw[HI.out,HD.out,HP.out];rfl⟩
    case measure=>simp[RowKit.intOf];omega
   ·go_ret;exact⟨ret_int (by rw[HI.out,HD.out,HP.out];rfl),hB.trans (hb1.mono hB.size)⟩
  ·go_wp2;go_ret;exact⟨ret_int (by rw[HI.out,List.drop_of_length_le (by omega)];rfl),hB⟩
theorem c_containsRg (A:Option Addr) (l:List (LRg)) (c:Nat) (p:LRg->Bool) (f:FuncId) (cap:Array Value) (w:World) (hl:l.length<=100000) (hR:Rd LRg.cs 2 w A l)
  (he:∀args W,(callFunc f args).run Tryz.prog W=.ok (.enter f args) W)
  (hf:∀W x,Below w.heap.size w W->x∈l->Calls Tryz.prog f (#[.agg #[.int .i64 x.st,.slice x.lk.a x.lk.l.length x.lk.c]]++cap) W fun e W'=>e=.returned (.bool (p x))∧Below W.heap.size W W'):
  Calls Tryz.prog 276 #[.slice A l.length c,.func (.func f) #[] cap] w fun e w'=>e=.returned (.bool (l.any p))∧Below w.heap.size w w':=by
 have HC:=hid (c_indexRg A l c p f cap w hl hR he hf);have HA:=hid (idxOf_nonneg p l 0);clear he hf hR;go_enter Tryz.func276,Tryz.ntmps276
 go_wp2_with (go_at_call 283;refine HC.out.mono ?_;rintro e w' ⟨rfl,hb⟩)
 go_ret;exact⟨ret_bool (by rw[Bool.eq_iff_iff,←HA.out];simp),hb⟩
end
theorem f_cut1 (x:LRg) (i:Int) (cb:Nat) (w:World) (hc:w.cell? ⟨cb,0,none⟩=some (.int .i64 i)):
  Calls Tryz.prog 329 #[.agg #[.int .i64 x.st,.slice x.lk.a x.lk.l.length x.lk.c],.pointer (some ⟨cb,0,none⟩)] w fun e w'=>e=.returned (.bool (decide (x.st=i)&&decide (0<x.lk.l.length)))∧Below w.heap.size w w':=by
 have hb:cb<w.heap.size:=World.block_lt_of_cell? w ⟨cb,0,none⟩ hc;have hne:cb≠w.heap.size:=by omega
 by_cases h1:x.st=i
 ·have g1:(x.st==i)=true:=by simpa using h1
  rw[decide_eq_true h1,Bool.true_and];clear h1;generalize x.lk.l.length=n at *;have g2:decide (0<(n:Int))=decide (0<n):=by simp
  go_enter Tryz.func329,Tryz.ntmps329
  go_wp2;go_ret;exact⟨ret_bool (by first|rfl|exact g2|simp),bl⟩
 ·have g1:(x.st==i)=false:=by simpa using h1
  rw[decide_eq_false h1,Bool.false_and];clear h1;go_enter Tryz.func329,Tryz.ntmps329
  go_wp2;go_ret;exact⟨rfl,bl⟩
theorem f_rig11 (x:G.Lk) (m:ByteArray) (lb:Nat) (w:World) (hc:w.cell? ⟨lb,0,none⟩=some (.string m)):
  Calls Tryz.prog 279 #[.agg #[.string x.nm,.int .i64 x.fr],.pointer (some ⟨lb,0,none⟩)] w fun e w'=>e=.returned (.bool (x.nm.toList==m.toList))∧Below w.heap.size w w':=by
 have hb:lb<w.heap.size:=World.block_lt_of_cell? w ⟨lb,0,none⟩ hc;have hne:lb≠w.heap.size:=by omega
 go_enter Tryz.func279,Tryz.ntmps279
 go_wp2;go_ret;exact⟨rfl,bl⟩
theorem f_rig1 (x:LRg) (m:ByteArray) (lb:Nat) (w:World) (hc:w.cell? ⟨lb,0,none⟩=some (.string m)) (hl:x.lk.l.length<=100000) (hR:Rd G.Lk.cs 2 w x.lk.a x.lk.l):
  Calls Tryz.prog 277 #[.agg #[.int .i64 x.st,.slice x.lk.a x.lk.l.length x.lk.c],.pointer (some ⟨lb,0,none⟩)] w fun e w'=>e=.returned (.bool (x.lk.l.any fun k=>k.nm.toList==m.toList))∧Below w.heap.size w w':=by
 have hb:lb<w.heap.size:=World.block_lt_of_cell? w ⟨lb,0,none⟩ hc
 have HC:=Lib.hid (fun W (h:Below w.heap.size w W)=>G.c_containsL x.lk.a x.lk.l x.lk.c (fun k=>k.nm.toList==m.toList) 279 #[.pointer (some ⟨lb,0,none⟩)] W hl (hR.on h) (enters_of Tryz.func279 (by kernel_rfl) rfl)
  (fun V y hV _=>f_rig11 y m lb V (((bcell hV).1 lb 0 (Nat.lt_of_lt_of_le hb h.size)).trans (((bcell h).1 lb 0 hb).trans hc))))
 clear hR hc;go_enter Tryz.func277,Tryz.ntmps277
 go_wp2_with (go_at_call 278;refine(HC.out _ (bl_alloc (below_refl _) _)).mono ?_;rintro e w1 ⟨rfl,hb1⟩)
 go_ret;exact⟨rfl,bl⟩
theorem eqB_is (a b:ByteArray):eqB a b=(a.toList==b.toList):=by
 unfold eqB;rw[ByteArray.toList_eq,ByteArray.toList_eq,Bool.eq_iff_iff,decide_eq_true_iff,beq_iff_eq]
section
variable {T:Nat->Prop} {nb sb rb:Nat} {w w':World} {L:LS}
theorem Nxt.rigged (h:Nxt T nb sb rb w L) (hI:Inv L.val) (i:Int) (cb:Nat) (hc:w.cell? ⟨cb,0,none⟩=some (.int .i64 i)):
  Calls Tryz.prog 276 #[.slice L.rigs.a L.rigs.l.length L.rigs.c,.func (.func 329) #[] #[.pointer (some ⟨cb,0,none⟩)]] w fun e w'=>e=.returned (.bool (rggB L.val i))∧Below w.heap.size w w':=by
 have hcb:cb<w.heap.size:=World.block_lt_of_cell? w ⟨cb,0,none⟩ hc;have hrl:L.rigs.l.length<=50:=by have h:=hI.rl;unfold LS.val at h;dsimp only at h;rw[List.length_map] at h;exact h
 have e:rggB L.val i=L.rigs.l.any fun x=>decide (x.st=i)&&decide (0<x.lk.l.length):=by
  unfold rggB LS.val;dsimp only;rw[List.any_map];rfl
 rw[e];exact c_containsRg L.rigs.a L.rigs.l L.rigs.c _ _ #[.pointer (some ⟨cb,0,none⟩)] w (by omega) h.rrd (enters_of Tryz.func329 (by kernel_rfl) rfl) fun W x hW _=>f_cut1 x i cb W (((bcell hW).1 cb 0 hcb).trans hc)
theorem Nxt.hangs (h:Nxt T nb sb rb w L) (hI:Inv L.val) (m:ByteArray) (lb:Nat) (hc:w.cell? ⟨lb,0,none⟩=some (.string m)):
  Calls Tryz.prog 276 #[.slice L.rigs.a L.rigs.l.length L.rigs.c,.func (.func 277) #[] #[.pointer (some ⟨lb,0,none⟩)]] w fun e w'=>e=.returned (.bool (hangB L.val m))∧Below w.heap.size w w':=by
 have hlb:lb<w.heap.size:=World.block_lt_of_cell? w ⟨lb,0,none⟩ hc;have hrl:L.rigs.l.length<=50:=by have h:=hI.rl;unfold LS.val at h;dsimp only at h;rw[List.length_map] at h;exact h
 have e:hangB L.val m=L.rigs.l.any fun x=>x.lk.l.any fun k=>k.nm.toList==m.toList:=by
  unfold hangB LS.val;dsimp only;rw[List.any_map];congr 1;funext x;show(x.lk.l.any fun k=>eqB k.nm m)=_;congr 1;funext k;exact eqB_is _ _
 rw[e];refine c_containsRg L.rigs.a L.rigs.l L.rigs.c _ _ #[.pointer (some ⟨lb,0,none⟩)] w (by omega) h.rrd (enters_of Tryz.func277 (by kernel_rfl) rfl) fun W x hW hx=>?_;have h1:=(hI.rk x.val (by unfold LS.val;exact List.mem_map.2 ⟨x,hx,rfl⟩)).1;exact f_rig1 x m lb W (((bcell hW).1 lb 0 hlb).trans hc) (by unfold LRg.val at h1;dsimp only at h1;omega) ((h.on hW).rk x hx).rd
end
theorem wnd_zero {l:List S.Course} {p s:Int} (h:S.validC l=true) (p0:0<=p) (p1:p<=10000) (s0:0<=s) (s1:s<=3):S.windyE l 0 p s=0:=by
 have hl:=h;unfold S.validC at hl;have h1:=(Bool.and_eq_true_iff.1 hl).1;have e0:S.wn 0 0 ((l.length:Int)-1)=true:=by unfold S.wn at h1 ⊢;simp at h1 ⊢;omega
 have e1:S.wn p 0 10000=true:=by unfold S.wn;simp;omega
 have e2:S.wn s 0 3=true:=by unfold S.wn;simp;omega
 unfold S.windyE;rw[if_pos h,e0,e1,e2];rfl
theorem gst_bd {x:St} (h:Inv x):0<=max 0 (x.gusts.getLastD 0)∧max 0 (x.gusts.getLastD 0)<=200:=by
 have:-1<=x.gusts.getLastD 0∧x.gusts.getLastD 0<=200:=by
  cases hg:x.gusts.getLast? with
  |none=>rw[List.getLastD_eq_getLast?,hg];simp
  |some g=>rw[List.getLastD_eq_getLast?,hg];exact h.gb g (List.mem_of_getLast? hg)
 omega
theorem sd_all {f:Nat->Bool} {k:Nat} (h:∀j,j<k->f j=true):(List.range k).all f=true:=List.all_eq_true.2 fun j hj=>h j (by simpa using hj)
theorem sd_not {f:Nat->Bool} {k n:Nat} (hk:k<n) (h:f k=false):(List.range n).all f=false:=by
 rw[List.all_eq_false];exact⟨k,by simpa using hk,by rw[h];simp⟩
theorem d_cut (i:Int) (T:Nat->Prop) (nb sb rb:Nat) (L:LS) (w:World) (hN:Nxt T nb sb rb w L) (hI:Inv L.val):
  Calls Tryz.prog 327 #[.agg #[.int .i64 i],.pointer (some ⟨nb,0,none⟩)] w (DeedP (.cut i) T nb sb rb L w):=by
 have x0:=Blk.new w 242 #[.int .i64 i];have B0:=bl_alloc (below_refl w) (.cells #[.int .i64 i] 242);have b0:=x0.cell 0;simp only[GA] at b0;have hN0:=hN.on B0;have hsl:L.sites.l.length<=8:=hI.slen;have hsl0:L.sites.l.length<=1000:=by omega
 cases hth:thB L.val i
 ·have HX:=Lib.hid (show deed (.cut i) L.val=.error 5 by unfold deed;dsimp only;rw[if_pos hth]);have HAT:=Lib.hid (f_at_no nb L i _ hN0.cel hsl0 hth);go_enter Tryz.func327,Tryz.ntmps327
  go_wp2_with (go_at_call 274;((with_reducible refine(HAT.out).mono ?_);rintro e w' ⟨rfl,rfl⟩))
  exact⟨rfl,deed_err HX.out B0⟩
 obtain⟨i0,i1⟩:=thB_iff.1 hth;obtain⟨k,rfl⟩:=Int.eq_ofNat_of_zero_le i0;have hk:k<L.sites.l.length:=by omega
 obtain⟨s,cur,hs,ha,hbs,hir,c0,c1,c2⟩:=hN0.site hk;have hfz:=hbs.frozen;have HAT:=Lib.hid (f_at nb L k _ sb 0 hN0.cel hsl0 hk ha);have HSA:=Lib.hid (siteA_of hs);have hsm:=hI.men hs;have lsb:=hbs.lt;have lnb:=hN0.lt;have lw:=x0.lt;obtain⟨y,jb,jo,hy,hja,ljb,cj,hJ,hJv⟩:=hN0.stks hI hk;have hJl:y.l.length<=100000:=by have:=(S.valid_all hJv).2.2;omega
 have HJA:=Lib.hid (stkA_of hy);have hkj:(k:Int)<(L.x.stk.l.length:Int):=by rw[hI.lens.1];omega
 obtain⟨g0,g1⟩:=gst_bd hI;obtain⟨G,hG⟩:∃G,G=max 0 (L.val.gusts.getLastD 0):=⟨_,rfl⟩;obtain⟨P2,hP2⟩:∃P,P=G*G:=⟨_,rfl⟩;rw[←hG] at g0 g1;have p0:0<=P2:=by rw[hP2];exact Int.mul_nonneg g0 g0
 have p1:P2<=200*200:=by rw[hP2];exact Int.mul_le_mul g1 g1 g0 (by omega)
 obtain⟨Q,hQ⟩:∃Q,Q=P2/20:=⟨_,rfl⟩;obtain⟨PR,hPR⟩:∃P,P=min Q 10000:=⟨_,rfl⟩;have HGS:=Lib.hid (show gstP L.val=PR by unfold gstP;rw[←hG,←hP2,←hQ,←hPR]);have r0:0<=PR:=by omega
 have r1:PR<=10000:=by omega
 have hw1:IntKind.i64.wrap (G*G)=P2:=by rw[←hP2];exact fits_wrap ⟨by omega,by omega⟩
 have hw2:P2.tdiv 20=Q:=by rw[hQ,Int.tdiv_eq_ediv_of_nonneg p0]
 have hw3:IntKind.i64.wrap Q=Q:=fits_wrap ⟨by omega,by omega⟩;have HMN:=Lib.hid hPR;have HQ0:=Lib.hid (show G=0->P2=0∧Q=0 from fun h=>by rw[h] at hP2;rw[hQ,hP2];exact⟨rfl,rfl⟩)
 have HX2:=Lib.hid (show deed (.cut (k:Int)) L.val=if (!s.fel&&(decide (upN L.val=0) && !rggB L.val (k:Int)))=false then .error 10 else if goB L.val L.val.gusts=false then .error 11
   else if ((List.range 4).all fun j=>S.standsR y.l PR (j:Int))=false then .error 11 else .ok (setS L.val (k:Int) {s.val with fel:=true,dogs:=[]}) by
  unfold deed;dsimp only;rw[if_neg (by rw[hth];simp),HSA.out,HJA.out,HGS.out,wnd_zero hJv r0 r1 (by omega) (by omega)];rfl)
 have hgl:L.gusts.l.length<=2000:=hI.gl;have hGL:0<L.gusts.l.length->∃x,L.gusts.l[L.gusts.l.length-1]?=some x∧G=max 0 x:=fun h=>by
  obtain⟨x,hx⟩:=get_lt (l:=L.gusts.l) (k:=L.gusts.l.length-1) (by omega);refine⟨x,hx,?_⟩;rw[hG];show max 0 (L.gusts.l.getLastD 0)=_;rw[List.getLastD_eq_getLast?,List.getLast?_eq_getElem?,hx];rfl
 have hG0:¬0<L.gusts.l.length->G=0:=fun h=>by
  rw[hG];show max 0 (L.gusts.l.getLastD 0)=_;rw[List.eq_nil_of_length_eq_zero (by omega:L.gusts.l.length=0)];rfl
 have c0x:(w.alloc (.cells #[.int .i64 (k:Int)] 242)).cell? ⟨sb,k*3,none⟩=some (.slice s.dogs.a s.dogs.l.length s.dogs.c):=c0;have c18:(w.alloc (.cells #[.int .i64 (k:Int)] 242)).cell? ⟨nb,18,none⟩=some (.slice L.gusts.a L.gusts.l.length L.gusts.c):=hN0.cel 18 _ rfl;have c19:(w.alloc (.cells #[.int .i64 (k:Int)] 242)).cell? ⟨nb,19,none⟩=some (.slice L.rigs.a L.rigs.l.length L.rigs.c):=hN0.cel 19 _ rfl;have cja:(w.alloc (.cells #[.int .i64 (k:Int)] 242)).cell? ⟨nb,0,none⟩=some (.slice (some ⟨jb,jo,none⟩) L.x.stk.l.length L.x.stk.c):=by rw[←hja];exact hN0.cel 0 _ rfl
 have HGR:=Lib.hid hN0.gusts.rd;clear c0 hG hP2 hQ hPR;go_enter Tryz.func327,Tryz.ntmps327
 go_upto_region 2 with (go_at_call 274;((with_reducible refine(HAT.out).mono ?_);rintro e w' ⟨rfl,rfl⟩))
 generalize (w.alloc (.cells #[.int .i64 (k:Int)] 242))=w1 at *;have HRG:=Lib.hid ((hN0).rigged hI (k:Int) w.heap.size b0);have HALr:=Lib.hid (fun w' (h:Below w1.heap.size w1 w')=>(hN0.on h).aloft hI);have HGV:=Lib.hid (fun w' (h:Below w1.heap.size w1 w') v hv=>(hN0.on h).goes hI (v:=v) hv);have HST:=Lib.hid (fun w' (h:Below w1.heap.size w1 w') sd=>S.s_stands y.a y.l y.c PR sd w' hJl (hJ.on h).rd);have HWZ:=Lib.hid (fun(sd:Int) (h0:0<=sd) (h1:sd<=3)=>wnd_zero hJv r0 r1 h0 h1);have HN0:=Lib.hid hN0;have HGL:=Lib.hid hGL;have HG0:=Lib.hid hG0;clear hI hN0 hGL hG0 hJ;go_upto_region 3 with (go_at_call 276;((with_reducible refine HRG.out.mono ?_);rintro e w2 ⟨rfl,hb2⟩))
 obtain⟨hc2,hf2⟩:=bcell hb2;have lz2:=hb2.size;have HN2:=Lib.hid (HN0.out.on hb2);have HGR2:=Lib.hid (HGR.out.on hb2);have B2:Below w.heap.size w w2:=below_tr B0 hb2;replace b0:=(hc2 w.heap.size 0 lw).trans b0
 replace c1:=(hc2 sb (k*3+1) lsb).trans c1
 replace c0x:=(hc2 sb (k*3) lsb).trans c0x
 replace c18:=(hc2 nb 18 lnb).trans c18
 replace cja:=(hc2 nb 0 lnb).trans cja
 replace cj:=(hc2 jb (jo+k) ljb).trans cj
 have HAL:=Lib.hid (fun w' (h:Below w2.heap.size w2 w')=>HALr.out w' (below_tr hb2 h));have HGO2:=Lib.hid (fun w' (h:Below w2.heap.size w2 w') v hv=>HGV.out w' (below_tr hb2 h) v hv);have HSD:=Lib.hid (fun w' (h:Below w2.heap.size w2 w') sd=>HST.out w' (below_tr hb2 h) sd);clear hc2 hf2 c19 c2 HRG HALr HGV HST HGR;generalize hRB:rggB L.val (k:Int)=RB at *;generalize hU:upN L.val=U at *;have HRB:=Lib.hid hRB;clear hRB;have l2:∀z,z<w1.heap.size->z<w2.heap.size:=fun z hz=>by omega
 have lw2:=l2 _ lw;have lsb2:=l2 _ lsb;have lnb2:=l2 _ lnb;have ljb2:=l2 _ ljb;cases hfel:s.fel;rotate_left
 ·have HX:=Lib.hid (show deed (.cut (k:Int)) L.val=.error 10 by rw[HX2.out,hfel];rfl);rw[hfel] at c1;go_wp2_with (go_at_call 131;((with_reducible refine(f_must_no _ _).mono ?_);rintro e w' ⟨rfl,rfl⟩))
  exact⟨rfl,deed_err HX.out B2⟩
 rw[hfel] at c1;by_cases hz:U=0
 rotate_left
 ·have g3:(U==0)=false:=by simpa using hz
  have HX:=Lib.hid (show deed (.cut (k:Int)) L.val=.error 10 by rw[HX2.out,decide_eq_false hz];simp);clear hz hU;go_wp2_with (first|(go_at_call 268;((with_reducible refine(HAL.out _ bl).mono ?_);rintro e w3 ⟨rfl,hb3⟩;obtain⟨hc3,hf3,hz3⟩:=qz hb3))|(go_at_call 131;((with_reducible refine(f_must_no _ _).mono ?_);rintro e w' ⟨rfl,rfl⟩)))
  exact⟨rfl,deed_err HX.out (below_tr B2 bl)⟩
 have g3:(U==0)=true:=by simpa using hz
 have hzd:decide (U=0)=true:=decide_eq_true hz;clear hz hU;cases RB;rotate_left
 ·have HX:=Lib.hid (show deed (.cut (k:Int)) L.val=.error 10 by rw[HX2.out];simp);go_wp2_with (first|(go_at_call 268;((with_reducible refine(HAL.out _ bl).mono ?_);rintro e w3 ⟨rfl,hb3⟩;obtain⟨hc3,hf3,hz3⟩:=qz hb3))|(go_at_call 131;((with_reducible refine(f_must_no _ _).mono ?_);rintro e w' ⟨rfl,rfl⟩)))
  exact⟨rfl,deed_err HX.out (below_tr B2 bl)⟩
 cases hgo:goB L.val L.val.gusts
 ·have HX:=Lib.hid (show deed (.cut (k:Int)) L.val=.error 11 by rw[HX2.out,hfel,hzd,hgo];rfl);have HGO:=Lib.hid (fun w' (h:Below w2.heap.size w2 w')=>HGO2.out w' h _ hgo);go_wp2_with (first|(go_at_call 268;((with_reducible refine(HAL.out _ bl).mono ?_);rintro e w3 ⟨rfl,hb3⟩;obtain⟨hc3,hf3,hz3⟩:=qz hb3))|(go_at_call 102;((with_reducible refine(HGO.out _ bl).mono ?_);rintro e w4 ⟨rfl,hb4⟩;obtain⟨hc4,hf4,hz4⟩:=qz hb4))|(go_at_call 131;first|((with_reducible refine(f_must_ok _ _).mono ?_);rintro e w' ⟨rfl,rfl⟩)|((with_reducible refine(f_must_no _ _).mono ?_);rintro e w' ⟨rfl,rfl⟩)))
  exact⟨rfl,deed_err HX.out (below_tr B2 bl)⟩
 have HX3:=Lib.hid (show deed (.cut (k:Int)) L.val=if ((List.range 4).all fun j=>S.standsR y.l PR (j:Int))=false then .error 11 else .ok (setS L.val (k:Int) {s.val with fel:=true,dogs:=[]}) by rw[HX2.out,hfel,hzd,hgo];rfl);have HGO:=Lib.hid (fun w' (h:Below w2.heap.size w2 w')=>HGO2.out w' h _ hgo);go_upto_region 5 with (first|(go_at_call 268;((with_reducible refine(HAL.out _ bl).mono ?_);rintro e w3 ⟨rfl,hb3⟩;obtain⟨hc3,hf3,hz3⟩:=qz hb3))|(go_at_call 102;((with_reducible refine(HGO.out _ bl).mono ?_);rintro e w4 ⟨rfl,hb4⟩;obtain⟨hc4,hf4,hz4⟩:=qz hb4))|(go_at_call 131;((with_reducible refine(f_must_ok _ _).mono ?_);rintro e w' ⟨rfl,rfl⟩)))
 have B4:Below w2.heap.size w2 w4:=bl;obtain⟨hcx,hfx⟩:=bcell B4;have lz4:=B4.size;have HN4:=Lib.hid (HN2.out.on B4);have HGR4:=Lib.hid (HGR2.out.on B4);replace b0:=(hcx w.heap.size 0 lw2).trans b0
 replace c1:=(hcx sb (k*3+1) lsb2).trans c1
 replace c0x:=(hcx sb (k*3) lsb2).trans c0x
 replace c18:=(hcx nb 18 lnb2).trans c18
 replace cja:=(hcx nb 0 lnb2).trans cja
 replace cj:=(hcx jb (jo+k) ljb2).trans cj
 have l4:∀z,z<w2.heap.size->z<w4.heap.size:=fun z hz=>by omega
 have lw4:=l4 _ lw2;have lsb4:=l4 _ lsb2;have lnb4:=l4 _ lnb2;have ljb4:=l4 _ ljb2;have BB4:Below w.heap.size w w4:=below_tr B2 B4;have HS4:=Lib.hid (fun w' (h:Below w4.heap.size w4 w') sd=>HSD.out w' (below_tr B4 h) sd);clear hcx hfx HN2 HGR2 HAL HGO HGO2 HSD hb3 hb4 hc3 hf3 hc4 hf4 hz3 hz4 B4 hb2;by_cases hgn:0<L.gusts.l.length
 ·obtain⟨x,hx,hGx⟩:=HGL.out hgn;obtain⟨m,hm⟩:∃m,L.gusts.l.length=m+1:=⟨L.gusts.l.length-1,by omega⟩;obtain⟨x',gb,go,hx',hga,hgb,cg⟩:=rd_int HGR4.out (k:=m) (by omega);obtain rfl:x'=x:=by rw[show L.gusts.l.length-1=m by omega] at hx;rw[hx] at hx';cases hx';rfl
  have hwm:IntKind.i64.wrap ((L.gusts.l.length:Int)-1)=(m:Int):=by rw[fits_wrap ⟨by omega,by omega⟩];omega
  have m0:=nn m;have m1:(m:Int)<(L.gusts.l.length:Int):=by omega
  have d1:decide (0<(L.gusts.l.length:Int))=true:=decide_eq_true (by omega);have d2:decide (0<L.gusts.l.length)=true:=decide_eq_true hgn;have hGx':max 0 x'=G:=hGx.symm;rw[hga] at c18;clear hx hx' hGx hm hgn hga;generalize L.gusts.l.length=GN at *;go_wp2;go_loopw [59] (fun i wr=>∃j:Nat,j<=4∧i=.int .i64 j∧Below w4.heap.size w4 wr∧Hid (∀q:Nat,q<j->S.standsR y.l PR (q:Int)=true)) (fun i _=>4-(RowKit.intOf i).toNat)
  case atStart=>exact⟨0,by omega,rfl,below_refl _,Lib.hid (fun q hq=>by omega)⟩
  case round=>
   obtain⟨j,hj,rfl,hbw,HI⟩:=hrel;have j0:=nn j;obtain⟨hcr,hfr⟩:=bcell hbw;have lzr:=hbw.size;by_cases hlt:j<4
   ·have j1:(j:Int)<4:=by omega
    have rb0:=(hcr w.heap.size 0 lw4).trans b0;have rja:=(hcr nb 0 lnb4).trans cja;have rj:=(hcr jb (jo+k) ljb4).trans cj;have lr:∀z,z<w4.heap.size->z<wr.heap.size:=fun z hz=>by omega
    have lwr:=lr _ lw4;have lnbr:=lr _ lnb4;have ljbr:=lr _ ljb4;have HZ:=HWZ.out (j:Int) j0 (by omega);have HSS:=Lib.hid (fun w' (h:Below wr.heap.size wr w')=>HS4.out w' (below_tr hbw h) (j:Int));rw[HZ] at HSS;clear hcr hfr b0 cja cj HZ;cases hst:S.standsR y.l PR (j:Int)
    ·rw[hst] at HSS;have HX:=Lib.hid (show deed (.cut (k:Int)) L.val=.error 11 by rw[HX3.out,if_pos (sd_not hlt hst)]);clear hst;go_upto_region 12 with fail
     refine wp_region_noPanic ?_;refine th wr fun hS0=>?_;refine tq 0 ?_;refine tq 1 ?_;refine tq 2 ?_;refine tq 3 ?_;refine tq 4 ?_;refine tq 5 ?_;refine tq 6 ?_;refine tq 7 ?_;refine tq 8 ?_;refine tq 9 ?_;refine tq 10 ?_;refine tq 11 ?_;refine tq 12 ?_;refine tq 13 ?_;refine tq 14 ?_;refine tr 15 fun K hK=>?_;go_simp
     (go_at_call 330;(first|rw[show min Q 10000=PR from HMN.out.symm]|rw[show min 0 10000=PR from HMN.out.symm]|skip);((with_reducible refine(HSS.out _ bl).mono ?_);rintro e w5 ⟨rfl,hb5⟩;obtain⟨hc5,hf5,hz5⟩:=qz hb5))
     refine hK.out _ _ kq (fun hS1=>?_);clear hK K;try simp only[AP]
     refine tq 16 ?_;refine tq 17 ?_;refine tq 18 ?_;refine tq 19 ?_;refine tq 20 ?_;refine wpAnyH_done (by kernel_rfl) (NoPanic.normal ?_) _;go_wp2_with (first|(go_at_call 281;((with_reducible refine(f_passed_ok _).mono ?_);rintro e w' ⟨rfl,rfl⟩))|(go_at_call 131;((with_reducible refine(f_must_no _ _).mono ?_);rintro e w' ⟨rfl,rfl⟩)))
     exact⟨rfl,deed_err HX.out (below_tr BB4 (below_tr hbw bl))⟩
    ·rw[hst] at HSS;have HST:=Lib.hid hst;clear hst;go_upto_region 12 with fail
     refine wp_region_noPanic ?_;refine th wr fun hS0=>?_;refine tq 0 ?_;refine tq 1 ?_;refine tq 2 ?_;refine tq 3 ?_;refine tq 4 ?_;refine tq 5 ?_;refine tq 6 ?_;refine tq 7 ?_;refine tq 8 ?_;refine tq 9 ?_;refine tq 10 ?_;refine tq 11 ?_;refine tq 12 ?_;refine tq 13 ?_;refine tq 14 ?_;refine tr 15 fun K hK=>?_;go_simp
     (go_at_call 330;(first|rw[show min Q 10000=PR from HMN.out.symm]|rw[show min 0 10000=PR from HMN.out.symm]|skip);((with_reducible refine(HSS.out _ bl).mono ?_);rintro e w5 ⟨rfl,hb5⟩;obtain⟨hc5,hf5,hz5⟩:=qz hb5))
     refine hK.out _ _ kq (fun hS1=>?_);clear hK K;try simp only[AP]
     refine tq 16 ?_;refine tq 17 ?_;refine tq 18 ?_;refine tq 19 ?_;refine tq 20 ?_;refine wpAnyH_done (by kernel_rfl) (NoPanic.normal ?_) _;go_wp2_with (first|(go_at_call 281;((with_reducible refine(f_passed_ok _).mono ?_);rintro e w' ⟨rfl,rfl⟩))|(go_at_call 131;((with_reducible refine(f_must_ok _ _).mono ?_);rintro e w' ⟨rfl,rfl⟩)))
     go_roundw
     case rel=>exact⟨j+1,by omega,by go_num,below_tr hbw bl,Lib.hid (fun q hq=>by rcases Nat.lt_succ_iff_lt_or_eq.1 hq with h|rfl;exact HI.out q h;exact HST.out)⟩
     case measure=>simp[RowKit.intOf];omega
   ·obtain rfl:j=4:=by omega
    have HX:=Lib.hid (show deed (.cut (k:Int)) L.val=.ok (setS L.val (k:Int) {s.val with fel:=true,dogs:=[]}) by rw[HX3.out,if_neg (by rw[sd_all HI.out];simp)]);have BW:=below_tr BB4 hbw;have r1c:=(hcr sb (k*3+1) lsb4).trans c1;have r0c:=(hcr sb (k*3) lsb4).trans c0x;obtain⟨s0,cur',e0,ha',hbs',hir',_⟩:=(hN.on BW).site (i:=k) hk;obtain rfl:s=s0:=by rw[hs] at e0;cases e0;rfl
    have qf1:=hbs'.frozen (k*3+1);have qf0:=hbs'.frozen (k*3);clear hcr hfr;go_wp2;go_end0
    have st:Stp (fun g=>g=sb) w ((wr.setCell ⟨sb,k*3+1,none⟩ (.bool true)).setCell ⟨sb,k*3,none⟩ (.slice none 0 0)):=
     Stp.setCell (N:=fun g=>g=sb) (p:=⟨sb,k*3,none⟩) (Stp.setCell (N:=fun g=>g=sb) (p:=⟨sb,k*3+1,none⟩) ((Stp.refl _ _).below BW (Nat.le_refl _)) (.inl rfl) (.bool true)) (.inl rfl) (.slice none 0 0)
    have i1:=inrow_put (j:=1) (s':={s with fel:=true}) LSi.cs_len hir' hs rfl (fun r hr=>by rcases r with _|_|_|r<;>first|rfl|exact absurd rfl hr);have i2:=inrow_put (j:=0) (s:={s with fel:=true}) (s':={s with fel:=true,dogs:=⟨none,[],0⟩}) LSi.cs_len i1 (List.getElem?_set_self hk) rfl (fun r hr=>by rcases r with _|_|_|r<;>first|rfl|exact absurd rfl hr);rw[List.set_set] at i2;exact deed_ok HX.out (by rw[set_val (s':={s with fel:=true,dogs:=⟨none,[],0⟩})];rfl) (hN.doneS st ((hbs'.set_ _ _).set_ _ _) i2 ha (got_nil _ _ _ _))
 ·obtain rfl:G=0:=HG0.out hgn;obtain⟨rfl,rfl⟩:=HQ0.out rfl;have h0:L.gusts.l.length=0:=by omega
  rw[h0] at c18;clear hgn h0;go_wp2;go_loopw [59] (fun i wr=>∃j:Nat,j<=4∧i=.int .i64 j∧Below w4.heap.size w4 wr∧Hid (∀q:Nat,q<j->S.standsR y.l PR (q:Int)=true)) (fun i _=>4-(RowKit.intOf i).toNat)
  case atStart=>exact⟨0,by omega,rfl,below_refl _,Lib.hid (fun q hq=>by omega)⟩
  case round=>
   obtain⟨j,hj,rfl,hbw,HI⟩:=hrel;have j0:=nn j;obtain⟨hcr,hfr⟩:=bcell hbw;have lzr:=hbw.size;by_cases hlt:j<4
   ·have j1:(j:Int)<4:=by omega
    have rb0:=(hcr w.heap.size 0 lw4).trans b0;have rja:=(hcr nb 0 lnb4).trans cja;have rj:=(hcr jb (jo+k) ljb4).trans cj;have lr:∀z,z<w4.heap.size->z<wr.heap.size:=fun z hz=>by omega
    have lwr:=lr _ lw4;have lnbr:=lr _ lnb4;have ljbr:=lr _ ljb4;have HZ:=HWZ.out (j:Int) j0 (by omega);have HSS:=Lib.hid (fun w' (h:Below wr.heap.size wr w')=>HS4.out w' (below_tr hbw h) (j:Int));rw[HZ] at HSS;clear hcr hfr b0 cja cj HZ;cases hst:S.standsR y.l PR (j:Int)
    ·rw[hst] at HSS;have HX:=Lib.hid (show deed (.cut (k:Int)) L.val=.error 11 by rw[HX3.out,if_pos (sd_not hlt hst)]);clear hst;go_upto_region 12 with fail
     refine wp_region_noPanic ?_;refine th wr fun hS0=>?_;refine tq 0 ?_;refine tq 1 ?_;refine tq 2 ?_;refine tq 3 ?_;refine tq 4 ?_;refine tq 5 ?_;refine tq 6 ?_;refine tq 7 ?_;refine tq 8 ?_;refine tq 9 ?_;refine tq 10 ?_;refine tq 11 ?_;refine tq 12 ?_;refine tq 13 ?_;refine tq 14 ?_;refine tr 15 fun K hK=>?_;go_simp
     (go_at_call 330;(first|rw[show min Q 10000=PR from HMN.out.symm]|rw[show min 0 10000=PR from HMN.out.symm]|skip);((with_reducible refine(HSS.out _ bl).mono ?_);rintro e w5 ⟨rfl,hb5⟩;obtain⟨hc5,hf5,hz5⟩:=qz hb5))
     refine hK.out _ _ kq (fun hS1=>?_);clear hK K;try simp only[AP]
     refine tq 16 ?_;refine tq 17 ?_;refine tq 18 ?_;refine tq 19 ?_;refine tq 20 ?_;refine wpAnyH_done (by kernel_rfl) (NoPanic.normal ?_) _;go_wp2_with (first|(go_at_call 281;((with_reducible refine(f_passed_ok _).mono ?_);rintro e w' ⟨rfl,rfl⟩))|(go_at_call 131;((with_reducible refine(f_must_no _ _).mono ?_);rintro e w' ⟨rfl,rfl⟩)))
     exact⟨rfl,deed_err HX.out (below_tr BB4 (below_tr hbw bl))⟩
    ·rw[hst] at HSS;have HST:=Lib.hid hst;clear hst;go_upto_region 12 with fail
     refine wp_region_noPanic ?_;refine th wr fun hS0=>?_;refine tq 0 ?_;refine tq 1 ?_;refine tq 2 ?_;refine tq 3 ?_;refine tq 4 ?_;refine tq 5 ?_;refine tq 6 ?_;refine tq 7 ?_;refine tq 8 ?_;refine tq 9 ?_;refine tq 10 ?_;refine tq 11 ?_;refine tq 12 ?_;refine tq 13 ?_;refine tq 14 ?_;refine tr 15 fun K hK=>?_;go_simp
     (go_at_call 330;(first|rw[show min Q 10000=PR from HMN.out.symm]|rw[show min 0 10000=PR from HMN.out.symm]|skip);((with_reducible refine(HSS.out _ bl).mono ?_);rintro e w5 ⟨rfl,hb5⟩;obtain⟨hc5,hf5,hz5⟩:=qz hb5))
     refine hK.out _ _ kq (fun hS1=>?_);clear hK K;try simp only[AP]
     refine tq 16 ?_;refine tq 17 ?_;refine tq 18 ?_;refine tq 19 ?_;refine tq 20 ?_;refine wpAnyH_done (by kernel_rfl) (NoPanic.normal ?_) _;go_wp2_with (first|(go_at_call 281;((with_reducible refine(f_passed_ok _).mono ?_);rintro e w' ⟨rfl,rfl⟩))|(go_at_call 131;((with_reducible refine(f_must_ok _ _).mono ?_);rintro e w' ⟨rfl,rfl⟩)))
     go_roundw
     case rel=>exact⟨j+1,by omega,by go_num,below_tr hbw bl,Lib.hid (fun q hq=>by rcases Nat.lt_succ_iff_lt_or_eq.1 hq with h|rfl;exact HI.out q h;exact HST.out)⟩
     case measure=>simp[RowKit.intOf];omega
   ·obtain rfl:j=4:=by omega
    have HX:=Lib.hid (show deed (.cut (k:Int)) L.val=.ok (setS L.val (k:Int) {s.val with fel:=true,dogs:=[]}) by rw[HX3.out,if_neg (by rw[sd_all HI.out];simp)]);have BW:=below_tr BB4 hbw;have r1c:=(hcr sb (k*3+1) lsb4).trans c1;have r0c:=(hcr sb (k*3) lsb4).trans c0x;obtain⟨s0,cur',e0,ha',hbs',hir',_⟩:=(hN.on BW).site (i:=k) hk;obtain rfl:s=s0:=by rw[hs] at e0;cases e0;rfl
    have qf1:=hbs'.frozen (k*3+1);have qf0:=hbs'.frozen (k*3);clear hcr hfr;go_wp2;go_end0
    have st:Stp (fun g=>g=sb) w ((wr.setCell ⟨sb,k*3+1,none⟩ (.bool true)).setCell ⟨sb,k*3,none⟩ (.slice none 0 0)):=
     Stp.setCell (N:=fun g=>g=sb) (p:=⟨sb,k*3,none⟩) (Stp.setCell (N:=fun g=>g=sb) (p:=⟨sb,k*3+1,none⟩) ((Stp.refl _ _).below BW (Nat.le_refl _)) (.inl rfl) (.bool true)) (.inl rfl) (.slice none 0 0)
    have i1:=inrow_put (j:=1) (s':={s with fel:=true}) LSi.cs_len hir' hs rfl (fun r hr=>by rcases r with _|_|_|r<;>first|rfl|exact absurd rfl hr);have i2:=inrow_put (j:=0) (s:={s with fel:=true}) (s':={s with fel:=true,dogs:=⟨none,[],0⟩}) LSi.cs_len i1 (List.getElem?_set_self hk) rfl (fun r hr=>by rcases r with _|_|_|r<;>first|rfl|exact absurd rfl hr);rw[List.set_set] at i2;exact deed_ok HX.out (by rw[set_val (s':={s with fel:=true,dogs:=⟨none,[],0⟩})];rfl) (hN.doneS st ((hbs'.set_ _ _).set_ _ _) i2 ha (got_nil _ _ _ _))
end Go.Proofs.YtjkkfcghkeoedaaGreatDoor.Fi
