/- The parts of the proof, part 33. -/
import Derived.Test.YtjkkfcghkeoedaaGreatDoorR0
import Derived.Test.YtjkkfcghkeoedaaGreatDoorR32
set_option maxHeartbeats 16000000
set_option maxRecDepth 20000
set_option linter.unusedSimpArgs false
set_option linter.unusedVariables false
namespace Go.Proofs.YtjkkfcghkeoedaaGreatDoor.Fi
open Go.RowKit Go.Lib Go.Maps Tx
abbrev noB:Nat->Prop:=fun _=>False
abbrev mrk (D:Nat):Deferred:={target:=.collected D,args:=#[]}
def Marks (w:World) (Ds:List Nat):Prop:=Ds.Nodup∧∀D∈Ds,w.heap[D]?=some (.deferred (some []))
theorem Marks.nil (w:World):Marks w []:=⟨List.nodup_nil,fun _ h=>by cases h⟩
theorem Marks.stp {w w':World} {Ds:List Nat} {N:Nat->Prop} (h:Marks w Ds) (k:Stp N w w') (hn:∀D∈Ds,¬N D):Marks w' Ds:=
 ⟨h.1,fun D hD=>(k.block D (lt_of_block (h.2 D hD)) (hn D hD)).trans (h.2 D hD)⟩
theorem Marks.cons {w:World} {Ds:List Nat} {D:Nat} (h:Marks w Ds) (hD:w.heap[D]?=some (.deferred (some []))) (hn:D∉Ds):Marks w (D::Ds):=
 ⟨List.nodup_cons.2 ⟨hn,h.1⟩,fun E hE=>by rcases List.mem_cons.1 hE with rfl|hE;exact hD;exact h.2 E hE⟩
theorem leaves_marks {F:Fence} {n:Nat} {P:Program} {fn:Func} {tmps:Array Value} {R:Ending->World->Prop} {u:FrameMode} (hu:u≠.run):∀(Ds:List Nat) (w:World),Marks w Ds ->
  (∀w',Stp (fun b=>b∈Ds) w w'->LeavesIn F n P fn tmps R [] u w')->LeavesInM F n P fn tmps R (Ds.map mrk) u w
 |[],w,_,h=>h w (Stp.refl _ _)
 |D::Ds,w,hm,h=>by
  have hD:=hm.2 D (List.mem_cons_self ..);obtain⟨h1,h2⟩:=List.nodup_cons.1 hm.1;refine⟨hu,.inl ⟨D,_,rfl,run_takeDeferred hD,?_⟩⟩;have hs:Stp (fun b=>b=D) w (w.putObj D (.deferred none)):=Stp.putObj (Stp.refl (fun b=>b=D) w) (.inl rfl) _;refine leaves_marks hu Ds _ ⟨h2,fun E hE=>?_⟩ fun w' hw'=>?_
  ·exact(hs.block E (lt_of_block (hm.2 E (List.mem_cons_of_mem _ hE))) (fun e=>h1 (e▸hE))).trans (hm.2 E (List.mem_cons_of_mem _ hE))
  ·exact h w' ((hs.mono fun b _ hb=>by subst hb;exact List.mem_cons_self ..).trans (hw'.mono fun b _ hb=>List.mem_cons_of_mem _ hb))
theorem load_er {W:World} {b:Nat} {x:Value} (h:Blk W b 36 #[x]):(loadVar 36 ⟨b,0,none⟩).run Tryz.prog W=.ok x W:=by
 have c0:=h.cell 0;simp only[List.getElem?_toArray,List.getElem?_cons_zero] at c0;go_simp
theorem load_sl {W:World} {b:Nat} {x:Value} (h:Blk W b 40 #[x]):(loadVar 40 ⟨b,0,none⟩).run Tryz.prog W=.ok x W:=by
 have c0:=h.cell 0;simp only[List.getElem?_toArray,List.getElem?_cons_zero] at c0;go_simp
section
variable {fn:Func} {p q:Tmp} {ty ty':TypeId} {tmps:Array Value} {P:Program} {w:World} {a a':Addr} {x x':Value}
theorem res_cc (h:fn.results=#[.cell p ty,.cell q ty']) (hp:tmps.getD p undef=.pointer (some a)) (hl:(loadVar ty a).run P w=.ok x w) (hp':tmps.getD q undef=.pointer (some a')) (hl':(loadVar ty' a').run P w=.ok x' w):
  (results fn tmps).run P w=.ok (.tuple #[x,x']) w:=by
 simp only[results,h];simp at hp hp';simp[Sem.run_bind,Result.andThen,hp,hp',asAddr,hl,hl']
end
def LadP (x:Wl) (w:World) (e:Ending) (w':World):Prop:=∃A c,e=.returned (.tuple #[.slice A (ladL x).length c,.int .i64 (ladE x)])∧Rd zC 1 w' A (ladL x)∧Below w.heap.size w w'
theorem enters_sets:∀args w,(callFunc 225 args).run Tryz.prog w=.ok (.enter 225 args) w:=enters_of Tryz.func225 (by kernel_rfl) rfl
section
variable {β:Type} {B:Nat}
theorem abide_marks {Ds:List Nat} (hD:∀D∈Ds,D+2<B):Abide B (fun(_:β) (_:Nat->Prop) W=>Marks W Ds):=fun _ M M' W W' hs hM hMM _ _ hst=>
 hs.stp hst (fun D hd hn=>by have h1:=hD D hd;rcases hn with hn|hn|hn;(have:=hM _ (hMM _ hn);omega);omega;omega)
theorem abide_row2 {e:TypeId} {sz k:Nat} {v:Value} {xs:List Value}:Abide B (fun(_:β) (M:Nat->Prop) W=>W.ownsRow B e sz v k xs∧∀g,v.ownBlock=some g->¬M g):=fun _ M M' W W' hs hM hMM hnew _ hst=>by
 refine⟨own_stp hs.1 hst (fun g hg hn=>?_),fun g hg hn=>?_⟩
 ·have h1:=own_ge hs.1 g hg;rcases hn with hn|hn|hn
  ·exact hs.2 g hg hn
  ·omega
  ·omega
 ·rcases hnew g hn with h|h
  ·exact hs.2 g hg h
  ·have h1:=own_ge hs.1 g hg;omega
end
theorem ladN_none {w:Wl} (h:∀k,k<w.d.length->ladT w k=none):ladN w=none:=by
 unfold ladN;rw[List.findSome?_eq_none_iff];intro k hk;exact h k (List.mem_range.1 hk)
theorem ladN_some {w:Wl} {i:Nat} {q:List Nat} (hi:i<w.d.length) (h:∀k,k<i->ladT w k=none) (hq:ladT w i=some q):ladN w=some q:=by
 unfold ladN;rw[List.findSome?_eq_some_iff];refine⟨List.range i,i,(List.range (w.d.length-(i+1))).map (fun j=>i+1+j),?_,hq,fun k hk=>h k (List.mem_range.1 hk)⟩;conv=>lhs;rw[show w.d.length=i+(1+(w.d.length-(i+1))) by omega,List.range_add,List.range_add]
 simp[List.map_map];intro a _;omega
attribute [local go_sem] Oper.semAt_some
theorem l_Ladders (x:LWl) (w:World) (hle:-9223372036854775808<x.w.c.le∧x.w.c.le<=9223372036854775807) (hl:x.w.l.length<=100000) (hdl:x.w.d.length<=maxLen) (hR:Rd Jt.cs 2 w x.ja x.w.l) (hD:Rd zC 1 w x.da x.w.d):
  Calls Tryz.prog 154 #[clV x.w.c,.slice x.ja x.w.l.length x.jc,.slice x.da x.w.d.length x.dc] w (LadP x.w w):=by
 have s0:(((w.alloc (.cells (clA x.w.c) 25)).alloc (.cells #[.slice none 0 0] 40)).alloc (.cells #[.int .i64 0] 36)).heap.size=w.heap.size+3:=by simp
 have x0:=((Blk.new w 25 (clA x.w.c)).alloc (.cells #[.slice none 0 0] 40)).alloc (.cells #[.int .i64 0] 36);have x1:=(Blk.new (w.alloc (.cells (clA x.w.c) 25)) 40 #[.slice none 0 0]).alloc (.cells #[.int .i64 0] 36);have x2:=Blk.new ((w.alloc (.cells (clA x.w.c) 25)).alloc (.cells #[.slice none 0 0] 40)) 36 #[.int .i64 0];simp only[World.size_alloc] at x1 x2;have B0:=bl_alloc (bl_alloc (bl_alloc (below_refl w) (.cells (clA x.w.c) 25)) (.cells #[.slice none 0 0] 40)) (.cells #[.int .i64 0] 36);have b0:=x0.cell 0;have b1:=x0.cell 1;have b2:=x0.cell 2;have b3:=x0.cell 3;have b4:=x0.cell 4;have b5:=x0.cell 5;simp only[GA] at b0 b1 b2 b3 b4 b5;have HV:=Lib.hid (fun v (h:(vCl x.w.c&&vJ x.w.l)=v) W (hb:Below w.heap.size w W)=>(show Calls Tryz.prog 186 #[clV x.w.c,.slice x.ja x.w.l.length x.jc] W fun e w'=>e=.returned (.bool v)∧Below W.heap.size W w' from h▸l_valid x.w.c x.ja x.w.l x.jc W hle hl (hR.on hb)));have HR:=Lib.hid (fun v (h:rgtB x.w.c x.w.l x.w.d=v) W (hb:Below w.heap.size w W)=>(show Calls Tryz.prog 187 #[clV x.w.c,.slice x.ja x.w.l.length x.jc,.slice x.da x.w.d.length x.dc] W fun e w'=>e=.returned (.bool v)∧Below W.heap.size W w' from h▸l_Right x.w.c x.ja x.w.l x.jc x.da x.w.d x.dc W hle hl hdl (hR.on hb) (hD.on hb)));cases hv:(vCl x.w.c&&vJ x.w.l)
 ·have hE:ladE x.w=1:=by unfold ladE;rw[hv];rfl
  have hr0:rgtB x.w.c x.w.l x.w.d=false:=by unfold rgtB;rw[hv];rfl
  have hL:ladL x.w=[]:=by unfold ladL;rw[hr0];rfl
  have HP:=Lib.hid (show ∀w',Below w.heap.size w w'->LadP x.w w (.returned (.tuple #[.slice none 0 0,.int .i64 1])) w' from fun w' hb=>⟨none,0,by rw[hL,hE];rfl,by rw[hL];exact Rd.nil_,hb⟩);have HVF:=Lib.hid (fun W hb=>HV.out _ hv W hb);clear hE hr0 hL HV HR;obtain⟨PP,hPP⟩:∃PP,PP=LadP x.w w:=⟨_,rfl⟩;rw[←hPP] at HP ⊢;clear hPP;go_enter Tryz.func154,Tryz.ntmps154
  go_upto_region 1 with fail
  generalize ((w.alloc (.cells (clA x.w.c) 25)).alloc (.cells #[.slice none 0 0] 40)).alloc (.cells #[.int .i64 0] 36)=w1 at *;go_upto_region 2 with (go_at_call 186;((with_reducible refine(HVF.out _ B0).mono ?_);rintro e w2 ⟨rfl,hb2⟩))
  have r1:=x1.below hb2 x1.lt;have r2:=x2.below hb2 x2.lt;have BW:=below_tr B0 hb2;have c1:=r1.cell 0;have c2:=r2.cell 0;have f1:=r1.frozen 0;have f2:=r2.frozen 0;simp only[List.getElem?_toArray,List.getElem?_cons_zero] at c1 c2;have k1:=(r1.set_ 0 (.slice none 0 0)).far (p:=⟨w.heap.size+1+1,0,none⟩) (fun e=>by have e':w.heap.size+1=w.heap.size+1+1:=e;omega) (.int .i64 1);have k2:=(r2.far (p:=⟨w.heap.size+1,0,none⟩) (fun e=>by have e':w.heap.size+1+1=w.heap.size+1:=e;omega) (.slice none 0 0)).set_ 0 (.int .i64 1);go_wp2;refine bodyPost_ret (v:=.tuple #[.slice none 0 0,.int .i64 1]) (res_cc rfl rfl (load_sl k1) rfl (load_er k2)) rfl (HP.out _ bl)
 cases hr:rgtB x.w.c x.w.l x.w.d
 ·have hE:ladE x.w=10:=by unfold ladE;rw[hv,hr];rfl
  have hL:ladL x.w=[]:=by unfold ladL;rw[hr];rfl
  have HP:=Lib.hid (show ∀w',Below w.heap.size w w'->LadP x.w w (.returned (.tuple #[.slice none 0 0,.int .i64 10])) w' from fun w' hb=>⟨none,0,by rw[hL,hE];rfl,by rw[hL];exact Rd.nil_,hb⟩);have HVF:=Lib.hid (fun W hb=>HV.out _ hv W hb);have HRF:=Lib.hid (fun W hb=>HR.out _ hr W hb);clear hE hL HV HR;obtain⟨PP,hPP⟩:∃PP,PP=LadP x.w w:=⟨_,rfl⟩;rw[←hPP] at HP ⊢;clear hPP;go_enter Tryz.func154,Tryz.ntmps154
  go_upto_region 1 with fail
  generalize ((w.alloc (.cells (clA x.w.c) 25)).alloc (.cells #[.slice none 0 0] 40)).alloc (.cells #[.int .i64 0] 36)=w1 at *;go_upto_region 3 with (go_at_call 186;((with_reducible refine(HVF.out _ B0).mono ?_);rintro e w2 ⟨rfl,hb2⟩))
  have y0:=x0.below hb2 x0.lt;have b0:=y0.cell 0;have b1:=y0.cell 1;have b2:=y0.cell 2;have b3:=y0.cell 3;have b4:=y0.cell 4;have b5:=y0.cell 5;simp only[GA] at b0 b1 b2 b3 b4 b5;have B2:=below_tr B0 hb2;go_upto_region 4 with (go_at_call 187;((with_reducible refine(HRF.out _ B2).mono ?_);rintro e w3 ⟨rfl,hb3⟩))
  have r1:=(x1.below hb2 x1.lt).below hb3 (x1.below hb2 x1.lt).lt;have r2:=(x2.below hb2 x2.lt).below hb3 (x2.below hb2 x2.lt).lt;have BW:=below_tr B2 hb3;have c1:=r1.cell 0;have c2:=r2.cell 0;have f1:=r1.frozen 0;have f2:=r2.frozen 0;simp only[List.getElem?_toArray,List.getElem?_cons_zero] at c1 c2;have k1:=(r1.set_ 0 (.slice none 0 0)).far (p:=⟨w.heap.size+1+1,0,none⟩) (fun e=>by have e':w.heap.size+1=w.heap.size+1+1:=e;omega) (.int .i64 10);have k2:=(r2.far (p:=⟨w.heap.size+1,0,none⟩) (fun e=>by have e':w.heap.size+1+1=w.heap.size+1:=e;omega) (.slice none 0 0)).set_ 0 (.int .i64 10);go_wp2;refine bodyPost_ret (v:=.tuple #[.slice none 0 0,.int .i64 10]) (res_cc rfl rfl (load_sl k1) rfl (load_er k2)) rfl (HP.out _ bl)
 have hwl0:=wl_of hr hR hD;have hE:ladE x.w=match ladN x.w with|some _=>0|none=>8:=by unfold ladE;rw[hv,hr];rfl
 have hL:ladL x.w=match ladN x.w with|some q=>toZ q|none=>[]:=by unfold ladL;rw[hr];rfl
 have HPN:=Lib.hid (show ladN x.w=none->∀w',Below w.heap.size w w'->LadP x.w w (.returned (.tuple #[.slice none 0 0,.int .i64 8])) w' from fun hn w' hb=>⟨none,0,by rw[hL,hE,hn];rfl,by rw[hL,hn];exact Rd.nil_,hb⟩);have HPS:=Lib.hid (show ∀q,ladN x.w=some q->∀w' (y:Sl Int),y.l=toZ q->Rd zC 1 w' y.a y.l->Below w.heap.size w w'->LadP x.w w (.returned (.tuple #[y.v,.int .i64 0])) w' from fun q hq w' y hy hrd hb=>⟨y.a,y.c,by rw[hL,hE,hq];dsimp only;rw[←hy],by rw[hL,hq];dsimp only;rw[←hy];exact hrd,hb⟩);have HVF:=Lib.hid (fun W hb=>HV.out _ hv W hb);have HRF:=Lib.hid (fun W hb=>HR.out _ hr W hb);have HRG:=Lib.hid hr;clear hE hL HV HR hv hr;obtain⟨PP,hPP⟩:∃PP,PP=LadP x.w w:=⟨_,rfl⟩;rw[←hPP] at HPN HPS ⊢;clear hPP;refine(callsIn_wide (n:=5)).1 ?_;refine callsIn_of_wp_marks Tryz.func154 rfl trivial ?_ rfl;simp only[Tryz.ntmps154,List.size_toArray,List.length_cons,List.length_nil,Nat.reduceAdd,Nat.reduceSub,Array.replicate_succ,Array.replicate_zero,List.push_toArray,List.append_toArray,List.nil_append,List.cons_append];refine wpIn_wide.2 ?_;go_upto_region 1 with fail
 generalize ((w.alloc (.cells (clA x.w.c) 25)).alloc (.cells #[.slice none 0 0] 40)).alloc (.cells #[.int .i64 0] 36)=w1 at *;go_upto_region 3 with (go_at_call 186;((with_reducible refine(HVF.out _ B0).mono ?_);rintro e w2 ⟨rfl,hb2⟩))
 have y0:=x0.below hb2 x0.lt;have b0:=y0.cell 0;have b1:=y0.cell 1;have b2:=y0.cell 2;have b3:=y0.cell 3;have b4:=y0.cell 4;have b5:=y0.cell 5;simp only[GA] at b0 b1 b2 b3 b4 b5;have B2:=below_tr B0 hb2;go_upto_region 5 with (go_at_call 187;((with_reducible refine(HRF.out _ B2).mono ?_);rintro e w3 ⟨rfl,hb3⟩))
 have z0:=y0.below hb3 y0.lt;have b0:=z0.cell 0;have b1:=z0.cell 1;have b2:=z0.cell 2;have b3:=z0.cell 3;have b4:=z0.cell 4;have b5:=z0.cell 5;simp only[GA] at b0 b1 b2 b3 b4 b5;have r1:=(x1.below hb2 x1.lt).below hb3 (x1.below hb2 x1.lt).lt;have r2:=(x2.below hb2 x2.lt).below hb3 (x2.below hb2 x2.lt).lt;have BW:=below_tr B2 hb3;have hz3:w.heap.size+3<=w3.heap.size:=by have:=hb2.size;have:=hb3.size;omega
 clear y0 x0 x1 x2 B0 B2 hb2 hb3 HVF HRF;go_upto_region 6 with fail
 have X4:=Blk.new w3 273 x.A;have R1:=r1.alloc (.cells x.A 273);have R2:=r2.alloc (.cells x.A 273);have B4:=bl_alloc BW (.cells x.A 273);have z4:(w3.alloc (.cells x.A 273)).heap.size=w3.heap.size+1:=by simp
 obtain⟨hdp,hj0⟩:0<x.w.d.length∧0<x.w.l.length:=by
  have h:=HRG.out;unfold rgtB at h;simp only[Bool.and_eq_true,decide_eq_true_eq] at h;have h2:=hwl0.din 0 h.2.1;exact⟨h.2.1,by omega⟩
 obtain⟨db0,do0,hda0,hdb0,_⟩:=rdZ hD hdp;obtain⟨_,jb0,jo0,_,hja0,hjb0,_⟩:=rdJ hR hj0;have HJA:=Lib.hid hja0;have HDA:=Lib.hid hda0;clear hja0 hda0;have HWL:=Lib.hid (fun W' (h:Below w.heap.size w W')=>hwl0.on h);have hdl2:=hwl0.dl;clear z0 r1 r2 b0 b1 b2 b3 b4 b5 BW hwl0 HRG;generalize hw4:w3.alloc (.cells x.A 273)=w4 at *;clear hw4;go_wp2
 refine wp_loop (fun a wv=>∃(i:Nat) (s9 s10 s29 s30 s31 s32 s33 s34 s35 s36 s37:Value) (Ds:List Nat),a={tmps:=#[clV x.w.c,.slice x.ja x.w.l.length x.jc,.slice x.da x.w.d.length x.dc,.pointer (some ⟨w.heap.size,0,none⟩),undef,undef,.pointer (some ⟨w.heap.size+1,0,none⟩),.pointer (some ⟨w.heap.size+1+1,0,none⟩),.pointer (some ⟨w3.heap.size,0,none⟩),s9,s10,.bool false,.agg #[.int .i64 x.w.c.fi,.int .i64 x.w.c.ga,.int .i64 x.w.c.tp,.int .i64 x.w.c.le,.int .i64 x.w.c.la,.int .i64 x.w.c.st],.slice x.ja x.w.l.length x.jc,.bool true,.bool false,.bool false,.agg #[.int .i64 x.w.c.fi,.int .i64 x.w.c.ga,.int .i64 x.w.c.tp,.int .i64 x.w.c.le,.int .i64 x.w.c.la,.int .i64 x.w.c.st],.slice x.ja x.w.l.length x.jc,.slice x.da x.w.d.length x.dc,.bool true,.bool false,.agg #[.int .i64 x.w.c.fi,.int .i64 x.w.c.ga,.int .i64 x.w.c.tp,.int .i64 x.w.c.le,.int .i64 x.w.c.la,.int .i64 x.w.c.st],.slice x.ja x.w.l.length x.jc,.slice x.da x.w.d.length x.dc,.agg #[.int .i64 x.w.c.fi,.int .i64 x.w.c.ga,.int .i64 x.w.c.tp,.int .i64 x.w.c.le,.int .i64 x.w.c.la,.int .i64 x.w.c.st,.slice x.ja x.w.l.length x.jc,.slice x.da x.w.d.length x.dc],.slice x.da x.w.d.length x.dc,.int .i64 (x.w.d.length:Nat),.int .i64 (i:Nat),s29,s30,s31,s32,s33,s34,s35,s36,s37],defers:=Ds.map mrk} ∧
  i<=x.w.d.length∧Below w.heap.size w wv∧w4.heap.size<=wv.heap.size∧Marks wv Ds∧(∀D∈Ds,w4.heap.size<=D) ∧
  Blk wv (w.heap.size+1) 40 #[.slice none 0 0]∧Blk wv (w.heap.size+1+1) 36 #[.int .i64 0]∧Blk wv w3.heap.size 273 x.A∧Hid (∀k,k<i->ladT x.w k=none))
  (fun a _=>x.w.d.length-(RowKit.intOf (a.tmps.getD 28 undef)).toNat) ?h0 ?round
 case h0=>exact⟨0,_,_,_,_,_,_,_,_,_,_,_,[],rfl,by omega,B4,Nat.le_refl _,Marks.nil _,fun _ h=>(by cases h),R1,R2,X4,Lib.hid fun k hk=>absurd hk (by omega)⟩
 case round=>
  clear B4 R1 R2 X4;rintro a wv ⟨i,s9,s10,s29,s30,s31,s32,s33,s34,s35,s36,s37,Ds,rfl,hi,hbw,hsz,hmk,hmd,hr1,hr2,hxw,HN⟩;have i0:=nn i;by_cases hlt:i<x.w.d.length
  ·have i1:(i:Int)<(x.w.d.length:Int):=by omega
   have hwi:IntKind.i64.wrap ((i:Int)+1)=(i:Int)+1:=fits_wrap ⟨by omega,by omega⟩;have hsc:=w_sets x (i+1) wv (HWL.out _ hbw);rw[show(((i+1:Nat):Int))=(i:Int)+1 by omega] at hsc;have b0:=hxw.cell 0;have b1:=hxw.cell 1;have b2:=hxw.cell 2;have b3:=hxw.cell 3;have b4:=hxw.cell 4;have b5:=hxw.cell 5;have b6:=hxw.cell 6;have b7:=hxw.cell 7;simp only[GA] at b0 b1 b2 b3 b4 b5 b6 b7;go_wp2_with (go_at_call 188;((with_reducible refine hsc.mono ?_);rintro e w5 ⟨bn,bw,bm,mb,rfl,hset,⟨g1,g2,g3,g4⟩,hb5⟩))
   have hz5:=hb5.size;have B5:=below_tr hbw hb5;have M5:=hmk.stp ((Stp.refl noB wv).below hb5 (Nat.le_refl _)) (fun _ _ h=>h);have P1:=hr1.below hb5 hr1.lt;have P2:=hr2.below hb5 hr2.lt;have P3:=hxw.below hb5 hxw.lt;have hD5:∀D∈Ds,D<wv.heap.size:=fun D hD=>lt_of_block (hmk.2 D hD);have hwz:=hbw.size;have l4:=hxw.lt;clear hr1 hr2 hxw hmk b0 b1 b2 b3 b4 b5 b6 b7 hb5 hbw;have hRS:∀b,RS x bn bw bm mb b->b<w5.heap.size∧b≠w.heap.size+1∧b≠w.heap.size+1+1:=by
    obtain⟨_,hmp⟩:=hset.mp;have e1:=hset.hn.lt;have e2:=hset.hw.lt;have e3:=hset.hm.lt;have e4:=mp_lt hmp;rintro b (rfl|rfl|rfl|rfl|⟨ad,e,rfl⟩|⟨ad,e,rfl⟩)
    ·exact⟨e1,by omega,by omega⟩
    ·exact⟨e2,by omega,by omega⟩
    ·exact⟨e3,by omega,by omega⟩
    ·exact⟨e4,by omega,by omega⟩
    ·rw[HJA.out] at e;cases e;exact⟨by show jb0<_;omega,by show jb0≠_;omega,by show jb0≠_;omega⟩
    ·rw[HDA.out] at e;cases e;exact⟨by show db0<_;omega,by show db0≠_;omega,by show db0≠_;omega⟩
   refine(wpIn_wide (n:=5)).1 (wp_rangeS (n:=5) (by omega) (gf:=225) (lb:=#[.pointer (some ⟨bn,0,none⟩),.pointer (some ⟨bw,0,none⟩),.pointer (some ⟨bm,0,none⟩)]) rfl enters_sets (E:=EsF) (xs:=(ladT x.w i).toList) (R:=RS x bn bw bm mb)
    (w_setsSeq x (i+1) bn bw bm mb w5 hset (by omega) (by omega)) (Stp.refl _ _) (fun q vs M W B hE=>by obtain⟨y,rfl,_⟩:=hE;rfl) (fun b hb=>(hRS b hb).1)
    (fun s _ W=>s=[]∧(Below w.heap.size w W∧w.heap.size<=W.heap.size)∧w5.heap.size<=W.heap.size∧Marks W Ds∧Blk W (w.heap.size+1) 40 #[.slice none 0 0]∧Blk W (w.heap.size+1+1) 36 #[.int .i64 0]∧Blk W w3.heap.size 273 x.A)
    (fun c s M W=>∃(q:List Nat) (y:Sl Int),(c=Code.ret∧ladT x.w i=some q∧y.l=toZ q)∧(Below w.heap.size w W∧w.heap.size<=W.heap.size)∧Marks W Ds∧Blk W (w.heap.size+1) 40 #[y.v]∧Blk W (w.heap.size+1+1) 36 #[.int .i64 0]∧(W.ownsRow (w5.heap.size+2) 3 1 y.v y.l.length (fl zC y.l)∧∀g,y.v.ownBlock=some g->¬M g))
    ?hI ?hIx (fun s M W h=>h.1) ?h00 ?rnd ?done ?stop)
   case hI=>exact(abide_pure _).and ((abide_below (by omega)).and (abide_size.and ((abide_marks (fun D hD=>by have:=hD5 D hD;omega)).and ((abide_blk _ (by omega)).and ((abide_blk _ (by omega)).and (abide_blk _ (by omega)))))))
   case hIx=>exact fun c=>Abide.ex fun q=>Abide.ex fun y=>(abide_pure _).and ((abide_below (by omega)).and ((abide_marks (fun D hD=>by have:=hD5 D hD;omega)).and ((abide_blk _ (by omega)).and ((abide_blk _ (by omega)).and abide_row2))))
   case h00=>exact⟨rfl,⟨B5,by omega⟩,Nat.le_refl _,M5,P1,P2,P3⟩
   case done=>
    rintro M' W ⟨hnil,⟨a1,_⟩,a2,a3,a4,a5,a6⟩ hK;have hno:ladT x.w i=none:=by
     cases h:ladT x.w i with
     |none=>rfl
     |some q=>rw[h] at hnil;simp at hnil
    have HMK:=Lib.hid (a3.cons hK (fun h=>by have:=hD5 _ h;omega));have HMD:=Lib.hid (show ∀D∈w5.heap.size::Ds,w4.heap.size<=D from fun D hD=>by
     rcases List.mem_cons.1 hD with rfl|hD
     ·omega
     ·exact hmd D hD)
    have HN2:=Lib.hid (show ∀k,k<i+1->ladT x.w k=none from fun k hk=>by
     rcases Nat.lt_succ_iff_lt_or_eq.1 hk with h|h
     ·exact HN.out k h
     ·rw[h];exact hno)
    have hsz8:w4.heap.size<=W.heap.size:=by omega
    clear a3 hK hno hnil HN;dsimp only;go_wp2;refine⟨⟨i+1,_,_,_,_,_,_,_,_,_,_,_,w5.heap.size::Ds,rfl,by omega,a1,hsz8,HMK.out,HMD.out,a4,a5,a6,HN2⟩,?_⟩;simp[RowKit.intOf];omega
   case stop=>
    rintro c pre rest M W _ ⟨q,y,⟨rfl,hq,hy⟩,⟨hB,hz⟩,a3,g1,g2,⟨hrow,_⟩⟩ hK;have HPR:=Lib.hid (HPS.out q (ladN_some hlt HN.out hq));have HMK:=Lib.hid (a3.cons hK (fun h=>by have:=hD5 _ h;omega));gi_wp2
    refine leaves_marks (by simp) (w5.heap.size::Ds) W HMK.out fun w' hw'=>?_;have hDw:∀b,b<w4.heap.size->¬b∈w5.heap.size::Ds:=fun b hb h=>by
     rcases List.mem_cons.1 h with rfl|h
     ·omega
     ·have:=hmd b h;omega
    exact⟨_,res_cc rfl rfl (load_sl (hw'.blk g1 (hDw _ (by omega)))) rfl (load_er (hw'.blk g2 (hDw _ (by omega)))),HPR.out w' y hy ((own_rd' (enc:=zC) (fun _=>rfl) (own_stp hrow hw' (fun g hg h=>by
     have:=own_ge hrow g hg;rcases List.mem_cons.1 h with rfl|h
     ·omega
     ·have:=hD5 g h;omega)))) (hB.trans (hw'.toBelow hz (fun b hb=>hDw b (by omega))))⟩
   case rnd=>
    rintro l pre q rest M W vs hxs ⟨y,rfl,hyl,hown,hyM⟩ ⟨rfl,⟨a1,a1'⟩,a2,a3,a4,a5,a6⟩ hM hsz2;simp only[setAll1,List.setIfInBounds_toArray,List.set_cons_zero,List.set_cons_succ];have hq:ladT x.w i=some q:=by
     cases h:ladT x.w i with
     |none=>rw[h] at hxs;simp at hxs
     |some q'=>rw[h] at hxs;simp at hxs;rw[hxs.1]
    have HQ:=Lib.hid hq;have HYL:=Lib.hid hyl;clear hxs hq hyl;gi_wp2
    refine⟨Stp.refl _ _,fun W2 hsz3 hst2=>?_⟩;have s1:=hst2.blk a4 (by omega);have s2:=hst2.blk a5 (by omega);have s3:=a3.stp hst2 (fun D hD e=>by have:=hD5 D hD;omega);have s4:Below w.heap.size w W2:=a1.trans (hst2.toBelow a1' (fun b hb e=>by omega));have s5:=own_stp hown hst2 (fun g hg e=>by have:=own_ge hown g hg;omega);have c1:W2.cell? ⟨w.heap.size+1,0,none⟩=some (.slice none 0 0):=s1.cell 0;have c2:W2.cell? ⟨w.heap.size+1+1,0,none⟩=some (.int .i64 0):=s2.cell 0;have f1:=s1.frozen 0;have f2:=s2.frozen 0;have k1:=(s1.set_ 0 y.v).far (p:=⟨w.heap.size+1+1,0,none⟩) (fun e=>by have e':w.heap.size+1=w.heap.size+1+1:=e;omega) (.int .i64 0);have k2:=(s2.far (p:=⟨w.heap.size+1,0,none⟩) (fun e=>by have e':w.heap.size+1+1=w.heap.size+1:=e;omega) y.v).set_ 0 (.int .i64 0);have nM:∀b,b<w4.heap.size->b=w.heap.size+1∨b=w.heap.size+1+1->¬(M b∨RS x bn bw bm mb b∨b+2=w5.heap.size+2∨b+1=w5.heap.size+2):=fun b hb hbb h=>by
     rcases h with h|h|h|h
     ·have:=(hM b h).1;omega
     ·have:=hRS b h;omega
     ·omega
     ·omega
    have stW:Stp (fun b=>b=w.heap.size+1∨b=w.heap.size+1+1) W2 ((W2.setCell ⟨w.heap.size+1,0,none⟩ y.v).setCell ⟨w.heap.size+1+1,0,none⟩ (.int .i64 0)):=((Stp.refl _ W2).setCell (.inl (.inl rfl)) _).setCell (.inl (.inr rfl)) _;have hx2:W2.heap.size=W.heap.size:=hsz3;gi_wp2
    refine⟨stW.mono fun b hb h=>nM b (by omega) h,q,y,⟨rfl,HQ.out,HYL.out⟩,⟨(s4.setCell (by show w.heap.size<=w.heap.size+1;omega) _).setCell (by show w.heap.size<=w.heap.size+1+1;omega) _,Nat.le_trans (by rw[hx2];exact a1') stW.size⟩,
     s3.stp stW (fun D hD e=>by have h1:=hmd D hD;omega),k1,k2,own_stp s5 stW (fun g hg e=>by have:=own_ge s5 g hg;omega),hyM⟩
  ·obtain rfl:i=x.w.d.length:=by omega
   have HPR:=Lib.hid (HPN.out (ladN_none HN.out));have c1:=hr1.cell 0;have c2:=hr2.cell 0;have f1:=hr1.frozen 0;have f2:=hr2.frozen 0;simp only[List.getElem?_toArray,List.getElem?_cons_zero] at c1 c2;have k1:=(hr1.set_ 0 (.slice none 0 0)).far (p:=⟨w.heap.size+1+1,0,none⟩) (fun e=>by have e':w.heap.size+1=w.heap.size+1+1:=e;omega) (.int .i64 8);have k2:=(hr2.far (p:=⟨w.heap.size+1,0,none⟩) (fun e=>by have e':w.heap.size+1+1=w.heap.size+1:=e;omega) (.slice none 0 0)).set_ 0 (.int .i64 8);have stW:Stp (fun b=>b=w.heap.size+1∨b=w.heap.size+1+1) wv ((wv.setCell ⟨w.heap.size+1,0,none⟩ (.slice none 0 0)).setCell ⟨w.heap.size+1+1,0,none⟩ (.int .i64 8)):=((Stp.refl _ wv).setCell (.inl (.inl rfl)) _).setCell (.inl (.inr rfl)) _;have BS:Below w.heap.size w ((wv.setCell ⟨w.heap.size+1,0,none⟩ (.slice none 0 0)).setCell ⟨w.heap.size+1+1,0,none⟩ (.int .i64 8)):=(hbw.setCell (by show w.heap.size<=w.heap.size+1;omega) _).setCell (by show w.heap.size<=w.heap.size+1+1;omega) _;have HMK:=Lib.hid (hmk.stp stW (fun D hD e=>by have h1:=hmd D hD;omega));have zS:=BS.size;go_wp2;generalize (wv.setCell ⟨w.heap.size+1,0,none⟩ (.slice none 0 0)).setCell ⟨w.heap.size+1+1,0,none⟩ (.int .i64 8)=wS at *;refine leaves_marks (by simp) Ds wS HMK.out fun w' hw'=>?_;have hDw:∀b,b<w4.heap.size->¬b∈Ds:=fun b hb h=>by have:=hmd b h;omega
   exact⟨_,res_cc rfl rfl (load_sl (hw'.blk k1 (hDw _ (by omega)))) rfl (load_er (hw'.blk k2 (hDw _ (by omega)))),HPR.out w' (BS.trans (hw'.toBelow zS (fun b hb=>hDw b (by omega))))⟩
theorem l_RightV {x:LWl} {w:World} {v:Bool} (h:rgtB x.w.c x.w.l x.w.d=v) (hle:-9223372036854775808<x.w.c.le∧x.w.c.le<=9223372036854775807) (hl:x.w.l.length<=100000) (hdl:x.w.d.length<=maxLen) (hR:Rd Jt.cs 2 w x.ja x.w.l) (hD:Rd zC 1 w x.da x.w.d):
  Calls Tryz.prog 187 #[clV x.w.c,.slice x.ja x.w.l.length x.jc,.slice x.da x.w.d.length x.dc] w fun e w'=>e=.returned (.bool v)∧Below w.heap.size w w':=h▸l_Right x.w.c x.ja x.w.l x.jc x.da x.w.d x.dc w hle hl hdl hR hD
theorem l_Set (x:LWl) (s:Sl Int) (w:World) (hle:-9223372036854775808<x.w.c.le∧x.w.c.le<=9223372036854775807) (hl:x.w.l.length<=100000) (hdl:x.w.d.length<=maxLen) (hsl:s.l.length<=maxLen) (hR:Rd Jt.cs 2 w x.ja x.w.l) (hD:Rd zC 1 w x.da x.w.d) (hS:Rd zC 1 w s.a s.l):
  Calls Tryz.prog 228 #[clV x.w.c,.slice x.ja x.w.l.length x.jc,.slice x.da x.w.d.length x.dc,.slice s.a s.l.length s.c] w fun e w'=>e=.returned (.bool (setB x.w s.l))∧Below w.heap.size w w':=by
 have x0:=Blk.new w 25 (clA x.w.c);have B0:=bl_alloc (below_refl w) (.cells (clA x.w.c) 25);have b0:=x0.cell 0;have b1:=x0.cell 1;have b2:=x0.cell 2;have b3:=x0.cell 3;have b4:=x0.cell 4;have b5:=x0.cell 5;simp only[GA] at b0 b1 b2 b3 b4 b5;obtain⟨R,hR0⟩:∃R,R=setB x.w s.l:=⟨_,rfl⟩;rw[←hR0];have HRR:=Lib.hid hR0;clear hR0;have hsl':=hsl;unfold maxLen at hsl';have HRF:=Lib.hid (fun v (h:rgtB x.w.c x.w.l x.w.d=v) W (hb:Below w.heap.size w W)=>l_RightV h hle hl hdl (hR.on hb) (hD.on hb));cases hr:rgtB x.w.c x.w.l x.w.d
 ·have HE:=Lib.hid (show setB x.w s.l=false by unfold setB;rw[hr];rfl);have HRG:=Lib.hid (HRF.out _ hr);clear HRF;go_enter Tryz.func228,Tryz.ntmps228
  go_wp2_with (go_at_call 187;((with_reducible refine(HRG.out _ B0).mono ?_);rintro e w3 ⟨rfl,hb3⟩))
  go_ret;exact⟨ret_bool (by rw[HRR.out,HE.out]),below_tr B0 hb3⟩
 have HRG:=Lib.hid (HRF.out _ hr);have hwl:=wl_of (x:=x) hr hR hD;have HE1:=Lib.hid (show setB x.w s.l=(decide (0<s.l.length)&&(ascB x.w.d.length s.l&&((List.range s.l.length).all (fun i=>aftB x.w (befA s.l i) (zA s.l i).toNat)&&endB x.w (zA s.l (s.l.length-1)).toNat))) by unfold setB;rw[hr];rfl);clear HRF hr;by_cases hs0:s.l.length=0
 ·have HE:=Lib.hid (show setB x.w s.l=false by rw[HE1.out,hs0];rfl);have hs1:(s.l.length:Int)=0:=by omega
  clear HE1;go_enter Tryz.func228,Tryz.ntmps228
  go_wp2_with (go_at_call 187;((with_reducible refine(HRG.out _ B0).mono ?_);rintro e w3 ⟨rfl,hb3⟩))
  go_ret;exact⟨ret_bool (by rw[HRR.out,HE.out]),below_tr B0 hb3⟩
 have hs1:¬(s.l.length:Int)=0:=by omega
 have hs2:(s.l.length==0)=false:=beq_eq_false_iff_ne.2 hs0;have hs3:((s.l.length:Int)==0)=false:=beq_eq_false_iff_ne.2 hs1;have hdl2:=hwl.dl;have HAS:=Lib.hid (fun v (h:ascB x.w.d.length s.l=v) W (hb:Below w.heap.size w W)=>l_ascendingV (c:=s.c) h (show x.w.d.length<=100000 by omega) hsl (hS.on hb));cases has:ascB x.w.d.length s.l
 ·have HE:=Lib.hid (show setB x.w s.l=false by rw[HE1.out,has];simp);have HA:=Lib.hid (HAS.out _ has);clear HE1 HAS;go_enter Tryz.func228,Tryz.ntmps228
  go_wp2_with (first
   |(go_at_call 187;((with_reducible refine(HRG.out _ B0).mono ?_);rintro e w3 ⟨rfl,hb3⟩))
   |(go_at_call 221;((with_reducible refine(HA.out _ (below_tr B0 hb3)).mono ?_);rintro e w' ⟨rfl,rfl⟩)))
  go_ret;exact⟨ret_bool (by rw[HRR.out,HE.out]),below_tr B0 hb3⟩
 have HA:=Lib.hid (HAS.out _ has);have HIN:=Lib.hid (fun k hk=>asc_in has (k:=k) hk);have HE2:=Lib.hid (show setB x.w s.l=((List.range s.l.length).all (fun i=>aftB x.w (befA s.l i) (zA s.l i).toNat)&&endB x.w (zA s.l (s.l.length-1)).toNat) by rw[HE1.out,has,decide_eq_true (show 0<s.l.length by omega)];rfl);clear HE1 HAS has;go_enter Tryz.func228,Tryz.ntmps228
 go_upto_region 3 with (first
   |(go_at_call 187;((with_reducible refine(HRG.out _ B0).mono ?_);rintro e w3 ⟨rfl,hb3⟩))
   |(go_at_call 221;((with_reducible refine(HA.out _ (below_tr B0 hb3)).mono ?_);rintro e w' ⟨rfl,rfl⟩)))
 have y0:=x0.below hb3 x0.lt;clear b0 b1 b2 b3 b4 b5;have b0:=y0.cell 0;have b1:=y0.cell 1;have b2:=y0.cell 2;have b3:=y0.cell 3;have b4:=y0.cell 4;have b5:=y0.cell 5;simp only[GA] at b0 b1 b2 b3 b4 b5;have BW:=below_tr B0 hb3;go_upto_region 4 with fail
 have X4:=Blk.new w3 273 x.A;have B4:=bl_alloc BW (.cells x.A 273);have hwl4:=hwl.on B4;have hS4:=hS.on B4;clear x0 y0 b0 b1 b2 b3 b4 b5 HRG HA hwl BW B0 hb3;generalize w3.alloc (.cells x.A 273)=w4 at *;go_wp2;go_loopw [10,36] (fun b i wr=>∃k:Nat,k<=s.l.length∧i=.int .i64 k∧b=.int .i64 (befA s.l k)∧Below w4.heap.size w4 wr∧Hid ((List.range k).all (fun i=>aftB x.w (befA s.l i) (zA s.l i).toNat)=true)) (fun _ i _=>s.l.length-(RowKit.intOf i).toNat)
 case atStart=>exact⟨0,by omega,rfl,rfl,below_refl _,Lib.hid rfl⟩
 case round=>
  obtain⟨k,hk,rfl,rfl,hbw,HI⟩:=hrel;have k0:=nn k;have hx:=X4.below hbw X4.lt;have b0:=hx.cell 0;have b1:=hx.cell 1;have b2:=hx.cell 2;have b3:=hx.cell 3;have b4:=hx.cell 4;have b5:=hx.cell 5;have b6:=hx.cell 6;have b7:=hx.cell 7;simp only[GA] at b0 b1 b2 b3 b4 b5 b6 b7;clear hx;have hbf:befA s.l k<(x.w.d.length:Int):=by
   unfold befA;split
   ·omega
   ·exact(HIN.out (k-1) (by omega)).2
  by_cases hlt:k<s.l.length
  ·have k1:(k:Int)<(s.l.length:Int):=by omega
   obtain⟨sb,so,hsa,hsb,d0⟩:=rdZ (hS4.on hbw) hlt;obtain⟨z0,z1⟩:=HIN.out k hlt;obtain⟨m,hm⟩:=Int.eq_ofNat_of_zero_le z0;rw[hm] at d0 z1;have hml:m<x.w.d.length:=by omega
   have HFO:=Lib.hid (fun v (h:aftB x.w (befA s.l k) m=v)=>w_afterV (x:=x) h (hwl4.on hbw) hml hbf);have HNX:=Lib.hid (show befA s.l (k+1)=(m:Int) by unfold befA;rw[if_neg (by omega),Nat.add_sub_cancel,hm]);have HNO:=Lib.hid (fun h:aftB x.w (befA s.l k) m=false=>(show setB x.w s.l=false by rw[HE2.out,all_noA hlt (show aftB x.w (befA s.l k) (zA s.l k).toNat=false by rw[hm];exact h)];rfl));have HYE:=Lib.hid (fun h:aftB x.w (befA s.l k) m=true=>all_stepJ HI.out (show aftB x.w (befA s.l k) (zA s.l k).toNat=true by rw[hm];exact h));generalize befA s.l k=B at *;have HSA:=Lib.hid hsa;clear hm z0 hsa;obtain⟨sA,sL,sC⟩:=s;dsimp only at *;obtain rfl:=HSA.out;cases hf:aftB x.w B m
   ·have HE:=Lib.hid (HNO.out hf);have HF:=Lib.hid (HFO.out _ hf);clear HE2 HI HIN HNX HNO HYE HFO;go_wp2_with (go_at_call 227;((with_reducible refine HF.out.mono ?_);rintro e w5 ⟨rfl,hb5⟩))
    go_ret;exact⟨ret_bool (by rw[HRR.out,HE.out]),below_tr B4 (below_tr hbw hb5)⟩
   ·have HI1:=Lib.hid (HYE.out hf);have HF:=Lib.hid (HFO.out _ hf);clear HE2 HI HIN HNO HYE HFO;go_wp2_with (go_at_call 227;((with_reducible refine HF.out.mono ?_);rintro e w5 ⟨rfl,hb5⟩))
    go_roundw
    case rel=>exact⟨k+1,by omega,by go_num,by rw[HNX.out],below_tr hbw hb5,HI1⟩
    case measure=>simp[RowKit.intOf];omega
  ·obtain rfl:k=s.l.length:=by omega
   obtain⟨z0,z1⟩:=HIN.out (s.l.length-1) (by omega);obtain⟨m,hm⟩:=Int.eq_ofNat_of_zero_le z0;have hbm:befA s.l s.l.length=(m:Int):=by unfold befA;rw[if_neg hs0,hm]
   have HE:=Lib.hid (show setB x.w s.l=endB x.w m by rw[HE2.out,HI.out,hm];rfl);rw[hbm];rw[hm] at z1;have HEN:=Lib.hid (w_ends x m wr (hwl4.on hbw) (by omega));have BX:=below_tr B4 hbw;clear HE2 HI HIN hm z0 hbm hbf;go_wp2_with (go_at_call 248;((with_reducible refine HEN.out.mono ?_);rintro e w5 ⟨rfl,hb5⟩))
   go_ret;exact⟨ret_bool (by rw[HRR.out,HE.out]),below_tr BX hb5⟩
def brgK (w:Wl) (s:List Int) (k:Nat):Int:=(s.take k).foldl (brgS w) 1000000000
theorem brgK_step {w:Wl} {s:List Int} {k:Nat} (h:k<s.length):brgK w s (k+1)=brgS w (brgK w s k) (zA s k):=by
 obtain⟨x,hx⟩:=get_lt h;unfold brgK;rw[List.take_add_one,hx,List.foldl_append];unfold zA;rw[List.getD_eq_getElem?_getD,hx];rfl
theorem set_parts {w:Wl} {s:List Int} (h:setB w s=true):rgtB w.c w.l w.d=true∧ascB w.d.length s=true:=by
 unfold setB at h;simp only[Bool.and_eq_true] at h;exact⟨h.1,h.2.2.1⟩
theorem l_bearing (x:LWl) (s:Sl Int) (w:World) (hle:-9223372036854775808<x.w.c.le∧x.w.c.le<=9223372036854775807) (hl:x.w.l.length<=100000) (hdl:x.w.d.length<=maxLen) (hsl:s.l.length<=maxLen) (hR:Rd Jt.cs 2 w x.ja x.w.l) (hD:Rd zC 1 w x.da x.w.d) (hS:Rd zC 1 w s.a s.l):
  Calls Tryz.prog 189 #[clV x.w.c,.slice x.ja x.w.l.length x.jc,.slice x.da x.w.d.length x.dc,.slice s.a s.l.length s.c] w fun e w'=>e=.returned (.tuple #[.int .i64 (brgV x.w s.l),.int .i64 (brgE x.w s.l)])∧Below w.heap.size w w':=by
 have x0:=Blk.new w 25 (clA x.w.c);have B0:=bl_alloc (below_refl w) (.cells (clA x.w.c) 25);have b0:=x0.cell 0;have b1:=x0.cell 1;have b2:=x0.cell 2;have b3:=x0.cell 3;have b4:=x0.cell 4;have b5:=x0.cell 5;simp only[GA] at b0 b1 b2 b3 b4 b5;obtain⟨RV,hRV⟩:∃R,R=brgV x.w s.l:=⟨_,rfl⟩;obtain⟨RE,hRE⟩:∃R,R=brgE x.w s.l:=⟨_,rfl⟩;rw[←hRV,←hRE];have HV:=Lib.hid (fun v (h:(vCl x.w.c&&vJ x.w.l)=v) W (hb:Below w.heap.size w W)=>(show Calls Tryz.prog 186 #[clV x.w.c,.slice x.ja x.w.l.length x.jc] W fun e w'=>e=.returned (.bool v)∧Below W.heap.size W w' from h▸l_valid x.w.c x.ja x.w.l x.jc W hle hl (hR.on hb)));have HT:=Lib.hid (fun v (h:setB x.w s.l=v) W (hb:Below w.heap.size w W)=>(show Calls Tryz.prog 228 #[clV x.w.c,.slice x.ja x.w.l.length x.jc,.slice x.da x.w.d.length x.dc,.slice s.a s.l.length s.c] W fun e w'=>e=.returned (.bool v)∧Below W.heap.size W w' from h▸l_Set x s W hle hl hdl hsl (hR.on hb) (hD.on hb) (hS.on hb)));cases hv:(vCl x.w.c&&vJ x.w.l)
 ·have h1:brgE x.w s.l=1:=by unfold brgE;rw[hv];rfl
  have h2:brgV x.w s.l=0:=by unfold brgV;rw[h1];rfl
  have HE:=Lib.hid (show RE=1∧RV=0 from⟨hRE.trans h1,hRV.trans h2⟩);have HVF:=Lib.hid (HV.out _ hv);clear h1 h2 hRV hRE HV HT;go_enter Tryz.func189,Tryz.ntmps189
  go_wp2_with (go_at_call 186;((with_reducible refine(HVF.out _ B0).mono ?_);rintro e w3 ⟨rfl,hb3⟩))
  go_ret2;exact⟨by rw[HE.out.1,HE.out.2];rfl,below_tr B0 hb3⟩
 have HVF:=Lib.hid (HV.out _ hv);cases hs:setB x.w s.l
 ·have h1:brgE x.w s.l=10:=by unfold brgE;rw[hv,hs];rfl
  have h2:brgV x.w s.l=0:=by unfold brgV;rw[h1];rfl
  have HE:=Lib.hid (show RE=10∧RV=0 from⟨hRE.trans h1,hRV.trans h2⟩);have HTF:=Lib.hid (HT.out _ hs);clear h1 h2 hRV hRE HV HT;go_enter Tryz.func189,Tryz.ntmps189
  go_upto_region 3 with (go_at_call 186;((with_reducible refine(HVF.out _ B0).mono ?_);rintro e w3 ⟨rfl,hb3⟩))
  have y0:=x0.below hb3 x0.lt;clear b0 b1 b2 b3 b4 b5;have b0:=y0.cell 0;have b1:=y0.cell 1;have b2:=y0.cell 2;have b3:=y0.cell 3;have b4:=y0.cell 4;have b5:=y0.cell 5;simp only[GA] at b0 b1 b2 b3 b4 b5;have B3:=below_tr B0 hb3;go_wp2_with (go_at_call 228;((with_reducible refine(HTF.out _ B3).mono ?_);rintro e w4 ⟨rfl,hb4⟩))
  go_ret2;exact⟨by rw[HE.out.1,HE.out.2];rfl,below_tr B3 hb4⟩
 obtain⟨hr,has⟩:=set_parts hs;have hwl:=wl_of (x:=x) hr hR hD;have h1:brgE x.w s.l=0:=by unfold brgE;rw[hv,hs];rfl
 have h2:brgV x.w s.l=brgK x.w s.l s.l.length:=by unfold brgV brgK;rw[h1,List.take_length];rfl
 have HE:=Lib.hid (show RE=0∧RV=brgK x.w s.l s.l.length from⟨hRE.trans h1,hRV.trans h2⟩);have HTF:=Lib.hid (HT.out _ hs);have HIN:=Lib.hid (fun k hk=>asc_in has (k:=k) hk);have HST:=Lib.hid (fun k (h:k<s.l.length)=>brgK_step (w:=x.w) h);have hdl2:=hwl.dl;have hst:=hwl.st;have hsl2:=asc_len has;have HK0:=Lib.hid (show brgK x.w s.l 0=1000000000 from rfl);clear h1 h2 hRV hRE HV HT hr has hv hs;go_enter Tryz.func189,Tryz.ntmps189
 go_upto_region 3 with (go_at_call 186;((with_reducible refine(HVF.out _ B0).mono ?_);rintro e w3 ⟨rfl,hb3⟩))
 have y0:=x0.below hb3 x0.lt;clear b0 b1 b2 b3 b4 b5;have b0:=y0.cell 0;have b1:=y0.cell 1;have b2:=y0.cell 2;have b3:=y0.cell 3;have b4:=y0.cell 4;have b5:=y0.cell 5;simp only[GA] at b0 b1 b2 b3 b4 b5;have B3:=below_tr B0 hb3;go_upto_region 6 with (go_at_call 228;((with_reducible refine(HTF.out _ B3).mono ?_);rintro e w4 ⟨rfl,hb4⟩))
 have z0:=y0.below hb4 y0.lt;clear b0 b1 b2 b3 b4 b5;have b0:=z0.cell 0;have b1:=z0.cell 1;have b2:=z0.cell 2;have b3:=z0.cell 3;have b4:=z0.cell 4;have b5:=z0.cell 5;simp only[GA] at b0 b1 b2 b3 b4 b5;have B4:=below_tr B3 hb4;go_upto_region 7 with fail
 have X5:=Blk.new w4 273 x.A;have Y5:=z0.alloc (.cells x.A 273);have B5:=bl_alloc B4 (.cells x.A 273);have hwl5:=hwl.on B5;have hS5:=hS.on B5;clear x0 y0 z0 b0 b1 b2 b3 b4 b5 hwl B0 B3 B4 hb3 hb4;generalize w4.alloc (.cells x.A 273)=w5 at *;go_wp2;go_loopw [10,32] (fun m i wr=>∃k:Nat,k<=s.l.length∧i=.int .i64 k∧m=.int .i64 (brgK x.w s.l k)∧Below w5.heap.size w5 wr) (fun _ i _=>s.l.length-(RowKit.intOf i).toNat)
 case atStart=>exact⟨0,by omega,rfl,by rw[HK0.out],below_refl _⟩
 case round=>
  obtain⟨k,hk,rfl,rfl,hbw⟩:=hrel;rename World=>wr
  have k0:=nn k;have hx:=X5.below hbw X5.lt;have hy:=Y5.below hbw Y5.lt;have lx:=hx.lt;have ly:=hy.lt;have b0:=hx.cell 0;have b1:=hx.cell 1;have b2:=hx.cell 2;have b3:=hx.cell 3;have b4:=hx.cell 4;have b5:=hx.cell 5;have b6:=hx.cell 6;have b7:=hx.cell 7;simp only[GA] at b0 b1 b2 b3 b4 b5 b6 b7;have q5:=hy.cell 5;simp only[GA] at q5;clear hx hy;have BX:=below_tr B5 hbw;by_cases hlt:k<s.l.length
  ·have k1:(k:Int)<(s.l.length:Int):=by omega
   obtain⟨sb,so,hsa,hsb,d0⟩:=rdZ (hS5.on hbw) hlt;obtain⟨z0,z1⟩:=HIN.out k hlt;obtain⟨m,hm⟩:=Int.eq_ofNat_of_zero_le z0;rw[hm] at d0 z1;have hml:m<x.w.d.length:=by omega
   have hol:=on_len x.w m;have HON:=Lib.hid (fun W (hb:Below wr.heap.size wr W)=>w_on x m W ((hwl5.on hbw).on hb) hml);have HS2:=Lib.hid (show brgK x.w s.l (k+1)=min (brgK x.w s.l k) (x.w.c.st*((onN x.w m:Nat)-1:Int)) by rw[HST.out k hlt];unfold brgS;rw[hm];rfl);generalize brgK x.w s.l k=K at *;generalize onN x.w m=N at *;have hw1:IntKind.i64.wrap ((N:Int)-1)=(N:Int)-1:=fits_wrap ⟨by omega,by omega⟩;have m1:x.w.c.st*((N:Int)-1)<=1000000*200:=by
    rcases Nat.eq_zero_or_pos N with h|h
    ·subst h;simp;omega
    ·exact Int.mul_le_mul hst.2 (by omega) (by omega) (by omega)
   have m2:-1000000<=x.w.c.st*((N:Int)-1):=by
    rcases Nat.eq_zero_or_pos N with h|h
    ·subst h;simp;omega
    ·have:=Int.mul_nonneg (show 0<=x.w.c.st by omega) (show 0<=(N:Int)-1 by omega);omega
   have hw2:IntKind.i64.wrap (x.w.c.st*((N:Int)-1))=x.w.c.st*((N:Int)-1):=fits_wrap ⟨by omega,by omega⟩;have HSA:=Lib.hid hsa;clear hm z0 hsa;obtain⟨sA,sL,sC⟩:=s;dsimp only at *;obtain rfl:=HSA.out;go_upto_region 10 with fail
   refine wp_region_noPanic ?_;refine th wr fun hS0=>?_;refine tq 0 ?_;refine tq 1 ?_;refine tq 2 ?_;refine tq 3 ?_;refine tq 4 ?_;refine tr 5 fun K hK=>?_;go_simp
   (go_at_call 229;((with_reducible refine(HON.out _ bl).mono ?_);rintro e w3 ⟨⟨oA,oc,rfl⟩,hb3⟩;obtain⟨hc3,hf3,hz3⟩:=qz hb3))
   refine hK.out _ _ kq (fun hS1=>?_);clear hK K;try simp only[AP]
   refine tq 6 ?_;refine tq 7 ?_;refine tq 8 ?_;refine tq 9 ?_;refine tq 10 ?_;refine wpAnyH_done (by kernel_rfl) (NoPanic.normal ?_) _;go_wp2;go_roundw
   case rel=>exact⟨k+1,by omega,by go_num,by rw[HS2.out],below_tr hbw bl⟩
   case measure=>simp[RowKit.intOf];omega
  ·obtain rfl:k=s.l.length:=by omega
   go_wp2;go_ret2;exact⟨by rw[HE.out.1,HE.out.2];rfl,BX⟩
theorem l_Greatest (x:LWl) (s:Sl Int) (w:World) (hle:-9223372036854775808<x.w.c.le∧x.w.c.le<=9223372036854775807) (hl:x.w.l.length<=100000) (hdl:x.w.d.length<=maxLen) (hsl:s.l.length<=maxLen) (hR:Rd Jt.cs 2 w x.ja x.w.l) (hD:Rd zC 1 w x.da x.w.d) (hS:Rd zC 1 w s.a s.l):
  Calls Tryz.prog 155 #[clV x.w.c,.slice x.ja x.w.l.length x.jc,.slice x.da x.w.d.length x.dc,.slice s.a s.l.length s.c] w fun e w'=>e=.returned (.tuple #[.int .i64 (brgV x.w s.l),.int .i64 (brgE x.w s.l)])∧Below w.heap.size w w':=by
 have x0:=Blk.new w 25 (clA x.w.c);have B0:=bl_alloc (below_refl w) (.cells (clA x.w.c) 25);have b0:=x0.cell 0;have b1:=x0.cell 1;have b2:=x0.cell 2;have b3:=x0.cell 3;have b4:=x0.cell 4;have b5:=x0.cell 5;simp only[GA] at b0 b1 b2 b3 b4 b5;have HB:=Lib.hid (l_bearing x s _ hle hl hdl hsl (hR.on B0) (hD.on B0) (hS.on B0));generalize brgV x.w s.l=V at *;generalize brgE x.w s.l=E at *;go_enter Tryz.func155,Tryz.ntmps155
 go_wp2_with (go_at_call 189;((with_reducible refine HB.out.mono ?_);rintro e w3 ⟨rfl,hb3⟩))
 go_ret2;exact⟨rfl,below_tr B0 hb3⟩
end Go.Proofs.YtjkkfcghkeoedaaGreatDoor.Fi
