/- The parts of the proof, part 35. -/
import Derived.Test.YtjkkfcghkeoedaaGreatDoorR0
import Derived.Test.YtjkkfcghkeoedaaGreatDoorR34
set_option maxHeartbeats 16000000
set_option maxRecDepth 20000
set_option linter.unusedSimpArgs false
set_option linter.unusedVariables false
namespace Go.Proofs.YtjkkfcghkeoedaaGreatDoor.Fi
open Go.RowKit Go.Lib Tx
structure SuLn (x:LSu):Prop where
 s:x.stk.l.length<=100000
 ss:∀y∈x.stk.l,y.l.length<=100000
 j:x.jnt.l.length<=100000
 jj:∀y∈x.jnt.l,y.l.length<=100000
 g:x.gear.l.length<=100000
theorem e_sameSetup {T T':Nat->Prop} (x y:LSu) (w:World) (hv:x.val=y.val) (hx:SuOk T w x) (hy:SuOk T' w y) (hn:SuLn x):
  Calls Tryz.prog 59 #[.agg x.cs.toArray,.agg y.cs.toArray] w fun e w'=>e=.returned (.bool true)∧Below w.heap.size w w':=by
 obtain⟨⟨xa0,l0,xc0⟩,⟨xa1,l1,xc1⟩,cl,⟨xa2,gl,xc2⟩,ru,rt,mn⟩:=x;obtain⟨⟨ya0,m0,yc0⟩,⟨ya1,m1,yc1⟩,cl',⟨ya2,gl',yc2⟩,ru',rt',mn'⟩:=y;simp only[LSu.val,Su.mk.injEq] at hv;obtain⟨h1,h2,rfl,rfl,rfl,rfl,rfl⟩:=hv;obtain⟨n1,n2,n3,n4,n5⟩:=hn;dsimp only at n1 n2 n3 n4 n5
 have HC:=hid (fun W (h:Below w.heap.size w W)=>(show Calls Tryz.prog 109 #[.slice xa0 l0.length xc0,.slice ya0 m0.length yc0] W fun e w'=>e=.returned (.bool true)∧Below W.heap.size W w' from
  e_sameCrs ⟨xa0,l0,xc0⟩ ⟨ya0,m0,yc0⟩ W n1 h1 (hx.stk.rd.on h) (hy.stk.rd.on h) (fun q hq=>⟨n2 q hq,(hx.stks q hq).rd.on h⟩) (fun q hq=>(hy.stks q hq).rd.on h)))
 have HJ:=hid (fun W (h:Below w.heap.size w W)=>(show Calls Tryz.prog 110 #[.slice xa1 l1.length xc1,.slice ya1 m1.length yc1] W fun e w'=>e=.returned (.bool true)∧Below W.heap.size W w' from
  e_sameJts ⟨xa1,l1,xc1⟩ ⟨ya1,m1,yc1⟩ W n3 h2 (hx.jnt.rd.on h) (hy.jnt.rd.on h) (fun q hq=>⟨n4 q hq,(hx.jnts q hq).rd.on h⟩) (fun q hq=>(hy.jnts q hq).rd.on h)))
 have HG:=hid (fun W (h:Below w.heap.size w W)=>e_EqualItem xa2 ya2 gl xc2 yc2 W n5 (hx.gear.rd.on h) (hy.gear.rd.on h));have x0:=(Blk.new w 32 #[.slice xa0 l0.length xc0,.slice xa1 l1.length xc1,.int .i64 cl.fi,.int .i64 cl.ga,.int .i64 cl.tp,.int .i64 cl.le,.int .i64 cl.la,.int .i64 cl.st,.slice xa2 gl.length xc2,.int .i64 ru.s,.int .i64 ru.g,.int .i64 ru.c,.int .i64 rt.lo,.int .i64 rt.hi,.int .i64 rt.ab,.int .i64 rt.co,.int .i64 mn]).alloc (.cells #[.slice ya0 m0.length yc0,.slice ya1 m1.length yc1,.int .i64 cl.fi,.int .i64 cl.ga,.int .i64 cl.tp,.int .i64 cl.le,.int .i64 cl.la,.int .i64 cl.st,.slice ya2 gl.length yc2,.int .i64 ru.s,.int .i64 ru.g,.int .i64 ru.c,.int .i64 rt.lo,.int .i64 rt.hi,.int .i64 rt.ab,.int .i64 rt.co,.int .i64 mn] 32);have x1:=Blk.new (w.alloc (.cells #[.slice xa0 l0.length xc0,.slice xa1 l1.length xc1,.int .i64 cl.fi,.int .i64 cl.ga,.int .i64 cl.tp,.int .i64 cl.le,.int .i64 cl.la,.int .i64 cl.st,.slice xa2 gl.length xc2,.int .i64 ru.s,.int .i64 ru.g,.int .i64 ru.c,.int .i64 rt.lo,.int .i64 rt.hi,.int .i64 rt.ab,.int .i64 rt.co,.int .i64 mn] 32)) 32 #[.slice ya0 m0.length yc0,.slice ya1 m1.length yc1,.int .i64 cl.fi,.int .i64 cl.ga,.int .i64 cl.tp,.int .i64 cl.le,.int .i64 cl.la,.int .i64 cl.st,.slice ya2 gl.length yc2,.int .i64 ru.s,.int .i64 ru.g,.int .i64 ru.c,.int .i64 rt.lo,.int .i64 rt.hi,.int .i64 rt.ab,.int .i64 rt.co,.int .i64 mn];rw[World.size_alloc] at x1;have B1:=bl_alloc (bl_alloc (below_refl w) (.cells #[.slice xa0 l0.length xc0,.slice xa1 l1.length xc1,.int .i64 cl.fi,.int .i64 cl.ga,.int .i64 cl.tp,.int .i64 cl.le,.int .i64 cl.la,.int .i64 cl.st,.slice xa2 gl.length xc2,.int .i64 ru.s,.int .i64 ru.g,.int .i64 ru.c,.int .i64 rt.lo,.int .i64 rt.hi,.int .i64 rt.ab,.int .i64 rt.co,.int .i64 mn] 32)) (.cells #[.slice ya0 m0.length yc0,.slice ya1 m1.length yc1,.int .i64 cl.fi,.int .i64 cl.ga,.int .i64 cl.tp,.int .i64 cl.le,.int .i64 cl.la,.int .i64 cl.st,.slice ya2 gl.length yc2,.int .i64 ru.s,.int .i64 ru.g,.int .i64 ru.c,.int .i64 rt.lo,.int .i64 rt.hi,.int .i64 rt.ab,.int .i64 rt.co,.int .i64 mn] 32);clear h1 h2 hx hy n1 n2 n3 n4 n5;have e0:=x0.cell 0;have e1:=x1.cell 0;simp only[List.getElem?_toArray,List.getElem?_cons_zero] at e0 e1;go_enter Tryz.func59,Tryz.ntmps59
 go_upto_region 1 with fail
 generalize (w.alloc (.cells #[.slice xa0 l0.length xc0,.slice xa1 l1.length xc1,.int .i64 cl.fi,.int .i64 cl.ga,.int .i64 cl.tp,.int .i64 cl.le,.int .i64 cl.la,.int .i64 cl.st,.slice xa2 gl.length xc2,.int .i64 ru.s,.int .i64 ru.g,.int .i64 ru.c,.int .i64 rt.lo,.int .i64 rt.hi,.int .i64 rt.ab,.int .i64 rt.co,.int .i64 mn] 32)).alloc (.cells #[.slice ya0 m0.length yc0,.slice ya1 m1.length yc1,.int .i64 cl.fi,.int .i64 cl.ga,.int .i64 cl.tp,.int .i64 cl.le,.int .i64 cl.la,.int .i64 cl.st,.slice ya2 gl.length yc2,.int .i64 ru.s,.int .i64 ru.g,.int .i64 ru.c,.int .i64 rt.lo,.int .i64 rt.hi,.int .i64 rt.ab,.int .i64 rt.co,.int .i64 mn] 32)=w1 at *
 go_wp2_with (first
  |(go_at_call 109;((with_reducible refine(HC.out _ B1).mono ?_);rintro e w3 ⟨rfl,B3⟩;have p3:=x0.below B3 x0.lt;have q3:=x1.below B3 x1.lt;have c1:w3.cell? ⟨w.heap.size,1,none⟩=some (.slice xa1 l1.length xc1):=p3.cell 1;have d1:w3.cell? ⟨w.heap.size+1,1,none⟩=some (.slice ya1 m1.length yc1):=q3.cell 1))
  |(go_at_call 110;((with_reducible refine(HJ.out _ (below_tr B1 B3)).mono ?_);rintro e w4 ⟨rfl,hb4⟩;have B4:=below_tr B3 hb4;have p4:=x0.below B4 x0.lt;have q4:=x1.below B4 x1.lt;have c2:w4.cell? ⟨w.heap.size,2,none⟩=some (.int .i64 cl.fi):=p4.cell 2;have d2:w4.cell? ⟨w.heap.size+1,2,none⟩=some (.int .i64 cl.fi):=q4.cell 2;have c3:w4.cell? ⟨w.heap.size,3,none⟩=some (.int .i64 cl.ga):=p4.cell 3;have d3:w4.cell? ⟨w.heap.size+1,3,none⟩=some (.int .i64 cl.ga):=q4.cell 3;have c4:w4.cell? ⟨w.heap.size,4,none⟩=some (.int .i64 cl.tp):=p4.cell 4;have d4:w4.cell? ⟨w.heap.size+1,4,none⟩=some (.int .i64 cl.tp):=q4.cell 4;have c5:w4.cell? ⟨w.heap.size,5,none⟩=some (.int .i64 cl.le):=p4.cell 5;have d5:w4.cell? ⟨w.heap.size+1,5,none⟩=some (.int .i64 cl.le):=q4.cell 5;have c6:w4.cell? ⟨w.heap.size,6,none⟩=some (.int .i64 cl.la):=p4.cell 6;have d6:w4.cell? ⟨w.heap.size+1,6,none⟩=some (.int .i64 cl.la):=q4.cell 6;have c7:w4.cell? ⟨w.heap.size,7,none⟩=some (.int .i64 cl.st):=p4.cell 7;have d7:w4.cell? ⟨w.heap.size+1,7,none⟩=some (.int .i64 cl.st):=q4.cell 7;have c8:w4.cell? ⟨w.heap.size,8,none⟩=some (.slice xa2 gl.length xc2):=p4.cell 8;have d8:w4.cell? ⟨w.heap.size+1,8,none⟩=some (.slice ya2 gl.length yc2):=q4.cell 8))
  |(go_at_call 57;((with_reducible refine(HG.out _ (below_tr B1 B4)).mono ?_);rintro e w5 ⟨rfl,hb5⟩;have B5:=below_tr B4 hb5;have p5:=x0.below B5 x0.lt;have q5:=x1.below B5 x1.lt;have c9:w5.cell? ⟨w.heap.size,9,none⟩=some (.int .i64 ru.s):=p5.cell 9;have d9:w5.cell? ⟨w.heap.size+1,9,none⟩=some (.int .i64 ru.s):=q5.cell 9;have c10:w5.cell? ⟨w.heap.size,10,none⟩=some (.int .i64 ru.g):=p5.cell 10;have d10:w5.cell? ⟨w.heap.size+1,10,none⟩=some (.int .i64 ru.g):=q5.cell 10;have c11:w5.cell? ⟨w.heap.size,11,none⟩=some (.int .i64 ru.c):=p5.cell 11;have d11:w5.cell? ⟨w.heap.size+1,11,none⟩=some (.int .i64 ru.c):=q5.cell 11;have c12:w5.cell? ⟨w.heap.size,12,none⟩=some (.int .i64 rt.lo):=p5.cell 12;have d12:w5.cell? ⟨w.heap.size+1,12,none⟩=some (.int .i64 rt.lo):=q5.cell 12;have c13:w5.cell? ⟨w.heap.size,13,none⟩=some (.int .i64 rt.hi):=p5.cell 13;have d13:w5.cell? ⟨w.heap.size+1,13,none⟩=some (.int .i64 rt.hi):=q5.cell 13;have c14:w5.cell? ⟨w.heap.size,14,none⟩=some (.int .i64 rt.ab):=p5.cell 14;have d14:w5.cell? ⟨w.heap.size+1,14,none⟩=some (.int .i64 rt.ab):=q5.cell 14;have c15:w5.cell? ⟨w.heap.size,15,none⟩=some (.int .i64 rt.co):=p5.cell 15;have d15:w5.cell? ⟨w.heap.size+1,15,none⟩=some (.int .i64 rt.co):=q5.cell 15;have c16:w5.cell? ⟨w.heap.size,16,none⟩=some (.int .i64 mn):=p5.cell 16;have d16:w5.cell? ⟨w.heap.size+1,16,none⟩=some (.int .i64 mn):=q5.cell 16)))
 go_ret;exact⟨rfl,below_tr B1 B5⟩
section
variable {P:Program}
theorem run_loadVar_part (w:World) (g:Nat) (ty:TypeId) (cs:Array Value) (d:TypeDesc) (hc:∀(j:Nat) v,cs[j]?=some v->w.cell? ⟨g,j,none⟩=some v)
  (hu:P.underlying ty=some d) (hd:(match d with|.struct _|.array _ _=>true|_=>false)=true) (hi:(P.info? ty).map (·.size)=some cs.size):
  (loadVar ty ⟨g,0,none⟩).run P w=.ok (.agg cs) w:=by
 have hl:(loadCells ⟨g,0,none⟩ cs.toList.length).run P w=.ok cs.toList.toArray w:=
  run_loadCells_list (P:=P) w ⟨g,0,none⟩ cs.toList (fun j v hv=>by
   have hadd:(⟨g,0,none⟩:Addr).add j=⟨g,j,none⟩:=by unfold Addr.add;split<;>simp_all
   rw[hadd];exact hc j v (by simpa using hv))
 cases hq:P.info? ty with
 |none=>simp[hq] at hi
 |some i=>
  have hs:i.size=cs.size:=by simpa[hq] using hi
  have hagg:(isAgg ty).run P w=.ok true w:=by
   unfold isAgg;rw[Sem.run_bind,run_underlying hu w];cases d<;>simp_all
  simp only[Array.length_toList,Array.toArray_toList] at hl;simp[loadVar,Sem.run_bind,hagg,sizeOf,typeInfo,hq,hs,hl]
theorem load_part_ok {o:Oper} {a:Act} {w:World} {ty:TypeId} {x:Operand} (ho:o.op=.load ty x) {g:Nat} (hx:a.eval x=.pointer (some ⟨g,0,none⟩)) {v:Value}
  (h:(loadVar ty ⟨g,0,none⟩).run P w=.ok v w):(execOp a.eval o).run P w=.ok (.value v) w:=by
 unfold execOp;simp only[ho,hx,Instr.loadAt,Instr.sureAddr,Sem.run_bind,Sem.run_pure,Result.andThen_ok,h]
end
theorem su_ln {x:LSu} (h:vSu x.val=true):SuLn x:=by
 obtain⟨h1,h2,h3,h4,_,h6,_⟩:=vSu_parts h;have hl:x.val.stk.length=x.stk.l.length:=by simp[LSu.val]
 have hj:x.val.jnt.length=x.jnt.l.length:=by simp[LSu.val]
 refine⟨by omega,fun y hy=>?_,by omega,fun y hy=>?_,?_⟩
 ·have:=(S.valid_all (h3 y.l (by unfold LSu.val;exact List.mem_map.2 ⟨y,hy,rfl⟩))).2.2;omega
 ·have:=(jb_of (h4 y.l (by unfold LSu.val;exact List.mem_map.2 ⟨y,hy,rfl⟩))).n;omega
 ·have:x.gear.l.length<=64:=G.vldG_len h6;omega
theorem cs_pre {L:LS} {j:Nat} {v:Value} (h:L.x.cs.toArray[j]?=some v):L.cs[j]?=some v:=by
 rw[List.getElem?_toArray] at h;have e:L.cs=L.x.cs++[.int .i64 L.day,L.gusts.v,L.rigs.v,L.sites.v,L.items.v,L.back.v,.int .i64 L.money,L.lines.v]:=rfl;rw[e,List.getElem?_append_left (List.getElem?_eq_some_iff.1 h).1];exact h
theorem rig_eq {l m:List LRg} {k:Nat} {x y:LRg} (h:l.map LRg.val=m.map LRg.val) (hx:l[k]?=some x) (hy:m[k]?=some y):x.st=y.st∧x.lk.l=y.lk.l:=by
 have h1:(l.map LRg.val)[k]?=(m.map LRg.val)[k]?:=by rw[h]
 rw[List.getElem?_map,List.getElem?_map,hx,hy] at h1;have h2:=Option.some.inj h1;exact⟨congrArg Rig.st h2,congrArg Rig.lk h2⟩
theorem site_eq {l m:List LSi} {k:Nat} {x y:LSi} (h:l.map LSi.val=m.map LSi.val) (hx:l[k]?=some x) (hy:m[k]?=some y):x.fel=y.fel∧x.men=y.men∧x.dogs.l=y.dogs.l:=by
 have h1:(l.map LSi.val)[k]?=(m.map LSi.val)[k]?:=by rw[h]
 rw[List.getElem?_map,List.getElem?_map,hx,hy] at h1;have h2:=Option.some.inj h1;exact⟨congrArg Sit.fel h2,congrArg Sit.men h2,congrArg Sit.dogs h2⟩
theorem f_Same {b g:Nat} {L M:LS} {T T':Nat->Prop} {w:World} (hF:FirmAt w b L T) (hG:FirmAt w g M T') (hI:Inv L.val) (hv:L.val=M.val):
  Calls Tryz.prog 13 #[.pointer (some ⟨b,0,none⟩),.pointer (some ⟨g,0,none⟩)] w fun e w'=>e=.returned (.bool true)∧Below w.heap.size w w':=by
 have lb:=hF.blk.lt;have lg:=hG.blk.lt;have hX:L.x.val=M.x.val:=congrArg St.x hv;have hday:L.day=M.day:=congrArg St.day hv;have hgus:L.gusts.l=M.gusts.l:=congrArg St.gusts hv;have hrig:L.rigs.l.map LRg.val=M.rigs.l.map LRg.val:=congrArg St.rigs hv;have hsit:L.sites.l.map LSi.val=M.sites.l.map LSi.val:=congrArg St.sites hv;have hitm:L.items.l=M.items.l:=congrArg St.items hv;have hbck:L.back.l=M.back.l:=congrArg St.back hv;have hmon:L.money=M.money:=congrArg St.money hv;have hlin:L.lines.l=M.lines.l:=congrArg St.lines hv;have hrl:L.rigs.l.length=M.rigs.l.length:=by simpa using congrArg List.length hrig
 have hsl:L.sites.l.length=M.sites.l.length:=by simpa using congrArg List.length hsit
 have q1:L.gusts.l.length<=100000:=by have h:L.gusts.l.length<=2000:=hI.gl;omega
 have q2:L.items.l.length<=100000:=by have h:L.items.l.length<=64:=G.vldG_len hI.it;omega
 have q3:L.back.l.length<=100000:=by have h:L.back.l.length<=100:=hI.bl;omega
 have q4:L.lines.l.length<=100000:=by have h:L.lines.l.length<=2000:=hI.ll;omega
 have q5:L.rigs.l.length<=100000:=by have h:(L.rigs.l.map LRg.val).length<=50:=hI.rl;simp at h;omega
 have q6:L.sites.l.length<=100000:=by have h:L.sites.l.length<=8:=hI.slen;omega
 have HR:=Lib.hid (fun W (h:Below w.heap.size w W)=>(show Calls Tryz.prog 51 #[.slice L.rigs.a L.rigs.l.length L.rigs.c,.slice M.rigs.a M.rigs.l.length M.rigs.c,.func (.func 52) #[] #[]] W fun e w'=>e=.returned (.bool true)∧Below W.heap.size W w' from e_EqRig L.rigs.a M.rigs.a L.rigs.l M.rigs.l L.rigs.c M.rigs.c W q5 hrl (hF.ok.rigs.rd.on h) (hG.ok.rigs.rd.on h) (fun k x y hx hy=>⟨(rig_eq hrig hx hy).1,(rig_eq hrig hx hy).2,by have:=(hI.rk x.val (List.mem_map.2 ⟨x,List.mem_of_getElem? hx,rfl⟩)).1;have h3:x.lk.l.length<=32:=this;omega,(hF.ok.rk x (List.mem_of_getElem? hx)).rd.on h,(hG.ok.rk y (List.mem_of_getElem? hy)).rd.on h⟩)));have HS:=Lib.hid (fun W (h:Below w.heap.size w W)=>(show Calls Tryz.prog 54 #[.slice L.sites.a L.sites.l.length L.sites.c,.slice M.sites.a M.sites.l.length M.sites.c,.func (.func 55) #[] #[]] W fun e w'=>e=.returned (.bool true)∧Below W.heap.size W w' from e_EqSite L.sites.a M.sites.a L.sites.l M.sites.l L.sites.c M.sites.c W q6 hsl (hF.ok.sites.rd.on h) (hG.ok.sites.rd.on h) (fun k x y hx hy=>⟨(site_eq hsit hx hy).1,(site_eq hsit hx hy).2.1,(site_eq hsit hx hy).2.2,by have h3:x.dogs.l.length<=300:=hI.sd x.val (List.mem_map.2 ⟨x,List.mem_of_getElem? hx,rfl⟩);omega,(hF.ok.sk x (List.mem_of_getElem? hx)).rd.on h,(hG.ok.sk y (List.mem_of_getElem? hy)).rd.on h⟩)));have HU:=Lib.hid (fun W (h:Below w.heap.size w W)=>(show Calls Tryz.prog 56 #[.slice L.gusts.a L.gusts.l.length L.gusts.c,.slice M.gusts.a M.gusts.l.length M.gusts.c] W fun e w'=>e=.returned (.bool true)∧Below W.heap.size W w' from by rw[←hgus];exact e_EqualInt _ _ _ _ _ W q1 (hF.ok.gusts.rd.on h) (hgus▸hG.ok.gusts.rd.on h)));have HT:=Lib.hid (fun W (h:Below w.heap.size w W)=>(show Calls Tryz.prog 57 #[.slice L.items.a L.items.l.length L.items.c,.slice M.items.a M.items.l.length M.items.c] W fun e w'=>e=.returned (.bool true)∧Below W.heap.size W w' from by rw[←hitm];exact e_EqualItem _ _ _ _ _ W q2 (hF.ok.items.rd.on h) (hitm▸hG.ok.items.rd.on h)));have HB:=Lib.hid (fun W (h:Below w.heap.size w W)=>(show Calls Tryz.prog 58 #[.slice L.back.a L.back.l.length L.back.c,.slice M.back.a M.back.l.length M.back.c] W fun e w'=>e=.returned (.bool true)∧Below W.heap.size W w' from by rw[←hbck];exact e_EqualStr _ _ _ _ _ W q3 (hF.ok.back.rd.on h) (hbck▸hG.ok.back.rd.on h)));have HN:=Lib.hid (fun W (h:Below w.heap.size w W)=>(show Calls Tryz.prog 60 #[.slice L.lines.a L.lines.l.length L.lines.c,.slice M.lines.a M.lines.l.length M.lines.c] W fun e w'=>e=.returned (.bool true)∧Below W.heap.size W w' from by rw[←hlin];exact e_EqualEntry _ _ _ _ _ W q4 (own_rd' En.cs_len (own_on hF.row h)) (hlin▸own_rd' En.cs_len (own_on hG.row h))));have HP:=Lib.hid (fun W (h:Below w.heap.size w W)=>(show Calls Tryz.prog 59 #[.agg L.x.cs.toArray,.agg M.x.cs.toArray] W fun e w'=>e=.returned (.bool true)∧Below W.heap.size W w' from e_sameSetup L.x M.x W hX (hF.ok.su.on h) (hG.ok.su.on h) (su_ln hI.su)));obtain⟨CA,hCA⟩:∃CA,CA=L.x.cs.toArray:=⟨_,rfl⟩;obtain⟨CB,hCB⟩:∃CB,CB=M.x.cs.toArray:=⟨_,rfl⟩;have hCz:(Tryz.prog.info? 32).map (·.size)=some CA.size:=by rw[hCA];exact su_cs L.x
 have hCy:(Tryz.prog.info? 32).map (·.size)=some CB.size:=by rw[hCB];exact su_cs M.x
 rw[←hCA,←hCB] at HP;have HDM:=Lib.hid (show L.day=M.day∧L.money=M.money from⟨hday,hmon⟩);clear hX hday hgus hrig hsit hitm hbck hmon hlin hrl hsl q1 q2 q3 q4 q5 q6 hv hI;have HFF:=Lib.hid hF;have HGG:=Lib.hid hG;clear hF hG;go_enter Tryz.func13,Tryz.ntmps13
 go_wp2;go_quiet (fail)
 have B1:=below_drewN (below_refl w) nq;generalize w.drewN nq=w1 at *;have hF1:=HFF.out.on B1;have hG1:=HGG.out.on B1;have lb1:=Nat.lt_of_lt_of_le lb B1.size;have lg1:=Nat.lt_of_lt_of_le lg B1.size;have c19:w1.cell? ⟨b,19,none⟩=some (.slice L.rigs.a L.rigs.l.length L.rigs.c):=hF1.cel 19 _ rfl;have d19:w1.cell? ⟨g,19,none⟩=some (.slice M.rigs.a M.rigs.l.length M.rigs.c):=hG1.cel 19 _ rfl;clear hF1 hG1;go_upto_region 4 with fail
 refine wp_region_noPanic ?_;refine th w1 fun hS0=>?_;refine tq 0 ?_;refine tq 1 ?_;refine tq 2 ?_;refine tq 3 ?_;refine tq 4 ?_;refine tq 5 ?_;refine tq 6 ?_;refine tq 7 ?_;refine tr 8 fun K hK=>?_;go_simp
 (go_at_call 51;((with_reducible refine(HR.out _ (below_tr B1 bl)).mono ?_);rintro e w3 ⟨rfl,hb3⟩;obtain⟨hc3,hf3,hz3⟩:=qz hb3))
 refine hK.out _ _ kq (fun hS1=>?_);clear hK K;try simp only[AP]
 refine tq 9 ?_;refine wpAnyH_done (by kernel_rfl) (NoPanic.normal ?_) _;have B3:=below_tr B1 (show Below w1.heap.size w1 w3 from bl);clear hS1 hc3 hf3;clear c19 d19;have hF3:=HFF.out.on B3;have hG3:=HGG.out.on B3;have lb3:=Nat.lt_of_lt_of_le lb B3.size;have lg3:=Nat.lt_of_lt_of_le lg B3.size;have c20:w3.cell? ⟨b,20,none⟩=some (.slice L.sites.a L.sites.l.length L.sites.c):=hF3.cel 20 _ rfl;have d20:w3.cell? ⟨g,20,none⟩=some (.slice M.sites.a M.sites.l.length M.sites.c):=hG3.cel 20 _ rfl;clear hF3 hG3;go_upto_region 5 with fail
 refine wp_region_noPanic ?_;refine th w3 fun hS0=>?_;refine tq 0 ?_;refine tq 1 ?_;refine tq 2 ?_;refine tq 3 ?_;refine tq 4 ?_;refine tq 5 ?_;refine tq 6 ?_;refine tq 7 ?_;refine tr 8 fun K hK=>?_;go_simp
 (go_at_call 54;((with_reducible refine(HS.out _ (below_tr B3 bl)).mono ?_);rintro e w4 ⟨rfl,hb4⟩;obtain⟨hc4,hf4,hz4⟩:=qz hb4))
 refine hK.out _ _ kq (fun hS1=>?_);clear hK K;try simp only[AP]
 refine tq 9 ?_;refine wpAnyH_done (by kernel_rfl) (NoPanic.normal ?_) _;have B4:=below_tr B3 (show Below w3.heap.size w3 w4 from bl);clear hS1 hc4 hf4;clear c20 d20;have hF4:=HFF.out.on B4;have hG4:=HGG.out.on B4;have lb4:=Nat.lt_of_lt_of_le lb B4.size;have lg4:=Nat.lt_of_lt_of_le lg B4.size;have c18:w4.cell? ⟨b,18,none⟩=some (.slice L.gusts.a L.gusts.l.length L.gusts.c):=hF4.cel 18 _ rfl;have d18:w4.cell? ⟨g,18,none⟩=some (.slice M.gusts.a M.gusts.l.length M.gusts.c):=hG4.cel 18 _ rfl;have c21:w4.cell? ⟨b,21,none⟩=some (.slice L.items.a L.items.l.length L.items.c):=hF4.cel 21 _ rfl;have d21:w4.cell? ⟨g,21,none⟩=some (.slice M.items.a M.items.l.length M.items.c):=hG4.cel 21 _ rfl;have c22:w4.cell? ⟨b,22,none⟩=some (.slice L.back.a L.back.l.length L.back.c):=hF4.cel 22 _ rfl;have d22:w4.cell? ⟨g,22,none⟩=some (.slice M.back.a M.back.l.length M.back.c):=hG4.cel 22 _ rfl;clear hF4 hG4;go_upto_region 6 with fail
 refine wp_region_noPanic ?_;refine th w4 fun hS0=>?_;refine tq 0 ?_;refine tq 1 ?_;refine tq 2 ?_;refine tq 3 ?_;refine tq 4 ?_;refine tq 5 ?_;refine tq 6 ?_;refine tq 7 ?_;refine tr 8 fun K hK=>?_;go_simp
 (go_at_call 56;((with_reducible refine(HU.out _ (below_tr B4 bl)).mono ?_);rintro e w5 ⟨rfl,hb5⟩;obtain⟨hc5,hf5,hz5⟩:=qz hb5))
 refine hK.out _ _ kq (fun hS1=>?_);clear hK K;try simp only[AP]
 refine tq 9 ?_;refine tq 10 ?_;refine tq 11 ?_;refine tq 12 ?_;refine tq 13 ?_;refine tq 14 ?_;refine tq 15 ?_;refine tq 16 ?_;refine tq 17 ?_;refine tr 18 fun K hK=>?_;go_simp
 (go_at_call 57;((with_reducible refine(HT.out _ (below_tr B4 bl)).mono ?_);rintro e w6 ⟨rfl,hb6⟩;obtain⟨hc6,hf6,hz6⟩:=qz hb6))
 refine hK.out _ _ kq (fun hS2=>?_);clear hK K;try simp only[AP]
 refine tq 19 ?_;refine tq 20 ?_;refine tq 21 ?_;refine tq 22 ?_;refine tq 23 ?_;refine tq 24 ?_;refine tq 25 ?_;refine tq 26 ?_;refine tq 27 ?_;refine tq 28 ?_;refine tr 29 fun K hK=>?_;go_simp
 (go_at_call 58;((with_reducible refine(HB.out _ (below_tr B4 bl)).mono ?_);rintro e w7 ⟨rfl,hb7⟩;obtain⟨hc7,hf7,hz7⟩:=qz hb7))
 refine hK.out _ _ kq (fun hS3=>?_);clear hK K;try simp only[AP]
 refine tq 30 ?_;refine tq 31 ?_;refine wpAnyH_done (by kernel_rfl) (NoPanic.normal ?_) _;have B7:=below_tr B4 (show Below w4.heap.size w4 w7 from bl);clear hS1 hS2 hS3 hc5 hf5 hc6 hf6 hc7 hf7;clear c18 d18 c21 d21 c22 d22;have hF7:=HFF.out.on B7;have hG7:=HGG.out.on B7;have lb7:=Nat.lt_of_lt_of_le lb B7.size;have lg7:=Nat.lt_of_lt_of_le lg B7.size;have c17:w7.cell? ⟨b,17,none⟩=some (.int .i64 L.day):=hF7.cel 17 _ rfl;have d17:w7.cell? ⟨g,17,none⟩=some (.int .i64 M.day):=hG7.cel 17 _ rfl;have c23:w7.cell? ⟨b,23,none⟩=some (.int .i64 L.money):=hF7.cel 23 _ rfl;have d23:w7.cell? ⟨g,23,none⟩=some (.int .i64 M.money):=hG7.cel 23 _ rfl;have c24:w7.cell? ⟨b,24,none⟩=some (.slice L.lines.a L.lines.l.length L.lines.c):=hF7.cel 24 _ rfl;have d24:w7.cell? ⟨g,24,none⟩=some (.slice M.lines.a M.lines.l.length M.lines.c):=hG7.cel 24 _ rfl;have HLA:=Lib.hid (fun w' (h:Below w7.heap.size w7 w')=>run_loadVar_part w' b 32 CA _ (fun j v hv=>(hF7.on h).cel j v (by rw[hCA] at hv;exact cs_pre hv)) Tryz.underlying32 rfl hCz);have HLB:=Lib.hid (fun w' (h:Below w7.heap.size w7 w')=>run_loadVar_part w' g 32 CB _ (fun j v hv=>(hG7.on h).cel j v (by rw[hCB] at hv;exact cs_pre hv)) Tryz.underlying32 rfl hCy);clear hCA hCB hCz hCy;obtain⟨hd1,hd2⟩:=HDM.out;rw[←hd1] at d17;rw[←hd2] at d23;clear hd1 hd2;clear hF7 hG7;go_upto_region 7 with fail
 refine wp_region_noPanic ?_;refine th w7 fun hS0=>?_;refine tq 0 ?_;refine tq 1 ?_;refine tq 2 ?_;refine wpAnyH_take (i:=3) (oi:={dst:=some 74,op:=_,type:=_,pos:=_,after:=_,guard:=none}) (v:=.agg CA) rfl (by kernel_rfl) (by kernel_rfl) (by kernel_rfl) (fun _ _ _ h=>h) (Or.inl ⟨by rfl,?gy51⟩) (by assumption) ?_
 case gy51=>(intro w' hSw;exact load_part_ok rfl rfl (HLA.out w' hSw.2.2))
 try simp only[AP]
 refine tq 4 ?_;refine tq 5 ?_;refine tq 6 ?_;refine wpAnyH_take (i:=7) (oi:={dst:=some 78,op:=_,type:=_,pos:=_,after:=_,guard:=none}) (v:=.agg CB) rfl (by kernel_rfl) (by kernel_rfl) (by kernel_rfl) (fun _ _ _ h=>h) (Or.inl ⟨by rfl,?gy55⟩) (by assumption) ?_
 case gy55=>(intro w' hSw;exact load_part_ok rfl rfl (HLB.out w' hSw.2.2))
 try simp only[AP]
 refine tr 8 fun K hK=>?_;go_simp
 (go_at_call 59;((with_reducible refine(HP.out _ (below_tr B7 bl)).mono ?_);rintro e w8 ⟨rfl,hb8⟩;obtain⟨hc8,hf8,hz8⟩:=qz hb8))
 refine hK.out _ _ kq (fun hS1=>?_);clear hK K;try simp only[AP]
 refine tq 9 ?_;refine tq 10 ?_;refine tq 11 ?_;refine tq 12 ?_;refine tq 13 ?_;refine tq 14 ?_;refine tq 15 ?_;refine tq 16 ?_;refine tq 17 ?_;refine tq 18 ?_;refine tq 19 ?_;refine tq 20 ?_;refine tq 21 ?_;refine tq 22 ?_;refine tq 23 ?_;refine tq 24 ?_;refine tq 25 ?_;refine tq 26 ?_;refine tq 27 ?_;refine tq 28 ?_;refine tq 29 ?_;refine tq 30 ?_;refine tq 31 ?_;refine tq 32 ?_;refine tq 33 ?_;refine tq 34 ?_;refine tq 35 ?_;refine tq 36 ?_;refine tq 37 ?_;refine tq 38 ?_;refine tq 39 ?_;refine tq 40 ?_;refine tq 41 ?_;refine tq 42 ?_;refine tq 43 ?_;refine tq 44 ?_;refine tq 45 ?_;refine tq 46 ?_;refine tq 47 ?_;refine tq 48 ?_;refine tr 49 fun K hK=>?_;go_simp
 (go_at_call 60;((with_reducible refine(HN.out _ (below_tr B7 bl)).mono ?_);rintro e w9 ⟨rfl,hb9⟩;obtain⟨hc9,hf9,hz9⟩:=qz hb9))
 refine hK.out _ _ kq (fun hS2=>?_);clear hK K;try simp only[AP]
 refine tq 50 ?_;refine tq 51 ?_;refine wpAnyH_done (by kernel_rfl) (NoPanic.normal ?_) _;go_wp2;go_ret;exact⟨rfl,below_tr B7 bl⟩
theorem FirmAt.flt {b:Nat} {L:LS} {T:Nat->Prop} {w:World} (h:FirmAt w b L T):∀g,Foot b L g->g<w.heap.size:=by
 rintro g (rfl|hg)
 ·exact h.blk.lt
 ·exact(own_ge h.row g hg).2
def LgP (SM:Prop) (e:Ending):Prop:=∃r:Bool,e=.returned (.bool r)∧(r=false->SM)
theorem FirmAt.beside {b g:Nat} {L L' M:LS} {T T' U:Nat->Prop} {w w':World} (h:FirmAt w g M U) (hf:Fut w b L T w' L' T') (hd:∀x,Foot b L x->¬U x∧¬Foot g M x):FirmAt w' g M U:=
 h.stp hf.stp (fun x hx hn=>(hd x hn).1 hx) (fun x hx hn=>(hd x hn).2 hx)
structure Two (w0 w:World) (b:Nat) (L:LS) (T:Nat->Prop) (g:Nat) (M:LS) (U:Nat->Prop):Prop where
 ld:LdW w0
 bel:Below w0.heap.size w0 w
 p:FirmAt w b L T
 q:FirmAt w g M U
 ip:Inv L.val
 iq:Inv M.val
 fp:∀x,Foot b L x->w0.heap.size<=x
 fq:∀x,Foot g M x->w0.heap.size<=x
 tp:∀x,T x->x<w.heap.size
 tq:∀x,U x->x<w.heap.size
 dp:∀x,Foot b L x->¬U x∧¬Foot g M x
 dq:∀x,Foot g M x->¬T x∧¬Foot b L x
theorem Two.swap {w0 w:World} {b g:Nat} {L M:LS} {T U:Nat->Prop} (h:Two w0 w b L T g M U):Two w0 w g M U b L T:=⟨h.ld,h.bel,h.q,h.p,h.iq,h.ip,h.fq,h.fp,h.tq,h.tp,h.dq,h.dp⟩
theorem Two.env {w0 w:World} {b g:Nat} {L M:LS} {T U:Nat->Prop} (h:Two w0 w b L T g M U):Env w b L:=⟨w0,h.ld,h.bel,h.fp⟩
theorem Two.step {w0 w w':World} {b g:Nat} {L L' M:LS} {T T' U:Nat->Prop} (h:Two w0 w b L T g M U) (hf:Fut w b L T w' L' T') (hi:Inv L'.val):Two w0 w' b L' (fun x=>T' x∧x<w'.heap.size) g M U:=by
 have hz:=hf.stp.size;have hM:=h.q.flt;refine⟨h.ld,below_stp h.bel hf.stp (fun x hx e=>by have:=h.fp x e;omega) h.bel.size,hf.cut.at_,h.q.beside hf h.dp,hi,h.iq,?_,h.fq,fun x hx=>hx.2,fun x hx=>Nat.lt_of_lt_of_le (h.tq x hx) hz,?_,?_⟩
 ·intro x hx;rcases hf.ff x hx with h1|h1
  ·exact h.fp x h1
  ·exact Nat.le_trans h.bel.size h1
 ·intro x hx;rcases hf.ff x hx with h1|h1
  ·exact h.dp x h1
  ·exact⟨fun h2=>by have:=h.tq x h2;omega,fun h2=>by have:=hM x h2;omega⟩
 ·intro x hx;refine⟨fun h2=>?_,fun h2=>?_⟩
  ·rcases hf.tt x h2.1 with h1|h1
   ·exact(h.dq x hx).1 h1
   ·have:=hM x hx;omega
  ·rcases hf.ff x h2 with h1|h1
   ·exact(h.dq x hx).2 h1
   ·have:=hM x hx;omega
theorem Two.below {w0 w w':World} {b g:Nat} {L M:LS} {T U:Nat->Prop} (h:Two w0 w b L T g M U) (hb:Below w.heap.size w w'):Two w0 w' b L T g M U:=
 ⟨h.ld,below_tr h.bel hb,h.p.on hb,h.q.on hb,h.ip,h.iq,h.fp,h.fq,fun x hx=>Nat.lt_of_lt_of_le (h.tp x hx) hb.size,fun x hx=>Nat.lt_of_lt_of_le (h.tq x hx) hb.size,h.dp,h.dq⟩
theorem Two.make {w w1 w2 w3:World} {x:LSu} {b g:Nat} {L M:LS} {T U:Nat->Prop} (hL:LdW w) (h1:Below w.heap.size w w1) (n1:NwQ x w1 b L T w2) (n2:NwQ x w2 g M U w3):Two w w3 b L T g M U:=by
 obtain⟨hb1,hF,hv1,hi1,hT,hft⟩:=n1;obtain⟨hb2,hG,hv2,hi2,hU,hgt⟩:=n2;have hz:=h1.size;have hz1:=hb1.size;have hz2:=hb2.size;have hM:=hF.flt;refine⟨hL,below_tr (below_tr h1 hb1) hb2,hF.on hb2,hG,hi1,hi2,fun y hy=>Nat.le_trans hz (hft y hy),fun y hy=>by have:=hgt y hy;omega,fun y hy=>by have:=(hT y hy).2;omega,fun y hy=>(hU y hy).2,?_,?_⟩
 ·intro y hy;have:=hM y hy;exact⟨fun h=>by have:=(hU y h).1;omega,fun h=>by have:=hgt y h;omega⟩
 ·intro y hy;have:=hgt y hy;exact⟨fun h=>by have:=(hT y h).2;omega,fun h=>by have:=hM y h;omega⟩
theorem Two.same {w0 w:World} {b g:Nat} {L M:LS} {T U:Nat->Prop} (h:Two w0 w b L T g M U) (hv:L.val=M.val):Calls Tryz.prog 13 #[.pointer (some ⟨b,0,none⟩),.pointer (some ⟨g,0,none⟩)] w fun e w'=>e=.returned (.bool true)∧Below w.heap.size w w':=f_Same h.p h.q h.ip hv
theorem of_bts (s:ByteArray):∃l,s=bts l:=by
 obtain⟨⟨l⟩⟩:=s;exact⟨l,rfl⟩
theorem r3_within (n lo hi:Int) (w:World):
  Calls Tryz.prog 96 #[.int .i64 n,.int .i64 lo,.int .i64 hi] w fun e w'=>e=.returned (.bool (wn n lo hi))∧w=w':=by
 by_cases h1:lo<=n
 ·have t1:decide (lo<=n)=true:=by simpa using h1
  go_enter Tryz.func96,Tryz.ntmps96
  go_wp2;go_ret;exact⟨ret_bool (by simp[wn,h1]),rfl⟩
 ·have t1:decide (lo<=n)=false:=by simpa using h1
  go_enter Tryz.func96,Tryz.ntmps96
  go_wp2;go_ret;exact⟨ret_bool (by unfold wn;rw[t1];rfl),rfl⟩
theorem r3_withinV {n lo hi:Int} {b:Bool} (h:wn n lo hi=b) (w:World):
  Calls Tryz.prog 96 #[.int .i64 n,.int .i64 lo,.int .i64 hi] w fun e w'=>e=.returned (.bool b)∧w=w':=h▸r3_within n lo hi w
theorem r9_within (n lo hi:Int) (w:World):
  Calls Tryz.prog 101 #[.int .i64 n,.int .i64 lo,.int .i64 hi] w fun e w'=>e=.returned (.bool (wn n lo hi))∧w=w':=by
 by_cases h1:lo<=n
 ·have t1:decide (lo<=n)=true:=by simpa using h1
  go_enter Tryz.func101,Tryz.ntmps101
  go_wp2;go_ret;exact⟨ret_bool (by simp[wn,h1]),rfl⟩
 ·have t1:decide (lo<=n)=false:=by simpa using h1
  go_enter Tryz.func101,Tryz.ntmps101
  go_wp2;go_ret;exact⟨ret_bool (by unfold wn;rw[t1];rfl),rfl⟩
theorem r9_withinV {n lo hi:Int} {b:Bool} (h:wn n lo hi=b) (w:World):
  Calls Tryz.prog 101 #[.int .i64 n,.int .i64 lo,.int .i64 hi] w fun e w'=>e=.returned (.bool b)∧w=w':=h▸r9_within n lo hi w
theorem r10_within (n lo hi:Int) (w:World):
  Calls Tryz.prog 31 #[.int .i64 n,.int .i64 lo,.int .i64 hi] w fun e w'=>e=.returned (.bool (wn n lo hi))∧w=w':=by
 by_cases h1:lo<=n
 ·have t1:decide (lo<=n)=true:=by simpa using h1
  go_enter Tryz.func31,Tryz.ntmps31
  go_wp2;go_ret;exact⟨ret_bool (by simp[wn,h1]),rfl⟩
 ·have t1:decide (lo<=n)=false:=by simpa using h1
  go_enter Tryz.func31,Tryz.ntmps31
  go_wp2;go_ret;exact⟨ret_bool (by unfold wn;rw[t1];rfl),rfl⟩
theorem r10_withinV {n lo hi:Int} {b:Bool} (h:wn n lo hi=b) (w:World):
  Calls Tryz.prog 31 #[.int .i64 n,.int .i64 lo,.int .i64 hi] w fun e w'=>e=.returned (.bool b)∧w=w':=h▸r10_within n lo hi w
theorem r9_ValidRateV {r:Rt} {b:Bool} (h:vRt r=b) (w:World):Calls Tryz.prog 37 #[rtV r] w fun e w'=>e=.returned (.bool b)∧Below w.heap.size w w':=by
 have HB:=Lib.hid (show(wn r.hi 1 200000&&(wn r.lo 0 1000000&&(wn r.ab 0 1000000&&wn r.co 0 1000000)))=b from h);rcases (show wn r.hi 1 200000=false∨wn r.hi 1 200000=true∧wn r.lo 0 1000000=false∨wn r.hi 1 200000=true∧wn r.lo 0 1000000=true∧wn r.ab 0 1000000=false∨wn r.hi 1 200000=true∧wn r.lo 0 1000000=true∧wn r.ab 0 1000000=true from by
  cases wn r.hi 1 200000<;>cases wn r.lo 0 1000000<;>cases wn r.ab 0 1000000<;>decide) with h1|⟨h1,h2⟩|⟨h1,h2,h3⟩|⟨h1,h2,h3⟩
 rotate_left 3
 ·cases h4:wn r.co 0 1000000
  all_goals
   have HE:=HB.out;rw[h1,h2,h3,h4] at HE;subst HE;go_enter Tryz.func37,Tryz.ntmps37
   go_wp2_with (first|(go_at_call 101;((with_reducible refine(r9_withinV h1 _).mono ?_);rintro e w' ⟨rfl,rfl⟩))|(go_at_call 101;((with_reducible refine(r9_withinV h2 _).mono ?_);rintro e w' ⟨rfl,rfl⟩))|(go_at_call 101;((with_reducible refine(r9_withinV h3 _).mono ?_);rintro e w' ⟨rfl,rfl⟩))|(go_at_call 101;((with_reducible refine(r9_withinV h4 _).mono ?_);rintro e w' ⟨rfl,rfl⟩)))
   go_ret;exact⟨rfl,bl_alloc (below_refl _) _⟩
 all_goals
  have HE:false=b:=by rw[←HB.out];simp[*]
  subst HE;go_enter Tryz.func37,Tryz.ntmps37
  go_wp2_with (first|(go_at_call 101;((with_reducible refine(r9_withinV h1 _).mono ?_);rintro e w' ⟨rfl,rfl⟩))|(go_at_call 101;((with_reducible refine(r9_withinV h2 _).mono ?_);rintro e w' ⟨rfl,rfl⟩))|(go_at_call 101;((with_reducible refine(r9_withinV h3 _).mono ?_);rintro e w' ⟨rfl,rfl⟩)))
  go_ret;exact⟨rfl,bl_alloc (below_refl _) _⟩
theorem r3_ValidClimbV {c:Cl} {b:Bool} (h:vCl c=b) (w:World):Calls Tryz.prog 34 #[clV c] w fun e w'=>e=.returned (.bool b)∧Below w.heap.size w w':=by
 have HB:=Lib.hid (show(wn c.fi 1 200000&&(wn c.ga 1 200000&&(wn c.tp 1 200000&&(wn c.le 1 200000&&(wn c.la 0 (c.le-1)&&wn c.st 1 1000000)))))=b from h);have HL:=Lib.hid (show wn c.la 0 (c.le-1)=(decide (0<=c.la)&&decide (c.la<c.le)) by unfold wn;rw[show decide (c.la<=c.le-1)=decide (c.la<c.le) from decide_eq_decide.2 (by omega)]);rcases (show wn c.fi 1 200000=false∨wn c.fi 1 200000=true∧wn c.ga 1 200000=false∨wn c.fi 1 200000=true∧wn c.ga 1 200000=true∧wn c.tp 1 200000=false∨wn c.fi 1 200000=true∧wn c.ga 1 200000=true∧wn c.tp 1 200000=true∧wn c.le 1 200000=false∨wn c.fi 1 200000=true∧wn c.ga 1 200000=true∧wn c.tp 1 200000=true∧wn c.le 1 200000=true from by
  cases wn c.fi 1 200000<;>cases wn c.ga 1 200000<;>cases wn c.tp 1 200000<;>cases wn c.le 1 200000<;>decide) with h1|⟨h1,h2⟩|⟨h1,h2,h3⟩|⟨h1,h2,h3,h4⟩|⟨h1,h2,h3,h4⟩
 rotate_left 4
 ·have HE:=HB.out;rw[h1,h2,h3,h4,HL.out] at HE;by_cases h5:0<=c.la
  rotate_left
  ·have q5:decide (0<=c.la)=false:=decide_eq_false h5;rw[q5] at HE;obtain rfl:false=b:=HE;go_enter Tryz.func34,Tryz.ntmps34
   go_wp2_with (first|(go_at_call 96;((with_reducible refine(r3_withinV h1 _).mono ?_);rintro e w' ⟨rfl,rfl⟩))|(go_at_call 96;((with_reducible refine(r3_withinV h2 _).mono ?_);rintro e w' ⟨rfl,rfl⟩))|(go_at_call 96;((with_reducible refine(r3_withinV h3 _).mono ?_);rintro e w' ⟨rfl,rfl⟩))|(go_at_call 96;((with_reducible refine(r3_withinV h4 _).mono ?_);rintro e w' ⟨rfl,rfl⟩)))
   go_ret;exact⟨rfl,bl_alloc (below_refl _) _⟩
  have q5:decide (0<=c.la)=true:=decide_eq_true h5;by_cases h6:c.la<c.le
  rotate_left
  ·have q6:decide (c.la<c.le)=false:=decide_eq_false h6;rw[q5,q6] at HE;obtain rfl:false=b:=HE;go_enter Tryz.func34,Tryz.ntmps34
   go_wp2_with (first|(go_at_call 96;((with_reducible refine(r3_withinV h1 _).mono ?_);rintro e w' ⟨rfl,rfl⟩))|(go_at_call 96;((with_reducible refine(r3_withinV h2 _).mono ?_);rintro e w' ⟨rfl,rfl⟩))|(go_at_call 96;((with_reducible refine(r3_withinV h3 _).mono ?_);rintro e w' ⟨rfl,rfl⟩))|(go_at_call 96;((with_reducible refine(r3_withinV h4 _).mono ?_);rintro e w' ⟨rfl,rfl⟩)))
   go_ret;exact⟨rfl,bl_alloc (below_refl _) _⟩
  have q6:decide (c.la<c.le)=true:=decide_eq_true h6;rw[q5,q6] at HE;cases h7:wn c.st 1 1000000
  all_goals
   rw[h7] at HE;subst HE;go_enter Tryz.func34,Tryz.ntmps34
   go_wp2_with (first|(go_at_call 96;((with_reducible refine(r3_withinV h1 _).mono ?_);rintro e w' ⟨rfl,rfl⟩))|(go_at_call 96;((with_reducible refine(r3_withinV h2 _).mono ?_);rintro e w' ⟨rfl,rfl⟩))|(go_at_call 96;((with_reducible refine(r3_withinV h3 _).mono ?_);rintro e w' ⟨rfl,rfl⟩))|(go_at_call 96;((with_reducible refine(r3_withinV h4 _).mono ?_);rintro e w' ⟨rfl,rfl⟩))|(go_at_call 96;((with_reducible refine(r3_withinV h7 _).mono ?_);rintro e w' ⟨rfl,rfl⟩)))
   go_ret;exact⟨rfl,bl_alloc (below_refl _) _⟩
 all_goals
  have HE:false=b:=by rw[←HB.out];simp[*]
  subst HE;go_enter Tryz.func34,Tryz.ntmps34
  go_wp2_with (first|(go_at_call 96;((with_reducible refine(r3_withinV h1 _).mono ?_);rintro e w' ⟨rfl,rfl⟩))|(go_at_call 96;((with_reducible refine(r3_withinV h2 _).mono ?_);rintro e w' ⟨rfl,rfl⟩))|(go_at_call 96;((with_reducible refine(r3_withinV h3 _).mono ?_);rintro e w' ⟨rfl,rfl⟩))|(go_at_call 96;((with_reducible refine(r3_withinV h4 _).mono ?_);rintro e w' ⟨rfl,rfl⟩)))
  go_ret;exact⟨rfl,bl_alloc (below_refl _) _⟩
theorem r3_ValidJoints (A:Option Addr) (l:List Jt) (c:Nat) (w:World) (hl:l.length<=100000) (hR:Rd Jt.cs 2 w A l):
  Calls Tryz.prog 33 #[.slice A l.length c] w fun e w'=>e=.returned (.bool (vJ l))∧Below w.heap.size w w':=by
 go_enter Tryz.func33,Tryz.ntmps33
 go_wp2;go_loopw [3] (fun i wr=>∃k:Nat,k<=l.length∧i=.int .i64 k∧Below w.heap.size w wr∧Hid ((List.range k).all (okJ l)=true)) (fun i _=>l.length-(RowKit.intOf i).toNat)
 case atStart=>exact⟨0,by omega,rfl,below_refl _,Lib.hid rfl⟩
 case round=>
  obtain⟨k,hk,rfl,hbw,HI⟩:=hrel;have k0:=nn k;by_cases hlt:k<l.length
  ·have k1:(k:Int)<(l.length:Int):=by omega
   obtain⟨x,b,off,hx,rfl,hb,c0,c1⟩:=rdJ (hR.on hbw) hlt;have HX:=Lib.hid (jAt_of hx);cases h1:wn x.h 1 200000
   ·have HE:=Lib.hid (vJ_no hlt (by unfold okJ;rw[HX.out,h1];rfl));obtain⟨XH,XS⟩:=x;dsimp only at *;clear hx;go_wp2;go_quiet ((go_at_call 96;with_reducible exact quiet_left (r3_withinV h1 _)))
    go_wp2;go_ret;exact⟨ret_bool HE.out.symm,below_drewN hbw _⟩
   by_cases hk0:0<k
   ·obtain⟨y,b',off',hy,e',hb',d0,d1⟩:=rdJ (hR.on hbw) (show k-1<l.length by omega);cases e';have hw1:IntKind.i64.wrap ((k:Int)-1)=((k-1:Nat):Int):=by rw[fits_wrap ⟨by omega,by omega⟩];omega
    have q0:(0:Int)<=((k-1:Nat):Int):=Int.natCast_nonneg _;have q1:((k-1:Nat):Int)<(l.length:Int):=by omega
    have HY:=Lib.hid (jAt_of hy);by_cases h2:x.h<=y.h
    ·have HE:=Lib.hid (vJ_no hlt (by unfold okJ;rw[HX.out,HY.out,h1,decide_eq_false (show ¬k=0 by omega),decide_eq_false (show ¬y.h<x.h by omega)];rfl));obtain⟨XH,XS⟩:=x;dsimp only at *;clear hx hy;go_wp2;go_quiet ((go_at_call 96;with_reducible exact quiet_left (r3_withinV h1 _)))
     go_wp2;go_ret;exact⟨ret_bool HE.out.symm,below_drewN hbw _⟩
    ·have HO:=Lib.hid (all_stepJ HI.out (show okJ l k=true by unfold okJ;rw[HX.out,HY.out,h1,decide_eq_true (show y.h<x.h by omega),Bool.or_true];rfl));have n2:decide (x.h<=y.h)=false:=decide_eq_false h2;obtain⟨XH,XS⟩:=x;dsimp only at *;clear hx hy;go_wp2;go_quiet ((go_at_call 96;with_reducible exact quiet_left (r3_withinV h1 _)))
     go_wp2;go_roundw
     case rel=>exact⟨k+1,by omega,by go_num,below_drewN hbw _,HO⟩
     case measure=>simp[RowKit.intOf];omega
   ·have hk00:k=0:=by omega
    have n8:decide (0<k)=false:=decide_eq_false hk0;have HO:=Lib.hid (all_stepJ HI.out (show okJ l k=true by unfold okJ;rw[HX.out,h1,decide_eq_true hk00];rfl));obtain⟨XH,XS⟩:=x;dsimp only at *;clear hx hk00;go_wp2;go_quiet ((go_at_call 96;with_reducible exact quiet_left (r3_withinV h1 _)))
    go_wp2;go_roundw
    case rel=>exact⟨k+1,by omega,by go_num,below_drewN hbw _,HO⟩
    case measure=>simp[RowKit.intOf];omega
  ·obtain rfl:k=l.length:=by omega
   have HE:=Lib.hid (vJ_yes HI.out);go_wp2;go_ret;exact⟨ret_bool (by rw[HE.out];simp;omega),hbw⟩
end Go.Proofs.YtjkkfcghkeoedaaGreatDoor.Fi
