/- The statement TopGoesOn is proved: whatever the input, the law returns true and each argument reads as it read before. No condition. -/
import Derived.Test.YtjkkfcghkeoedaaGreatDoorR0
import Derived.Test.YtjkkfcghkeoedaaGreatDoorR41
import Derived.Test.YtjkkfcghkeoedaaGreatDoorCards
import Derived.Test.YtjkkfcghkeoedaaGreatDoorChecked
import Derived.JoinedOf
import Derived.ProofKit
set_option maxHeartbeats 16000000
set_option maxRecDepth 20000
set_option linter.unusedSimpArgs false
set_option linter.unusedVariables false
namespace Go.Proofs.YtjkkfcghkeoedaaGreatDoor.Fi
open Go.ChangeShapes Go.WideShapes Go.ChangeAt Go.RowKit Go.Deep Go.Joins Tx
def Cl.cs (c:Cl):List Value:=[.int .i64 c.fi,.int .i64 c.ga,.int .i64 c.tp,.int .i64 c.le,.int .i64 c.la,.int .i64 c.st]
def ruCs (c:V.Ru):List Value:=[.int .i64 c.s,.int .i64 c.g,.int .i64 c.c]
def Rt.cs (c:Rt):List Value:=[.int .i64 c.lo,.int .i64 c.hi,.int .i64 c.ab,.int .i64 c.co]
section
variable {H:Type} {enc:TypeId×Value->H} {w:World} {base:Nat} {spare:Nat->Bool} {held:Bool}
theorem dec_course (n:Nat) (cs:List Value) (x) (h:DataW.trod enc Tryz.prog w base spare held n 115 cs=some x):∃a:S.Course,cs=S.Course.cs a∧True:=by
 obtain⟨hl,hf⟩:=dec_fields Tryz.underlying115 (by kernel_rfl) (by kernel_rfl) n cs x h;match cs,hl with
 |[c0,c1,c2,c3,c4,c5],_=>
  obtain⟨m0,y0,e0⟩:=hf 0 _ c0 rfl rfl;obtain⟨m1,y1,e1⟩:=hf 1 _ c1 rfl rfl;obtain⟨m2,y2,e2⟩:=hf 2 _ c2 rfl rfl;obtain⟨m3,y3,e3⟩:=hf 3 _ c3 rfl rfl;obtain⟨m4,y4,e4⟩:=hf 4 _ c4 rfl rfl;obtain⟨m5,y5,e5⟩:=hf 5 _ c5 rfl rfl;obtain⟨a0,g0,f0⟩:=dec_int Tryz.underlying3 _ _ _ e0;obtain⟨a1,g1,f1⟩:=dec_int Tryz.underlying3 _ _ _ e1;obtain⟨a2,g2,f2⟩:=dec_int Tryz.underlying3 _ _ _ e2;obtain⟨a3,g3,f3⟩:=dec_int Tryz.underlying3 _ _ _ e3;obtain⟨a4,g4,f4⟩:=dec_int Tryz.underlying3 _ _ _ e4;obtain⟨a5,g5,f5⟩:=dec_int Tryz.underlying3 _ _ _ e5;cases g0;cases g1;cases g2;cases g3;cases g4;cases g5;exact⟨⟨a0,a1,a2,a3,a4,a5⟩,rfl,trivial⟩
theorem dec_climb (n:Nat) (cs:List Value) (x) (h:DataW.trod enc Tryz.prog w base spare held n 25 cs=some x):∃a:Cl,cs=Cl.cs a∧I64 a.le:=by
 obtain⟨hl,hf⟩:=dec_fields Tryz.underlying25 (by kernel_rfl) (by kernel_rfl) n cs x h;match cs,hl with
 |[c0,c1,c2,c3,c4,c5],_=>
  obtain⟨m0,y0,e0⟩:=hf 0 _ c0 rfl rfl;obtain⟨m1,y1,e1⟩:=hf 1 _ c1 rfl rfl;obtain⟨m2,y2,e2⟩:=hf 2 _ c2 rfl rfl;obtain⟨m3,y3,e3⟩:=hf 3 _ c3 rfl rfl;obtain⟨m4,y4,e4⟩:=hf 4 _ c4 rfl rfl;obtain⟨m5,y5,e5⟩:=hf 5 _ c5 rfl rfl;obtain⟨a0,g0,f0⟩:=dec_int Tryz.underlying3 _ _ _ e0;obtain⟨a1,g1,f1⟩:=dec_int Tryz.underlying3 _ _ _ e1;obtain⟨a2,g2,f2⟩:=dec_int Tryz.underlying3 _ _ _ e2;obtain⟨a3,g3,f3⟩:=dec_int Tryz.underlying3 _ _ _ e3;obtain⟨a4,g4,f4⟩:=dec_int Tryz.underlying3 _ _ _ e4;obtain⟨a5,g5,f5⟩:=dec_int Tryz.underlying3 _ _ _ e5;cases g0;cases g1;cases g2;cases g3;cases g4;cases g5;exact⟨⟨a0,a1,a2,a3,a4,a5⟩,rfl,i64_of f3⟩
theorem dec_rule (n:Nat) (cs:List Value) (x) (h:DataW.trod enc Tryz.prog w base spare held n 28 cs=some x):∃a:V.Ru,cs=ruCs a∧True:=by
 obtain⟨hl,hf⟩:=dec_fields Tryz.underlying28 (by kernel_rfl) (by kernel_rfl) n cs x h;match cs,hl with
 |[c0,c1,c2],_=>
  obtain⟨m0,y0,e0⟩:=hf 0 _ c0 rfl rfl;obtain⟨m1,y1,e1⟩:=hf 1 _ c1 rfl rfl;obtain⟨m2,y2,e2⟩:=hf 2 _ c2 rfl rfl;obtain⟨a0,g0,f0⟩:=dec_int Tryz.underlying3 _ _ _ e0;obtain⟨a1,g1,f1⟩:=dec_int Tryz.underlying3 _ _ _ e1;obtain⟨a2,g2,f2⟩:=dec_int Tryz.underlying3 _ _ _ e2;cases g0;cases g1;cases g2;exact⟨⟨a0,a1,a2⟩,rfl,trivial⟩
theorem dec_rate (n:Nat) (cs:List Value) (x) (h:DataW.trod enc Tryz.prog w base spare held n 30 cs=some x):∃a:Rt,cs=Rt.cs a∧True:=by
 obtain⟨hl,hf⟩:=dec_fields Tryz.underlying30 (by kernel_rfl) (by kernel_rfl) n cs x h;match cs,hl with
 |[c0,c1,c2,c3],_=>
  obtain⟨m0,y0,e0⟩:=hf 0 _ c0 rfl rfl;obtain⟨m1,y1,e1⟩:=hf 1 _ c1 rfl rfl;obtain⟨m2,y2,e2⟩:=hf 2 _ c2 rfl rfl;obtain⟨m3,y3,e3⟩:=hf 3 _ c3 rfl rfl;obtain⟨a0,g0,f0⟩:=dec_int Tryz.underlying3 _ _ _ e0;obtain⟨a1,g1,f1⟩:=dec_int Tryz.underlying3 _ _ _ e1;obtain⟨a2,g2,f2⟩:=dec_int Tryz.underlying3 _ _ _ e2;obtain⟨a3,g3,f3⟩:=dec_int Tryz.underlying3 _ _ _ e3;cases g0;cases g1;cases g2;cases g3;exact⟨⟨a0,a1,a2,a3⟩,rfl,trivial⟩
theorem dec_joint (n:Nat) (cs:List Value) (x) (h:DataW.trod enc Tryz.prog w base spare held n 144 cs=some x):∃a:Jt,cs=a.cs∧True:=by
 obtain⟨hl,hf⟩:=dec_fields Tryz.underlying144 (by kernel_rfl) (by kernel_rfl) n cs x h;match cs,hl with
 |[c0,c1],_=>
  obtain⟨m0,y0,e0⟩:=hf 0 _ c0 rfl rfl;obtain⟨m1,y1,e1⟩:=hf 1 _ c1 rfl rfl;obtain⟨a0,g0,f0⟩:=dec_int Tryz.underlying3 _ _ _ e0;obtain⟨a1,g1,_⟩:=DataW.trod_bool Tryz.underlying4 e1;cases g0;cases g1;exact⟨⟨a0,a1⟩,rfl,trivial⟩
theorem dec_item (n:Nat) (cs:List Value) (x) (h:DataW.trod enc Tryz.prog w base spare held n 67 cs=some x):∃a:G.It,cs=a.cs∧G.IW a:=by
 obtain⟨hl,hf⟩:=dec_fields Tryz.underlying67 (by kernel_rfl) (by kernel_rfl) n cs x h;match cs,hl with
 |[c0,c1,c2,c3],_=>
  obtain⟨m0,y0,e0⟩:=hf 0 _ c0 rfl rfl;obtain⟨m1,y1,e1⟩:=hf 1 _ c1 rfl rfl;obtain⟨m2,y2,e2⟩:=hf 2 _ c2 rfl rfl;obtain⟨m3,y3,e3⟩:=hf 3 _ c3 rfl rfl;obtain⟨a0,g0,_,f0⟩:=DataW.trod_string Tryz.underlying9 e0;obtain⟨a1,g1,f1⟩:=dec_int Tryz.underlying3 _ _ _ e1;obtain⟨a2,g2,f2⟩:=dec_int Tryz.underlying3 _ _ _ e2;obtain⟨a3,g3,_,f3⟩:=DataW.trod_string Tryz.underlying9 e3;cases g0;cases g1;cases g2;cases g3;exact⟨⟨a0,a1,a2,a3⟩,rfl,f0,f3,(i64_of f1).1,(i64_of f1).2,(i64_of f2).1,(i64_of f2).2⟩
theorem dec_courses (n:Nat) (cs:List Value) (x) (h:DataW.trod enc Tryz.prog w base spare held n 64 cs=some x):∃a:Sl S.Course,cs=a.cs∧Got (fun _=>True) w S.Course.cs 6 a:=by
 obtain⟨A,l,c,g,h1,h2,h3,h4,h5⟩:=open_rdin S.Course.cs (fun _=>True) 6 Tryz.underlying64 (by kernel_rfl) (by decide) (fun n cs x h=>dec_course n cs x h) h;exact⟨⟨A,l,c⟩,g,h1,fun _ _ _=>trivial,h4,h5⟩
theorem dec_joints (n:Nat) (cs:List Value) (x) (h:DataW.trod enc Tryz.prog w base spare held n 65 cs=some x):∃a:Sl Jt,cs=a.cs∧Got (fun _=>True) w Jt.cs 2 a:=by
 obtain⟨A,l,c,g,h1,h2,h3,h4,h5⟩:=open_rdin Jt.cs (fun _=>True) 2 Tryz.underlying65 (by kernel_rfl) (by decide) (fun n cs x h=>dec_joint n cs x h) h;exact⟨⟨A,l,c⟩,g,h1,fun _ _ _=>trivial,h4,h5⟩
structure SuIn (w:World) (x:LSu):Prop where
 ok:SuOk (fun _=>True) w x
 le:I64 x.cl.le
 gw:∀i∈x.gear.l,G.IW i
set_option maxRecDepth 50000 in
theorem dec_setup (n:Nat) (cs:List Value) (x) (h:DataW.trod enc Tryz.prog w base spare held n 32 cs=some x):∃a:LSu,cs=a.cs∧SuIn w a:=by
 obtain⟨ys,n',_,_,hlen,hyl,hf⟩:=DataW.trod_struct Tryz.underlying32 h;have hl:cs.length=17:=hlen.trans (by kernel_rfl);match cs,hl with
 |[c0,c1,c2,c3,c4,c5,c6,c7,c8,c9,c10,c11,c12,c13,c14,c15,c16],_=>
  have h0:=hf 0 _ rfl;rw[List.getElem?_eq_getElem (show 0<ys.length by rw[hyl];decide)] at h0;change DataW.trod enc Tryz.prog w base spare held n' 22 (([c0,c1,c2,c3,c4,c5,c6,c7,c8,c9,c10,c11,c12,c13,c14,c15,c16].drop 0).take (Tryz.prog.cellsOf 22))=_ at h0
  rw[show Tryz.prog.cellsOf 22=1 by kernel_rfl] at h0;have k0:DataW.trod enc Tryz.prog w base spare held n' 22 [c0]=some _:=h0;have h1:=hf 1 _ rfl;rw[List.getElem?_eq_getElem (show 1<ys.length by rw[hyl];decide)] at h1;change DataW.trod enc Tryz.prog w base spare held n' 23 (([c0,c1,c2,c3,c4,c5,c6,c7,c8,c9,c10,c11,c12,c13,c14,c15,c16].drop 1).take (Tryz.prog.cellsOf 23))=_ at h1
  rw[show Tryz.prog.cellsOf 23=1 by kernel_rfl] at h1;have k1:DataW.trod enc Tryz.prog w base spare held n' 23 [c1]=some _:=h1;have h2:=hf 2 _ rfl;rw[List.getElem?_eq_getElem (show 2<ys.length by rw[hyl];decide)] at h2;change DataW.trod enc Tryz.prog w base spare held n' 25 (([c0,c1,c2,c3,c4,c5,c6,c7,c8,c9,c10,c11,c12,c13,c14,c15,c16].drop 2).take (Tryz.prog.cellsOf 25))=_ at h2
  rw[show Tryz.prog.cellsOf 25=6 by kernel_rfl] at h2;have k2:DataW.trod enc Tryz.prog w base spare held n' 25 [c2,c3,c4,c5,c6,c7]=some _:=h2;have h3:=hf 3 _ rfl;rw[List.getElem?_eq_getElem (show 3<ys.length by rw[hyl];decide)] at h3;change DataW.trod enc Tryz.prog w base spare held n' 26 (([c0,c1,c2,c3,c4,c5,c6,c7,c8,c9,c10,c11,c12,c13,c14,c15,c16].drop 8).take (Tryz.prog.cellsOf 26))=_ at h3
  rw[show Tryz.prog.cellsOf 26=1 by kernel_rfl] at h3;have k3:DataW.trod enc Tryz.prog w base spare held n' 26 [c8]=some _:=h3;have h4:=hf 4 _ rfl;rw[List.getElem?_eq_getElem (show 4<ys.length by rw[hyl];decide)] at h4;change DataW.trod enc Tryz.prog w base spare held n' 28 (([c0,c1,c2,c3,c4,c5,c6,c7,c8,c9,c10,c11,c12,c13,c14,c15,c16].drop 9).take (Tryz.prog.cellsOf 28))=_ at h4
  rw[show Tryz.prog.cellsOf 28=3 by kernel_rfl] at h4;have k4:DataW.trod enc Tryz.prog w base spare held n' 28 [c9,c10,c11]=some _:=h4;have h5:=hf 5 _ rfl;rw[List.getElem?_eq_getElem (show 5<ys.length by rw[hyl];decide)] at h5;change DataW.trod enc Tryz.prog w base spare held n' 30 (([c0,c1,c2,c3,c4,c5,c6,c7,c8,c9,c10,c11,c12,c13,c14,c15,c16].drop 12).take (Tryz.prog.cellsOf 30))=_ at h5
  rw[show Tryz.prog.cellsOf 30=4 by kernel_rfl] at h5;have k5:DataW.trod enc Tryz.prog w base spare held n' 30 [c12,c13,c14,c15]=some _:=h5;have h6:=hf 6 _ rfl;rw[List.getElem?_eq_getElem (show 6<ys.length by rw[hyl];decide)] at h6;change DataW.trod enc Tryz.prog w base spare held n' 3 (([c0,c1,c2,c3,c4,c5,c6,c7,c8,c9,c10,c11,c12,c13,c14,c15,c16].drop 16).take (Tryz.prog.cellsOf 3))=_ at h6
  rw[show Tryz.prog.cellsOf 3=1 by kernel_rfl] at h6;have k6:DataW.trod enc Tryz.prog w base spare held n' 3 [c16]=some _:=h6;obtain⟨A0,l0,d0,g0,r0,_,q0,p0,s0⟩:=open_rdin Sl.cs (fun y=>Got (fun _=>True) w S.Course.cs 6 y) 1 Tryz.underlying22 (by kernel_rfl) (by decide) (fun n cs x h=>dec_courses n cs x h) k0;obtain⟨A1,l1,d1,g1,r1,_,q1,p1,s1⟩:=open_rdin Sl.cs (fun y=>Got (fun _=>True) w Jt.cs 2 y) 1 Tryz.underlying23 (by kernel_rfl) (by decide) (fun n cs x h=>dec_joints n cs x h) k1;obtain⟨⟨u0,u1,u2,u3,u4,u5⟩,g2,hle⟩:=dec_climb _ _ _ k2;obtain⟨A3,l3,d3,g3,r3,_,q3,p3,s3⟩:=open_rdin G.It.cs G.IW 4 Tryz.underlying26 (by kernel_rfl) (by decide) (fun n cs x h=>dec_item n cs x h) k3;obtain⟨⟨t0,t1,t2⟩,g4,_⟩:=dec_rule _ _ _ k4;obtain⟨⟨v0,v1,v2,v3⟩,g5,_⟩:=dec_rate _ _ _ k5;obtain⟨m,g6,_⟩:=dec_int Tryz.underlying3 _ _ _ k6;cases g0;cases g1;cases g2;cases g3;cases g4;cases g5;cases g6;exact⟨⟨⟨A0,l0,d0⟩,⟨A1,l1,d1⟩,⟨u0,u1,u2,u3,u4,u5⟩,⟨A3,l3,d3⟩,⟨t0,t1,t2⟩,⟨v0,v1,v2,v3⟩,m⟩,rfl,⟨⟨r0,fun _ _ _=>trivial,p0,s0⟩,q0,⟨r1,fun _ _ _=>trivial,p1,s1⟩,q1,⟨r3,fun _ _ _=>trivial,p3,s3⟩⟩,hle,q3⟩
end
end Go.Proofs.YtjkkfcghkeoedaaGreatDoor.Fi
namespace Go.Proofs.YtjkkfcghkeoedaaGreatDoor
open Go.RowKit
theorem f_TopGoesOn (x:Fi.LSu) (s t:ByteArray) (w:World) (hL:Tx.LdW w) (hx:Fi.SuIn w x) (_:s.size<=maxLen) (_:t.size<=maxLen):
  Calls Tryz.prog 4 #[.agg x.cs.toArray,.string s,.string t] w fun e w'=>e=.returned (.bool true)∧Below w.heap.size w w':=Fi.l_TopGoesOn x s t w hL hx.ok hx.le hx.gw
end Go.Proofs.YtjkkfcghkeoedaaGreatDoor
namespace Go.Proofs.YtjkkfcghkeoedaaGreatDoor
open Go
theorem jf_and {a b:Bool} (ha:a=true) (hb:b=true):(a&&b)=true:=by rw[ha,hb];rfl
theorem topGoesOn_jf0:(Rows.topGoesOnRow.wf (OpenSpec.ofChange Rows.topGoesOnSpec))=true:=by kernel_rfl
theorem topGoesOn_jf1:(laidOutB Tryz.pinned.checked.prog)=true:=by kernel_rfl
theorem topGoesOn_jf2:(mapsRowed Tryz.pinned.checked.prog)=true:=by kernel_rfl
theorem topGoesOn_jf3:(Tryz.f4.params.all (Tryz.pinned.checked.prog.readableRec ·))=true:=by kernel_rfl
theorem topGoesOn_jf4:(namedTie Tryz.pinned.checked.prog Rows.topGoesOnRow.named Rows.topGoesOnSpec.vars)=true:=by kernel_rfl
theorem topGoesOn_jf5:((Rows.topGoesOnRow.stops==[]))=true:=by kernel_rfl
theorem topGoesOn_jf6:((Tryz.pinned.checked.prog.stops==[]))=true:=by kernel_rfl
theorem topGoesOn_jf7:((Rows.topGoesOnRow.knobs==[]))=true:=by kernel_rfl
theorem topGoesOn_jf8:((Tryz.pinned.checked.prog.stopKnobs==[]))=true:=by kernel_rfl
theorem topGoesOn_jf9:((Rows.topGoesOnRow.inPlace==Tryz.pinned.checked.prog.inPlace 4))=true:=by kernel_rfl
theorem topGoesOn_jf10:((Rows.topGoesOnRow.unfollowed==Tryz.pinned.checked.prog.unfollowed 4))=true:=by kernel_rfl
theorem topGoesOn_jf11:((Rows.topGoesOnRow.recurses==Tryz.pinned.checked.prog.recurses 4))=true:=by kernel_rfl
theorem topGoesOn_jf12:((Rows.topGoesOnRow.named==Tryz.pinned.checked.prog.varsNamed 4))=true:=by kernel_rfl
theorem topGoesOn_jf13:((Rows.topGoesOnRow.maps==(Tryz.f4.params.toList++Rows.topGoesOnSpec.plain.varTypes Tryz.pinned.checked.prog).any (Tryz.pinned.checked.prog.mapsRec ·)))=true:=by kernel_rfl
theorem topGoesOn_jf14:((Rows.topGoesOnRow.ifaces==(Tryz.f4.params.toList++Rows.topGoesOnSpec.plain.varTypes Tryz.pinned.checked.prog).any (Tryz.pinned.checked.prog.ifacesRec ·)))=true:=by kernel_rfl
theorem topGoesOn_jf15:((Rows.topGoesOnRow.mapsOut==Tryz.pinned.checked.prog.mapsAmong Tryz.f4.resultTypes.toList))=true:=by kernel_rfl
theorem topGoesOn_jf16:((Rows.topGoesOnRow.loops==(Tryz.f4.params.toList++Rows.topGoesOnSpec.plain.varTypes Tryz.pinned.checked.prog).any (Tryz.pinned.checked.prog.loopsFrom ·)))=true:=by kernel_rfl
theorem topGoesOn_jf17:((Rows.topGoesOnRow.wideKeys==(Tryz.f4.params.toList++Rows.topGoesOnSpec.plain.varTypes Tryz.pinned.checked.prog++Tryz.f4.resultTypes.toList).any (Tryz.pinned.checked.prog.wideKeysFrom ·)))=true:=by kernel_rfl
theorem topGoesOn_jf18:(Rows.topGoesOnSpec.vars.all (Tryz.pinned.checked.prog.varReadable ·))=true:=by kernel_rfl
theorem topGoesOn_jf19:(Tryz.f4.resultTypes.all (fun t=>Tryz.pinned.checked.prog.readableRec t&&decide (t<Tryz.pinned.checked.prog.types.size)))=true:=by kernel_rfl
theorem topGoesOn_jf20:((Rows.topGoesOnRow.ifacesOut==Tryz.f4.resultTypes.toList.any (Tryz.pinned.checked.prog.ifacesRec ·)))=true:=by kernel_rfl
theorem topGoesOn_jf21:((Rows.topGoesOnRow.loopsOut==Tryz.f4.resultTypes.toList.any (Tryz.pinned.checked.prog.loopsFrom ·)))=true:=by kernel_rfl
theorem topGoesOn_jf22:((Rows.topGoesOnRow.plainKeys==Tryz.pinned.checked.prog.plainKeys))=true:=by kernel_rfl
theorem topGoesOn_jf23:(Rows.topGoesOnRow.shortTexts.isNone)=true:=by kernel_rfl
theorem topGoesOn_jf24:(Tryz.pinned.checked.prog.stopsHeard)=true:=by kernel_rfl
theorem topGoesOn_jf25:(Tryz.pinned.checked.prog.mayEnter)=true:=by kernel_rfl
theorem topGoesOn_jf26:((Rows.topGoesOnRow.lifted==Tryz.pinned.checked.prog.liftsFinal))=true:=by kernel_rfl
theorem topGoesOn_jf27:((Tryz.pinned.checked.prog.make==some Rows.topGoesOnRow.make))=true:=by kernel_rfl
theorem topGoesOn_jf28:((Rows.topGoesOnRow.kinds==(if Rows.topGoesOnRow.domain.isEmpty then [] else Tryz.f4.params.toList.map fun t=>match Tryz.pinned.checked.prog.underlying t with|some (.int k)=>some k|_=>none)))=true:=by kernel_rfl
theorem topGoesOn_jf29:((Rows.topGoesOnRow.pinned==Rows.topGoesOnRow.pinnedBy))=true:=by kernel_rfl
theorem topGoesOn_jf30:((Rows.topGoesOnRow.veiled==(Tryz.f4.params.toList++Rows.topGoesOnSpec.plain.varTypes Tryz.pinned.checked.prog++Tryz.f4.resultTypes.toList).any (Tryz.pinned.checked.prog.veiledRec ·)))=true:=by kernel_rfl
theorem topGoesOn_jf31:(Rows.topGoesOnRow.veiledFits Tryz.pinned.checked.prog Tryz.f4.params.toList (Tryz.f4.params.toList++Rows.topGoesOnSpec.plain.varTypes Tryz.pinned.checked.prog++Tryz.f4.resultTypes.toList))=true:=by kernel_rfl
set_option maxRecDepth 100000 in
theorem topGoesOn_jf:joinedFacts Tryz.pinned.checked.prog 4 Tryz.f4 Rows.topGoesOnSpec Rows.topGoesOnRow=true:=by
 delta joinedFacts
 exact jf_and (jf_and (jf_and (jf_and (jf_and (jf_and (jf_and (jf_and (jf_and (jf_and (jf_and (jf_and (jf_and (jf_and (jf_and (jf_and (jf_and (jf_and (jf_and (jf_and (jf_and (jf_and (jf_and (jf_and (jf_and (jf_and (jf_and (jf_and (jf_and (jf_and (jf_and (topGoesOn_jf0) topGoesOn_jf1) topGoesOn_jf2) topGoesOn_jf3) topGoesOn_jf4) topGoesOn_jf5) topGoesOn_jf6) topGoesOn_jf7) topGoesOn_jf8) topGoesOn_jf9) topGoesOn_jf10) topGoesOn_jf11) topGoesOn_jf12) topGoesOn_jf13) topGoesOn_jf14) topGoesOn_jf15) topGoesOn_jf16) topGoesOn_jf17) topGoesOn_jf18) topGoesOn_jf19) topGoesOn_jf20) topGoesOn_jf21) topGoesOn_jf22) topGoesOn_jf23) topGoesOn_jf24) topGoesOn_jf25) topGoesOn_jf26) topGoesOn_jf27) topGoesOn_jf28) topGoesOn_jf29) topGoesOn_jf30) topGoesOn_jf31
end Go.Proofs.YtjkkfcghkeoedaaGreatDoor
namespace Go.Proofs.YtjkkfcghkeoedaaGreatDoor
open Go.ChangeShapes Go.WideShapes Go.ChangeAt Go.RowKit Go.Deep Go.Joins
open Go.ChangeMaps (open_string shut_string)
set_option maxRecDepth 100000 in
theorem lifted_TopGoesOn (os:Os) (started:os.Started) (H:Type) (enc:TypeId×Value->H):
  ReturnsInHanded {} Tryz.checked os 4 .any (fun w args=>(Rows.topGoesOnSpec.pre enc Tryz.prog Tryz.f4 [] false w args∧laidMetH Tryz.prog laidL w)∧sizedMet enc Tryz.prog Tryz.f4 (OpenSpec.ofChange Rows.topGoesOnSpec) false w args) (Rows.topGoesOnSpec.post enc Tryz.prog Tryz.f4 false true false false):=by
 refine ret_ls own started (by kernel_rfl) Tryz.func4
  (ChangeSpec.witness_shaped (enc:=enc) (C:=Tryz.checked) (os:=os) (X:=fun w _=>laidMetH Tryz.prog laidL w) false (World.laidAll Tryz.prog os laidL) #[.agg #[.slice none 0 0,.slice none 0 0,.int .i64 0,.int .i64 0,.int .i64 0,.int .i64 0,.int .i64 0,.int .i64 0,.slice none 0 0,.int .i64 0,.int .i64 0,.int .i64 0,.int .i64 0,.int .i64 0,.int .i64 0,.int .i64 0,.int .i64 0],.string ByteArray.empty,.string ByteArray.empty] 8 (World.laidAll_os _ _ _) (World.shaped_of_ZipB (by kernel_rfl) (by kernel_rfl)) (by kernel_rfl) (by kernel_rfl) (by kernel_rfl) (door_met os _)) ?_
 intro W base args ds gs before hval0 hW hL hsh;have hval:∀(j:Nat) t v,Tryz.f4.params[j]?=some t->args[j]?=some v->Value.okWide Tryz.prog W .any base t v:=hval0;have hW':=hW;obtain⟨p,q,hA0,hV,rfl,hfz,hnd⟩:=hW;have hA:DataW.TrodAll enc Tryz.prog W 0 (fun _=>true) true Tryz.f4.params.toList args.toList ds p:=hA0;rw[Tryz.params4] at hA hval;obtain⟨v0,vs0,d0,ds0,p0,q0,hargs,rfl,rfl,h0,r0⟩:=trodAll_cons hA;obtain⟨v1,vs1,d1,ds1,p1,q1,rfl,rfl,rfl,h1,r1⟩:=trodAll_cons r0;obtain⟨v2,vs2,d2,ds2,p2,q2,rfl,rfl,rfl,h2,r2⟩:=trodAll_cons r1;obtain⟨rfl,rfl,rfl⟩:=trodAll_nil r2;obtain rfl:args=#[v0,v1,v2]:=by cases args;simp_all
 obtain⟨rfl,rfl⟩:=trodVars_none hV;have k0:=h0;have lt0:∀x∈p0,x.block<W.heap.size:=by obtain⟨m,hm⟩:=k0;exact DataW.trod_lt m _ _ _ hm
 have k1:=h1;have lt1:∀x∈p1,x.block<W.heap.size:=by obtain⟨m,hm⟩:=k1;exact DataW.trod_lt m _ _ _ hm
 have k2:=h2;have lt2:∀x∈p2,x.block<W.heap.size:=by obtain⟨m,hm⟩:=k2;exact DataW.trod_lt m _ _ _ hm
 obtain⟨a0,e0,w0⟩:=open_aggv Fi.LSu.cs (Fi.SuIn W) Tryz.underlying32 (fun n cs x h=>Fi.dec_setup n cs x h) (hval 0 32 v0 rfl rfl) h0;subst e0;obtain⟨a1,e1,_,_,w1⟩:=open_string Tryz.underlying9 (hval 1 9 v1 rfl rfl) h1;subst e1;obtain⟨a2,e2,_,_,w2⟩:=open_string Tryz.underlying9 (hval 2 9 v2 rfl rfl) h2;subst e2;clear hA0 hval0;refine(f_TopGoesOn a0 a1 a2 W (ld_of hL hsh) w0 w1 w2).mono fun e W' ⟨he,bel⟩=>?_;subst he;exact⟨_,rfl,_,_,_,[],_,[],hW',trodAll_mk1 (shut_bool Tryz.underlying4 _),(trodAll_cons_mk (Below.trod laidOut (by kernel_rfl) (of_decide_eq_true (by kernel_rfl)) k0 bel lt0) (trodAll_cons_mk (Below.trod laidOut (by kernel_rfl) (of_decide_eq_true (by kernel_rfl)) k1 bel lt1) (trodAll_cons_mk (Below.trod laidOut (by kernel_rfl) (of_decide_eq_true (by kernel_rfl)) k2 bel lt2) trodAll_mk0))),rfl,bel.frame _,fun h=>by cases h⟩
theorem topGoesOn_holds:Rows.TopGoesOnSaid:=
 OpenClaim.holds_of_wide 4 Tryz.f4 rfl rfl rfl rfl rfl rfl rfl ⟨rfl,rfl,rfl,rfl,rfl⟩ rfl rfl rfl rfl rfl (by kernel_rfl) Tryz.func4 topGoesOn_jf
  (of_decide_eq_true (by kernel_rfl)) (by unfold Func.isWrapper;rw[if_neg (of_decide_eq_false (by kernel_rfl))];exact⟨rfl,rfl⟩)
  (fun os started H enc _=>lifted_TopGoesOn os started H enc)
theorem topGoesOn_card:Rows.TopGoesOnCardSaid:=
 Claim7.holds_tied_plain_at .later [] [.data,.data,.data,.data,.sentinel,.sentinel,.sentinel,.pinned] true (true,"e9089e5eef9a680455e35ed52ead7487ac6254642191b90edab964e1947431e7") true
  topGoesOn_holds (fun _ h=>by cases h) (by kernel_rfl) (fun _ h=>by cases h) topGoesOn_row_tie rfl ⟨rfl,rfl⟩ (by kernel_rfl) rfl
  (fun f fn hf hfn=>by
   obtain rfl:f=4:=Option.some.inj ((show Tryz.prog.funcNamed "steeplejack/steeplejacktop.TopGoesOn" = some 4 by kernel_rfl).symm.trans hf) |>.symm
   obtain rfl:fn=Tryz.f4:=(Option.some.inj (Tryz.func4.symm.trans hfn)).symm;exact⟨by kernel_rfl,fun j t ht=>by
    rw[Tryz.params4] at ht;have hm:t∈[32,9,9]:=by simpa using Array.mem_of_getElem? ht
    have hall:([32,9,9].all fun u=>!Tryz.prog.wantsStandIn u)=true:=by kernel_rfl
    exact(show Tryz.prog.wantsStandIn t=false by simpa using List.all_eq_true.1 hall t hm)⟩)
  (by kernel_rfl)
#print axioms topGoesOn_card
end Go.Proofs.YtjkkfcghkeoedaaGreatDoor
