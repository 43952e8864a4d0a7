/- The parts of the proof, part 6. -/
import Derived.Test.YtjkkfcghkeoedaaGreatDoorR0
import Derived.Test.YtjkkfcghkeoedaaGreatDoorR4
import Derived.Test.YtjkkfcghkeoedaaGreatDoorR5
import Derived.Test.YtjkkfcghkeoedaaGreatDoorProg
import Derived.Shelf.Abstract
import Derived.BigQuiet
import Derived.Deep.QuietTactic
import Derived.IntWalk
import Derived.Deep.RegionHeld3
import Derived.Laws.Externs
import Derived.Lib.Hide
import Derived.Deep.RegionWith
import Derived.Maps.OwnIn
set_option maxHeartbeats 16000000
set_option maxRecDepth 20000
set_option linter.unusedSimpArgs false
set_option linter.unusedVariables false
namespace Go.Proofs.YtjkkfcghkeoedaaGreatDoor.S
open Go.RowKit
def closedB (x:Course) (s:List Course) (p side:Int):Bool:=
 decide (((armE x s p side).natAbs+(armN x s p side).natAbs)*(3*x.o).toNat<=(x.o*x.o+x.i*x.i).toNat*(wts s*9810000).toNat)
def holdsB (x:Course) (s:List Course) (p side:Int):Bool:=
 decide ((armE x s p side).natAbs<=x.o.toNat*(wts s*9810000).toNat)&&decide ((armN x s p side).natAbs<=x.o.toNat*(wts s*9810000).toNat)
theorem s_times' (a b:Int) (w:World) (ha:0<=a) (hb:0<=b) (ha':Fits a) (hb':Fits b):
  Calls Tryz.prog 217 #[.int .i64 a,.int .i64 b] w fun e w'=>e=.returned (wideV (a.toNat*b.toNat))∧Below w.heap.size w w':=by
 obtain⟨n,rfl⟩:=Int.eq_ofNat_of_zero_le ha;obtain⟨m,rfl⟩:=Int.eq_ofNat_of_zero_le hb;unfold Fits at *;simpa using s_times n m w (by omega) (by omega)
theorem wide_bound {a b c d:Int} (ha:0<=a) (hb:0<=b) (hc:0<=c) (hd:0<=d) (h1:Fits a) (h2:Fits b) (h3:Fits c) (h4:Fits d):a.toNat*b.toNat+c.toNat*d.toNat<Q64*Q64:=by
 unfold Fits at *;have e1:a.toNat*b.toNat<=9000000000000000000*9000000000000000000:=Nat.mul_le_mul (by omega) (by omega);have e2:c.toNat*d.toNat<=9000000000000000000*9000000000000000000:=Nat.mul_le_mul (by omega) (by omega);unfold Q64;omega
theorem fits_natAbs {a:Int} (h:Fits a):Fits (a.natAbs:Nat)∧(0:Int)<=(a.natAbs:Nat):=by unfold Fits at *;omega
structure OB (x:Course) (s:List Course):Prop where
 t0:0<=3*x.o
 t1:Fits (3*x.o)
 q0:0<=x.o*x.o
 q1:x.o*x.o<=25000000
 q2:0<=x.i*x.i
 q3:x.i*x.i<=25000000
 r0:0<=x.o*x.o+x.i*x.i
 r1:Fits (x.o*x.o+x.i*x.i)
 w0:0<=wts s*9810000
 w1:Fits (wts s*9810000)
 o0:0<=x.o
 o1:Fits x.o
theorem ob_of {x:Course} {s:List Course} {p:Int} (hx:CB x) (hb:AB x s p):OB x s:=by
 obtain⟨d1,d2,d3,d4,d5,d6,d7,d8,d9,d10,d11⟩:=hx;obtain⟨b1,b2,b3,b4,b5,b6,b7,b8,b9,b10,b11,b12,b13,b14⟩:=hb;have m1:=mul_bd0 (a:=x.o) (b:=x.o) (A:=5000) (B:=5000) (by omega) (by omega) (by omega) (by omega);have m2:=mul_bd0 (a:=x.i) (b:=x.i) (A:=5000) (B:=5000) (by omega) (by omega) (by omega) (by omega);refine⟨?_,?_,?_,?_,?_,?_,?_,?_,?_,?_,?_,?_⟩<;>first|omega|(unfold Fits;omega)
theorem s_closed (x:Course) (s:List Course) (p side:Int) (w:World) (hp0:0<=p) (hp1:p<=10000) (hs0:0<=side) (hs1:side<=3) (hb:AB x s p) (hx:CB x):
  Calls Tryz.prog 185 #[.agg #[.int .i64 x.h,.int .i64 x.o,.int .i64 x.i,.int .i64 x.wt,.int .i64 x.e,.int .i64 x.n],
   .agg #[.int .i64 (wts s),.int .i64 (es s),.int .i64 (ns s),.int .i64 (hs s),.int .i64 (push s)],.int .i64 p,.int .i64 side] w fun e w'=>
   e=.returned (.bool (closedB x s p side))∧Below w.heap.size w w':=by
 have HA:=Lib.hid (fun W=>s_arms x s p side W hp0 hp1 hs0 hs1 hb);obtain⟨f1,f2,f3⟩:=arm_fits hb hs0 hs1;obtain⟨t0,t1,q0,q1,q2,q3,r0,r1,w0,w1,o0,o1⟩:=ob_of hx hb;obtain⟨g1,g2⟩:=fits_natAbs f1;obtain⟨g3,g4⟩:=fits_natAbs f2;have hW:=wide_bound g2 t0 g4 t0 g1 t1 g3 t1;have hT:closedB x s p side=!decide ((wts s*9810000).toNat*(x.o*x.o+x.i*x.i).toNat<((armE x s p side).natAbs:Int).toNat*(3*x.o).toNat+((armN x s p side).natAbs:Int).toNat*(3*x.o).toNat):=by
  unfold closedB;rw[←Nat.add_mul,Nat.mul_comm (wts s*9810000).toNat];simp only[Int.toNat_natCast];rw[Bool.eq_iff_iff];simp
 have HT:=Lib.hid hT;clear hT hb hx;have k1:IntKind.i64.wrap (wts s*9810000)=wts s*9810000:=fits_wrap w1;have k2:IntKind.i64.wrap (x.o*x.o)=x.o*x.o:=fits_wrap (by unfold Fits;omega);have k3:IntKind.i64.wrap (x.i*x.i)=x.i*x.i:=fits_wrap (by unfold Fits;omega);have k4:IntKind.i64.wrap (x.o*x.o+x.i*x.i)=x.o*x.o+x.i*x.i:=fits_wrap r1;have k5:IntKind.i64.wrap (3*x.o)=3*x.o:=fits_wrap t1;have b1:3*x.o<=9000000000000000000:=t1.2;go_enter Tryz.func185,Tryz.ntmps185
 go_wp2_with (go_at_call 216;refine(HA.out _).mono ?_;rintro e w1 ⟨rfl,hb1⟩;obtain⟨hc1,hf1⟩:=bcell hb1)
 have hB1:=below_tr (below_tr (below_alloc w (.cells #[.int .i64 x.h,.int .i64 x.o,.int .i64 x.i,.int .i64 x.wt,.int .i64 x.e,.int .i64 x.n] 115)) (below_alloc _ (.cells #[.int .i64 (wts s),.int .i64 (es s),.int .i64 (ns s),.int .i64 (hs s),.int .i64 (push s)] 227))) hb1;have hBd:=hB1.drew;have hs1:w.heap.size+1<w1.heap.size:=by have:=hb1.size;simp at this;omega
 have hs':w.heap.size<w1.heap.size:=by omega
 have d0:=((Blk.new w 115 #[.int .i64 x.h,.int .i64 x.o,.int .i64 x.i,.int .i64 x.wt,.int .i64 x.e,.int .i64 x.n]).alloc (.cells #[.int .i64 (wts s),.int .i64 (es s),.int .i64 (ns s),.int .i64 (hs s),.int .i64 (push s)] 227)).below hb1 (by simp;omega);have d1:=(Blk.new (w.alloc (.cells #[.int .i64 x.h,.int .i64 x.o,.int .i64 x.i,.int .i64 x.wt,.int .i64 x.e,.int .i64 x.n] 115)) 227 #[.int .i64 (wts s),.int .i64 (es s),.int .i64 (ns s),.int .i64 (hs s),.int .i64 (push s)]).below hb1 (by simp);rw[World.size_alloc] at d1;have u0:=d0.cell 1;have u1:=d0.cell 2;have u2:=d1.cell 0;simp only[GA] at u0 u1 u2
 go_region_held3 (fun w'=>w'.cell? ⟨w.heap.size,1,none⟩=some (.int .i64 x.o)∧w'.cell? ⟨w.heap.size,2,none⟩=some (.int .i64 x.i)∧w'.cell? ⟨w.heap.size+1,0,none⟩=some (.int .i64 (wts s)))
  (first|(go_keep;done)|(go_split_ands;refine⟨?_,?_,?_⟩<;>(first|assumption|(rw[hc2 _ _ (by first|assumption|(simp;omega))];assumption))))
  (first
   |(go_at_call 218;refine(s_size _ _ (by assumption)).mono ?_;rintro e w2 ⟨rfl,rfl⟩)
   |(go_at_call 217;refine(s_times' _ _ _ (by assumption) (by assumption) (by assumption) (by assumption)).mono ?_;rintro e w2 ⟨rfl,hb2⟩;obtain⟨hc2,hf2⟩:=bcell hb2;have hBB:Below w.heap.size w w2:=below_tr (by assumption) hb2;have hss:w.heap.size+1<w2.heap.size:=(by have:=hb2.size;(try simp at this);omega);have hss':w.heap.size<w2.heap.size:=(by omega))
   |(go_at_call 219;refine(s_plus _ _ _ hW).mono ?_;rintro e w2 ⟨rfl,hb2⟩;obtain⟨hc2,hf2⟩:=bcell hb2;have hBB:Below w.heap.size w w2:=below_tr (by assumption) hb2;have hss:w.heap.size+1<w2.heap.size:=(by have:=hb2.size;(try simp at this);omega);have hss':w.heap.size<w2.heap.size:=(by omega))
   |(go_at_call 220;refine(s_above _ _ _).mono ?_;rintro e w2 ⟨rfl,hb2⟩;obtain⟨hc2,hf2⟩:=bcell hb2;have hBB:Below w.heap.size w w2:=below_tr (by assumption) hb2;have hss:w.heap.size+1<w2.heap.size:=(by have:=hb2.size;(try simp at this);omega);have hss':w.heap.size<w2.heap.size:=(by omega)))
 go_wp2;go_ret;exact⟨ret_bool HT.out.symm,hBB⟩
theorem s_holds (x:Course) (s:List Course) (p side:Int) (w:World) (hp0:0<=p) (hp1:p<=10000) (hs0:0<=side) (hs1:side<=3) (hb:AB x s p) (hx:CB x):
  Calls Tryz.prog 332 #[.agg #[.int .i64 x.h,.int .i64 x.o,.int .i64 x.i,.int .i64 x.wt,.int .i64 x.e,.int .i64 x.n],
   .agg #[.int .i64 (wts s),.int .i64 (es s),.int .i64 (ns s),.int .i64 (hs s),.int .i64 (push s)],.int .i64 p,.int .i64 side] w fun e w'=>
   e=.returned (.bool (holdsB x s p side))∧Below w.heap.size w w':=by
 have HA:=Lib.hid (fun W=>s_arms x s p side W hp0 hp1 hs0 hs1 hb);obtain⟨f1,f2,f3⟩:=arm_fits hb hs0 hs1;obtain⟨t0,t1,q0,q1,q2,q3,r0,r1,w0,w1,o0,o1⟩:=ob_of hx hb;obtain⟨g1,g2⟩:=fits_natAbs f1;obtain⟨g3,g4⟩:=fits_natAbs f2;have i0:(0:Int)<=1:=by omega
 have i1:Fits 1:=by unfold Fits;omega
 have hT:holdsB x s p side=(!decide ((wts s*9810000).toNat*x.o.toNat<(armE x s p side).natAbs) && !decide ((wts s*9810000).toNat*x.o.toNat<(armN x s p side).natAbs)):=by
  unfold holdsB;rw[Nat.mul_comm (wts s*9810000).toNat];rw[Bool.eq_iff_iff];simp
 have k1:wts s*9810000<=9000000000000000000:=w1.2;cases hE:decide ((wts s*9810000).toNat*x.o.toNat<(armE x s p side).natAbs)
 all_goals
  rw[hE] at hT;have HT:=Lib.hid hT;have HE:=Lib.hid hE;clear hT hE;go_enter Tryz.func332,Tryz.ntmps332
  go_wp2_with (first
   |(go_at_call 216;refine(HA.out _).mono ?_;rintro e w1 ⟨rfl,hb1⟩;obtain⟨hc1,hf1⟩:=bcell hb1;have hs1:w.heap.size+1<w1.heap.size:=(by have:=hb1.size;simp at this;omega);have hs1':w.heap.size<w1.heap.size:=(by omega))
   |(go_at_call 217;refine(s_times' _ _ _ (by assumption) (by assumption) (by assumption) (by assumption)).mono ?_;rintro e w2 ⟨rfl,hb2⟩;obtain⟨hc2,hf2⟩:=bcell hb2))
  have hB1:=below_tr (below_tr (below_tr (below_tr (below_alloc w (.cells #[.int .i64 x.h,.int .i64 x.o,.int .i64 x.i,.int .i64 x.wt,.int .i64 x.e,.int .i64 x.n] 115)) (below_alloc _ (.cells #[.int .i64 (wts s),.int .i64 (es s),.int .i64 (ns s),.int .i64 (hs s),.int .i64 (push s)] 227))) hb1) hb2)
   (below_alloc w2 (.cells #[.int .u64 (hi64 ((wts s*9810000).toNat*x.o.toNat):Nat),.int .u64 (lo64 ((wts s*9810000).toNat*x.o.toNat):Nat)] 298))
  have hBd:=hB1.drew;have d0:=Blk.new w2 298 #[.int .u64 (hi64 ((wts s*9810000).toNat*x.o.toNat):Nat),.int .u64 (lo64 ((wts s*9810000).toNat*x.o.toNat):Nat)];have u0:=d0.cell 0;have u1:=d0.cell 1;simp only[GA] at u0 u1;clear d0;generalize hW3:w2.alloc (.cells #[.int .u64 (hi64 ((wts s*9810000).toNat*x.o.toNat):Nat),.int .u64 (lo64 ((wts s*9810000).toNat*x.o.toNat):Nat)] 298)=w3 at *;have hz3:w2.heap.size<w3.heap.size:=by rw[←hW3];simp
  clear hW3 hc1 hf1 hc2 hf2
 ·go_region_held3 (fun w'=>w'.cell? ⟨w2.heap.size,0,none⟩=some (.int .u64 (hi64 ((wts s*9810000).toNat*x.o.toNat):Nat))∧w'.cell? ⟨w2.heap.size,1,none⟩=some (.int .u64 (lo64 ((wts s*9810000).toNat*x.o.toNat):Nat)))
     (first|(go_keep;done)|(go_split_ands;refine⟨?_,?_⟩<;>(first|assumption|(rw[hc4 _ _ (by first|assumption|(simp;omega))];assumption))))
     (first
      |(go_at_call 218;refine(s_size _ _ (by assumption)).mono ?_;rintro e w4 ⟨rfl,rfl⟩)
      |(go_at_call 217;refine(s_times' _ _ _ (by assumption) (by assumption) (by assumption) (by assumption)).mono ?_;rintro e w4 ⟨rfl,hb4⟩;obtain⟨hc4,hf4⟩:=bcell hb4;have hBB:Below w.heap.size w w4:=below_tr (by assumption) hb4;have hss:w2.heap.size<w4.heap.size:=(by have:=hb4.size;(try simp at this);omega))
      |(go_at_call 220;refine(s_above _ _ _).mono ?_;rintro e w4 ⟨rfl,hb4⟩;(try rw[HE.out]);obtain⟨hc4,hf4⟩:=bcell hb4;have hBB:Below w.heap.size w w4:=below_tr (by assumption) hb4;have hss:w2.heap.size<w4.heap.size:=(by have:=hb4.size;(try simp at this);omega)))
  go_wp2;go_ret;exact⟨ret_bool (by rw[HT.out];simp),hBB⟩
 ·first
   |(go_region_with (first
     |(go_at_call 218;refine(s_size _ _ (by assumption)).mono ?_;rintro e w4 ⟨rfl,rfl⟩)
     |(go_at_call 217;refine(s_times' _ _ _ (by assumption) (by assumption) (by assumption) (by assumption)).mono ?_;rintro e w4 ⟨rfl,hb4⟩;obtain⟨hc4,hf4⟩:=bcell hb4;have hBB:Below w.heap.size w w4:=below_tr (by assumption) hb4;have hss:w2.heap.size<w4.heap.size:=(by have:=hb4.size;(try simp at this);omega);have q0:w4.cell? ⟨w2.heap.size,0,none⟩=some (.int .u64 (hi64 ((wts s*9810000).toNat*x.o.toNat):Nat)):=(hc4 _ _ (by first|assumption|(simp;omega))).trans (by assumption);have q1:w4.cell? ⟨w2.heap.size,1,none⟩=some (.int .u64 (lo64 ((wts s*9810000).toNat*x.o.toNat):Nat)):=(hc4 _ _ (by first|assumption|(simp;omega))).trans (by assumption))
     |(go_at_call 220;refine(s_above _ _ _).mono ?_;rintro e w4 ⟨rfl,hb4⟩;(try rw[HE.out]);obtain⟨hc4,hf4⟩:=bcell hb4;have hBB:Below w.heap.size w w4:=below_tr (by assumption) hb4;have hss:w2.heap.size<w4.heap.size:=(by have:=hb4.size;(try simp at this);omega);have q0:w4.cell? ⟨w2.heap.size,0,none⟩=some (.int .u64 (hi64 ((wts s*9810000).toNat*x.o.toNat):Nat)):=(hc4 _ _ (by first|assumption|(simp;omega))).trans (by assumption);have q1:w4.cell? ⟨w2.heap.size,1,none⟩=some (.int .u64 (lo64 ((wts s*9810000).toNat*x.o.toNat):Nat)):=(hc4 _ _ (by first|assumption|(simp;omega))).trans (by assumption))))
   |fail
  all_goals go_wp2
  all_goals go_ret
  all_goals exact⟨ret_bool (by rw[HT.out];simp),hBB⟩
end Go.Proofs.YtjkkfcghkeoedaaGreatDoor.S
namespace Go.Proofs.YtjkkfcghkeoedaaGreatDoor.S
open Go.RowKit Go.Shelf
attribute [local go_sem] Oper.semAt_some
theorem ownsRow_stp {N:Nat->Prop} {W W':World} {base:Nat} {e:TypeId} {size:Nat} {v:Value} {k:Nat} {xs:List Value} (h:W.ownsRow base e size v k xs) (hst:Stp N W W') (hn:∀b,v.ownBlock=some b->¬N b):W'.ownsRow base e size v k xs:=by
 refine⟨h.1,?_⟩;rcases h.2 with⟨rfl,h0⟩|⟨g',cap,cur,rfl,hB,hh,h1,h2,h3,h4⟩
 ·exact .inl ⟨rfl,h0⟩
 ·exact .inr ⟨g',cap,cur,rfl,hB,(hst.block g' (lt_of_block hh) (hn g' rfl)).trans hh,h1,h2,h3,h4⟩
theorem ownsRow_base {W:World} {base base':Nat} {e:TypeId} {size:Nat} {v:Value} {k:Nat} {xs:List Value} (h:W.ownsRow base e size v k xs) (hb:base'<=base):W.ownsRow base' e size v k xs:=by
 refine⟨h.1,?_⟩;rcases h.2 with⟨rfl,h0⟩|⟨g',cap,cur,rfl,hB,hh,h1,h2,h3,h4⟩
 ·exact .inl ⟨rfl,h0⟩
 ·exact .inr ⟨g',cap,cur,rfl,by omega,hh,h1,h2,h3,h4⟩
theorem ownBlock_ge {W:World} {base:Nat} {e:TypeId} {size:Nat} {v:Value} {k:Nat} {xs:List Value} (h:W.ownsRow base e size v k xs):∀b,v.ownBlock=some b->base<=b∧b<W.heap.size:=fun b hb=>by
 rcases h.2 with⟨rfl,h0⟩|⟨g',cap,cur,rfl,hB,hh,h1,h2,h3,h4⟩
 ·cases hb
 ·cases hb;exact⟨hB,lt_of_block hh⟩
theorem Stp.of_below {W W':World} {B:Nat} (h:Below B W W'):Stp (fun b=>B<=b) W W':=⟨h.os,h.tape,h.output,h.size,fun b _ hn=>h.block b (by omega)⟩
theorem abide_row {β:Type} {B g:Nat} {t e:TypeId} {sz:Nat} (k:β->Nat) (f:β->List Value) (hg:g+2<B):
  Abide B (fun s M W=>∃v,Blk W g t #[v]∧W.ownsRow B e sz v (k s) (f s)∧∀b,v.ownBlock=some b->¬M b):=by
 rintro s M M' W W' ⟨v,hb,hr,hn⟩ hM hMM hnew _ hst;refine⟨v,hst.blk hb (fun h=>by rcases h with h|h|h;(have:=hM _ (hMM _ h);omega);omega;omega),?_,?_⟩
 ·refine⟨hr.1,?_⟩;rcases hr.2 with⟨rfl,h0⟩|⟨g',cap,cur,rfl,hB,hh,h1,h2,h3,h4⟩
  ·exact .inl ⟨rfl,h0⟩
  ·exact .inr ⟨g',cap,cur,rfl,hB,(hst.block g' (lt_of_block hh) (fun h=>by rcases h with h|h|h;exact hn g' rfl h;omega;omega)).trans hh,h1,h2,h3,h4⟩
 ·intro b hvb hm;rcases hr.2 with⟨rfl,h0⟩|⟨g',cap,cur,rfl,hB,hh,h1,h2,h3,h4⟩
  ·cases hvb
  ·cases hvb;rcases hnew _ hm with h|h
   ·exact hn _ rfl h
   ·have:=lt_of_block hh;exact absurd h (by simp;omega)
theorem ownsRow_slice {W:World} {base:Nat} {e:TypeId} {size:Nat} {v:Value} {k:Nat} {xs:List Value} (h:W.ownsRow base e size v k xs):∃a c,v=.slice a k c:=by
 rcases h.2 with⟨rfl,rfl⟩|⟨g,cap,_,rfl,_⟩<;>exact⟨_,_,rfl⟩
theorem info_int:∃i:TypeInfo,Tryz.prog.info? 3=some i∧i.zero=some (.int .i64 0)∧i.size=1∧i.bytes=8:=info_parts (by kernel_rfl)
def natV (l:List Nat):List Value:=l.map fun(i:Nat)=>Value.int .i64 (i:Int)
def lostL (KB:Course->List Course->Int->Int->Bool) (l:List Course) (p side:Int):List Nat->List Nat:=List.filter (fun i=>!KB (bedC l i) (l.drop i) p side)
theorem s_lost (gf:Nat) (eg:∀args w,(callFunc gf args).run Tryz.prog w=.ok (.enter gf args) w) (KB:Course->List Course->Int->Int->Bool) (A:Option Addr) (l:List Course) (c:Nat) (p side:Int) (w:World) (hv:validC l=true) (hR:Rd Course.cs 6 w A l)
  (hK:∀(k:Nat) W,k<l.length->Calls Tryz.prog gf #[.agg #[.int .i64 (bedC l k).h,.int .i64 (bedC l k).o,.int .i64 (bedC l k).i,.int .i64 (bedC l k).wt,.int .i64 (bedC l k).e,.int .i64 (bedC l k).n],abv (l.drop k),.int .i64 p,.int .i64 side] W
   fun e w'=>e=.returned (.bool (KB (bedC l k) (l.drop k) p side))∧Below W.heap.size W w'):
  Calls Tryz.prog 184 #[.slice A l.length c,.int .i64 p,.int .i64 side,.func (.func gf) #[] #[]] w fun e w'=>
   ∃v,e=.returned v∧w'.ownsRow w.heap.size 3 1 v (lostL KB l p side (List.range l.length).reverse).length (natV (lostL KB l p side (List.range l.length).reverse))∧Below w.heap.size w w':=by
 have HV:=Lib.hid hv;have HK:=Lib.hid hK;obtain⟨_,hl1,hl2⟩:=valid_all hv;clear hv hK;refine(callsIn_wide (n:=5)).1 ?_;refine callsIn_of_wp_marks Tryz.func184 rfl trivial ?_ rfl;simp only[Tryz.ntmps184,List.size_toArray,List.length_cons,List.length_nil,Nat.reduceAdd,Nat.reduceSub,Array.replicate_succ,Array.replicate_zero,List.push_toArray,List.append_toArray,List.nil_append,List.cons_append];gi_wp2
 refine⟨trivial,?_⟩;refine(callsIn_wide.2 (s_beds A l.length c _)).mono ?_;rintro e w1 ⟨rfl,rfl⟩;gi_wp2
 generalize ha1:w.alloc (.cells #[.slice A l.length c] 64)=w1;have z1:w1.heap.size=w.heap.size+1:=by rw[←ha1];simp
 have x0:Blk w1 w.heap.size 64 #[.slice A l.length c]:=by rw[←ha1];exact Blk.new _ _ _
 have B1:Below w.heap.size w w1:=by rw[←ha1];exact below_alloc _ _
 clear ha1;rw[←z1];generalize ha2:w1.alloc (.cells #[.int .i64 p] 3)=w2;have z2:w2.heap.size=w1.heap.size+1:=by rw[←ha2];simp
 have x1:Blk w2 w1.heap.size 3 #[.int .i64 p]:=by rw[←ha2];exact Blk.new _ _ _
 have B2:Below w1.heap.size w1 w2:=by rw[←ha2];exact below_alloc _ _
 clear ha2;rw[←z2];generalize ha3:w2.alloc (.cells #[.int .i64 side] 3)=w3;have z3:w3.heap.size=w2.heap.size+1:=by rw[←ha3];simp
 have x2:Blk w3 w2.heap.size 3 #[.int .i64 side]:=by rw[←ha3];exact Blk.new _ _ _
 have B3:Below w2.heap.size w2 w3:=by rw[←ha3];exact below_alloc _ _
 clear ha3;rw[←z3];generalize ha4:w3.alloc (.cells #[.func (.func gf) #[] #[]] 294)=w4;have z4:w4.heap.size=w3.heap.size+1:=by rw[←ha4];simp
 have x3:Blk w4 w3.heap.size 294 #[.func (.func gf) #[] #[]]:=by rw[←ha4];exact Blk.new _ _ _
 have B4:Below w3.heap.size w3 w4:=by rw[←ha4];exact below_alloc _ _
 clear ha4;rw[←z4];generalize ha5:w4.alloc (.cells #[.slice none 0 0] 40)=w5;have z5:w5.heap.size=w4.heap.size+1:=by rw[←ha5];simp
 have x4:Blk w5 w4.heap.size 40 #[.slice none 0 0]:=by rw[←ha5];exact Blk.new _ _ _
 have B5:Below w4.heap.size w4 w5:=by rw[←ha5];exact below_alloc _ _
 clear ha5;rw[←z5];generalize ha6:w5.alloc (.cells #[.slice A l.length c] 64)=w6;have z6:w6.heap.size=w5.heap.size+1:=by rw[←ha6];simp
 have x5:Blk w6 w5.heap.size 64 #[.slice A l.length c]:=by rw[←ha6];exact Blk.new _ _ _
 have B6:Below w5.heap.size w5 w6:=by rw[←ha6];exact below_alloc _ _
 clear ha6;have y4:=x4.below B6 (by omega);have y3:=(x3.below B5 (by omega)).below B6 (by omega);have y2:=((x2.below B4 (by omega)).below B5 (by omega)).below B6 (by omega);have y1:=(((x1.below B3 (by omega)).below B4 (by omega)).below B5 (by omega)).below B6 (by omega);have y0:=((((x0.below B2 (by omega)).below B3 (by omega)).below B4 (by omega)).below B5 (by omega)).below B6 (by omega);have BB:Below w.heap.size w w6:=((((B1.trans (B2.mono (by omega))).trans (B3.mono (by omega))).trans (B4.mono (by omega))).trans (B5.mono (by omega))).trans (B6.mono (by omega));have HR0:Rd Course.cs 6 w6 A l:=hR.on BB;have hAd:∀ad,A=some ad->ad.block<w.heap.size:=by
  rintro ad rfl;obtain⟨b',off',e,hlt,_⟩:=hR (by rintro rfl;simp at hl1);cases e;exact hlt
 clear x0 x1 x2 x3 x4 B1 B2 B3 B4 B5 B6;have HZ:Hid (w1.heap.size=w.heap.size+1∧w2.heap.size=w.heap.size+2∧w3.heap.size=w.heap.size+3∧w4.heap.size=w.heap.size+4∧w5.heap.size=w.heap.size+5∧w6.heap.size=w.heap.size+6):=⟨by omega,by omega,by omega,by omega,by omega,by omega⟩;clear z1 z2 z3 z4 z5 z6
 refine wp_range (by omega) (gf:=214) (lb:=#[.pointer (some ⟨w5.heap.size,0,none⟩)]) rfl enters91 (encs:=bedE l) (xs:=(List.range l.length).reverse) (R:=fun b=>b<w.heap.size∨b=w5.heap.size)
  (beds_seq _ (by omega) w5.heap.size A l c _ _ HV.out (x5.cell 0) HR0 (.inr rfl) (fun ad e=>.inl (hAd ad e))) (Stp.refl _ _) (fun _=>rfl) (by have:=HZ.out;rintro b (hb|hb)<;>omega)
  (fun pre M W=>(Below w.heap.size w W∧w.heap.size<=W.heap.size)∧Blk W w.heap.size 64 #[.slice A l.length c]∧Blk W w1.heap.size 3 #[.int .i64 p]∧Blk W w2.heap.size 3 #[.int .i64 side]∧Blk W w3.heap.size 294 #[.func (.func gf) #[] #[]] ∧
   ∃v,Blk W w4.heap.size 40 #[v]∧W.ownsRow (w6.heap.size+2) 3 1 v (lostL KB l p side pre).length (natV (lostL KB l p side pre))∧∀b,v.ownBlock=some b->¬M b)
  (fun _ _ _ _=>False)
  ?h5 ?h6 ?h7 ?round ?done ?stop
 case h5=>
  have:=HZ.out;exact(abide_below (by omega)).and ((abide_blk _ (by omega)).and ((abide_blk _ (by omega)).and ((abide_blk _ (by omega)).and ((abide_blk _ (by omega)).and (abide_row _ _ (by omega))))))
 case h6=>exact fun k=>abide_pure _
 case h7=>exact⟨⟨BB,by have:=HZ.out;omega⟩,y0,y1,y2,y3,_,y4,World.ownsRow_nil w6 _ _ _,fun _ h=>by cases h⟩
 case stop=>rintro k pre rest M W _ h;exact h.elim
 case done=>
  rintro M W ⟨⟨hB,hz⟩,_,_,_,_,v,hv,hr,_⟩ hK;obtain⟨ad,cp,rfl⟩:=ownsRow_slice hr;have q:=hv.cell 0;simp only[List.getElem?_toArray,List.getElem?_cons_zero] at q;gi_wp2
  refine⟨by simp,.inl ⟨_,_,rfl,run_takeDeferred hK,?_⟩⟩;have hst:=Stp.putObj (Stp.refl (fun b=>b=w6.heap.size) W) (.inl rfl) (.deferred none);exact⟨_,results_tmp rfl _ _ _,_,rfl,ownsRow_base (ownsRow_stp hr hst fun b hb=>by have:=(ownBlock_ge hr b hb).1;omega) (by have:=HZ.out;omega),hB.trans (hst.toBelow hz (fun b hb=>by have:=HZ.out;omega))⟩
 case round=>
  rintro L pre x rest M W hxs ⟨⟨hB,hz⟩,b0,b1,b2,b3,v,b4,hr,hvm⟩ hM hsz;have hx:x<l.length:=by
   have:x∈(List.range l.length).reverse:=by rw[hxs];simp
   simpa using this
  simp only[bedE,setAll2,List.setIfInBounds_toArray,List.set_cons_zero,List.set_cons_succ];gi_wp2
  refine⟨(Stp.refl _ _).alloc _,fun W2 hsz2 hst2=>?_⟩;rw[World.size_alloc] at hsz2;have hZ:=HZ.out;have d0:=hst2.blk (b0.alloc _) (by omega);have d1:=hst2.blk (b1.alloc _) (by omega);have d2:=hst2.blk (b2.alloc _) (by omega);have d3:=hst2.blk (b3.alloc _) (by omega);have d4:=hst2.blk (b4.alloc _) (by omega);have d5:=hst2.blk (Blk.new W _ _) (by omega);have r2:=ownsRow_stp (ownsRow_stp hr ((Stp.refl (fun _=>False) W).alloc _) (fun _ _ h=>h)) hst2 (fun b hb=>by have:=(ownBlock_ge hr b hb).1;omega);have hB2:Below w.heap.size w W2:=(hB.alloc (by omega) _).trans (Stp.toBelow hst2 (by rw[World.size_alloc];omega) (fun b hb=>by omega));obtain⟨y,ab,off,hy,hA,hab,c0,c1,c2,c3,c4,c5⟩:=rdC (hR.on hB2) hx;have hKx:=fun U=>HK.out x U hx;rw[bed_at hy] at hKx
  have hSof:∀w',Below W2.heap.size W2 w'->w'.cell? ⟨w.heap.size,0,none⟩=some (.slice A l.length c)∧w'.cell? ⟨w1.heap.size,0,none⟩=some (.int .i64 p)∧w'.cell? ⟨w2.heap.size,0,none⟩=some (.int .i64 side) ∧
    w'.cell? ⟨w3.heap.size,0,none⟩=some (.func (.func gf) #[] #[])∧w'.cell? ⟨W.heap.size,0,none⟩=some (.int .i64 (wts (l.drop x)))∧w'.cell? ⟨W.heap.size,1,none⟩=some (.int .i64 (es (l.drop x)))∧w'.cell? ⟨W.heap.size,2,none⟩=some (.int .i64 (ns (l.drop x))) ∧
    w'.cell? ⟨W.heap.size,3,none⟩=some (.int .i64 (hs (l.drop x)))∧w'.cell? ⟨W.heap.size,4,none⟩=some (.int .i64 (push (l.drop x))) ∧
    w'.cell? ⟨ab,off+x*6,none⟩=some (.int .i64 y.h)∧w'.cell? ⟨ab,off+x*6+1,none⟩=some (.int .i64 y.o)∧w'.cell? ⟨ab,off+x*6+2,none⟩=some (.int .i64 y.i)∧w'.cell? ⟨ab,off+x*6+3,none⟩=some (.int .i64 y.wt) ∧
    w'.cell? ⟨ab,off+x*6+4,none⟩=some (.int .i64 y.e)∧w'.cell? ⟨ab,off+x*6+5,none⟩=some (.int .i64 y.n):=fun w' hw'=>by
   have hc:=(bcell hw').1
   exact⟨(hc _ _ d0.lt).trans (d0.cell 0),(hc _ _ d1.lt).trans (d1.cell 0),(hc _ _ d2.lt).trans (d2.cell 0),(hc _ _ d3.lt).trans (d3.cell 0),(hc _ _ d5.lt).trans (d5.cell 0),(hc _ _ d5.lt).trans (d5.cell 1),(hc _ _ d5.lt).trans (d5.cell 2),
    (hc _ _ d5.lt).trans (d5.cell 3),(hc _ _ d5.lt).trans (d5.cell 4),(hc _ _ hab).trans c0,(hc _ _ hab).trans c1,(hc _ _ hab).trans c2,(hc _ _ hab).trans c3,(hc _ _ hab).trans c4,(hc _ _ hab).trans c5⟩
  have hx0:=nn x;have hx1:(x:Int)<(l.length:Int):=by omega
  subst hA;have HS:=Lib.hid hSof;clear hSof c0 c1 c2 c3 c4 c5 hst2 hZ;gi_wp2
  cases hkb:KB y (l.drop x) p side
  all_goals
   refine wpIn_round_held (fun w'=>w'.cell? ⟨w.heap.size,0,none⟩=some (.slice (some ⟨ab,off,none⟩) l.length c)∧w'.cell? ⟨w1.heap.size,0,none⟩=some (.int .i64 p)∧w'.cell? ⟨w2.heap.size,0,none⟩=some (.int .i64 side) ∧
    w'.cell? ⟨w3.heap.size,0,none⟩=some (.func (.func gf) #[] #[])∧w'.cell? ⟨W.heap.size,0,none⟩=some (.int .i64 (wts (l.drop x)))∧w'.cell? ⟨W.heap.size,1,none⟩=some (.int .i64 (es (l.drop x)))∧w'.cell? ⟨W.heap.size,2,none⟩=some (.int .i64 (ns (l.drop x))) ∧
    w'.cell? ⟨W.heap.size,3,none⟩=some (.int .i64 (hs (l.drop x)))∧w'.cell? ⟨W.heap.size,4,none⟩=some (.int .i64 (push (l.drop x))) ∧
    w'.cell? ⟨ab,off+x*6,none⟩=some (.int .i64 y.h)∧w'.cell? ⟨ab,off+x*6+1,none⟩=some (.int .i64 y.o)∧w'.cell? ⟨ab,off+x*6+2,none⟩=some (.int .i64 y.i)∧w'.cell? ⟨ab,off+x*6+3,none⟩=some (.int .i64 y.wt) ∧
    w'.cell? ⟨ab,off+x*6+4,none⟩=some (.int .i64 y.e)∧w'.cell? ⟨ab,off+x*6+5,none⟩=some (.int .i64 y.n)) (by kernel_rfl) (by omega) (by rintro⟨_,_,h⟩;exact h) (by kernel_rfl) (HS.out _ (below_draw (Below.refl _ _))) (fun hH=>?_)
   refine wpAnyH_take (i:=0) (oi:={dst:=some 16,op:=Op.load 294 (Operand.tmp 7),type:=294,pos:=_,after:=_,guard:=none}) (v:=.func (.func gf) #[] #[]) rfl (by kernel_rfl) (by kernel_rfl) (by kernel_rfl) (fun _ _ _ h=>h) (Or.inl ⟨by rfl,?_⟩) (by assumption) ?_;(focus (intro w' hSw;(try dsimp only at hSw);go_split_ands;go_simp))
   try simp only[AP]
   refine wpAnyH_take (i:=1) (oi:={dst:=some 17,op:=Op.load 64 (Operand.tmp 4),type:=64,pos:=_,after:=_,guard:=none}) (v:=.slice (some ⟨ab,off,none⟩) l.length c) rfl (by kernel_rfl) (by kernel_rfl) (by kernel_rfl) (fun _ _ _ h=>h) (Or.inl ⟨by rfl,?_⟩) (by assumption) ?_;(focus (intro w' hSw;(try dsimp only at hSw);go_split_ands;go_simp))
   try simp only[AP]
   refine wpAnyH_take (i:=2) (oi:={dst:=some 18,op:=Op.move (Operand.tmp 10),type:=3,pos:=_,after:=_,guard:=none}) (v:=.int .i64 x) rfl (by kernel_rfl) (by kernel_rfl) (by kernel_rfl) (fun _ _ _ h=>h) (Or.inl ⟨by rfl,?_⟩) (by assumption) ?_;(focus (intro w' hSw;(try dsimp only at hSw);go_split_ands;go_simp))
   try simp only[AP]
   refine wpAnyH_take (i:=3) (oi:={dst:=some 19,op:=Op.indexAddr 64 (Operand.tmp 17) (Operand.tmp 18),type:=0,pos:=_,after:=_,guard:=none}) (v:=.pointer (some ⟨ab,off+x*6,none⟩)) rfl (by kernel_rfl) (by kernel_rfl) (by kernel_rfl) (fun _ _ _ h=>h) (Or.inl ⟨by rfl,?_⟩) (by assumption) ?_;(focus (intro w' hSw;(try dsimp only at hSw);go_split_ands;go_simp))
   try simp only[AP]
   refine wpAnyH_take (i:=4) (oi:={dst:=some 20,op:=Op.load 115 (Operand.tmp 19),type:=115,pos:=_,after:=_,guard:=none}) (v:=.agg #[.int .i64 y.h,.int .i64 y.o,.int .i64 y.i,.int .i64 y.wt,.int .i64 y.e,.int .i64 y.n]) rfl (by kernel_rfl) (by kernel_rfl) (by kernel_rfl) (fun _ _ _ h=>h) (Or.inl ⟨by rfl,?_⟩) (by assumption) ?_;(focus (intro w' hSw;(try dsimp only at hSw);go_split_ands;go_simp))
   try simp only[AP]
   refine wpAnyH_take (i:=5) (oi:={dst:=some 21,op:=Op.load 227 (Operand.tmp 11),type:=227,pos:=_,after:=_,guard:=none}) (v:=.agg #[.int .i64 (wts (l.drop x)),.int .i64 (es (l.drop x)),.int .i64 (ns (l.drop x)),.int .i64 (hs (l.drop x)),.int .i64 (push (l.drop x))]) rfl (by kernel_rfl) (by kernel_rfl) (by kernel_rfl) (fun _ _ _ h=>h) (Or.inl ⟨by rfl,?_⟩) (by assumption) ?_;(focus (intro w' hSw;(try dsimp only at hSw);go_split_ands;go_simp))
   try simp only[AP]
   refine wpAnyH_take (i:=6) (oi:={dst:=some 22,op:=Op.load 3 (Operand.tmp 5),type:=3,pos:=_,after:=_,guard:=none}) (v:=.int .i64 p) rfl (by kernel_rfl) (by kernel_rfl) (by kernel_rfl) (fun _ _ _ h=>h) (Or.inl ⟨by rfl,?_⟩) (by assumption) ?_;(focus (intro w' hSw;(try dsimp only at hSw);go_split_ands;go_simp))
   try simp only[AP]
   refine wpAnyH_take (i:=7) (oi:={dst:=some 23,op:=Op.load 3 (Operand.tmp 6),type:=3,pos:=_,after:=_,guard:=none}) (v:=.int .i64 side) rfl (by kernel_rfl) (by kernel_rfl) (by kernel_rfl) (fun _ _ _ h=>h) (Or.inl ⟨by rfl,?_⟩) (by assumption) ?_;(focus (intro w' hSw;(try dsimp only at hSw);go_split_ands;go_simp))
   try simp only[AP]
   refine wpAnyH_ready (rs:=[8]) (by kernel_rfl) (by simp) ?_;refine AllReadyH.cons rfl (fun K hKK=>?_) AllReadyH.nil;go_simp
   refine(hKx _).mono ?_;rintro e U ⟨rfl,hbU⟩;rw[hkb];refine hKK.out _ _ (HS.out _ (below_tr (below_draw (Below.refl _ _)) hbU)) (fun hH2=>?_);clear hKK K;try simp only[AP]
   refine wpAnyH_take (i:=9) (oi:={dst:=some 25,op:=Op.unOp UnOp.not 4 (Operand.tmp 24),type:=4,pos:=_,after:=_,guard:=none}) (v:=.bool _) rfl (by kernel_rfl) (by kernel_rfl) (by kernel_rfl) (fun _ _ _ h=>h) (Or.inl ⟨by rfl,fun w' _=>by go_simp;rfl⟩) (by assumption) ?_;try simp only[AP]
   refine wpAnyH_done (by kernel_rfl) ?_ _;clear hH hH2
  ·have hbU2:Below W2.heap.size W2 U:=below_tr (below_draw (Below.refl _ _)) hbU;have e4:=d4.below hbU2 d4.lt;have rU:=ownsRow_stp r2 (Stp.of_below hbU2) (fun b hb=>by have:=(ownBlock_ge r2 b hb).2;omega);clear hbU;have q4:=e4.cell 0;have f4:=e4.frozen 0;obtain⟨ad,cp,rfl⟩:=ownsRow_slice hr;simp only[List.getElem?_toArray,List.getElem?_cons_zero] at q4;have hlen:(lostL KB l p side pre).length<=60:=by
    have h1:=List.length_filter_le (fun i:Nat=>!KB (bedC l i) (l.drop i) p side) pre;have h2:=congrArg List.length hxs;simp only[List.length_reverse,List.length_range,List.length_append,List.length_cons] at h2;unfold lostL;omega
   have hpx:lostL KB l p side (pre++[x])=lostL KB l p side pre++[x]:=by
    unfold lostL;rw[List.filter_append];simp[bed_at hy,hkb]
   have hZ:=HZ.out;have s4:w4.heap.size<w6.heap.size:=by omega
   have hrowne:∀b,(Value.slice ad (lostL KB l p side pre).length cp).ownBlock=some b->w4.heap.size≠b:=fun b hb=>by have:=(ownBlock_ge hr b hb).1;omega
   have HP:=Lib.hid hpx;have HY:=Lib.hid hy;have HXS:=Lib.hid hxs;clear hpx hy hxs hZ;obtain⟨i0,hi,hi1,hi2,hi3⟩:=info_int;gi_wp2_with (gi_at_builtin;go_loud (refine wpListIn_append_own_at _ rfl _ _ 40 rfl (w6.heap.size+2) 3 i0 (.int .i64 0) 1 8 (by kernel_rfl) hi hi1 hi2 hi3 rfl (by omega) _ _ _ rfl (ownsRow_stp rU ((Stp.refl (fun _=>False) U).alloc _) (fun _ _ h=>h)) ⟨U.heap.size,0,none⟩ 1 1 [.int .i64 x] rfl rfl (cell_one_new _ _ _) (fun u hu=>by simp at hu;subst hu;rfl) (by unfold maxLen;omega) (by omega) (by simp;have:=hbU2.size;omega) ?_;intro v' U2 hown hgrow _ hat;obtain⟨g,cap,rfl⟩:=ownsRow_succ hown;have e42:Blk U2 w4.heap.size 40 #[.slice ad (lostL KB l p side pre).length cp]:=(hgrow.block w4.heap.size (e4.alloc _).lt (fun h=>hrowne _ h.symm rfl)).trans (e4.alloc _);have q42:=e42.cell 0;have f42:=e42.frozen 0;simp only[List.getElem?_toArray,List.getElem?_cons_zero] at q42))
   have hZ:=HZ.out;have hmk:∀N:Nat->Prop,N w4.heap.size->(∀r,(Value.slice ad (lostL KB l p side pre).length cp).ownBlock=some r->N r∨W2.heap.size<=r)->Stp N W2 (U2.setCell ⟨w4.heap.size,0,none⟩ (.slice (some ⟨g,0,none⟩) ((lostL KB l p side pre).length+1) cap)):=fun N h1 h2=>
    (((Stp.of_below hbU2).mono (fun b hb hn=>absurd hn (by omega)) |>.alloc _).grown hgrow h2).setCell (.inl h1) _
   have hst:=hmk (fun b=>b=w4.heap.size∨w6.heap.size+2<=b) (.inl rfl) (fun r hr'=>.inl (.inr (ownBlock_ge hr r hr').1));refine⟨hmk _ ?_ ?_,⟨hB2.trans (hst.toBelow (by omega) (fun b hb=>by omega)),Nat.le_trans hB2.size hst.size⟩,hst.blk d0 (by omega),hst.blk d1 (by omega),hst.blk d2 (by omega),hst.blk d3 (by omega),_,e42.set_ 0 _,?_,?_⟩
   ·rintro (h|(h|h)|h|h)
    ·have:=(hM _ h).1;omega
    all_goals omega
   ·intro r hr';have:=ownBlock_ge hr r hr';refine .inl ?_;rintro (h|(h|h)|h|h)
    ·exact hvm r hr' h
    all_goals omega
   ·rw[HP.out];have:=ownsRow_stp hown (Stp.setCell (p:=⟨w4.heap.size,0,none⟩) (Stp.refl (fun b=>b=w4.heap.size) U2) (.inl rfl) (.slice (some ⟨g,0,none⟩) ((lostL KB l p side pre).length+1) cap)) (fun b hb=>by have:=(ownBlock_ge hown b hb).1;omega);simpa[natV] using this
   ·intro b hb hm;rcases hat with h|h
    ·rw[h] at hb;exact hvm b hb hm
    ·rw[h] at hb;cases hb;have:=(hM _ hm).2;rw[World.size_alloc] at this;have:=hbU2.size;omega
  ·have hbU2:Below W2.heap.size W2 U:=below_tr (below_draw (Below.refl _ _)) hbU;have hpx:lostL KB l p side (pre++[x])=lostL KB l p side pre:=by
    unfold lostL;rw[List.filter_append];simp[bed_at hy,hkb]
   have HP:=Lib.hid hpx;clear hpx hy hxs;gi_wp2
   have hZ:=HZ.out;have hst:Stp (fun b=>W2.heap.size<=b) W2 U:=Stp.of_below hbU2;refine⟨hst.mono (fun b hb hn=>absurd hn (by omega)),⟨hB2.trans (hbU2.mono (by omega)),Nat.le_trans hB2.size hbU2.size⟩,d0.below hbU2 d0.lt,d1.below hbU2 d1.lt,d2.below hbU2 d2.lt,d3.below hbU2 d3.lt,_,d4.below hbU2 d4.lt,?_,hvm⟩;rw[HP.out];exact ownsRow_stp r2 hst (fun b hb=>by have:=(ownBlock_ge r2 b hb).2;omega)
theorem blk_setCells {g:Nat} {t:TypeId}:∀(vs:List Value) (o:Nat) {w:World} (cs:Array Value),Blk w g t cs->∃cs',Blk (w.setCells g o vs) g t cs'∧cs'.size=cs.size
 |[],_,_,cs,h=>⟨cs,h,rfl⟩
 |v::r,o,_,_,h=>by
  obtain⟨cs',h1,h2⟩:=blk_setCells r (o+1) _ (h.set_ o v);exact⟨cs',h1,by simpa using h2⟩
theorem below_sets {B g:Nat} (hg:B<=g) {a:World}:∀(vs:List Value) (o:Nat) {w:World},Below B a w->Below B a (w.setCells g o vs)
 |[],_,_,h=>h
 |v::r,o,_,h=>below_sets hg r (o+1) (h.setCell (p:=⟨g,o,none⟩) hg v)
theorem natV_map (zs:List Nat):natV zs=(zs.map (fun(i:Nat)=>(i:Int))).map (Value.int .i64):=by simp[natV]
theorem natV_length (zs:List Nat):(natV zs).length=zs.length:=by simp[natV]
theorem s_reverse (base:Nat) (v:Value) (zs:List Nat) (w:World) (h:w.ownsRow base 3 1 v zs.length (natV zs)) (hz:zs.length<=100000):
  Calls Tryz.prog 324 #[v] w fun e w'=>e=.returned (.tuple #[])∧w'.ownsRow base 3 1 v zs.reverse.length (natV zs.reverse)∧Below base w w':=by
 rcases h.2 with⟨rfl,h0⟩|⟨g,cap,cur,rfl,hB,hh,h1,h2,h3,h4⟩
 ·have:zs=[]:=List.eq_nil_of_length_eq_zero h0;subst this;refine(Tryz.slices_Reverse_int_empty none 0 w).mono ?_;rintro e w' ⟨rfl,rfl⟩;exact⟨rfl,h,Below.refl _ _⟩
 ·have hb:Blk w g 3 cur:=hh;have hat:∀j,j<zs.length->cur[j]?=some (.int .i64 ((zs.getD j 0:Nat):Int)):=fun j hj=>by
   have h5:(cur.toList.take (zs.length*1))[j]?=(natV zs)[j]?:=by rw[h4]
   rw[List.getElem?_take,if_pos (by omega),Array.getElem?_toList] at h5;rw[h5];simp[natV,hj]
  refine(Tryz.slices_Reverse_int_cells g 0 zs.length cap (zs.map (fun(i:Nat)=>(i:Int))) w (by simp) (by omega) (fun j hj=>?_) (fun j hj=>?_)).mono ?_
  ·simp at hj;rw[Nat.zero_add,hb.cell j,hat j hj];simp[hj]
  ·rw[Nat.zero_add];exact hb.frozen j
  ·rintro e w' ⟨rfl,q,rfl⟩;have hvl:(((zs.map (fun(i:Nat)=>(i:Int))).take zs.length).reverse.map (Value.int .i64))=natV zs.reverse:=by
    rw[List.take_of_length_le (by simp),←List.map_reverse,natV_map]
   rw[hvl];obtain⟨cs',hb',hs'⟩:=blk_setCells (natV zs.reverse) 0 cur (hb.drewN q);have hin:=World.cell?_setCells_in g (natV zs.reverse) 0 (w.drewN q) (fun j hj=>by
    rw[natV_length,List.length_reverse] at hj;rw[Nat.zero_add];show(w.cell? ⟨g,j,none⟩).isSome=true;rw[hb.cell j,hat j hj];rfl)
   refine⟨rfl,⟨by simp[natV],.inr ⟨g,cap,cs',by simp,hB,hb',by simpa using h1,h2,by rw[hs',h3],?_⟩⟩,?_⟩
   ·apply List.ext_getElem?;intro j;rcases Nat.lt_or_ge j zs.length with hj|hj
    ·have h6:=hin j (by rw[natV_length,List.length_reverse];exact hj);rw[Nat.zero_add,hb'.cell j] at h6;rw[List.getElem?_take,if_pos (by simp;omega),Array.getElem?_toList,h6,List.getElem?_eq_getElem]
    ·rw[List.getElem?_eq_none (by simp;omega),List.getElem?_eq_none (by simp[natV];omega)]
   ·exact below_sets hB _ _ (below_drewN (Below.refl _ _) q)
theorem lost_hyp {l:List Course} {p:Int} (hv:validC l=true) (hp0:0<=p) (hp1:p<=10000) {k:Nat} (hk:k<l.length):CB (bedC l k)∧AB (bedC l k) (l.drop k) p:=by
 obtain⟨hall,hl1,hl2⟩:=valid_all hv;obtain⟨x,hx⟩:∃x,l[k]?=some x:=⟨_,List.getElem?_eq_getElem hk⟩;have hcb:CB x:=cb_of (List.all_eq_true.1 hall x (List.mem_of_getElem? hx));rw[bed_at hx];exact⟨hcb,ab_of hcb (all_drop hall k) (by simp;omega) hp0 hp1⟩
theorem s_lostC (A:Option Addr) (l:List Course) (c:Nat) (p side:Int) (w:World) (hv:validC l=true) (hR:Rd Course.cs 6 w A l) (hp0:0<=p) (hp1:p<=10000) (hs0:0<=side) (hs1:side<=3):
  Calls Tryz.prog 184 #[.slice A l.length c,.int .i64 p,.int .i64 side,.func (.func 185) #[] #[]] w fun e w'=>
   ∃v,e=.returned v∧w'.ownsRow w.heap.size 3 1 v (lostL closedB l p side (List.range l.length).reverse).length (natV (lostL closedB l p side (List.range l.length).reverse))∧Below w.heap.size w w':=
 s_lost _ (enters_of Tryz.func185 (by kernel_rfl) rfl) closedB A l c p side w hv hR (fun k W hk=>s_closed _ _ p side W hp0 hp1 hs0 hs1 (lost_hyp hv hp0 hp1 hk).2 (lost_hyp hv hp0 hp1 hk).1)
theorem s_lostH (A:Option Addr) (l:List Course) (c:Nat) (p side:Int) (w:World) (hv:validC l=true) (hR:Rd Course.cs 6 w A l) (hp0:0<=p) (hp1:p<=10000) (hs0:0<=side) (hs1:side<=3):
  Calls Tryz.prog 184 #[.slice A l.length c,.int .i64 p,.int .i64 side,.func (.func 332) #[] #[]] w fun e w'=>
   ∃v,e=.returned v∧w'.ownsRow w.heap.size 3 1 v (lostL holdsB l p side (List.range l.length).reverse).length (natV (lostL holdsB l p side (List.range l.length).reverse))∧Below w.heap.size w w':=
 s_lost _ (enters_of Tryz.func332 (by kernel_rfl) rfl) holdsB A l c p side w hv hR (fun k W hk=>s_holds _ _ p side W hp0 hp1 hs0 hs1 (lost_hyp hv hp0 hp1 hk).2 (lost_hyp hv hp0 hp1 hk).1)
def lostsL (KB:Course->List Course->Int->Int->Bool) (l:List Course) (p side:Int):List Nat:=lostL KB l p side (List.range l.length).reverse
theorem lostsL_len (KB:Course->List Course->Int->Int->Bool) (l:List Course) (p side:Int):(lostsL KB l p side).length<=l.length:=by
 have:=List.length_filter_le (fun i:Nat=>!KB (bedC l i) (l.drop i) p side) (List.range l.length).reverse;simpa[lostsL,lostL] using this
theorem windy0 (l:List Course):∀{p side:Int},windyE l 0 p side=0->validC l=true∧0<=p∧p<=10000∧0<=side∧side<=3:=fun h=>by
 obtain⟨_,_,_,hv,h⟩:=windy_zero h;exact⟨hv,h⟩
def standsR (l:List Course) (p side:Int):Bool:=if windyE l 0 p side=0 then (lostsL holdsB l p side).length==0 else false
theorem s_stands (A:Option Addr) (l:List Course) (c:Nat) (p side:Int) (w:World) (hl:l.length<=100000) (hR:Rd Course.cs 6 w A l):
  Calls Tryz.prog 330 #[.slice A l.length c,.int .i64 p,.int .i64 side] w fun e w'=>e=.returned (.tuple #[.bool (standsR l p side),.int .i64 (windyE l 0 p side)])∧Below w.heap.size w w':=by
 have HC:=Lib.hid (s_windy A l c 0 p side w hl hR);by_cases h0:windyE l 0 p side=0
 ·obtain⟨hv,hp0,hp1,hs0,hs1⟩:=windy0 l h0;have hlen:=lostsL_len holdsB l p side;have HL:=Lib.hid (fun W (h:Below w.heap.size w W)=>s_lostH A l c p side W hv (hR.on h) hp0 hp1 hs0 hs1);have HE:Hid (standsR l p side=((lostsL holdsB l p side).length==0)):=by show _=_;unfold standsR;rw[if_pos h0]
  rw[h0] at HC ⊢;clear h0 hv;go_enter Tryz.func330,Tryz.ntmps330
  go_wp2_with (first
   |(go_at_call 331;refine HC.out.mono ?_;rintro e w1 ⟨rfl,hb1⟩)
   |(go_at_call 184;refine(HL.out _ hb1).mono ?_;rintro e w2 ⟨v,rfl,hr2,hb2⟩;obtain⟨ad,cp,rfl⟩:=ownsRow_slice hr2))
  go_ret2;refine⟨ret_tup2 (a:=.bool (((lostsL holdsB l p side).length:Int)==0)) (congrArg Value.bool ?_) rfl,below_tr hb1 hb2⟩;rw[HE.out,Bool.eq_iff_iff];simp
 ·have H0:=Lib.hid h0;have t1:(windyE l 0 p side != 0)=true:=by simpa using h0
  clear h0;go_enter Tryz.func330,Tryz.ntmps330
  go_wp2_with (go_at_call 331;refine HC.out.mono ?_;rintro e w1 ⟨rfl,hb1⟩)
  go_ret2;exact⟨by simp only[standsR,if_neg H0.out];rfl,hb1⟩
end Go.Proofs.YtjkkfcghkeoedaaGreatDoor.S
namespace Go.Proofs.YtjkkfcghkeoedaaGreatDoor.S
open Go.RowKit
def tight (l:List Course) (side:Int) (p:Nat):Bool:=(lostsL closedB l p side).length==0
def bs (T:Nat->Bool) (lo hi:Nat):Nat:=
 if hi<=lo+1 then lo else if T ((lo+hi)/2) then bs T ((lo+hi)/2) hi else bs T lo ((lo+hi)/2)
termination_by hi-lo
theorem bs_end {T:Nat->Bool} {lo hi:Nat} (h:hi<=lo+1):bs T lo hi=lo:=by rw[bs,if_pos h]
theorem bs_yes {T:Nat->Bool} {lo hi:Nat} (h:¬hi<=lo+1) (hT:T ((lo+hi)/2)=true):bs T lo hi=bs T ((lo+hi)/2) hi:=by rw[bs,if_neg h,if_pos hT]
theorem bs_no {T:Nat->Bool} {lo hi:Nat} (h:¬hi<=lo+1) (hT:T ((lo+hi)/2)=false):bs T lo hi=bs T lo ((lo+hi)/2):=by rw[bs,if_neg h,if_neg (by simp[hT])]
def safeI (l:List Course) (side:Int):Int:=if tight l side 0 then (bs (tight l side) 0 10001:Int) else -1
theorem half_nat (a b:Nat):((a:Int)+(b:Int)).tdiv 2=(((a+b)/2:Nat):Int):=by
 rw[←Int.natCast_add,Int.tdiv_eq_ediv_of_nonneg (by omega)];rfl
theorem s_safe0 (A:Option Addr) (l:List Course) (c:Nat) (side:Int) (w:World) (hv:validC l=true) (hR:Rd Course.cs 6 w A l) (hs0:0<=side) (hs1:side<=3):
  Calls Tryz.prog 153 #[.slice A l.length c,.int .i64 side] w fun e w'=>e=.returned (.tuple #[.int .i64 (safeI l side),.bool (decide (0<=safeI l side))])∧Below w.heap.size w w':=by
 have HL:=Lib.hid (fun(p:Nat) W (hp:p<=10000) (h:Below w.heap.size w W)=>s_lostC A l c p side W hv (hR.on h) (by omega) (by omega) hs0 hs1);clear hv hR;go_enter Tryz.func153,Tryz.ntmps153
 go_wp2
 go_loopw [6,7] (fun lo hi wr=>Below w.heap.size w wr∧((lo=.int .i64 (-1)∧hi=.int .i64 10001)∨(lo=.int .i64 (-1)∧hi=.int .i64 0∧Hid (safeI l side=-1))∨∃a b:Nat,lo=.int .i64 a∧hi=.int .i64 b∧a<b∧b<=10001∧Hid (safeI l side=(bs (tight l side) a b:Int))))
  (fun lo hi _=>(intOf hi-intOf lo).toNat)
 case atStart=>exact⟨Below.refl _ _,.inl ⟨rfl,rfl⟩⟩
 case round=>
  obtain⟨hbw,⟨rfl,rfl⟩|⟨rfl,rfl,HI⟩|⟨a,b,rfl,rfl,hab,hb,HI⟩⟩:=hrel
  ·cases ht:tight l side 0
   ·have hi:safeI l side=-1:=by unfold safeI;simp[ht]
    have hpos:(0:Int)<((lostL closedB l 0 side (List.range l.length).reverse).length:Int):=by
     have:¬(lostsL closedB l (0:Nat) side).length=0:=by unfold tight at ht;simpa using ht
     have h2:(lostsL closedB l (0:Nat) side).length=(lostL closedB l 0 side (List.range l.length).reverse).length:=rfl;omega
    have HI:=Lib.hid hi;clear ht hi;go_wp2_with (go_at_call 184;refine(HL.out 0 _ (by omega) hbw).mono ?_;rintro e w1 ⟨v,rfl,hr,hb1⟩;obtain⟨ad,cp,rfl⟩:=ownsRow_slice hr)
    go_roundw
    case rel=>exact⟨hbw.trans (hb1.mono hbw.size),.inr (.inl ⟨rfl,rfl,HI⟩)⟩
    case measure=>simp[intOf]
   ·have hi:safeI l side=(bs (tight l side) 0 10001:Int):=by unfold safeI;simp[ht]
    have hpos:((lostL closedB l 0 side (List.range l.length).reverse).length:Int)=0:=by
     have:(lostsL closedB l (0:Nat) side).length=0:=by unfold tight at ht;simpa using ht
     have h2:(lostsL closedB l (0:Nat) side).length=(lostL closedB l 0 side (List.range l.length).reverse).length:=rfl;omega
    have HI:=Lib.hid hi;clear ht hi;go_wp2_with (go_at_call 184;refine(HL.out 0 _ (by omega) hbw).mono ?_;rintro e w1 ⟨v,rfl,hr,hb1⟩;obtain⟨ad,cp,rfl⟩:=ownsRow_slice hr)
    go_roundw
    case rel=>exact⟨hbw.trans (hb1.mono hbw.size),.inr (.inr ⟨0,10001,rfl,rfl,by omega,by omega,HI⟩)⟩
    case measure=>simp[intOf]
  ·go_wp2;go_ret2;exact⟨by rw[HI.out];rfl,hbw⟩
  ·by_cases hle:b<=a+1
   ·have he:=HI.out;rw[bs_end hle] at he;have HE:=Lib.hid he;clear he;go_wp2;go_ret2;refine⟨?_,hbw⟩;rw[HE.out];exact ret_tup2 rfl (congrArg Value.bool (by simp))
   ·have hh:=half_nat a b;have g1:a<(a+b)/2:=by omega
    have g2:(a+b)/2<b:=by omega
    generalize hm:(a+b)/2=m at *;have HM:=Lib.hid hm;have hm0:=nn m;have ha0:=nn a;have hb0:(b:Int)<=10001:=by omega
    have hab2:1<(b:Int)-(a:Int):=by omega
    have hab3:(a:Int)<(b:Int):=by omega
    have g3:(a:Int)<(m:Int):=by omega
    have g4:(m:Int)<(b:Int):=by omega
    clear hm;cases ht:tight l side m
    ·have hpos:(0:Int)<((lostL closedB l m side (List.range l.length).reverse).length:Int):=by
      have:¬(lostsL closedB l m side).length=0:=by unfold tight at ht;simpa using ht
      have h2:(lostsL closedB l m side).length=(lostL closedB l m side (List.range l.length).reverse).length:=rfl;omega
     have HI2:Hid (safeI l side=(bs (tight l side) a m:Int)):=by
      show _=_;rw[HI.out,bs_no hle (by rw[HM.out];exact ht),HM.out]
     clear ht HI;go_wp2_with (go_at_call 184;refine(HL.out m _ (by omega) hbw).mono ?_;rintro e w1 ⟨v,rfl,hr,hb1⟩;obtain⟨ad,cp,rfl⟩:=ownsRow_slice hr)
     go_roundw
     case rel=>exact⟨hbw.trans (hb1.mono hbw.size),.inr (.inr ⟨a,m,rfl,rfl,by omega,by omega,HI2⟩)⟩
     case measure=>simp[intOf];omega
    ·have hpos:((lostL closedB l m side (List.range l.length).reverse).length:Int)=0:=by
      have:(lostsL closedB l m side).length=0:=by unfold tight at ht;simpa using ht
      have h2:(lostsL closedB l m side).length=(lostL closedB l m side (List.range l.length).reverse).length:=rfl;omega
     have HI2:Hid (safeI l side=(bs (tight l side) m b:Int)):=by
      show _=_;rw[HI.out,bs_yes hle (by rw[HM.out];exact ht),HM.out]
     clear ht HI;go_wp2_with (go_at_call 184;refine(HL.out m _ (by omega) hbw).mono ?_;rintro e w1 ⟨v,rfl,hr,hb1⟩;obtain⟨ad,cp,rfl⟩:=ownsRow_slice hr)
     go_roundw
     case rel=>exact⟨hbw.trans (hb1.mono hbw.size),.inr (.inr ⟨m,b,rfl,rfl,by omega,by omega,HI2⟩)⟩
     case measure=>simp[intOf];omega
def best (v:Nat->Int):Nat->Int×Int
 |0=>(0,0)
 |1=>(v 0,0)
 |k+2=>if v (k+1)<(best v (k+1)).1 then (v (k+1),((k+1:Nat):Int)) else best v (k+1)
theorem best_le (v:Nat->Int):∀k j,j<k->(best v k).1<=v j
 |0,_,h=>absurd h (by omega)
 |1,j,h=>by obtain rfl:j=0:=by omega
            exact Int.le_refl _
 |k+2,j,h=>by
  unfold best;rcases Nat.lt_or_ge j (k+1) with h1|h1
  ·have:=best_le v (k+1) j h1;split<;>omega
  ·obtain rfl:j=k+1:=by omega
   split<;>omega
theorem best_mem (v:Nat->Int):∀k,∃j,j<k+1∧(best v (k+1)).1=v j
 |0=>⟨0,by omega,rfl⟩
 |k+1=>by
  obtain⟨j,hj,h⟩:=best_mem v k;unfold best;split
  ·exact⟨k+1,by omega,rfl⟩
  ·exact⟨j,by omega,h⟩
theorem best_step (v:Nat->Int) {k:Nat} (h:0<k):best v (k+1)=if v k<(best v k).1 then (v k,(k:Int)) else best v k:=by
 cases k with
 |zero=>omega
 |succ k=>rfl
def leastR (l:List Course):Int×Int×Int:=if validC l then (if (best (fun k:Nat=>safeI l k) 4).1<0 then (0,0,8) else ((best (fun k:Nat=>safeI l k) 4).1,(best (fun k:Nat=>safeI l k) 4).2,0)) else (0,0,1)
theorem s_least (A:Option Addr) (l:List Course) (c:Nat) (w:World) (hl:l.length<=100000) (hR:Rd Course.cs 6 w A l):
  Calls Tryz.prog 116 #[.slice A l.length c] w fun e w'=>e=.returned (.tuple #[.int .i64 (leastR l).1,.int .i64 (leastR l).2.1,.int .i64 (leastR l).2.2])∧Below w.heap.size w w':=by
 have HC:=Lib.hid (s_valid A l c w hl hR);cases hv:validC l
 ·rw[hv] at HC;have HV:=Lib.hid hv;clear hv;go_enter Tryz.func116,Tryz.ntmps116
  go_wp2_with (go_at_call 25;refine HC.out.mono ?_;rintro e w1 ⟨rfl,hb1⟩)
  go_ret3
  exact⟨by simp only[leastR,HV.out];rfl,hb1⟩
 ·have HL:=Lib.hid (fun(k:Nat) W (hk:k<=3) (h:Below w.heap.size w W)=>s_safe0 A l c k W hv (hR.on h) (by omega) (by omega));rw[hv] at HC;have HV:=Lib.hid hv;clear hv;go_enter Tryz.func116,Tryz.ntmps116
  go_wp2_with (go_at_call 25;refine HC.out.mono ?_;rintro e w1 ⟨rfl,hb1⟩)
  go_loopw [2,3,11] (fun p sd i wr=>∃k:Nat,k<=4∧i=.int .i64 k∧Below w.heap.size w wr∧p=.int .i64 (best (fun k:Nat=>safeI l k) k).1∧sd=.int .i64 (best (fun k:Nat=>safeI l k) k).2∧Hid (∀j:Nat,j<k->0<=safeI l j)) (fun _ _ i _=>4-(intOf i).toNat)
  case atStart=>exact⟨0,by omega,rfl,hb1,rfl,rfl,fun j hj=>by omega⟩
  case round=>
   obtain⟨k,hk,rfl,hbw,rfl,rfl,HA⟩:=hrel;have k0:=nn k;by_cases hlt:k<4
   ·have k1:(k:Int)<4:=by omega
    by_cases hs:0<=safeI l k
    ·have hnx:∀j:Nat,j<k+1->0<=safeI l j:=fun j hj=>by
      rcases Nat.lt_or_ge j k with h|h
      ·exact HA.out j h
      ·obtain rfl:j=k:=by omega
       exact hs
     have HN:=Lib.hid hnx;clear HA hnx;rcases Nat.eq_zero_or_pos k with hk0|hk0
     ·subst hk0;go_wp2_with (go_at_call 153;refine(HL.out 0 _ (by omega) hbw).mono ?_;rintro e w2 ⟨rfl,hb2⟩;simp only[hs,decide_true])
      go_roundw
      case rel=>exact⟨1,by omega,rfl,hbw.trans (hb2.mono hbw.size),rfl,rfl,HN.out⟩
      case measure=>simp[intOf]
     ·have kp:(0:Int)<(k:Int):=by omega
      by_cases hq:safeI l k<(best (fun k:Nat=>safeI l k) k).1
      ·have hb:best (fun k:Nat=>safeI l k) (k+1)=(safeI l k,(k:Int)):=(best_step _ hk0).trans (if_pos hq);have HB:=Lib.hid hb;clear hb;generalize best (fun k:Nat=>safeI l k) k=bb at *;go_wp2_with (go_at_call 153;refine(HL.out k _ (by omega) hbw).mono ?_;rintro e w2 ⟨rfl,hb2⟩;simp only[hs,decide_true])
       go_roundw
       case rel=>exact⟨k+1,by omega,by go_num,hbw.trans (hb2.mono hbw.size),by rw[HB.out],by rw[HB.out],HN.out⟩
       case measure=>simp[intOf];omega
      ·have hb:best (fun k:Nat=>safeI l k) (k+1)=best (fun k:Nat=>safeI l k) k:=(best_step _ hk0).trans (if_neg hq);have HB:=Lib.hid hb;clear hb;generalize best (fun k:Nat=>safeI l k) k=bb at *;go_wp2_with (go_at_call 153;refine(HL.out k _ (by omega) hbw).mono ?_;rintro e w2 ⟨rfl,hb2⟩;simp only[hs,decide_true])
       go_roundw
       case rel=>exact⟨k+1,by omega,by go_num,hbw.trans (hb2.mono hbw.size),by rw[HB.out],by rw[HB.out],HN.out⟩
       case measure=>simp[intOf];omega
    ·have hneg:(best (fun k:Nat=>safeI l k) 4).1<0:=by
      have:=best_le (fun k:Nat=>safeI l k) 4 k hlt;exact Int.lt_of_le_of_lt this (by omega)
     have HG:=Lib.hid hneg;clear hneg;go_wp2_with (go_at_call 153;refine(HL.out k _ (by omega) hbw).mono ?_;rintro e w2 ⟨rfl,hb2⟩;rw[decide_eq_false (show ¬0<=safeI l k by omega)])
     go_ret3
     exact⟨by simp only[leastR,HV.out,if_true,if_pos HG.out];rfl,hbw.trans (hb2.mono hbw.size)⟩
   ·obtain rfl:k=4:=by omega
    have hpos:¬(best (fun k:Nat=>safeI l k) 4).1<0:=by
     obtain⟨j,hj,h⟩:=best_mem (fun k:Nat=>safeI l k) 3;rw[h];exact Int.not_lt.2 (HA.out j hj)
    have HG:=Lib.hid hpos;clear hpos;go_wp2;go_ret3
    exact⟨by simp only[leastR,HV.out,if_true,if_neg (show ¬(best (fun k:Nat=>safeI l k) 4).1<0 by have:=HG.out;omega)];rfl,hbw⟩
end Go.Proofs.YtjkkfcghkeoedaaGreatDoor.S
