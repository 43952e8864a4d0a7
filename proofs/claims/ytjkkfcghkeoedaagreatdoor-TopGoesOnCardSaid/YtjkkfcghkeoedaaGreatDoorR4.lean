/- The parts of the proof, part 4. -/
import Derived.Test.YtjkkfcghkeoedaaGreatDoorR0
import Derived.Test.YtjkkfcghkeoedaaGreatDoorR3
import Derived.Test.YtjkkfcghkeoedaaGreatDoorProg
import Derived.Shelf.Abstract
import Derived.BigQuiet
import Derived.Deep.QuietTactic
import Derived.IntWalk
import Derived.Deep.RegionHeld3
import Derived.Laws.Externs
import Derived.Lib.Hide
import Derived.Deep.RegionWith
set_option maxHeartbeats 16000000
set_option maxRecDepth 20000
set_option linter.unusedSimpArgs false
set_option linter.unusedVariables false
namespace Go.Proofs.YtjkkfcghkeoedaaGreatDoor.S
open Go.RowKit
def wn (n lo hi:Int):Bool:=decide (lo<=n)&&decide (n<=hi)
structure Course where
 h:Int
 o:Int
 i:Int
 wt:Int
 e:Int
 n:Int
def Course.cs (c:Course):List Value:=[.int .i64 c.h,.int .i64 c.o,.int .i64 c.i,.int .i64 c.wt,.int .i64 c.e,.int .i64 c.n]
theorem rdC {w:World} {A:Option Addr} {l:List Course} (h:Rd Course.cs 6 w A l) {k:Nat} (hk:k<l.length):
  ∃x b off,l[k]?=some x∧A=some ⟨b,off,none⟩∧b<w.heap.size∧w.cell? ⟨b,off+k*6,none⟩=some (.int .i64 x.h)∧w.cell? ⟨b,off+k*6+1,none⟩=some (.int .i64 x.o) ∧
   w.cell? ⟨b,off+k*6+2,none⟩=some (.int .i64 x.i)∧w.cell? ⟨b,off+k*6+3,none⟩=some (.int .i64 x.wt)∧w.cell? ⟨b,off+k*6+4,none⟩=some (.int .i64 x.e)∧w.cell? ⟨b,off+k*6+5,none⟩=some (.int .i64 x.n):=by
 obtain⟨x,hx⟩:=get_lt hk;obtain⟨b,off,e,hb,hc⟩:=h.get hx;exact⟨x,b,off,hx,e,hb,hc 0 _ rfl,hc 1 _ rfl,hc 2 _ rfl,hc 3 _ rfl,hc 4 _ rfl,hc 5 _ rfl⟩
def soundB (c:Course):Bool:=wn c.h 1 2000&&(decide (0<=c.i)&&(decide (c.i<c.o)&&(decide (c.o<=5000)&&(wn c.wt 1 1000000&&(wn c.e (-5000) 5000&&wn c.n (-5000) 5000)))))
theorem s_within (n lo hi:Int) (w:World):
  Calls Tryz.prog 81 #[.int .i64 n,.int .i64 lo,.int .i64 hi] w fun e w'=>e=.returned (.bool (wn n lo hi))∧w=w':=by
 by_cases h:lo<=n
 all_goals
  go_enter Tryz.func81,Tryz.ntmps81
  go_wp2;go_ret;exact⟨ret_bool (by simp[wn];omega),rfl⟩
theorem r_within (n lo hi:Int) (w:World):
  Calls Tryz.prog 95 #[.int .i64 n,.int .i64 lo,.int .i64 hi] w fun e w'=>e=.returned (.bool (wn n lo hi))∧w=w':=by
 by_cases h:lo<=n
 all_goals
  go_enter Tryz.func95,Tryz.ntmps95
  go_wp2;go_ret;exact⟨ret_bool (by simp[wn];omega),rfl⟩
theorem s_sound (c:Course) (w:World):
  Calls Tryz.prog 84 #[.agg #[.int .i64 c.h,.int .i64 c.o,.int .i64 c.i,.int .i64 c.wt,.int .i64 c.e,.int .i64 c.n]] w fun r w'=>r=.returned (.bool (soundB c))∧Below w.heap.size w w':=by
 go_enter Tryz.func84,Tryz.ntmps84
 go_wp2_with (go_at_call 81;refine(s_within _ _ _ _).mono ?_;rintro e w' ⟨rfl,rfl⟩)
 all_goals
  go_ret;exact⟨ret_bool (by simp[soundB, *]<;>(intros;omega)),below_alloc _ _⟩
theorem r_sound (c:Course) (w:World):
  Calls Tryz.prog 94 #[.agg #[.int .i64 c.h,.int .i64 c.o,.int .i64 c.i,.int .i64 c.wt,.int .i64 c.e,.int .i64 c.n]] w fun r w'=>r=.returned (.bool (soundB c))∧Below w.heap.size w w':=by
 go_enter Tryz.func94,Tryz.ntmps94
 go_wp2_with (go_at_call 95;refine(r_within _ _ _ _).mono ?_;rintro e w' ⟨rfl,rfl⟩)
 all_goals
  go_ret;exact⟨ret_bool (by simp[soundB, *]<;>(intros;omega)),below_alloc _ _⟩
theorem s_unsound (c:Course) (w:World):
  Calls Tryz.prog 83 #[.agg #[.int .i64 c.h,.int .i64 c.o,.int .i64 c.i,.int .i64 c.wt,.int .i64 c.e,.int .i64 c.n]] w fun r w'=>r=.returned (.bool (!soundB c))∧Below w.heap.size w w':=by
 go_enter Tryz.func83,Tryz.ntmps83
 go_wp2_with (go_at_call 84;refine(s_sound c _).mono ?_;rintro e w' ⟨rfl,hb⟩)
 go_ret;exact⟨ret_bool rfl,below_tr (below_alloc _ _) hb⟩
theorem c_indexFunc (A:Option Addr) (l:List Course) (c:Nat) (p:Course->Bool) (f:FuncId) (cap:Array Value) (w:World) (hl:l.length<=100000) (hR:Rd Course.cs 6 w A l)
  (he:∀args W,(callFunc f args).run Tryz.prog W=.ok (.enter f args) W)
  (hf:∀W x,Below w.heap.size w W->x∈l->Calls Tryz.prog f (#[.agg #[.int .i64 x.h,.int .i64 x.o,.int .i64 x.i,.int .i64 x.wt,.int .i64 x.e,.int .i64 x.n]]++cap) W fun e W'=>e=.returned (.bool (p x))∧Below W.heap.size W W'):
  Calls Tryz.prog 137 #[.slice A l.length c,.func (.func f) #[] cap] w fun e w'=>e=.returned (.int .i64 (idxOf p l 0))∧Below w.heap.size w w':=by
 have HF:=Lib.hid hf;clear hf;go_enter Tryz.func137,Tryz.ntmps137
 go_wp2;go_loopw [8] (fun i wr=>∃k:Nat,k<=l.length∧i=.int .i64 k∧Below w.heap.size w wr∧Hid (idxOf p l 0=idxOf p (l.drop k) k)) (fun i _=>l.length-(intOf i).toNat)
 case atStart=>exact⟨0,by omega,rfl,Below.refl _ _,rfl⟩
 case round=>
  obtain⟨k,hk,rfl,hB,HI⟩:=hrel;by_cases hlt:k<l.length
  ·obtain⟨x,b,off,hx,rfl,hb,c0,c1,c2,c3,c4,c5⟩:=rdC (hR.on hB) hlt;have HD:=Lib.hid (idxOf_drop p l k x hx);have hm:=List.mem_of_getElem? hx;have HC:=Lib.hid (HF.out wr x hB hm);clear hx hm;cases hp:p x
   all_goals
    have HP:=Lib.hid hp;clear hp;go_wp2_with fail
    refine HC.out.mono ?_;rintro e w1 ⟨rfl,hb1⟩;rw[HP.out];go_wp2
   ·go_roundw
    case rel=>exact⟨k+1,by omega,by go_num,hB.trans (hb1.mono hB.size),by rw[HI.out,HD.out,HP.out];rfl⟩
    case measure=>simp[intOf];omega
   ·go_ret;exact⟨ret_int (by rw[HI.out,HD.out,HP.out];rfl),hB.trans (hb1.mono hB.size)⟩
  ·go_wp2;go_ret;exact⟨ret_int (by rw[HI.out,List.drop_of_length_le (by omega)];rfl),hB⟩
theorem c_containsFunc (A:Option Addr) (l:List Course) (c:Nat) (p:Course->Bool) (f:FuncId) (cap:Array Value) (w:World) (hl:l.length<=100000) (hR:Rd Course.cs 6 w A l)
  (he:∀args W,(callFunc f args).run Tryz.prog W=.ok (.enter f args) W)
  (hf:∀W x,Below w.heap.size w W->x∈l->Calls Tryz.prog f (#[.agg #[.int .i64 x.h,.int .i64 x.o,.int .i64 x.i,.int .i64 x.wt,.int .i64 x.e,.int .i64 x.n]]++cap) W fun e W'=>e=.returned (.bool (p x))∧Below W.heap.size W W'):
  Calls Tryz.prog 82 #[.slice A l.length c,.func (.func f) #[] cap] w fun e w'=>e=.returned (.bool (l.any p))∧Below w.heap.size w w':=by
 have HC:=Lib.hid (c_indexFunc A l c p f cap w hl hR he hf);have HA:=Lib.hid (idxOf_nonneg p l 0);clear he hf hR;go_enter Tryz.func82,Tryz.ntmps82
 go_wp2_with (go_at_call 137;refine HC.out.mono ?_;rintro e w' ⟨rfl,hb⟩)
 go_ret;exact⟨ret_bool (by rw[Bool.eq_iff_iff,←HA.out];simp),hb⟩
def validC (l:List Course):Bool:=wn l.length 1 60&&l.all soundB
theorem any_not_sound (l:List Course):(l.any fun c=>!soundB c)=!l.all soundB:=by induction l<;>simp_all
theorem s_valid (A:Option Addr) (l:List Course) (c:Nat) (w:World) (hl:l.length<=100000) (hR:Rd Course.cs 6 w A l):
  Calls Tryz.prog 25 #[.slice A l.length c] w fun e w'=>e=.returned (.bool (validC l))∧Below w.heap.size w w':=by
 have HC:=Lib.hid (c_containsFunc A l c (fun c=>!soundB c) 83 #[] w hl hR (enters_of Tryz.func83 (by kernel_rfl) rfl) (fun W x _ _=>s_unsound x W));rw[any_not_sound] at HC;go_enter Tryz.func25,Tryz.ntmps25
 go_wp2_with (first
  |(go_at_call 81;refine(s_within _ _ _ _).mono ?_;rintro e w' ⟨rfl,rfl⟩)
  |(go_at_call 82;refine HC.out.mono ?_;rintro e w' ⟨rfl,hb⟩))
 all_goals go_ret
 ·exact⟨ret_bool (by simp[validC, *]),hb⟩
 ·exact⟨ret_bool (by simp[validC, *]),below_refl _⟩
theorem all_take_succ {α:Type} {p:α->Bool} {l:List α} {k:Nat} {x:α} (hx:l[k]?=some x) (h:(l.take k).all p=true):(l.take (k+1)).all p=p x:=by
 rw[List.take_add_one,hx];simp[h]
theorem all_take_false {α:Type} {p:α->Bool} {l:List α} {k:Nat} {x:α} (hx:l[k]?=some x) (h:p x=false):l.all p=false:=by
 rw[List.all_eq_false];exact⟨x,List.mem_of_getElem? hx,by simp[h]⟩
theorem r_valid (A:Option Addr) (l:List Course) (c:Nat) (w:World) (hl:l.length<=100000) (hR:Rd Course.cs 6 w A l):
  Calls Tryz.prog 32 #[.slice A l.length c] w fun e w'=>e=.returned (.bool (validC l))∧Below w.heap.size w w':=by
 go_enter Tryz.func32,Tryz.ntmps32
 go_wp2;go_loopw [3] (fun i wr=>∃k:Nat,k<=l.length∧i=.int .i64 k∧Below w.heap.size w wr∧Hid ((l.take k).all soundB=true)) (fun i _=>l.length-(intOf i).toNat)
 case atStart=>exact⟨0,by omega,rfl,Below.refl _ _,by show _=_;simp⟩
 case round=>
  obtain⟨k,hk,rfl,hB,HI⟩:=hrel;by_cases hlt:k<l.length
  ·obtain⟨x,b,off,hx,rfl,hb,c0,c1,c2,c3,c4,c5⟩:=rdC (hR.on hB) hlt;cases hp:soundB x
   all_goals
    have HX:=Lib.hid hx;have HP:=Lib.hid hp;clear hp hx;go_wp2_with (go_at_call 94;refine(r_sound x _).mono ?_;rintro e w' ⟨rfl,hb1⟩;rw[HP.out])
   ·go_ret;exact⟨ret_bool (by simp[validC,all_take_false HX.out HP.out]),hB.trans (hb1.mono hB.size)⟩
   ·go_roundw
    case rel=>exact⟨k+1,by omega,by go_num,hB.trans (hb1.mono hB.size),by show _=_;rw[all_take_succ HX.out HI.out,HP.out]⟩
    case measure=>simp[intOf];omega
  ·have ha:l.all soundB=true:=by have:=HI.out;rwa [List.take_of_length_le (by omega)] at this
   have HA:=Lib.hid ha;clear ha HI;go_wp2_with (go_at_call 95;refine(r_within _ _ _ _).mono ?_;rintro e w' ⟨rfl,rfl⟩)
   go_ret;exact⟨ret_bool (by simp[validC,HA.out]),hB⟩
def askedE (l:List Course) (bed:Int):Int:=if validC l then (if wn bed 0 ((l.length:Int)-1) then 0 else 7) else 1
def windyE (l:List Course) (bed p side:Int):Int:=if validC l then (if wn bed 0 ((l.length:Int)-1)&&(wn p 0 10000&&wn side 0 3) then 0 else 7) else 1
theorem s_asked (A:Option Addr) (l:List Course) (c:Nat) (bed:Int) (w:World) (hl:l.length<=100000) (hR:Rd Course.cs 6 w A l):
  Calls Tryz.prog 333 #[.slice A l.length c,.int .i64 bed] w fun e w'=>e=.returned (.int .i64 (askedE l bed))∧Below w.heap.size w w':=by
 go_enter Tryz.func333,Tryz.ntmps333
 go_wp2_with (first
  |(go_at_call 81;refine(s_within _ _ _ _).mono ?_;rintro e w' ⟨rfl,rfl⟩)
  |(go_at_call 25;refine(s_valid A l c _ hl hR).mono ?_;rintro e w' ⟨rfl,hb⟩))
 all_goals go_ret
 all_goals exact⟨ret_int (by simp_all [askedE]),hb⟩
theorem s_windy (A:Option Addr) (l:List Course) (c:Nat) (bed p side:Int) (w:World) (hl:l.length<=100000) (hR:Rd Course.cs 6 w A l):
  Calls Tryz.prog 331 #[.slice A l.length c,.int .i64 bed,.int .i64 p,.int .i64 side] w fun e w'=>e=.returned (.int .i64 (windyE l bed p side))∧Below w.heap.size w w':=by
 go_enter Tryz.func331,Tryz.ntmps331
 go_wp2_with (first
  |(go_at_call 81;refine(s_within _ _ _ _).mono ?_;rintro e w' ⟨rfl,rfl⟩)
  |(go_at_call 333;refine(s_asked A l c bed _ hl hR).mono ?_;rintro e w' ⟨rfl,hb⟩))
 all_goals go_ret
 all_goals exact⟨ret_int (by simp only[windyE,askedE] at *;cases hv:validC l<;>cases hw:wn bed 0 ((l.length:Int)-1)<;>simp_all),hb⟩
def hs:List Course->Int
 |[]=>0
 |c::l=>hs l+c.h
def wts:List Course->Int
 |[]=>0
 |c::l=>wts l+c.wt
def es:List Course->Int
 |[]=>0
 |c::l=>es l+c.wt*c.e
def ns:List Course->Int
 |[]=>0
 |c::l=>ns l+c.wt*c.n
def face:List Course->Int
 |[]=>0
 |c::l=>face l+c.o*c.h
def push:List Course->Int
 |[]=>0
 |c::l=>push l+(2*face l*c.h+c.o*c.h*c.h)
structure CB (x:Course):Prop where
 h1:1<=x.h
 h2:x.h<=2000
 i1:0<=x.i
 o1:x.i<x.o
 o2:x.o<=5000
 w1:1<=x.wt
 w2:x.wt<=1000000
 e1:-5000<=x.e
 e2:x.e<=5000
 n1:-5000<=x.n
 n2:x.n<=5000
theorem cb_of {x:Course} (h:soundB x=true):CB x:=by
 simp only[soundB,wn,Bool.and_eq_true,decide_eq_true_eq] at h;obtain⟨⟨a,b⟩,c,d,e,⟨f,g⟩,⟨i,j⟩,k,m⟩:=h;exact⟨a,b,c,d,e,f,g,i,j,k,m⟩
theorem mul_bd {a b A B:Int} (h1:-A<=a) (h2:a<=A) (h3:-B<=b) (h4:b<=B):-(A*B)<=a*b∧a*b<=A*B:=by
 have hA:0<=A:=by omega
 have hB:0<=B:=by omega
 have ha:a.natAbs<=A.natAbs:=by omega
 have hb:b.natAbs<=B.natAbs:=by omega
 have hm:=Nat.mul_le_mul ha hb;rw[←Int.natAbs_mul,←Int.natAbs_mul] at hm;have h0:0<=A*B:=Int.mul_nonneg hA hB;omega
theorem mul_bd0 {a b A B:Int} (h1:0<=a) (h2:a<=A) (h3:0<=b) (h4:b<=B):0<=a*b∧a*b<=A*B:=
 ⟨Int.mul_nonneg h1 h3,Int.mul_le_mul h2 h4 h3 (by omega)⟩
structure SB (l:List Course):Prop where
 hs0:0<=hs l
 hs1:hs l<=2000*l.length
 w0:(l.length:Int)<=wts l
 w1:wts l<=1000000*l.length
 e0:-(5000000000*l.length)<=es l
 e1:es l<=5000000000*l.length
 n0:-(5000000000*l.length)<=ns l
 n1:ns l<=5000000000*l.length
 f0:0<=face l
 f1:face l<=10000000*l.length
 p0:0<=push l
 p1:push l<=20000000000*(l.length*l.length)
theorem sb_of:∀{l:List Course},l.all soundB=true->SB l
 |[],_=>⟨by simp[hs],by simp[hs],by simp[wts],by simp[wts],by simp[es],by simp[es],by simp[ns],by simp[ns],by simp[face],by simp[face],by simp[push],by simp[push]⟩
 |x::l,h=>by
  simp only[List.all_cons,Bool.and_eq_true] at h;have c:=cb_of h.1;have s:=sb_of h.2;obtain⟨c1,c2,c3,c4,c5,c6,c7,c8,c9,c10,c11⟩:=c;obtain⟨s1,s2,s3,s4,s5,s6,s7,s8,s9,s10,s11,s12⟩:=s;have m1:=mul_bd (a:=x.wt) (b:=x.e) (A:=1000000) (B:=5000) (by omega) c7 c8 c9;have m2:=mul_bd (a:=x.wt) (b:=x.n) (A:=1000000) (B:=5000) (by omega) c7 c10 c11;have m3:=mul_bd0 (a:=x.o) (b:=x.h) (A:=5000) (B:=2000) (by omega) c5 (by omega) c2;have m4:=mul_bd0 (a:=x.o*x.h) (b:=x.h) (A:=5000*2000) (B:=2000) m3.1 m3.2 (by omega) c2;have m5:=mul_bd0 (a:=2*face l) (b:=x.h) (A:=2*(10000000*l.length)) (B:=2000) (by omega) (by omega) (by omega) c2;have e1:((l.length:Int)+1)*((l.length:Int)+1)=(l.length:Int)*l.length+2*l.length+1:=by
   rw[Int.add_mul,Int.mul_add];omega
  have e2:2*(10000000*(l.length:Int))*2000=40000000000*l.length:=by omega
  refine⟨?_,?_,?_,?_,?_,?_,?_,?_,?_,?_,?_,?_⟩<;>simp only[hs,wts,es,ns,face,push,List.length_cons,Int.natCast_add,Int.natCast_one];all_goals first|omega|(rw[e1];omega)
theorem hs_drop {l:List Course} {k:Nat} {x:Course} (h:l[k]?=some x):l.drop k=x::l.drop (k+1):=by
 have hk:k<l.length:=by
  rcases Nat.lt_or_ge k l.length with h1|h1
  ·exact h1
  ·rw[List.getElem?_eq_none h1] at h;cases h
 rw[List.drop_eq_getElem_cons hk];rw[List.getElem?_eq_getElem hk] at h;cases h;rfl
theorem all_drop {l:List Course} (h:l.all soundB=true) (k:Nat):(l.drop k).all soundB=true:=by
 rw[List.all_eq_true] at *;exact fun x hx=>h x (List.mem_of_mem_drop hx)
theorem valid_all {l:List Course} (h:validC l=true):l.all soundB=true∧1<=l.length∧l.length<=60:=by
 simp only[validC,wn,Bool.and_eq_true,decide_eq_true_eq] at h;exact⟨h.2,by omega,by omega⟩
def Fits (n:Int):Prop:=-9000000000000000000<=n∧n<=9000000000000000000
theorem fits_wrap {n:Int} (h:Fits n):IntKind.i64.wrap n=n:=by
 obtain⟨h1,h2⟩:=h;exact IntWalk.i64_in _ (by omega)
theorem wn_iff {n a b:Int}:wn n a b=true↔a<=n∧n<=b:=by simp[wn]
theorem windy_zero {l:List Course} {bed p side:Int} (h:windyE l bed p side=0):∃n:Nat,bed=n∧n<l.length∧validC l=true∧0<=p∧p<=10000∧0<=side∧side<=3:=by
 unfold windyE at h;split at h
 ·split at h
  ·rename_i hv hb
   simp only[Bool.and_eq_true,wn_iff] at hb;exact⟨bed.toNat,by omega,by omega,hv,by omega,by omega,by omega,by omega⟩
  ·omega
 ·omega
def heightR (l:List Course):Int×Int:=if validC l then (hs l,0) else (0,1)
end Go.Proofs.YtjkkfcghkeoedaaGreatDoor.S
namespace Go.Proofs.YtjkkfcghkeoedaaGreatDoor.S
open Go.RowKit Go.Shelf
attribute [local go_sem] Oper.semAt_some
def abv (s:List Course):Value:=.agg #[.int .i64 (wts s),.int .i64 (es s),.int .i64 (ns s),.int .i64 (hs s),.int .i64 (push s)]
def bedE (l:List Course) (i:Nat):Array Value:=#[.int .i64 i,.agg #[.int .i64 (wts (l.drop i)),.int .i64 (es (l.drop i)),.int .i64 (ns (l.drop i)),.int .i64 (hs (l.drop i)),.int .i64 (push (l.drop i))]]
theorem enters91:∀args w,(callFunc 214 args).run Tryz.prog w=.ok (.enter 214 args) w:=enters_of Tryz.func214 (by kernel_rfl) rfl
theorem beds_seq (n:Nat) (h1:1<=n) (bb:Nat) (A:Option Addr) (l:List Course) (c:Nat) (R:Nat->Prop) (w0:World) (hv:validC l=true) (hb:w0.cell? ⟨bb,0,none⟩=some (.slice A l.length c))
  (hR:Rd Course.cs 6 w0 A l) (hRb:R bb) (hRA:∀ad,A=some ad->R ad.block):
  SeqIs n Tryz.prog 214 #[.pointer (some ⟨bb,0,none⟩)] (bedE l) (List.range l.length).reverse R w0:=by
 intro L J Jx W hW hJ hJx hY h0;have hbW:=hW.cell hb (fun k=>k hRb);have hRW:=hR.stp hW (fun ad e k=>k (hRA ad e));have hbl:=World.block_lt_of_cell? W _ hbW;obtain⟨hall,hl1,hl2⟩:=valid_all hv;have HA:=Lib.hid hall;clear hv hall hb hR hW;have HJ:=Lib.hid hJ;have HY:=Lib.hid hY;clear hJ hJx hY;refine callsIn_of_wp Tryz.func214 rfl trivial ?_;simp only[Tryz.ntmps214,List.size_toArray,List.length_cons,List.length_nil,Nat.reduceAdd,Nat.reduceSub,Array.replicate_succ,Array.replicate_zero,List.push_toArray,List.append_toArray,List.nil_append,List.cons_append];gi_wp2
 gi_loopw [4,5] (fun f i wr=>∃(m:Nat) (pre:List Nat) (M:Nat->Prop),m<=l.length∧Hid ((List.range l.length).reverse=pre++(List.range m).reverse)∧f=.int .i64 (face (l.drop m))∧i=.int .i64 ((m:Int)-1)∧J pre M wr ∧
   Blk wr W.heap.size 227 #[.int .i64 (wts (l.drop m)),.int .i64 (es (l.drop m)),.int .i64 (ns (l.drop m)),.int .i64 (hs (l.drop m)),.int .i64 (push (l.drop m))] ∧
   M W.heap.size∧(∀b,M b->W.heap.size<=b∧b<wr.heap.size)∧wr.cell? ⟨bb,0,none⟩=some (.slice A l.length c)∧Rd Course.cs 6 wr A l)
  (fun _ i _=>(intOf i+1).toNat)
 case atStart=>
  refine⟨l.length,[],fun b=>b=W.heap.size,Nat.le_refl _,rfl,by simp[face],by simp,?_,?_,rfl,fun b h=>⟨by omega,by simp;omega⟩,?_,?_⟩
  ·exact HJ.out [] _ _ W _ h0 (fun b h=>by omega) (fun _ h=>h.elim) (fun b h=>.inr (by omega)) (fun b h=>by simp;omega) ((Stp.refl _ _).alloc _)
  ·simpa[wts,es,ns,hs,push] using Blk.new W 227 #[.int .i64 0,.int .i64 0,.int .i64 0,.int .i64 0,.int .i64 0]
  ·rw[World.cell?_alloc_lt _ _ _ hbl];exact hbW
  ·exact hRW.on (below_alloc _ _)
 case round=>
  obtain⟨m,pre,M,hm,HX,rfl,rfl,hj,ha,hMa,hMW,hcl,hrd⟩:=hrel;cases m with
  |zero=>
   gi_wp2
   go_end0
   refine⟨⟨_,rfl⟩,.inl ⟨M,?_⟩⟩;have:=HX.out;simp only[List.range_zero,List.reverse_nil,List.append_nil] at this;rw[this];exact hj
  |succ m=>
   rw[show(((m+1:Nat):Int)-1)=(m:Int) from by omega];obtain⟨x,ab,off,hx,rfl,hab,c0,c1,c2,c3,c4,c5⟩:=rdC hrd (show m<l.length by omega);have hcb:CB x:=cb_of (List.all_eq_true.1 HA.out x (List.mem_of_getElem? hx));have hd1:=sb_of (all_drop HA.out (m+1));have hd2:=sb_of (all_drop HA.out m);rw[hs_drop hx] at hd2;have hll:(l.drop (m+1)).length<=59:=by simp;omega
   obtain⟨s1,s2,s3,s4,s5,s6,s7,s8,s9,s10,s11,s12⟩:=hd1;obtain⟨t1,t2,t3,t4,t5,t6,t7,t8,t9,t10,t11,t12⟩:=hd2;have hq:=mul_bd0 (a:=((l.drop (m+1)).length:Int)) (b:=(l.drop (m+1)).length) (A:=59) (B:=59) (by omega) (by omega) (by omega) (by omega);have hq2:=mul_bd0 (a:=((x::l.drop (m+1)).length:Int)) (b:=(x::l.drop (m+1)).length) (A:=60) (B:=60) (by omega) (by simp only[List.length_cons];omega) (by omega) (by simp only[List.length_cons];omega);simp only[hs,wts,es,ns,face,push] at t1 t2 t3 t4 t5 t6 t7 t8 t9 t10 t11 t12;obtain⟨d1,d2,d3,d4,d5,d6,d7,d8,d9,d10,d11⟩:=hcb;have m1:=mul_bd (a:=x.wt) (b:=x.e) (A:=1000000) (B:=5000) (by omega) d7 d8 d9;have m2:=mul_bd (a:=x.wt) (b:=x.n) (A:=1000000) (B:=5000) (by omega) d7 d10 d11;have m3:=mul_bd0 (a:=x.o) (b:=x.h) (A:=5000) (B:=2000) (by omega) d5 (by omega) d2;have m4:=mul_bd0 (a:=x.o*x.h) (b:=x.h) (A:=5000*2000) (B:=2000) m3.1 m3.2 (by omega) d2;have m5:=mul_bd0 (a:=2*face (l.drop (m+1))) (b:=x.h) (A:=2*590000000) (B:=2000) (by omega) (by omega) (by omega) d2;obtain⟨m11,m12⟩:=m1;obtain⟨m21,m22⟩:=m2;obtain⟨m31,m32⟩:=m3;obtain⟨m41,m42⟩:=m4;obtain⟨m51,m52⟩:=m5;obtain⟨q11,q12⟩:=hq;obtain⟨q21,q22⟩:=hq2;have habW:ab<W.heap.size:=by
    obtain⟨b',off',e,hlt,_⟩:=hRW (by rintro rfl;simp at hl1);cases e;exact hlt
   have hbE:bedE l m=#[.int .i64 m,.agg #[.int .i64 (wts (l.drop (m+1))+x.wt),.int .i64 (es (l.drop (m+1))+x.wt*x.e),.int .i64 (ns (l.drop (m+1))+x.wt*x.n),.int .i64 (hs (l.drop (m+1))+x.h),.int .i64 (push (l.drop (m+1))+(2*face (l.drop (m+1))*x.h+x.o*x.h*x.h))]]:=by
    unfold bedE;rw[hs_drop hx];rfl
   have hface:face (l.drop m)=face (l.drop (m+1))+x.o*x.h:=by rw[hs_drop hx];rfl
   have HXX:=Lib.hid hx;clear hx;generalize hS:l.drop (m+1)=S at *;have HS:=Lib.hid hS;have HF:=Lib.hid hface;clear hS hface;have e0:=ha.cell 0;have e1:=ha.cell 1;have e2:=ha.cell 2;have e3:=ha.cell 3;have e4:=ha.cell 4;have f0:=ha.frozen 0;have f1:=ha.frozen 1;have f2:=ha.frozen 2;have f3:=ha.frozen 3;have f4:=ha.frozen 4;simp only[GA] at e0 e1 e2 e3 e4;have hsz:=ha.lt;have hxs:(List.range l.length).reverse=pre++m::(List.range m).reverse:=by rw[HX.out,List.range_succ];simp
   have hst:Stp M wr ((((((wr.setCell ⟨W.heap.size,4,none⟩ (.int .i64 (push S+(2*face S*x.h+x.o*x.h*x.h)))).setCell ⟨W.heap.size,0,none⟩ (.int .i64 (wts S+x.wt))).setCell ⟨W.heap.size,1,none⟩ (.int .i64 (es S+x.wt*x.e))).setCell
    ⟨W.heap.size,2,none⟩ (.int .i64 (ns S+x.wt*x.n))).setCell ⟨W.heap.size,3,none⟩ (.int .i64 (hs S+x.h))).alloc (.cells #[.int .i64 x.h,.int .i64 x.o,.int .i64 x.i,.int .i64 x.wt,.int .i64 x.e,.int .i64 x.n] 115)):=
    ((((((Stp.refl M wr).setCell (.inl hMa) _).setCell (.inl hMa) _).setCell (.inl hMa) _).setCell (.inl hMa) _).setCell (.inl hMa) _).alloc _
   have hbk:Blk ((((((wr.setCell ⟨W.heap.size,4,none⟩ (.int .i64 (push S+(2*face S*x.h+x.o*x.h*x.h)))).setCell ⟨W.heap.size,0,none⟩ (.int .i64 (wts S+x.wt))).setCell ⟨W.heap.size,1,none⟩ (.int .i64 (es S+x.wt*x.e))).setCell
    ⟨W.heap.size,2,none⟩ (.int .i64 (ns S+x.wt*x.n))).setCell ⟨W.heap.size,3,none⟩ (.int .i64 (hs S+x.h))).alloc (.cells #[.int .i64 x.h,.int .i64 x.o,.int .i64 x.i,.int .i64 x.wt,.int .i64 x.e,.int .i64 x.n] 115)) W.heap.size 227
    #[.int .i64 (wts S+x.wt),.int .i64 (es S+x.wt*x.e),.int .i64 (ns S+x.wt*x.n),.int .i64 (hs S+x.h),.int .i64 (push S+(2*face S*x.h+x.o*x.h*x.h))]:=(((((ha.set_ 4 _).set_ 0 _).set_ 1 _).set_ 2 _).set_ 3 _).alloc _
   have HMW2:∀b,(M b∨b=wr.heap.size)->b<((((((wr.setCell ⟨W.heap.size,4,none⟩ (.int .i64 (push S+(2*face S*x.h+x.o*x.h*x.h)))).setCell ⟨W.heap.size,0,none⟩ (.int .i64 (wts S+x.wt))).setCell ⟨W.heap.size,1,none⟩ (.int .i64 (es S+x.wt*x.e))).setCell
    ⟨W.heap.size,2,none⟩ (.int .i64 (ns S+x.wt*x.n))).setCell ⟨W.heap.size,3,none⟩ (.int .i64 (hs S+x.h))).alloc (.cells #[.int .i64 x.h,.int .i64 x.o,.int .i64 x.i,.int .i64 x.wt,.int .i64 x.e,.int .i64 x.n] 115)).heap.size:=fun b h=>by
    have hs5:((((((wr.setCell ⟨W.heap.size,4,none⟩ (.int .i64 (push S+(2*face S*x.h+x.o*x.h*x.h)))).setCell ⟨W.heap.size,0,none⟩ (.int .i64 (wts S+x.wt))).setCell ⟨W.heap.size,1,none⟩ (.int .i64 (es S+x.wt*x.e))).setCell
    ⟨W.heap.size,2,none⟩ (.int .i64 (ns S+x.wt*x.n))).setCell ⟨W.heap.size,3,none⟩ (.int .i64 (hs S+x.h))).alloc (.cells #[.int .i64 x.h,.int .i64 x.o,.int .i64 x.i,.int .i64 x.wt,.int .i64 x.e,.int .i64 x.n] 115)).heap.size=wr.heap.size+1:=by simp[World.setCell]
    rw[hs5];rcases h with h|h
    ·have:=(hMW b h).2;omega
    ·omega
   have hj2:=HJ.out pre M (fun b=>M b∨b=wr.heap.size) wr _ hj (fun b h=>by rcases h with h|h;exact(hMW b h).1;omega) (fun b h=>.inl h) (fun b h=>by rcases h with h|h;exact .inl h;exact .inr (by omega)) HMW2 hst;have HMW:Hid (∀b,(M b∨b=wr.heap.size)->W.heap.size<=b∧b<wr.heap.size+1):=fun b h=>by
    rcases h with h|h
    ·have:=hMW b h;omega
    ·omega
   have hY2:=HY.out pre m _ _ _ hxs hj2;rw[hbE] at hY2;have hcl2:=hst.cell hcl (fun k=>by have:=(hMW _ k).1;omega);have hrd2:=hrd.stp hst (fun ad e k=>by cases e;have:W.heap.size<=ab:=(hMW _ k).1;omega);obtain⟨fn,tmps,assign,body,hy,hRd⟩:=hY2;have HRD:=Lib.hid hRd;have HST:=Lib.hid hst;have HBK:=Lib.hid hbk;have HJ2:=Lib.hid hj2;have HXS:=Lib.hid hxs;have HCL:=Lib.hid hcl2;clear hRd hst hbk hj2 hj hxs hbE hcl2;gi_wp2
   refine HRD.out.mono ?_;rintro e W3 (⟨rfl,hj3,hk3⟩|⟨rfl,hjx⟩)
   ·have hcl3:=hk3.cell HCL.out (fun k=>k (.inr hRb));have hbk3:=hk3.blk HBK.out (fun k=>k (.inl (.inl hMa)));have hrd3:=hrd2.stp hk3 (fun ad e k=>k (.inr (hRA ad e)));have H3:=Lib.hid hcl3;have HZ3:Hid (wr.heap.size+1<=W3.heap.size):=by have:=hk3.size;simp[World.setCell] at this;exact this
    clear hk3 hcl3;gi_wp2
    go_roundw
    case rel=>
     refine⟨m,pre++[m],_,by omega,?_,?_,rfl,hj3,?_,.inl hMa,fun b h=>⟨(HMW.out b h).1,by have:=(HMW.out b h).2;have:=HZ3.out;omega⟩,H3.out,hrd3⟩
     ·show _=_;rw[HXS.out];simp
     ·rw[HF.out]
     ·rw[hs_drop HXX.out,HS.out];simpa[wts,es,ns,hs,push] using hbk3
    case measure=>simp[intOf]
   ·gi_wp2
    refine bodyPost_ret (results_none rfl _ _ _) rfl ?_;exact⟨⟨_,rfl⟩,.inr ⟨pre++[m],(List.range m).reverse,_,by rw[HXS.out];simp,hjx⟩⟩
theorem load_above {W:World} {b:Nat} {x0 x1 x2 x3 x4:Value} (h:Blk W b 227 #[x0,x1,x2,x3,x4]):(loadVar 227 ⟨b,0,none⟩).run Tryz.prog W=.ok (.agg #[x0,x1,x2,x3,x4]) W:=by
 have c0:=h.cell 0;have c1:=h.cell 1;have c2:=h.cell 2;have c3:=h.cell 3;have c4:=h.cell 4;simp only[GA] at c0 c1 c2 c3 c4;go_simp
attribute [local go_sem] Oper.semAt_some
theorem s_beds (A:Option Addr) (n c:Nat) (w:World):Calls Tryz.prog 182 #[.slice A n c] w fun e w'=>e=.returned (.func (.func 214) #[] #[.pointer (some ⟨w.heap.size,0,none⟩)])∧w.alloc (.cells #[.slice A n c] 64)=w':=by
 go_enter Tryz.func182,Tryz.ntmps182
 go_wp2;go_ret;exact⟨rfl,rfl⟩
theorem s_at (A:Option Addr) (l:List Course) (c:Nat) (bed:Nat) (w:World) (hv:validC l=true) (hbed:bed<l.length) (hR:Rd Course.cs 6 w A l):
  Calls Tryz.prog 150 #[.slice A l.length c,.int .i64 bed] w fun e w'=>
   e=.returned (.agg #[.int .i64 (wts (l.drop bed)),.int .i64 (es (l.drop bed)),.int .i64 (ns (l.drop bed)),.int .i64 (hs (l.drop bed)),.int .i64 (push (l.drop bed))])∧Below w.heap.size w w':=by
 have HV:=Lib.hid hv;obtain⟨_,hl1,hl2⟩:=valid_all hv;clear hv;refine(callsIn_wide (n:=5)).1 ?_;refine callsIn_of_wp_marks Tryz.func150 rfl trivial ?_ rfl;simp only[Tryz.ntmps150,List.size_toArray,List.length_cons,List.length_nil,Nat.reduceAdd,Nat.reduceSub,Array.replicate_succ,Array.replicate_zero,List.push_toArray,List.append_toArray,List.nil_append,List.cons_append];gi_wp2
 refine⟨trivial,?_⟩;refine(callsIn_wide.2 (s_beds A l.length c _)).mono ?_;rintro e w1 ⟨rfl,rfl⟩;gi_wp2
 generalize hW0:((w.alloc (.cells #[.int .i64 bed] 3)).alloc (.cells #[.int .i64 0,.int .i64 0,.int .i64 0,.int .i64 0,.int .i64 0] 227)).alloc (.cells #[.slice A l.length c] 64)=W0;have hS:W0.heap.size=w.heap.size+3:=by rw[←hW0];simp
 have b0:Blk W0 w.heap.size 3 #[.int .i64 bed]:=by rw[←hW0];exact((Blk.new _ _ _).alloc _).alloc _
 have b1:Blk W0 (w.heap.size+1) 227 #[.int .i64 0,.int .i64 0,.int .i64 0,.int .i64 0,.int .i64 0]:=by
  have h:=(Blk.new (w.alloc (.cells #[.int .i64 bed] 3)) 227 #[.int .i64 0,.int .i64 0,.int .i64 0,.int .i64 0,.int .i64 0]).alloc (.cells #[.slice A l.length c] 64);rw[←hW0];rwa [World.size_alloc] at h
 have b2:Blk W0 (w.heap.size+2) 64 #[.slice A l.length c]:=by
  have h:=Blk.new ((w.alloc (.cells #[.int .i64 bed] 3)).alloc (.cells #[.int .i64 0,.int .i64 0,.int .i64 0,.int .i64 0,.int .i64 0] 227)) 64 #[.slice A l.length c];rw[←hW0];rwa [World.size_alloc,World.size_alloc] at h
 have hB0:Below w.heap.size w W0:=by rw[←hW0];exact below_tr (below_tr (below_alloc _ _) (below_alloc _ _)) (below_alloc _ _)
 clear hW0
 refine wp_range (by omega) (gf:=214) (lb:=#[.pointer (some ⟨w.heap.size+1+1,0,none⟩)]) rfl enters91 (encs:=bedE l) (xs:=(List.range l.length).reverse) (R:=fun b=>b<w.heap.size∨b=w.heap.size+2)
  (beds_seq _ (by omega) (w.heap.size+2) A l c _ _ HV.out (b2.cell 0) (hR.on hB0) (.inr rfl) ?h3) (Stp.refl _ _) (fun _=>rfl) ?h4
  (fun pre _ W=>(∀x∈pre,x≠bed)∧(Below W0.heap.size W0 W∧W0.heap.size<=W.heap.size))
  (fun k _ _ W=>(k=Code.ret)∧(Below w.heap.size w W∧w.heap.size<=W.heap.size)∧Blk W (w.heap.size+1) 227 #[.int .i64 (wts (l.drop bed)),.int .i64 (es (l.drop bed)),.int .i64 (ns (l.drop bed)),.int .i64 (hs (l.drop bed)),.int .i64 (push (l.drop bed))])
  ?h5 ?h6 ?h7 ?round ?done ?stop
 case h3=>
  rintro ad rfl;obtain⟨b',off',e,hlt,_⟩:=hR (by rintro rfl;simp at hl1);cases e;exact .inl hlt
 case h4=>intro b hb;rcases hb with hb|hb<;>omega
 case h5=>exact(abide_pure _).and (abide_below (by omega))
 case h6=>exact fun k=>(abide_pure _).and ((abide_below (by omega)).and (abide_blk _ (by omega)))
 case h7=>exact⟨fun x hx=>by simp at hx,Below.refl _ _,Nat.le_refl _⟩
 case round=>
  rintro L pre x rest M W hxs ⟨hI,hI2,hI3⟩ hM hsz;simp only[bedE,setAll2,List.setIfInBounds_toArray,List.set_cons_zero,List.set_cons_succ];gi_wp2
  refine⟨(Stp.refl _ _).alloc _,fun W2 hsz2 hst2=>?_⟩;have hl1:w.heap.size<W0.heap.size:=by omega
  have hl2:w.heap.size+1<W0.heap.size:=by omega
  have d0:=(((b0.below hI2 hl1).alloc _).below (Stp.toBelow hst2 (B:=W0.heap.size) (by rw[World.size_alloc];omega) (fun b hb=>by omega)) hl1);have d1:=(((b1.below hI2 hl2).alloc _).below (Stp.toBelow hst2 (B:=W0.heap.size) (by rw[World.size_alloc];omega) (fun b hb=>by omega)) hl2);have d2:=hst2.blk (Blk.new W _ _) (by omega);have hB2:=(hI2.alloc (by omega) _).trans (Stp.toBelow hst2 (B:=W0.heap.size) (by rw[World.size_alloc];omega) (fun b hb=>by omega));rw[World.size_alloc] at hsz2;clear hst2;have e0:=d0.cell 0;have e1:=d1.cell 0;have e2:=d1.cell 1;have e3:=d1.cell 2;have e4:=d1.cell 3;have e5:=d1.cell 4;have f1:=d1.frozen 0;have f2:=d1.frozen 1;have f3:=d1.frozen 2;have f4:=d1.frozen 3;have f5:=d1.frozen 4;have g0:=d2.cell 0;have g1:=d2.cell 1;have g2:=d2.cell 2;have g3:=d2.cell 3;have g4:=d2.cell 4;simp only[GA] at e0 e1 e2 e3 e4 e5 g0 g1 g2 g3 g4;by_cases hx:x=bed
  ·subst hx;gi_wp2
   have hN:¬(M (w.heap.size+1)∨(w.heap.size+1<w.heap.size∨w.heap.size+1=w.heap.size+2)∨w.heap.size+1+2=W0.heap.size+2∨w.heap.size+1+1=W0.heap.size+2):=by
    rintro (h|h|h|h)
    ·have:=(hM _ h).1;omega
    all_goals omega
   refine⟨?_,rfl,⟨?_,?_⟩,?_⟩
   ·exact(((((Stp.refl _ _).setCell (.inl hN) _).setCell (.inl hN) _).setCell (.inl hN) _).setCell (.inl hN) _).setCell (.inl hN) _
   ·exact(((((hB0.trans (hB2.mono (by omega))).setCell (by simp) _).setCell (by simp) _).setCell (by simp) _).setCell (by simp) _).setCell (by simp) _
   ·simp[World.setCell];omega
   ·exact((((d1.set_ 0 _).set_ 1 _).set_ 2 _).set_ 3 _).set_ 4 _
  ·have hx2:((x:Int)==(bed:Int))=false:=by simp;omega
   gi_wp2
   refine⟨Stp.refl _ _,fun y hy=>?_,hB2,by omega⟩;rcases List.mem_append.1 hy with h|h
   ·exact hI y h
   ·simp at h;omega
 case done=>
  rintro M W ⟨hI,_⟩ _;exact absurd rfl (hI bed (by simp;omega))
 case stop=>
  rintro k pre rest M W _ ⟨rfl,⟨hB,hz⟩,hbl⟩ hK;gi_wp2
  refine⟨by simp,.inl ⟨_,_,rfl,run_takeDeferred hK,?_⟩⟩;exact⟨_,res_c rfl rfl (load_above (Stp.blk (Stp.putObj (Stp.refl (fun b=>b=W0.heap.size) W) (.inl rfl) (.deferred none)) hbl (by omega))),rfl,hB.trans ((Stp.putObj (Stp.refl (fun b=>b=W0.heap.size) W) (.inl rfl) (.deferred none)).toBelow hz (fun b hb=>by omega))⟩
end Go.Proofs.YtjkkfcghkeoedaaGreatDoor.S
namespace Go.Proofs.YtjkkfcghkeoedaaGreatDoor.S
open Go.RowKit
theorem run_above3 (a b c d e:Value) (W:World):(Instr.field 227 (.agg #[a,b,c,d,e]) 3).run Tryz.prog W=.ok d W:=by kernel_rfl
theorem s_height (A:Option Addr) (l:List Course) (c:Nat) (w:World) (hl:l.length<=100000) (hR:Rd Course.cs 6 w A l):
  Calls Tryz.prog 114 #[.slice A l.length c] w fun e w'=>e=.returned (.tuple #[.int .i64 (heightR l).1,.int .i64 (heightR l).2])∧Below w.heap.size w w':=by
 have HC:=Lib.hid (s_valid A l c w hl hR);cases hv:validC l
 ·have HV:=Lib.hid hv;rw[hv] at HC;clear hv;go_enter Tryz.func114,Tryz.ntmps114
  go_wp2_with (go_at_call 25;refine HC.out.mono ?_;rintro e w1 ⟨rfl,hb⟩)
  go_ret2;exact⟨by simp[heightR,HV.out],hb⟩
 ·have HV:=Lib.hid hv;rw[hv] at HC;obtain⟨_,hl1,hl2⟩:=valid_all hv;clear hv;have fld:=fun a b c d e W=>run_above3 a b c d e W;have HA:=Lib.hid (fun W (h:Below w.heap.size w W)=>s_at A l c 0 W HV.out (by omega) (hR.on h));go_enter Tryz.func114,Tryz.ntmps114
  go_wp2_with (first
   |(go_at_call 25;refine HC.out.mono ?_;rintro e w1 ⟨rfl,hb⟩)
   |(go_at_call 150;refine(HA.out _ hb).mono ?_;rintro e w2 ⟨rfl,hb2⟩))
  go_ret2;exact⟨by simp[heightR,HV.out],below_tr hb hb2⟩
def mvE (side:Int):Int:=if side=0 then -1 else if side=2 then 1 else 0
def mvN (side:Int):Int:=if side=1 then -1 else if side=3 then 1 else 0
def armE (x:Course) (s:List Course) (p side:Int):Int:=(es s-wts s*x.e)*9810000+mvE side*p*push s
def armN (x:Course) (s:List Course) (p side:Int):Int:=(ns s-wts s*x.n)*9810000+mvN side*p*push s
structure AB (x:Course) (s:List Course) (p:Int):Prop where
 we0:-300000000000<=wts s*x.e
 we1:wts s*x.e<=300000000000
 wn0:-300000000000<=wts s*x.n
 wn1:wts s*x.n<=300000000000
 e0:-300000000000<=es s
 e1:es s<=300000000000
 n0:-300000000000<=ns s
 n1:ns s<=300000000000
 pp0:0<=p*push s
 pp1:p*push s<=720000000000000000
 p0:0<=push s
 p1:push s<=72000000000000
 w0:0<=wts s
 w1:wts s<=60000000
theorem ab_of {x:Course} {s:List Course} {p:Int} (hx:CB x) (hs:s.all soundB=true) (hl:s.length<=60) (hp0:0<=p) (hp1:p<=10000):AB x s p:=by
 obtain⟨s1,s2,s3,s4,s5,s6,s7,s8,s9,s10,s11,s12⟩:=sb_of hs;obtain⟨d1,d2,d3,d4,d5,d6,d7,d8,d9,d10,d11⟩:=hx;have q:=mul_bd0 (a:=(s.length:Int)) (b:=s.length) (A:=60) (B:=60) (by omega) (by omega) (by omega) (by omega);have m1:=mul_bd (a:=wts s) (b:=x.e) (A:=60000000) (B:=5000) (by omega) (by omega) d8 d9;have m2:=mul_bd (a:=wts s) (b:=x.n) (A:=60000000) (B:=5000) (by omega) (by omega) d10 d11;have m3:=mul_bd0 (a:=p) (b:=push s) (A:=10000) (B:=72000000000000) hp0 hp1 (by omega) (by omega);exact⟨by omega,by omega,by omega,by omega,by omega,by omega,by omega,by omega,by omega,by omega,by omega,by omega,by omega,by omega⟩
abbrev moves:Value:=.agg #[.int .i64 (-1),.int .i64 0,.int .i64 0,.int .i64 (-1),.int .i64 1,.int .i64 0,.int .i64 0,.int .i64 1]
theorem run_move0 (W:World):(Instr.index 328 moves (.int .i64 0)).run Tryz.prog W=.ok (.agg #[.int .i64 (-1),.int .i64 0]) W:=by kernel_rfl
theorem run_move1 (W:World):(Instr.index 328 moves (.int .i64 1)).run Tryz.prog W=.ok (.agg #[.int .i64 0,.int .i64 (-1)]) W:=by kernel_rfl
theorem run_move2 (W:World):(Instr.index 328 moves (.int .i64 2)).run Tryz.prog W=.ok (.agg #[.int .i64 1,.int .i64 0]) W:=by kernel_rfl
theorem run_move3 (W:World):(Instr.index 328 moves (.int .i64 3)).run Tryz.prog W=.ok (.agg #[.int .i64 0,.int .i64 1]) W:=by kernel_rfl
theorem s_arms (x:Course) (s:List Course) (p side:Int) (w:World) (hp0:0<=p) (hp1:p<=10000) (hs0:0<=side) (hs1:side<=3) (hb:AB x s p):
  Calls Tryz.prog 216 #[.agg #[.int .i64 x.h,.int .i64 x.o,.int .i64 x.i,.int .i64 x.wt,.int .i64 x.e,.int .i64 x.n],
   .agg #[.int .i64 (wts s),.int .i64 (es s),.int .i64 (ns s),.int .i64 (hs s),.int .i64 (push s)],.int .i64 p,.int .i64 side] w fun e w'=>
   e=.returned (.tuple #[.int .i64 (armE x s p side),.int .i64 (armN x s p side)])∧Below w.heap.size w w':=by
 obtain⟨b1,b2,b3,b4,b5,b6,b7,b8,b9,b10,b11,b12,b13,b14⟩:=hb;have b15:-p*push s=-(p*push s):=Int.neg_mul _ _;have b16:-720000000000000000 <= -p*push s:=by omega
 have b17:-p*push s<=0:=by omega
 have B15:=Lib.hid b15;clear b15;have i0:=run_move0;have i1:=run_move1;have i2:=run_move2;have i3:=run_move3;rcases (by omega:side=0∨side=1∨side=2∨side=3) with rfl|rfl|rfl|rfl
 all_goals
  go_enter Tryz.func216,Tryz.ntmps216
  go_wp2;go_ret2;exact⟨ret_tup2 (int_eq (by simp[armE,mvE])) (int_eq (by simp[armN,mvN])),((below_alloc _ _).alloc (by simp) _).alloc (by simp;omega) _⟩
def bedC (l:List Course) (bed:Int):Course:=l[bed.toNat]?.getD ⟨0,0,0,0,0,0⟩
theorem arm_fits {x:Course} {s:List Course} {p side:Int} (hb:AB x s p) (h0:0<=side) (h3:side<=3):Fits (armE x s p side)∧Fits (armN x s p side)∧Fits (wts s*9810000):=by
 obtain⟨b1,b2,b3,b4,b5,b6,b7,b8,b9,b10,b11,b12,b13,b14⟩:=hb;have e0:-1*p*push s=-(p*push s):=by rw[Int.neg_mul,Int.neg_mul,Int.one_mul]
 have e1:1*p*push s=p*push s:=by rw[Int.one_mul]
 have e2:0*p*push s=0:=by simp
 unfold armE armN mvE mvN Fits;rcases (by omega:side=0∨side=1∨side=2∨side=3) with rfl|rfl|rfl|rfl
 all_goals simp only[Int.reduceEq,if_true,if_false,e0,e1,e2]
 all_goals exact⟨⟨by omega,by omega⟩,⟨by omega,by omega⟩,⟨by omega,by omega⟩⟩
theorem bed_at {l:List Course} {n:Nat} {x:Course} (h:l[n]?=some x):bedC l (n:Int)=x:=by simp[bedC,h]
def Q64:Nat:=18446744073709551616
def hi64 (v:Nat):Nat:=v/Q64
def lo64 (v:Nat):Nat:=v%Q64
theorem c_mul64 (x y:Nat) (hx:x<Q64) (hy:y<Q64) (w:World):
  Calls Tryz.prog 246 #[.int .u64 x,.int .u64 y] w fun e w'=>e=.returned (.tuple #[.int .u64 (hi64 (x*y):Nat),.int .u64 (lo64 (x*y):Nat)])∧w=w':=
 (Tryz.bits_Mul64 x y hx hy w).mono fun _ _ ⟨h1,h2⟩=>⟨h1,h2.symm⟩
theorem c_add64 (x y:Nat) (w:World):
  (callFunc 247 #[.int .u64 x,.int .u64 y,.int .u64 0]).run Tryz.prog w=.ok (.value (.tuple #[.int .u64 (lo64 (x+y):Nat),.int .u64 (hi64 (x+y):Nat)])) w:=by
 rw[run_callFunc_extern Tryz.func247 (by kernel_rfl) (by kernel_rfl) (by kernel_rfl) (e:=add64Entry) (by kernel_rfl),run_add64 x y 0 (by omega) (by omega) (by omega) (by omega)];simp only[Result.andThen,lo64,hi64,Q64];congr 5<;>omega
theorem wrap_u64 {n:Nat} (h:n<Q64):IntKind.u64.wrap (n:Int)=n:=by unfold Q64 at h;rw[IntKind.wrap_u64];omega
theorem hi_lt {v:Nat} (h:v<Q64*Q64):hi64 v<Q64:=by unfold hi64;unfold Q64 at *;omega
abbrev wideV (v:Nat):Value:=.agg #[.int .u64 (hi64 v:Nat),.int .u64 (lo64 v:Nat)]
theorem load_wide {W:World} {b:Nat} {x y:Value} (h:Blk W b 298 #[x,y]):(loadVar 298 ⟨b,0,none⟩).run Tryz.prog W=.ok (.agg #[x,y]) W:=by
 have c0:=h.cell 0;have c1:=h.cell 1;simp only[GA] at c0 c1;go_simp
theorem s_times (a b:Nat) (w:World) (ha:(a:Int)<9223372036854775808) (hb:(b:Int)<9223372036854775808):
  Calls Tryz.prog 217 #[.int .i64 a,.int .i64 b] w fun e w'=>e=.returned (wideV (a*b))∧Below w.heap.size w w':=by
 have ha':a<Q64:=by unfold Q64;omega
 have hb':b<Q64:=by unfold Q64;omega
 have e1:=wrap_u64 ha';have e2:=wrap_u64 hb';have HC:=Lib.hid (fun W=>c_mul64 a b ha' hb' W);clear ha hb ha' hb';go_enter Tryz.func217,Tryz.ntmps217
 go_wp2_with (go_at_call 246;refine(HC.out _).mono ?_;rintro e w1 ⟨rfl,rfl⟩)
 refine bodyPost_ret (res_c rfl rfl (load_wide (Blk.new w _ _))) rfl ⟨rfl,below_alloc _ _⟩
theorem hi_add (v u:Nat):hi64 (v+u)=hi64 v+hi64 u+hi64 (lo64 v+lo64 u):=by
 unfold hi64 lo64 Q64;omega
theorem lo_add (v u:Nat):lo64 (lo64 v+lo64 u)=lo64 (v+u):=by unfold lo64 Q64;omega
theorem s_plus (v u:Nat) (w:World) (h:v+u<Q64*Q64):
  Calls Tryz.prog 219 #[wideV v,wideV u] w fun e w'=>e=.returned (wideV (v+u))∧Below w.heap.size w w':=by
 have h1:=hi_add v u;have h2:=hi_lt h;have e1:IntKind.u64.wrap ((hi64 v:Nat)+(hi64 u:Nat):Int)=(hi64 v:Nat)+(hi64 u:Nat):=by
  have:=wrap_u64 (n:=hi64 v+hi64 u) (by omega);simpa using this
 have e2:IntKind.u64.wrap ((hi64 v:Nat)+(hi64 u:Nat)+(hi64 (lo64 v+lo64 u):Nat):Int)=(hi64 (v+u):Nat):=by
  have:=wrap_u64 h2;rw[h1] at this;rw[h1];simpa using this
 have e3:((lo64 (lo64 v+lo64 u):Nat):Int)=(lo64 (v+u):Nat):=by rw[lo_add]
 have HC:=fun W=>c_add64 (lo64 v) (lo64 u) W;clear h h1 h2;go_enter Tryz.func219,Tryz.ntmps219
 go_wp2;have h0:(w.heap.size+1+1)=((w.alloc (.cells #[.int .u64 (hi64 v:Nat),.int .u64 (lo64 v:Nat)] 298)).alloc (.cells #[.int .u64 (hi64 u:Nat),.int .u64 (lo64 u:Nat)] 298)).heap.size:=by simp
 refine bodyPost_ret (res_c rfl rfl (by rw[h0];exact load_wide (Blk.new _ _ _))) rfl ⟨rfl,((below_alloc _ _).alloc (by simp) _).alloc (by simp;omega) _⟩
theorem wide_cases (v u:Nat):(hi64 u<hi64 v∧u<v)∨(hi64 u=hi64 v∧lo64 u<lo64 v∧u<v)∨(hi64 u=hi64 v∧lo64 u=lo64 v∧¬u<v)∨(hi64 u=hi64 v∧lo64 v<lo64 u∧¬u<v)∨(hi64 v<hi64 u∧¬u<v):=by
 unfold hi64 lo64 Q64;omega
theorem s_above (v u:Nat) (w:World):
  Calls Tryz.prog 220 #[wideV v,wideV u] w fun e w'=>e=.returned (.bool (decide (u<v)))∧Below w.heap.size w w':=by
 rcases wide_cases v u with⟨h1,h2⟩|⟨h1,h2,h3⟩|⟨h1,h2,h3⟩|⟨h1,h2,h3⟩|⟨h1,h2⟩
 ·have H:=Lib.hid h2;have t1:(((hi64 v:Nat):Int)==(hi64 u:Nat))=false:=by simp;omega
  clear h2;go_enter Tryz.func220,Tryz.ntmps220
  go_wp2;go_ret;exact⟨ret_bool (by simp[H.out]),(below_alloc _ _).alloc (by simp) _⟩
 ·have H:=Lib.hid h3;have t1:(((lo64 v:Nat):Int)==(lo64 u:Nat))=false:=by simp;omega
  clear h3;unfold wideV;rw[h1];clear h1;go_enter Tryz.func220,Tryz.ntmps220
  go_wp2;go_ret;exact⟨ret_bool (by simp[H.out]),(below_alloc _ _).alloc (by simp) _⟩
 ·have H:=Lib.hid h3;clear h3;unfold wideV;rw[h1,h2];clear h1 h2;go_enter Tryz.func220,Tryz.ntmps220
  go_wp2;go_ret;exact⟨ret_bool (by simp;exact Nat.not_lt.1 H.out),(below_alloc _ _).alloc (by simp) _⟩
 ·have H:=Lib.hid h3;have t1:(((lo64 v:Nat):Int)==(lo64 u:Nat))=false:=by simp;omega
  clear h3;unfold wideV;rw[h1];clear h1;go_enter Tryz.func220,Tryz.ntmps220
  go_wp2;go_ret;exact⟨ret_bool (by simp;exact⟨fun h=>absurd h (by omega),fun h=>absurd h H.out⟩),(below_alloc _ _).alloc (by simp) _⟩
 ·have H:=Lib.hid h2;have t1:(((hi64 v:Nat):Int)==(hi64 u:Nat))=false:=by simp;omega
  clear h2;go_enter Tryz.func220,Tryz.ntmps220
  go_wp2;go_ret;exact⟨ret_bool (by simp;exact⟨fun h=>absurd h (by omega),fun h=>absurd h H.out⟩),(below_alloc _ _).alloc (by simp) _⟩
theorem s_size (n:Int) (w:World) (h:Fits n):
  Calls Tryz.prog 218 #[.int .i64 n] w fun e w'=>e=.returned (.int .i64 (n.natAbs:Nat))∧w=w':=by
 have e1:IntKind.i64.wrap (-n)=-n:=fits_wrap (by unfold Fits at *;omega);go_enter Tryz.func218,Tryz.ntmps218
 go_wp2
 all_goals
  go_ret;exact⟨ret_int (by omega),rfl⟩
end Go.Proofs.YtjkkfcghkeoedaaGreatDoor.S
