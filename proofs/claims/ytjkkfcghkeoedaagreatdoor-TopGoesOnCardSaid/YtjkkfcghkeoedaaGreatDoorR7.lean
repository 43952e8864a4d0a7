/- The parts of the proof, part 7. -/
import Derived.Test.YtjkkfcghkeoedaaGreatDoorR0
import Derived.Test.YtjkkfcghkeoedaaGreatDoorR1
import Derived.Test.YtjkkfcghkeoedaaGreatDoorProg
import Derived.Shelf.Abstract
import Derived.WalkLawsBesides
import Derived.Deep.QuietTactic
import Derived.BigQuiet
import Derived.Deep.RegionHeld3
import Derived.Maps.OwnOps
import Derived.Maps.OwnSet
import Derived.Laws.Strings
set_option maxHeartbeats 16000000
set_option maxRecDepth 20000
set_option linter.unusedSimpArgs false
set_option linter.unusedVariables false
namespace Go.Proofs.YtjkkfcghkeoedaaGreatDoor.G
open Go.RowKit
theorem bl_alloc {w W:World} (h:Below w.heap.size w W) (o:Obj):Below w.heap.size w (W.alloc o):=h.alloc h.size o
theorem sz_drew (w:World):w.drew.heap.size=w.heap.size:=rfl
theorem sz_drewN (w:World) (n:Nat):(w.drewN n).heap.size=w.heap.size:=rfl
theorem wp_world {P:Program} {id:Nat} {ops:Array Oper} {b:Bool} {Q:Exit->Act->World->Prop} {a:Act} {w:World} (h:∀W,W=w->(Code.region id ops b).wp P Q a W):(Code.region id ops b).wp P Q a w:=h w rfl
theorem kp_of {W w':World} (h:Below W.heap.size W w'):(∀b o,b<W.heap.size->w'.cell? ⟨b,o,none⟩=W.cell? ⟨b,o,none⟩)∧(∀b o,b<W.heap.size->w'.frozen? ⟨b,o,none⟩=W.frozen? ⟨b,o,none⟩)∧Below W.heap.size W w':=
 ⟨(bcell h).1,(bcell h).2,h⟩
theorem calls_bool {P:Program} {f:FuncId} {args:Array Value} {w:World} {R:World->Prop} {X v:Bool} (h:X=v) (c:Calls P f args w fun e w'=>e=.returned (.bool X)∧R w'):Calls P f args w fun e w'=>e=.returned (.bool v)∧R w':=h▸c
def wn (n lo hi:Int):Bool:=decide (lo<=n)&&decide (n<=hi)
theorem wn_iff {n a b:Int}:wn n a b=true↔a<=n∧n<=b:=by simp[wn]
theorem p_within (n lo hi:Int) (w:World):
  Calls Tryz.prog 89 #[.int .i64 n,.int .i64 lo,.int .i64 hi] w fun e w'=>e=.returned (.bool (wn n lo hi))∧w=w':=by
 by_cases h1:lo<=n
 ·have t1:decide (lo<=n)=true:=by simpa using h1
  go_enter Tryz.func89,Tryz.ntmps89
  go_wp2;go_ret;exact⟨ret_bool (by simp[wn,h1]),rfl⟩
 ·have t1:decide (lo<=n)=false:=by simpa using h1
  go_enter Tryz.func89,Tryz.ntmps89
  go_wp2;go_ret;exact⟨ret_bool (by unfold wn;rw[t1];rfl),rfl⟩
theorem r_within (n lo hi:Int) (w:World):
  Calls Tryz.prog 98 #[.int .i64 n,.int .i64 lo,.int .i64 hi] w fun e w'=>e=.returned (.bool (wn n lo hi))∧w=w':=by
 by_cases h1:lo<=n
 ·have t1:decide (lo<=n)=true:=by simpa using h1
  go_enter Tryz.func98,Tryz.ntmps98
  go_wp2;go_ret;exact⟨ret_bool (by simp[wn,h1]),rfl⟩
 ·have t1:decide (lo<=n)=false:=by simpa using h1
  go_enter Tryz.func98,Tryz.ntmps98
  go_wp2;go_ret;exact⟨ret_bool (by unfold wn;rw[t1];rfl),rfl⟩
theorem p_withinV {n lo hi:Int} {b:Bool} (h:wn n lo hi=b) (w:World):Calls Tryz.prog 89 #[.int .i64 n,.int .i64 lo,.int .i64 hi] w fun e w'=>e=.returned (.bool b)∧w=w':=h▸p_within n lo hi w
theorem r_withinV {n lo hi:Int} {b:Bool} (h:wn n lo hi=b) (w:World):Calls Tryz.prog 98 #[.int .i64 n,.int .i64 lo,.int .i64 hi] w fun e w'=>e=.returned (.bool b)∧w=w':=h▸r_within n lo hi w
def chB (k:Nat) (c:Int):Bool:=(decide (97<=c)&&decide (c<=122))||(decide (k≠0)&&(decide (c=95)||(decide (48<=c)&&decide (c<=57))))
def chAt (s:ByteArray) (k:Nat):Int:=((s.data.toList.getD k 0).toNat:Int)
def nmB (s:ByteArray):Bool:=wn s.size 1 16&&(List.range s.size).all fun k=>chB k (chAt s k)
theorem chAt_of {s:ByteArray} {k:Nat} (h:k<s.size):(s[k].toNat:Int)=chAt s k:=by
 have h':k<s.data.toList.length:=by simpa using h
 unfold chAt;rw[List.getD_eq_getElem?_getD,List.getElem?_eq_getElem h'];rfl
theorem chB_yes {k:Nat} {c:Int}:chB k c=true↔(97<=c∧c<=122)∨(k≠0∧(c=95∨(48<=c∧c<=57))):=by simp[chB]
theorem chB_no {k:Nat} {c:Int}:chB k c=false↔¬((97<=c∧c<=122)∨(k≠0∧(c=95∨(48<=c∧c<=57)))):=by rw[←chB_yes];simp
theorem nm_no {s:ByteArray} {k:Nat} (hk:k<s.size) (h:chB k (chAt s k)=false):nmB s=false:=by
 unfold nmB;rw[Bool.and_eq_false_iff];right;rw[List.all_eq_false];exact⟨k,by simpa using hk,by simp[h]⟩
theorem nm_step {s:ByteArray} {k:Nat} (h:(List.range k).all (fun k=>chB k (chAt s k))=true) (hk:chB k (chAt s k)=true):(List.range (k+1)).all (fun k=>chB k (chAt s k))=true:=by
 rw[List.range_succ,List.all_append,h];simp[hk]
theorem nm_yes {s:ByteArray} (h:(List.range s.size).all (fun k=>chB k (chAt s k))=true):nmB s=wn s.size 1 16:=by
 unfold nmB;rw[h,Bool.and_true]
theorem p_isName (s:ByteArray) (w:World) (hs:s.size<=maxLen):
  Calls Tryz.prog 88 #[.string s] w fun e w'=>e=.returned (.bool (nmB s))∧w=w':=by
 unfold maxLen at hs;go_enter Tryz.func88,Tryz.ntmps88
 go_wp2;go_loop [7] (fun i=>∃k:Nat,k<=s.size∧i=.int .i64 k∧Hid ((List.range k).all (fun k=>chB k (chAt s k))=true)) (fun i=>s.size-(intOf i).toNat)
 case atStart=>exact⟨0,by omega,rfl,Lib.hid rfl⟩
 case round=>
  obtain⟨k,hk,rfl,HI⟩:=hrel;have k0:=nn k;by_cases hlt:k<s.size
  ·have k1:(k:Int)<(s.size:Int):=by omega
   have HC:=Lib.hid (chAt_of hlt);obtain⟨z,hz⟩:∃z,((k:Int)==0)=z:=⟨_,rfl⟩;have HZ:=Lib.hid (show k=0↔z=true by rw[←hz];simp);cases z
   all_goals
    rcases (by omega:((s[k].toNat:Int)<48)∨(48<=(s[k].toNat:Int)∧(s[k].toNat:Int)<=57)∨(57<(s[k].toNat:Int)∧(s[k].toNat:Int)<95)∨((s[k].toNat:Int)=95)∨(95<(s[k].toNat:Int)∧(s[k].toNat:Int)<97)∨(97<=(s[k].toNat:Int)∧(s[k].toNat:Int)<=122)∨(122<(s[k].toNat:Int))) with hc|hc|hc|hc|hc|hc|hc
    ·have t0:decide ((s[k].toNat:Int)<97)=true:=by simp;omega
     have t1:decide (122<(s[k].toNat:Int))=false:=by simp;omega
     have t2:((s[k].toNat:Int) != 95)=true:=by simp;omega
     have t3:decide ((s[k].toNat:Int)<48)=true:=by simp;omega
     have t4:decide (57<(s[k].toNat:Int))=false:=by simp;omega
     have HCC:=Lib.hid hc;clear hc;go_wp2
     all_goals first
      |(go_ret;exact⟨ret_bool (by rw[nm_no hlt (chB_no.2 (by have hz:=HZ.out;have hc:=HCC.out;rw[HC.out] at hc;simp at hz;omega))]),rfl⟩)
      |(go_round;(case rel=>exact⟨k+1,by omega,by go_num,Lib.hid (nm_step HI.out (chB_yes.2 (by have hz:=HZ.out;have hc:=HCC.out;rw[HC.out] at hc;simp at hz;omega)))⟩);(case measure=>simp[intOf];omega))
    ·have t0:decide ((s[k].toNat:Int)<97)=true:=by simp;omega
     have t1:decide (122<(s[k].toNat:Int))=false:=by simp;omega
     have t2:((s[k].toNat:Int) != 95)=true:=by simp;omega
     have t3:decide ((s[k].toNat:Int)<48)=false:=by simp;omega
     have t4:decide (57<(s[k].toNat:Int))=false:=by simp;omega
     have HCC:=Lib.hid hc;clear hc;go_wp2
     all_goals first
      |(go_ret;exact⟨ret_bool (by rw[nm_no hlt (chB_no.2 (by have hz:=HZ.out;have hc:=HCC.out;rw[HC.out] at hc;simp at hz;omega))]),rfl⟩)
      |(go_round;(case rel=>exact⟨k+1,by omega,by go_num,Lib.hid (nm_step HI.out (chB_yes.2 (by have hz:=HZ.out;have hc:=HCC.out;rw[HC.out] at hc;simp at hz;omega)))⟩);(case measure=>simp[intOf];omega))
    ·have t0:decide ((s[k].toNat:Int)<97)=true:=by simp;omega
     have t1:decide (122<(s[k].toNat:Int))=false:=by simp;omega
     have t2:((s[k].toNat:Int) != 95)=true:=by simp;omega
     have t3:decide ((s[k].toNat:Int)<48)=false:=by simp;omega
     have t4:decide (57<(s[k].toNat:Int))=true:=by simp;omega
     have HCC:=Lib.hid hc;clear hc;go_wp2
     all_goals first
      |(go_ret;exact⟨ret_bool (by rw[nm_no hlt (chB_no.2 (by have hz:=HZ.out;have hc:=HCC.out;rw[HC.out] at hc;simp at hz;omega))]),rfl⟩)
      |(go_round;(case rel=>exact⟨k+1,by omega,by go_num,Lib.hid (nm_step HI.out (chB_yes.2 (by have hz:=HZ.out;have hc:=HCC.out;rw[HC.out] at hc;simp at hz;omega)))⟩);(case measure=>simp[intOf];omega))
    ·have t0:decide ((s[k].toNat:Int)<97)=true:=by simp;omega
     have t1:decide (122<(s[k].toNat:Int))=false:=by simp;omega
     have t2:((s[k].toNat:Int) != 95)=false:=by simp;omega
     have t3:decide ((s[k].toNat:Int)<48)=false:=by simp;omega
     have t4:decide (57<(s[k].toNat:Int))=true:=by simp;omega
     have HCC:=Lib.hid hc;clear hc;go_wp2
     all_goals first
      |(go_ret;exact⟨ret_bool (by rw[nm_no hlt (chB_no.2 (by have hz:=HZ.out;have hc:=HCC.out;rw[HC.out] at hc;simp at hz;omega))]),rfl⟩)
      |(go_round;(case rel=>exact⟨k+1,by omega,by go_num,Lib.hid (nm_step HI.out (chB_yes.2 (by have hz:=HZ.out;have hc:=HCC.out;rw[HC.out] at hc;simp at hz;omega)))⟩);(case measure=>simp[intOf];omega))
    ·have t0:decide ((s[k].toNat:Int)<97)=true:=by simp;omega
     have t1:decide (122<(s[k].toNat:Int))=false:=by simp;omega
     have t2:((s[k].toNat:Int) != 95)=true:=by simp;omega
     have t3:decide ((s[k].toNat:Int)<48)=false:=by simp;omega
     have t4:decide (57<(s[k].toNat:Int))=true:=by simp;omega
     have HCC:=Lib.hid hc;clear hc;go_wp2
     all_goals first
      |(go_ret;exact⟨ret_bool (by rw[nm_no hlt (chB_no.2 (by have hz:=HZ.out;have hc:=HCC.out;rw[HC.out] at hc;simp at hz;omega))]),rfl⟩)
      |(go_round;(case rel=>exact⟨k+1,by omega,by go_num,Lib.hid (nm_step HI.out (chB_yes.2 (by have hz:=HZ.out;have hc:=HCC.out;rw[HC.out] at hc;simp at hz;omega)))⟩);(case measure=>simp[intOf];omega))
    ·have t0:decide ((s[k].toNat:Int)<97)=false:=by simp;omega
     have t1:decide (122<(s[k].toNat:Int))=false:=by simp;omega
     have t2:((s[k].toNat:Int) != 95)=true:=by simp;omega
     have t3:decide ((s[k].toNat:Int)<48)=false:=by simp;omega
     have t4:decide (57<(s[k].toNat:Int))=true:=by simp;omega
     have HCC:=Lib.hid hc;clear hc;go_wp2
     all_goals first
      |(go_ret;exact⟨ret_bool (by rw[nm_no hlt (chB_no.2 (by have hz:=HZ.out;have hc:=HCC.out;rw[HC.out] at hc;simp at hz;omega))]),rfl⟩)
      |(go_round;(case rel=>exact⟨k+1,by omega,by go_num,Lib.hid (nm_step HI.out (chB_yes.2 (by have hz:=HZ.out;have hc:=HCC.out;rw[HC.out] at hc;simp at hz;omega)))⟩);(case measure=>simp[intOf];omega))
    ·have t0:decide ((s[k].toNat:Int)<97)=false:=by simp;omega
     have t1:decide (122<(s[k].toNat:Int))=true:=by simp;omega
     have t2:((s[k].toNat:Int) != 95)=true:=by simp;omega
     have t3:decide ((s[k].toNat:Int)<48)=false:=by simp;omega
     have t4:decide (57<(s[k].toNat:Int))=true:=by simp;omega
     have HCC:=Lib.hid hc;clear hc;go_wp2
     all_goals first
      |(go_ret;exact⟨ret_bool (by rw[nm_no hlt (chB_no.2 (by have hz:=HZ.out;have hc:=HCC.out;rw[HC.out] at hc;simp at hz;omega))]),rfl⟩)
      |(go_round;(case rel=>exact⟨k+1,by omega,by go_num,Lib.hid (nm_step HI.out (chB_yes.2 (by have hz:=HZ.out;have hc:=HCC.out;rw[HC.out] at hc;simp at hz;omega)))⟩);(case measure=>simp[intOf];omega))
  ·obtain rfl:k=s.size:=by omega
   have HN:=Lib.hid (nm_yes HI.out);go_wp2_with (go_at_call 89;((with_reducible refine(p_within _ _ _ _).mono ?_);rintro e w' ⟨rfl,rfl⟩))
   go_ret;exact⟨ret_bool HN.out.symm,rfl⟩
theorem r_isName (s:ByteArray) (w:World) (hs:s.size<=maxLen):
  Calls Tryz.prog 97 #[.string s] w fun e w'=>e=.returned (.bool (nmB s))∧w=w':=by
 unfold maxLen at hs;go_enter Tryz.func97,Tryz.ntmps97
 go_wp2;go_loop [3] (fun i=>∃k:Nat,k<=s.size∧i=.int .i64 k∧Hid ((List.range k).all (fun k=>chB k (chAt s k))=true)) (fun i=>s.size-(intOf i).toNat)
 case atStart=>exact⟨0,by omega,rfl,Lib.hid rfl⟩
 case round=>
  obtain⟨k,hk,rfl,HI⟩:=hrel;have k0:=nn k;by_cases hlt:k<s.size
  ·have k1:(k:Int)<(s.size:Int):=by omega
   have HC:=Lib.hid (chAt_of hlt);obtain⟨z,hz⟩:∃z,((k:Int)==0)=z:=⟨_,rfl⟩;have HZ:=Lib.hid (show k=0↔z=true by rw[←hz];simp);cases z
   all_goals
    rcases (by omega:((s[k].toNat:Int)<48)∨(48<=(s[k].toNat:Int)∧(s[k].toNat:Int)<=57)∨(57<(s[k].toNat:Int)∧(s[k].toNat:Int)<95)∨((s[k].toNat:Int)=95)∨(95<(s[k].toNat:Int)∧(s[k].toNat:Int)<97)∨(97<=(s[k].toNat:Int)∧(s[k].toNat:Int)<=122)∨(122<(s[k].toNat:Int))) with hc|hc|hc|hc|hc|hc|hc
    ·have t0:decide (97<=(s[k].toNat:Int))=false:=by simp;omega
     have t1:decide ((s[k].toNat:Int)<=122)=true:=by simp;omega
     have t2:((s[k].toNat:Int)==95)=false:=by simp;omega
     have t3:decide (48<=(s[k].toNat:Int))=false:=by simp;omega
     have t4:decide ((s[k].toNat:Int)<=57)=true:=by simp;omega
     have HCC:=Lib.hid hc;clear hc;go_wp2
     all_goals first
      |(go_ret;exact⟨ret_bool (by rw[nm_no hlt (chB_no.2 (by have hz:=HZ.out;have hc:=HCC.out;rw[HC.out] at hc;simp at hz;omega))]),rfl⟩)
      |(go_round;(case rel=>exact⟨k+1,by omega,by go_num,Lib.hid (nm_step HI.out (chB_yes.2 (by have hz:=HZ.out;have hc:=HCC.out;rw[HC.out] at hc;simp at hz;omega)))⟩);(case measure=>simp[intOf];omega))
    ·have t0:decide (97<=(s[k].toNat:Int))=false:=by simp;omega
     have t1:decide ((s[k].toNat:Int)<=122)=true:=by simp;omega
     have t2:((s[k].toNat:Int)==95)=false:=by simp;omega
     have t3:decide (48<=(s[k].toNat:Int))=true:=by simp;omega
     have t4:decide ((s[k].toNat:Int)<=57)=true:=by simp;omega
     have HCC:=Lib.hid hc;clear hc;go_wp2
     all_goals first
      |(go_ret;exact⟨ret_bool (by rw[nm_no hlt (chB_no.2 (by have hz:=HZ.out;have hc:=HCC.out;rw[HC.out] at hc;simp at hz;omega))]),rfl⟩)
      |(go_round;(case rel=>exact⟨k+1,by omega,by go_num,Lib.hid (nm_step HI.out (chB_yes.2 (by have hz:=HZ.out;have hc:=HCC.out;rw[HC.out] at hc;simp at hz;omega)))⟩);(case measure=>simp[intOf];omega))
    ·have t0:decide (97<=(s[k].toNat:Int))=false:=by simp;omega
     have t1:decide ((s[k].toNat:Int)<=122)=true:=by simp;omega
     have t2:((s[k].toNat:Int)==95)=false:=by simp;omega
     have t3:decide (48<=(s[k].toNat:Int))=true:=by simp;omega
     have t4:decide ((s[k].toNat:Int)<=57)=false:=by simp;omega
     have HCC:=Lib.hid hc;clear hc;go_wp2
     all_goals first
      |(go_ret;exact⟨ret_bool (by rw[nm_no hlt (chB_no.2 (by have hz:=HZ.out;have hc:=HCC.out;rw[HC.out] at hc;simp at hz;omega))]),rfl⟩)
      |(go_round;(case rel=>exact⟨k+1,by omega,by go_num,Lib.hid (nm_step HI.out (chB_yes.2 (by have hz:=HZ.out;have hc:=HCC.out;rw[HC.out] at hc;simp at hz;omega)))⟩);(case measure=>simp[intOf];omega))
    ·have t0:decide (97<=(s[k].toNat:Int))=false:=by simp;omega
     have t1:decide ((s[k].toNat:Int)<=122)=true:=by simp;omega
     have t2:((s[k].toNat:Int)==95)=true:=by simp;omega
     have t3:decide (48<=(s[k].toNat:Int))=true:=by simp;omega
     have t4:decide ((s[k].toNat:Int)<=57)=false:=by simp;omega
     have HCC:=Lib.hid hc;clear hc;go_wp2
     all_goals first
      |(go_ret;exact⟨ret_bool (by rw[nm_no hlt (chB_no.2 (by have hz:=HZ.out;have hc:=HCC.out;rw[HC.out] at hc;simp at hz;omega))]),rfl⟩)
      |(go_round;(case rel=>exact⟨k+1,by omega,by go_num,Lib.hid (nm_step HI.out (chB_yes.2 (by have hz:=HZ.out;have hc:=HCC.out;rw[HC.out] at hc;simp at hz;omega)))⟩);(case measure=>simp[intOf];omega))
    ·have t0:decide (97<=(s[k].toNat:Int))=false:=by simp;omega
     have t1:decide ((s[k].toNat:Int)<=122)=true:=by simp;omega
     have t2:((s[k].toNat:Int)==95)=false:=by simp;omega
     have t3:decide (48<=(s[k].toNat:Int))=true:=by simp;omega
     have t4:decide ((s[k].toNat:Int)<=57)=false:=by simp;omega
     have HCC:=Lib.hid hc;clear hc;go_wp2
     all_goals first
      |(go_ret;exact⟨ret_bool (by rw[nm_no hlt (chB_no.2 (by have hz:=HZ.out;have hc:=HCC.out;rw[HC.out] at hc;simp at hz;omega))]),rfl⟩)
      |(go_round;(case rel=>exact⟨k+1,by omega,by go_num,Lib.hid (nm_step HI.out (chB_yes.2 (by have hz:=HZ.out;have hc:=HCC.out;rw[HC.out] at hc;simp at hz;omega)))⟩);(case measure=>simp[intOf];omega))
    ·have t0:decide (97<=(s[k].toNat:Int))=true:=by simp;omega
     have t1:decide ((s[k].toNat:Int)<=122)=true:=by simp;omega
     have t2:((s[k].toNat:Int)==95)=false:=by simp;omega
     have t3:decide (48<=(s[k].toNat:Int))=true:=by simp;omega
     have t4:decide ((s[k].toNat:Int)<=57)=false:=by simp;omega
     have HCC:=Lib.hid hc;clear hc;go_wp2
     all_goals first
      |(go_ret;exact⟨ret_bool (by rw[nm_no hlt (chB_no.2 (by have hz:=HZ.out;have hc:=HCC.out;rw[HC.out] at hc;simp at hz;omega))]),rfl⟩)
      |(go_round;(case rel=>exact⟨k+1,by omega,by go_num,Lib.hid (nm_step HI.out (chB_yes.2 (by have hz:=HZ.out;have hc:=HCC.out;rw[HC.out] at hc;simp at hz;omega)))⟩);(case measure=>simp[intOf];omega))
    ·have t0:decide (97<=(s[k].toNat:Int))=true:=by simp;omega
     have t1:decide ((s[k].toNat:Int)<=122)=false:=by simp;omega
     have t2:((s[k].toNat:Int)==95)=false:=by simp;omega
     have t3:decide (48<=(s[k].toNat:Int))=true:=by simp;omega
     have t4:decide ((s[k].toNat:Int)<=57)=false:=by simp;omega
     have HCC:=Lib.hid hc;clear hc;go_wp2
     all_goals first
      |(go_ret;exact⟨ret_bool (by rw[nm_no hlt (chB_no.2 (by have hz:=HZ.out;have hc:=HCC.out;rw[HC.out] at hc;simp at hz;omega))]),rfl⟩)
      |(go_round;(case rel=>exact⟨k+1,by omega,by go_num,Lib.hid (nm_step HI.out (chB_yes.2 (by have hz:=HZ.out;have hc:=HCC.out;rw[HC.out] at hc;simp at hz;omega)))⟩);(case measure=>simp[intOf];omega))
  ·obtain rfl:k=s.size:=by omega
   have HN:=Lib.hid (nm_yes HI.out);go_wp2_with (go_at_call 98;((with_reducible refine(r_within _ _ _ _).mono ?_);rintro e w' ⟨rfl,rfl⟩))
   go_ret;exact⟨ret_bool HN.out.symm,rfl⟩
structure It where
 nm:ByteArray
 ld:Int
 du:Int
 bt:ByteArray
def It.cs (a:It):List Value:=[.string a.nm,.int .i64 a.ld,.int .i64 a.du,.string a.bt]
theorem It.cs_len (a:It):a.cs.length=4:=rfl
abbrev itV (a:It):Value:=.agg #[.string a.nm,.int .i64 a.ld,.int .i64 a.du,.string a.bt]
structure IW (a:It):Prop where
 m:a.nm.size<=maxLen
 b:a.bt.size<=maxLen
 l0:-9223372036854775808<=a.ld
 l1:a.ld<=9223372036854775807
 d0:-9223372036854775808<=a.du
 d1:a.du<=9223372036854775807
def itAt (l:List It) (i:Nat):It:=l[i]?.getD ⟨ByteArray.empty,0,0,ByteArray.empty⟩
theorem itAt_of {l:List It} {i:Nat} {p:It} (h:l[i]?=some p):itAt l i=p:=by simp[itAt,h]
theorem rdI {w:World} {A:Option Addr} {l:List It} (h:Rd It.cs 4 w A l) {k:Nat} (hk:k<l.length):
  ∃x b off,l[k]?=some x∧A=some ⟨b,off,none⟩∧b<w.heap.size∧w.cell? ⟨b,off+k*4,none⟩=some (.string x.nm)∧w.cell? ⟨b,off+k*4+1,none⟩=some (.int .i64 x.ld)∧w.cell? ⟨b,off+k*4+2,none⟩=some (.int .i64 x.du)∧w.cell? ⟨b,off+k*4+3,none⟩=some (.string x.bt):=by
 obtain⟨x,hx⟩:=get_lt hk;obtain⟨b,off,e,hb,hc⟩:=h.get hx;exact⟨x,b,off,hx,e,hb,hc 0 _ rfl,hc 1 _ rfl,hc 2 _ rfl,hc 3 _ rfl⟩
def fndI (g:List It) (s:ByteArray):Int:=idxOf (fun x:It=>x.nm.toList==s.toList) g 0
theorem idx_bd {α:Type} (p:α->Bool) (l:List α):∀k:Nat,-1<=idxOf p l k∧idxOf p l k<k+l.length:=by
 induction l with
 |nil=>intro k;unfold idxOf;simp;omega
 |cons x l ih=>
  intro k;unfold idxOf;have:=ih (k+1);split
  ·simp;omega
  ·simp at this ⊢;omega
theorem fnd_bd (g:List It) (s:ByteArray):-1<=fndI g s∧fndI g s<g.length:=by
 have:=idx_bd (fun x:It=>x.nm.toList==s.toList) g 0;unfold fndI;simp at this ⊢;omega
theorem r_find (A:Option Addr) (g:List It) (c:Nat) (s:ByteArray) (w:World) (hl:g.length<=100000) (hR:Rd It.cs 4 w A g):
  Calls Tryz.prog 99 #[.slice A g.length c,.string s] w fun e w'=>e=.returned (.int .i64 (fndI g s))∧w=w':=by
 go_enter Tryz.func99,Tryz.ntmps99
 go_wp2;go_loop [5] (fun i=>∃k:Nat,k<=g.length∧i=.int .i64 k∧Hid (fndI g s=idxOf (fun x:It=>x.nm.toList==s.toList) (g.drop k) k)) (fun i=>g.length-(intOf i).toNat)
 case atStart=>exact⟨0,by omega,rfl,Lib.hid rfl⟩
 case round=>
  obtain⟨k,hk,rfl,HI⟩:=hrel;have k0:=nn k;by_cases hlt:k<g.length
  ·have k1:(k:Int)<(g.length:Int):=by omega
   obtain⟨x,b,off,hx,rfl,hb,c0,c1,c2,c3⟩:=rdI hR hlt;have HD:=Lib.hid (idxOf_drop (fun x:It=>x.nm.toList==s.toList) g k x hx);clear hx c1 c2 c3;cases he:(x.nm.toList==s.toList)
   ·have HE:=Lib.hid he;go_wp2;go_round
    case rel=>exact⟨k+1,by omega,by go_num,Lib.hid (by rw[HI.out,HD.out,HE.out];rfl)⟩
    case measure=>simp[intOf];omega
   ·have HE:=Lib.hid he;go_wp2;go_ret;exact⟨by rw[HI.out,HD.out,HE.out];rfl,rfl⟩
  ·obtain rfl:k=g.length:=by omega
   go_wp2;go_ret;exact⟨by rw[HI.out,List.drop_length];rfl,rfl⟩
def sndI (x:It):Bool:=nmB x.nm&&nmB x.bt&&wn x.ld 1 1000000&&wn x.du 0 100000
def okI (g:List It) (i:Nat):Bool:=sndI (itAt g i) && !decide (fndI g (itAt g i).nm<i)
def vldG (g:List It):Bool:=(List.range g.length).all (okI g)&&decide (g.length<=64)
theorem vldG_no {g:List It} {k:Nat} {x:It} (hx:g[k]?=some x) (h:(sndI x && !decide (fndI g x.nm<k))=false):vldG g=false:=by
 have hk:k<g.length:=(List.getElem?_eq_some_iff.1 hx).1;unfold vldG;rw[Bool.and_eq_false_iff];left;rw[List.all_eq_false];exact⟨k,by simpa using hk,by unfold okI;rw[itAt_of hx,h];simp⟩
theorem okI_step {g:List It} {k:Nat} {x:It} (hx:g[k]?=some x) (h:(List.range k).all (okI g)=true) (hk:(sndI x && !decide (fndI g x.nm<k))=true):(List.range (k+1)).all (okI g)=true:=by
 rw[List.range_succ,List.all_append,h];unfold okI;simp[itAt_of hx];simpa using hk
theorem vldG_yes {g:List It} (h:(List.range g.length).all (okI g)=true):vldG g=decide (g.length<=64):=by
 unfold vldG;rw[h,Bool.true_and]
theorem r_Valid (A:Option Addr) (g:List It) (c:Nat) (w:World) (hl:g.length<=100000) (hR:Rd It.cs 4 w A g) (hW:∀x∈g,IW x):
  Calls Tryz.prog 35 #[.slice A g.length c] w fun e w'=>e=.returned (.bool (vldG g))∧Below w.heap.size w w':=by
 have HF:=Lib.hid (fun s W (h:Below w.heap.size w W)=>r_find A g c s W hl (hR.on h));go_enter Tryz.func35,Tryz.ntmps35
 go_wp2;go_loopw [3] (fun i wr=>∃k:Nat,k<=g.length∧i=.int .i64 k∧Hid ((List.range k).all (okI g)=true)∧Below w.heap.size w wr) (fun i _=>g.length-(intOf i).toNat)
 case atStart=>exact⟨0,by omega,rfl,Lib.hid rfl,Below.refl _ _⟩
 case round=>
  obtain⟨k,hk,rfl,HI,hB⟩:=hrel;have k0:=nn k;by_cases hlt:k<g.length
  ·have k1:(k:Int)<(g.length:Int):=by omega
   obtain⟨x,b,off,hx,rfl,hb,c0,c1,c2,c3⟩:=rdI (hR.on hB) hlt;have iw:=hW x (List.mem_of_getElem? hx);have HX:=Lib.hid hx;obtain⟨fl,fh⟩:=fnd_bd g x.nm;obtain⟨F,hF⟩:∃F,fndI g x.nm=F:=⟨_,rfl⟩;have HN:=Lib.hid (fun(v:Bool) (h:nmB x.nm=v) W=>calls_bool h (r_isName x.nm W iw.m));have HBt:=Lib.hid (fun(v:Bool) (h:nmB x.bt=v) W=>calls_bool h (r_isName x.bt W iw.b));have iw1:=iw.l0;have iw2:=iw.l1;have iw3:=iw.d0;have iw4:=iw.d1;clear hx iw;have HFF:=Lib.hid hF;rw[hF] at fl fh;rcases (by cases nmB x.nm<;>cases nmB x.bt<;>cases wn x.ld 1 1000000<;>cases wn x.du 0 100000<;>by_cases hh:F<k<;>simp[hh]:nmB x.nm=false∨(nmB x.nm=true∧nmB x.bt=false)∨(nmB x.nm=true∧nmB x.bt=true∧wn x.ld 1 1000000=false)∨(nmB x.nm=true∧nmB x.bt=true∧wn x.ld 1 1000000=true∧wn x.du 0 100000=false)∨(nmB x.nm=true∧nmB x.bt=true∧wn x.ld 1 1000000=true∧wn x.du 0 100000=true∧F<k)∨(nmB x.nm=true∧nmB x.bt=true∧wn x.ld 1 1000000=true∧wn x.du 0 100000=true∧¬F<k)) with h1|⟨h1,h2⟩|⟨h1,h2,h3⟩|⟨h1,h2,h3,h4⟩|⟨h1,h2,h3,h4,h5⟩|⟨h1,h2,h3,h4,h5⟩
   ·have Q1:=Lib.hid (HN.out _ h1);have HE:=Lib.hid (vldG_no HX.out (by unfold sndI;simp[h1]));clear h1 HN HBt;go_wp2_with (go_at_call 97;((with_reducible refine(Q1.out _).mono ?_);rintro e w' ⟨rfl,rfl⟩))
    go_ret;exact⟨ret_bool (by rw[HE.out]),bl⟩
   ·have Q1:=Lib.hid (HN.out _ h1);have Q2:=Lib.hid (HBt.out _ h2);have HE:=Lib.hid (vldG_no HX.out (by unfold sndI;simp[h2]));clear h1 h2 HN HBt;go_wp2_with (first|(go_at_call 97;((with_reducible refine(Q1.out _).mono ?_);rintro e w' ⟨rfl,rfl⟩))|(go_at_call 97;((with_reducible refine(Q2.out _).mono ?_);rintro e w' ⟨rfl,rfl⟩)))
    go_ret;exact⟨ret_bool (by rw[HE.out]),bl⟩
   ·have Q1:=Lib.hid (HN.out _ h1);have Q2:=Lib.hid (HBt.out _ h2);have Q3:=Lib.hid (r_withinV h3);have HE:=Lib.hid (vldG_no HX.out (by unfold sndI;simp[h3]));clear h1 h2 h3 HN HBt;go_wp2_with (first|(go_at_call 97;((with_reducible refine(Q1.out _).mono ?_);rintro e w' ⟨rfl,rfl⟩))|(go_at_call 97;((with_reducible refine(Q2.out _).mono ?_);rintro e w' ⟨rfl,rfl⟩))|(go_at_call 98;((with_reducible refine(Q3.out _).mono ?_);rintro e w' ⟨rfl,rfl⟩)))
    go_ret;exact⟨ret_bool (by rw[HE.out]),bl⟩
   ·have Q1:=Lib.hid (HN.out _ h1);have Q2:=Lib.hid (HBt.out _ h2);have Q3:=Lib.hid (r_withinV h3);have Q4:=Lib.hid (r_withinV h4);have HE:=Lib.hid (vldG_no HX.out (by unfold sndI;simp[h4]));clear h1 h2 h3 h4 HN HBt;go_wp2_with (first|(go_at_call 97;((with_reducible refine(Q1.out _).mono ?_);rintro e w' ⟨rfl,rfl⟩))|(go_at_call 97;((with_reducible refine(Q2.out _).mono ?_);rintro e w' ⟨rfl,rfl⟩))|(go_at_call 98;((with_reducible refine(Q3.out _).mono ?_);rintro e w' ⟨rfl,rfl⟩))|(go_at_call 98;((with_reducible refine(Q4.out _).mono ?_);rintro e w' ⟨rfl,rfl⟩)))
    go_ret;exact⟨ret_bool (by rw[HE.out]),bl⟩
   ·have Q1:=Lib.hid (HN.out _ h1);have Q2:=Lib.hid (HBt.out _ h2);have Q3:=Lib.hid (r_withinV h3);have Q4:=Lib.hid (r_withinV h4);have Q5:=Lib.hid (fun W h=>hF▸HF.out x.nm W h);have t5:decide (F<(k:Int))=true:=by simpa using h5
    have HE:=Lib.hid (vldG_no HX.out (by rw[hF];simp[h5]));clear h1 h2 h3 h4 HN HBt hF;go_wp2_with (first|(go_at_call 97;((with_reducible refine(Q1.out _).mono ?_);rintro e w' ⟨rfl,rfl⟩))|(go_at_call 97;((with_reducible refine(Q2.out _).mono ?_);rintro e w' ⟨rfl,rfl⟩))|(go_at_call 98;((with_reducible refine(Q3.out _).mono ?_);rintro e w' ⟨rfl,rfl⟩))|(go_at_call 98;((with_reducible refine(Q4.out _).mono ?_);rintro e w' ⟨rfl,rfl⟩))|(go_at_call 99;((with_reducible refine(Q5.out _ bl).mono ?_);rintro e w' ⟨rfl,rfl⟩)))
    go_ret;exact⟨ret_bool (by rw[HE.out]),bl⟩
   ·have Q1:=Lib.hid (HN.out _ h1);have Q2:=Lib.hid (HBt.out _ h2);have Q3:=Lib.hid (r_withinV h3);have Q4:=Lib.hid (r_withinV h4);have Q5:=Lib.hid (fun W h=>hF▸HF.out x.nm W h);have t5:decide (F<(k:Int))=false:=by simpa using h5
    have HE:=Lib.hid (okI_step HX.out HI.out (by unfold sndI;rw[hF];simp[h1,h2,h3,h4];omega));clear h1 h2 h3 h4 HN HBt hF;go_wp2_with (first|(go_at_call 97;((with_reducible refine(Q1.out _).mono ?_);rintro e w' ⟨rfl,rfl⟩))|(go_at_call 97;((with_reducible refine(Q2.out _).mono ?_);rintro e w' ⟨rfl,rfl⟩))|(go_at_call 98;((with_reducible refine(Q3.out _).mono ?_);rintro e w' ⟨rfl,rfl⟩))|(go_at_call 98;((with_reducible refine(Q4.out _).mono ?_);rintro e w' ⟨rfl,rfl⟩))|(go_at_call 99;((with_reducible refine(Q5.out _ bl).mono ?_);rintro e w' ⟨rfl,rfl⟩)))
    go_roundw
    case rel=>exact⟨k+1,by omega,by go_num,HE,bl⟩
    case measure=>simp[intOf];omega
  ·obtain rfl:k=g.length:=by omega
   go_wp2;go_ret;exact⟨by rw[vldG_yes HI.out];simp;omega,bl⟩
end Go.Proofs.YtjkkfcghkeoedaaGreatDoor.G
namespace Go.Proofs.YtjkkfcghkeoedaaGreatDoor.G
open Go.RowKit Go.Maps Go.WideShapes Go.WideMaps
theorem fnd_aux (s:ByteArray):∀(l:List It) (b:Nat),(∀(i:Nat) (x:It),l[i]?=some x->x.nm.toList=s.toList->0<=idxOf (fun x:It=>x.nm.toList==s.toList) l b∧idxOf (fun x:It=>x.nm.toList==s.toList) l b<=b+i)∧(∀n:Nat,idxOf (fun x:It=>x.nm.toList==s.toList) l b=(n:Int)->b<=n∧∃x,l[n-b]?=some x∧x.nm.toList=s.toList)
 |[],b=>⟨by intro i x h;simp at h,by intro n h;unfold idxOf at h;omega⟩
 |y::l,b=>by
  obtain⟨i1,i2⟩:=fnd_aux s l (b+1);unfold idxOf;by_cases hy:(y.nm.toList==s.toList)=true
  ·rw[if_pos hy];refine⟨by intro i x _ _;omega,?_⟩;intro n h;obtain rfl:b=n:=by omega
   exact⟨Nat.le_refl _,y,by simp,by simpa using hy⟩
  ·rw[if_neg hy];constructor
   ·intro i x hx he;cases i with
    |zero=>simp at hx;subst hx;simp[he] at hy
    |succ i=>
     have:=i1 i x (by simpa using hx) he;omega
   ·intro n h;obtain⟨h1,x,hx,he⟩:=i2 n h;refine⟨by omega,x,?_,he⟩;rw[show n-b=(n-(b+1))+1 by omega];simpa using hx
theorem fnd_of {g:List It} {s:ByteArray} {i:Nat} {x:It} (hx:g[i]?=some x) (he:x.nm.toList=s.toList):0<=fndI g s∧fndI g s<=i:=by
 have:=(fnd_aux s g 0).1 i x hx he;unfold fndI;omega
theorem fnd_at {g:List It} {s:ByteArray} {n:Nat} (h:fndI g s=(n:Int)):∃x,g[n]?=some x∧x.nm.toList=s.toList:=by
 obtain⟨_,x,hx,he⟩:=(fnd_aux s g 0).2 n h;exact⟨x,by simpa using hx,he⟩
theorem fnd_self {g:List It} {i:Nat} {x:It} (hx:g[i]?=some x):0<=fndI g x.nm∧fndI g x.nm<=i:=fnd_of hx rfl
abbrev kyS (s:ByteArray):Lit:=.string s.data.toList
theorem kyS_inj {a b:ByteArray}:kyS a=kyS b↔a.toList=b.toList:=by
 unfold kyS;rw[ByteArray.toList_eq,ByteArray.toList_eq];simp
theorem fnd_ky {g:List It} {a b:ByteArray} (h:a.toList=b.toList):fndI g a=fndI g b:=by unfold fndI;rw[h]
abbrev i64d (n:Int):DataW Unit:=.lit (.int .i64 n)
theorem kyL (s:ByteArray):WideAt.IsKeyLit (kyS s):=by unfold kyS WideAt.IsKeyLit;trivial
def mkD (g:List It):Nat->DataW Unit
 |0=>.map []
 |k+1=>(mkD g k).put (kyS (itAt g k).nm) (i64d k)
theorem mkD_tidy (g:List It):∀k,Tidy (mkD g k)
 |0=>tidy_empty
 |k+1=>(mkD_tidy g k).put (kyL _) _
theorem mkD_has (g:List It) (s:ByteArray):∀k,k<=g.length->Maps.has (mkD g k) (kyS s)=decide (0<=fndI g s∧fndI g s<k):=by
 intro k;induction k with
 |zero=>intro _;rw[decide_eq_false (by omega)];rfl
 |succ k ih=>
  intro hk;obtain⟨x,hx⟩:=get_lt (show k<g.length by omega);unfold mkD;rw[itAt_of hx];by_cases he:x.nm.toList=s.toList
  ·rw[kyS_inj.2 he,has_put_same (mkD_tidy g k).isMap (kyL _)];have:=fnd_of hx he;rw[decide_eq_true (by omega)]
  ·rw[has_put_other (fun h=>he (kyS_inj.1 h.symm)),ih (by omega)];have hne:fndI g s≠(k:Int):=fun h=>by
    obtain⟨y,hy,e⟩:=fnd_at h;rw[hx] at hy;cases hy;exact he e
   congr 1;simp;omega
def dstB (g:List It):Bool:=(List.range g.length).all fun i=>!decide (fndI g (itAt g i).nm<i)
theorem dst_at {g:List It} (h:dstB g=true) {i:Nat} {x:It} (hx:g[i]?=some x):fndI g x.nm=(i:Int):=by
 unfold dstB at h;rw[List.all_eq_true] at h;have h1:=h i (by simpa using(List.getElem?_eq_some_iff.1 hx).1);rw[itAt_of hx] at h1;have:=fnd_self hx;simp at h1;omega
theorem mkD_at {g:List It} (hd:dstB g=true) (s:ByteArray):∀k,k<=g.length->(mkD g k).atKey (kyS s) (i64d 0)=i64d (if 0<=fndI g s∧fndI g s<k then fndI g s else 0):=by
 intro k;induction k with
 |zero=>intro _;rw[if_neg (by omega)];rfl
 |succ k ih=>
  intro hk;obtain⟨x,hx⟩:=get_lt (show k<g.length by omega);unfold mkD;rw[itAt_of hx];by_cases he:x.nm.toList=s.toList
  ·rw[kyS_inj.2 he,atKey_put_same (mkD_tidy g k).isMap (kyL _)];have h1:=dst_at hd hx;rw[fnd_ky he] at h1;rw[h1,if_pos (by omega)]
  ·rw[atKey_put_other (fun h=>he (kyS_inj.1 h.symm)),ih (by omega)];have hne:fndI g s≠(k:Int):=fun h=>by
    obtain⟨y,hy,e⟩:=fnd_at h;rw[hx] at hy;cases hy;exact he e
   by_cases hh:0<=fndI g s∧fndI g s<k
   ·rw[if_pos hh,if_pos (by omega)]
   ·rw[if_neg hh,if_neg (by omega)]
theorem mkD_size (g:List It):∀k,k<=g.length->Maps.size (mkD g k)<=k∧((Maps.size (mkD g k)=k)↔(List.range k).all (fun i=>!decide (fndI g (itAt g i).nm<i))=true):=by
 intro k;induction k with
 |zero=>intro _;exact⟨Nat.le_refl _,by simp[mkD,Maps.size]⟩
 |succ k ih=>
  intro hk;obtain⟨i1,i2⟩:=ih (by omega);obtain⟨x,hx⟩:=get_lt (show k<g.length by omega);have h0:=fnd_self hx;rw[List.range_succ,List.all_append];unfold mkD;rw[size_put (mkD_tidy g k),itAt_of hx,mkD_has g _ k (by omega)];by_cases hh:fndI g x.nm<k
  ·rw[if_pos (by simp;omega)];refine⟨by omega,?_⟩;constructor
   ·intro h;omega
   ·intro h;rw[Bool.and_eq_true] at h;simp[itAt_of hx] at h;omega
  ·rw[if_neg (by simp;omega)];refine⟨by omega,?_⟩;constructor
   ·intro h;rw[Bool.and_eq_true];exact⟨i2.1 (by omega),by simp[itAt_of hx];omega⟩
   ·intro h;rw[Bool.and_eq_true] at h;have:=i2.2 h.1;omega
theorem size_dst (g:List It):((Maps.size (mkD g g.length):Int)==(g.length:Int))=dstB g:=by
 obtain⟨_,h⟩:=mkD_size g g.length (Nat.le_refl _);unfold dstB;rw[Bool.eq_iff_iff,←h];simp;omega
theorem vldG_dst {g:List It} (h:vldG g=true):dstB g=true:=by
 unfold vldG at h;rw[Bool.and_eq_true,List.all_eq_true] at h;unfold dstB;rw[List.all_eq_true];intro i hi;have:=h.1 i hi;unfold okI at this;rw[Bool.and_eq_true] at this;exact this.2
theorem vldG_is (g:List It):vldG g=(decide (g.length<=64)&&(g.all sndI&&dstB g)):=by
 unfold vldG dstB;have:(List.range g.length).all (okI g)=(g.all sndI&&(List.range g.length).all fun i=>!decide (fndI g (itAt g i).nm<i)):=by
  rw[Bool.eq_iff_iff,Bool.and_eq_true,List.all_eq_true,List.all_eq_true,List.all_eq_true];constructor
  ·intro h;refine⟨?_,?_⟩
   ·intro x hx;obtain⟨i,hi⟩:=List.getElem?_of_mem hx;have:=h i (by simpa using(List.getElem?_eq_some_iff.1 hi).1);unfold okI at this;rw[Bool.and_eq_true,itAt_of hi] at this;exact this.1
   ·intro i hi;have:=h i hi;unfold okI at this;rw[Bool.and_eq_true] at this;exact this.2
  ·rintro⟨h1,h2⟩ i hi;obtain⟨x,hx⟩:=get_lt (show i<g.length by simpa using hi);unfold okI;rw[Bool.and_eq_true];exact⟨by rw[itAt_of hx];exact h1 x (List.mem_of_getElem? hx),h2 i hi⟩
 rw[this];cases decide (g.length<=64)<;>simp
abbrev OM (w:World) (b n:Nat) (D:DataW Unit):Prop:=w.ownsMap Tryz.prog 9 (plainElem Tryz.prog 3) b n D
theorem und_str:Tryz.prog.underlying 9=some .string:=by kernel_rfl
theorem und_int:Tryz.prog.underlying 3=some (.int .i64):=by kernel_rfl
theorem und_map:Tryz.prog.underlying 154=some (.map 9 3):=by kernel_rfl
theorem lawS:Keyed Tryz.prog 9:=string_keyed und_str
theorem zeroN (w:World):(zeroValue 3).run Tryz.prog w=.ok (.int .i64 0) w:=by kernel_rfl
theorem keyS {s:ByteArray} (h:s.size<=maxLen):keyOf Tryz.prog 9 (.string s)=some (kyS s):=keyOf_string_mk und_str h
theorem p_byMark (A:Option Addr) (g:List It) (c:Nat) (w:World) (hl:g.length<=100000) (hR:Rd It.cs 4 w A g) (hW:∀x∈g,IW x):
  Calls Tryz.prog 91 #[.slice A g.length c] w fun e w'=>e=.returned (.map (some w.heap.size))∧OM w' w.heap.size g.length (mkD g g.length)∧Below w.heap.size w w':=by
 have hmm:=@run_makeMap Tryz.prog;go_enter Tryz.func91,Tryz.ntmps91
 go_wp2;go_loopw [9] (fun i wr=>∃k:Nat,k<=g.length∧i=.int .i64 k∧OM wr w.heap.size k (mkD g k)∧Below w.heap.size w wr) (fun i _=>g.length-(intOf i).toNat)
 case atStart=>exact⟨0,Nat.zero_le _,rfl,World.ownsMap_made _ _ _ _,(Below.refl _ _).alloc (Nat.le_refl _) _⟩
 case round=>
  obtain⟨k,hk,rfl,hown,hB⟩:=hrel;have k0:=nn k;by_cases hlt:k<g.length
  ·have k1:(k:Int)<(g.length:Int):=by omega
   obtain⟨x,b,off,hx,rfl,hb,c0,c1,c2,c3⟩:=rdI (hR.on hB) hlt;have iw:=hW x (List.mem_of_getElem? hx);have iw1:=iw.l0;have iw2:=iw.l1;have iw3:=iw.d0;have iw4:=iw.d1;have hkey:=keyS iw.m;have HX:=Lib.hid (show mkD g (k+1)=(mkD g k).put (kyS x.nm) (i64d k) by rw[mkD,itAt_of hx]);have hbm:=hown.lt;clear hx iw
   go_wp2_with (first
    |(at_mapUpdate;refine wpList_mapUpdate_own _ rfl _ _ _ 154 rfl 9 3 lawS und_map _ w.heap.size k _ rfl (hown.alloc _) (by unfold maxLen;omega) _ _ _ rfl rfl hkey _ [] (plainElem_int und_int (WalkArith.wf_i64 (by omega))) ?_)
    |go_in)
   intro w1 hown1 hgrow1;have R1:=HX.out.symm▸hown1;have hB1:Below w.heap.size w (wr.alloc (Obj.cells #[Value.string x.nm,Value.int IntKind.i64 x.ld,Value.int IntKind.i64 x.du,Value.string x.bt] 67)):=bl_alloc hB _;have R2:=hB1.grown hgrow1 hB1.size (fun j hj=>by cases hj;exact Nat.le_refl _);clear hown1 hgrow1 hown;go_wp2;go_roundw
   case rel=>exact⟨k+1,by omega,by go_num,R1,R2⟩
   case measure=>simp[intOf];omega
  ·obtain rfl:k=g.length:=by omega
   go_wp2;go_ret;exact⟨rfl,hown,hB⟩
end Go.Proofs.YtjkkfcghkeoedaaGreatDoor.G
namespace Go.Proofs.YtjkkfcghkeoedaaGreatDoor.G
open Go.RowKit Go.Maps
theorem p_isDay (n:Int) (w:World):Calls Tryz.prog 90 #[.int .i64 n] w fun e w'=>e=.returned (.bool (wn n 0 100000))∧w=w':=by
 go_enter Tryz.func90,Tryz.ntmps90
 go_wp2_with (go_at_call 89;((with_reducible refine(p_within n 0 100000 _).mono ?_);rintro e w' ⟨rfl,rfl⟩))
 go_ret;exact⟨rfl,rfl⟩
theorem p_isDayV {n:Int} {b:Bool} (h:wn n 0 100000=b) (w:World):Calls Tryz.prog 90 #[.int .i64 n] w fun e w'=>e=.returned (.bool b)∧w=w':=h▸p_isDay n w
theorem p_Valid1 (x:It) (w:World) (iw:IW x):
  Calls Tryz.prog 87 #[itV x] w fun e w'=>e=.returned (.bool (!sndI x))∧Below w.heap.size w w':=by
 have HN:=Lib.hid (fun(v:Bool) (h:nmB x.nm=v) W=>calls_bool h (p_isName x.nm W iw.m));have HBt:=Lib.hid (fun(v:Bool) (h:nmB x.bt=v) W=>calls_bool h (p_isName x.bt W iw.b));clear iw;rcases (by cases nmB x.nm<;>cases nmB x.bt<;>cases wn x.ld 1 1000000<;>cases wn x.du 0 100000<;>simp:nmB x.nm=false∨(nmB x.nm=true∧wn x.ld 1 1000000=false)∨(nmB x.nm=true∧wn x.ld 1 1000000=true∧wn x.du 0 100000=false)∨(nmB x.nm=true∧wn x.ld 1 1000000=true∧wn x.du 0 100000=true∧nmB x.bt=false)∨(nmB x.nm=true∧wn x.ld 1 1000000=true∧wn x.du 0 100000=true∧nmB x.bt=true)) with h1|⟨h1,h2⟩|⟨h1,h2,h3⟩|⟨h1,h2,h3,h4⟩|⟨h1,h2,h3,h4⟩
 ·have HE:=Lib.hid (show(!sndI x)=true by unfold sndI;simp[h1]);have Q1:=Lib.hid (HN.out _ h1);clear HN HBt h1;go_enter Tryz.func87,Tryz.ntmps87
  go_wp2_with (go_at_call 88;((with_reducible refine(Q1.out _).mono ?_);rintro e w' ⟨rfl,rfl⟩))
  go_ret;exact⟨ret_bool (by rw[HE.out]),bl⟩
 ·have HE:=Lib.hid (show(!sndI x)=true by unfold sndI;simp[h2]);have Q1:=Lib.hid (HN.out _ h1);have Q2:=Lib.hid (p_withinV h2);clear HN HBt h1 h2;go_enter Tryz.func87,Tryz.ntmps87
  go_wp2_with (first|(go_at_call 88;((with_reducible refine(Q1.out _).mono ?_);rintro e w' ⟨rfl,rfl⟩))|(go_at_call 89;((with_reducible refine(Q2.out _).mono ?_);rintro e w' ⟨rfl,rfl⟩)))
  go_ret;exact⟨ret_bool (by rw[HE.out]),bl⟩
 ·have HE:=Lib.hid (show(!sndI x)=true by unfold sndI;simp[h3]);have Q1:=Lib.hid (HN.out _ h1);have Q2:=Lib.hid (p_withinV h2);have Q3:=Lib.hid (p_isDayV h3);clear HN HBt h1 h2 h3;go_enter Tryz.func87,Tryz.ntmps87
  go_wp2_with (first|(go_at_call 88;((with_reducible refine(Q1.out _).mono ?_);rintro e w' ⟨rfl,rfl⟩))|(go_at_call 89;((with_reducible refine(Q2.out _).mono ?_);rintro e w' ⟨rfl,rfl⟩))|(go_at_call 90;((with_reducible refine(Q3.out _).mono ?_);rintro e w' ⟨rfl,rfl⟩)))
  go_ret;exact⟨ret_bool (by rw[HE.out]),bl⟩
 all_goals
  have HE:=Lib.hid (show(!sndI x)=!nmB x.bt by unfold sndI;simp[h1,h2,h3]);rw[h4] at HE;have Q1:=Lib.hid (HN.out _ h1);have Q2:=Lib.hid (p_withinV h2);have Q3:=Lib.hid (p_isDayV h3);have Q4:=Lib.hid (HBt.out _ h4);clear HN HBt h1 h2 h3 h4;go_enter Tryz.func87,Tryz.ntmps87
  go_wp2_with (first|(go_at_call 88;((with_reducible refine(Q1.out _).mono ?_);rintro e w' ⟨rfl,rfl⟩))|(go_at_call 89;((with_reducible refine(Q2.out _).mono ?_);rintro e w' ⟨rfl,rfl⟩))|(go_at_call 90;((with_reducible refine(Q3.out _).mono ?_);rintro e w' ⟨rfl,rfl⟩))|(go_at_call 88;((with_reducible refine(Q4.out _).mono ?_);rintro e w' ⟨rfl,rfl⟩)))
  go_ret;exact⟨ret_bool (by rw[HE.out];rfl),bl⟩
theorem c_indexI (A:Option Addr) (l:List (It)) (c:Nat) (p:It->Bool) (f:FuncId) (cap:Array Value) (w:World) (hl:l.length<=100000) (hR:Rd It.cs 4 w A l)
  (he:∀args W,(callFunc f args).run Tryz.prog W=.ok (.enter f args) W)
  (hf:∀W x,Below w.heap.size w W->x∈l->Calls Tryz.prog f (#[itV x]++cap) W fun e W'=>e=.returned (.bool (p x))∧Below W.heap.size W W'):
  Calls Tryz.prog 138 #[.slice A l.length c,.func (.func f) #[] cap] w fun e w'=>e=.returned (.int .i64 (idxOf p l 0))∧Below w.heap.size w w':=by
 have HF:=Lib.hid hf;clear hf;go_enter Tryz.func138,Tryz.ntmps138
 go_wp2;go_loopw [8] (fun i wr=>∃k:Nat,k<=l.length∧i=.int .i64 k∧Below w.heap.size w wr∧Hid (idxOf p l 0=idxOf p (l.drop k) k)) (fun i _=>l.length-(intOf i).toNat)
 case atStart=>exact⟨0,by omega,rfl,Below.refl _ _,rfl⟩
 case round=>
  obtain⟨k,hk,rfl,hB,HI⟩:=hrel;by_cases hlt:k<l.length
  ·obtain⟨x,b,off,hx,rfl,hb,c0,c1,c2,c3⟩:=rdI (hR.on hB) hlt;have HD:=Lib.hid (idxOf_drop p l k x hx);have hm:=List.mem_of_getElem? hx;have HC:=Lib.hid (HF.out wr x hB hm);clear hx hm;cases hp:p x
   all_goals
    have HP:=Lib.hid hp;clear hp;go_wp2_with fail
    refine HC.out.mono ?_;rintro e w1 ⟨rfl,hb1⟩;rw[HP.out];go_wp2
   ·go_roundw
    case rel=>exact⟨k+1,by omega,by go_num,hB.trans (hb1.mono hB.size),by rw[HI.out,HD.out,HP.out];rfl⟩
    case measure=>simp[intOf];omega
   ·go_ret;exact⟨ret_int (by rw[HI.out,HD.out,HP.out];rfl),hB.trans (hb1.mono hB.size)⟩
  ·go_wp2;go_ret;exact⟨ret_int (by rw[HI.out,List.drop_of_length_le (by omega)];rfl),hB⟩
theorem c_containsI (A:Option Addr) (l:List (It)) (c:Nat) (p:It->Bool) (f:FuncId) (cap:Array Value) (w:World) (hl:l.length<=100000) (hR:Rd It.cs 4 w A l)
  (he:∀args W,(callFunc f args).run Tryz.prog W=.ok (.enter f args) W)
  (hf:∀W x,Below w.heap.size w W->x∈l->Calls Tryz.prog f (#[itV x]++cap) W fun e W'=>e=.returned (.bool (p x))∧Below W.heap.size W W'):
  Calls Tryz.prog 86 #[.slice A l.length c,.func (.func f) #[] cap] w fun e w'=>e=.returned (.bool (l.any p))∧Below w.heap.size w w':=by
 have HC:=Lib.hid (c_indexI A l c p f cap w hl hR he hf);have HA:=Lib.hid (idxOf_nonneg p l 0);clear he hf hR;go_enter Tryz.func86,Tryz.ntmps86
 go_wp2_with (go_at_call 138;refine HC.out.mono ?_;rintro e w' ⟨rfl,hb⟩)
 go_ret;exact⟨ret_bool (by rw[Bool.eq_iff_iff,←HA.out];simp),hb⟩
theorem any_nsnd (g:List It):(g.any fun x=>!sndI x)=!g.all sndI:=by induction g<;>simp_all
theorem p_Valid (A:Option Addr) (g:List It) (c:Nat) (w:World) (hl:g.length<=100000) (hR:Rd It.cs 4 w A g) (hW:∀x∈g,IW x):
  Calls Tryz.prog 28 #[.slice A g.length c] w fun e w'=>e=.returned (.bool (vldG g))∧Below w.heap.size w w':=by
 have HC:=Lib.hid (c_containsI A g c (fun x=>!sndI x) 87 #[] w hl hR (enters_of Tryz.func87 (by kernel_rfl) rfl) (fun W x _ hx=>p_Valid1 x W (hW x hx)));rw[any_nsnd] at HC;have HM:=Lib.hid (fun W (h:Below w.heap.size w W)=>p_byMark A g c W hl (hR.on h) hW);rw[vldG_is];clear hR hW;have HS:=Lib.hid (size_dst g);cases hs:g.all sndI<;>rw[hs] at HC
 ·go_enter Tryz.func28,Tryz.ntmps28
  go_wp2_with (go_at_call 86;refine HC.out.mono ?_;rintro e w' ⟨rfl,hb⟩)
  all_goals
   go_ret;exact⟨ret_bool (by first|rfl|(rw[Bool.false_and,Bool.and_false])|simp),hb⟩
 ·go_enter Tryz.func28,Tryz.ntmps28
  go_wp2_with (first
   |(go_at_call 86;refine HC.out.mono ?_;rintro e w' ⟨rfl,hb⟩)
   |(go_at_call 91;refine(HM.out _ hb).mono ?_;rintro e w2 ⟨rfl,hown,hb2⟩;have hlen:=hown.len und_map 3))
  all_goals go_ret
  ·exact⟨ret_bool (by rw[HS.out];simp;intro _;omega),hb.trans (hb2.mono hb.size)⟩
  ·exact⟨ret_bool (by simp;intro;omega),hb⟩
end Go.Proofs.YtjkkfcghkeoedaaGreatDoor.G
