/- The parts of the proof, part 8. -/
import Derived.Test.YtjkkfcghkeoedaaGreatDoorR0
import Derived.Test.YtjkkfcghkeoedaaGreatDoorR3
import Derived.Test.YtjkkfcghkeoedaaGreatDoorR7
import Derived.Test.YtjkkfcghkeoedaaGreatDoorProg
import Derived.Shelf.Abstract
import Derived.WalkLawsBesides
import Derived.Deep.QuietTactic
import Derived.BigQuiet
import Derived.Deep.RegionHeld3
import Derived.Maps.OwnOps
import Derived.Maps.OwnSet
import Derived.Laws.Strings
import Derived.ArgAppend
import Derived.Deep.AppendLies
import Derived.Laws.OwnMore
set_option maxHeartbeats 16000000
set_option maxRecDepth 20000
set_option linter.unusedSimpArgs false
set_option linter.unusedVariables false
namespace Go.Proofs.YtjkkfcghkeoedaaGreatDoor.G
open Go.RowKit Go.Maps
structure Lk where
 nm:ByteArray
 fr:Int
def Lk.cs (a:Lk):List Value:=[.string a.nm,.int .i64 a.fr]
theorem Lk.cs_len (a:Lk):a.cs.length=2:=rfl
abbrev lkV (a:Lk):Value:=.agg #[.string a.nm,.int .i64 a.fr]
structure LW (a:Lk):Prop where
 m:a.nm.size<=maxLen
 f0:-9223372036854775808<=a.fr
 f1:a.fr<=9223372036854775807
def lkAt (l:List Lk) (i:Nat):Lk:=l[i]?.getD ⟨ByteArray.empty,0⟩
theorem lkAt_of {l:List Lk} {i:Nat} {p:Lk} (h:l[i]?=some p):lkAt l i=p:=by simp[lkAt,h]
theorem rdL {w:World} {A:Option Addr} {l:List Lk} (h:Rd Lk.cs 2 w A l) {k:Nat} (hk:k<l.length):
  ∃x b off,l[k]?=some x∧A=some ⟨b,off,none⟩∧b<w.heap.size∧w.cell? ⟨b,off+k*2,none⟩=some (.string x.nm)∧w.cell? ⟨b,off+k*2+1,none⟩=some (.int .i64 x.fr):=by
 obtain⟨x,hx⟩:=get_lt hk;obtain⟨b,off,e,hb,hc⟩:=h.get hx;exact⟨x,b,off,hx,e,hb,hc 0 _ rfl,hc 1 _ rfl⟩
def fndL (r:List Lk) (s:ByteArray):Int:=idxOf (fun x:Lk=>x.nm.toList==s.toList) r 0
theorem fndl_aux (s:ByteArray):∀(l:List Lk) (b:Nat),(∀(i:Nat) (x:Lk),l[i]?=some x->x.nm.toList=s.toList->0<=idxOf (fun x:Lk=>x.nm.toList==s.toList) l b∧idxOf (fun x:Lk=>x.nm.toList==s.toList) l b<=b+i)∧(∀n:Nat,idxOf (fun x:Lk=>x.nm.toList==s.toList) l b=(n:Int)->b<=n∧∃x,l[n-b]?=some x∧x.nm.toList=s.toList)
 |[],b=>⟨by intro i x h;simp at h,by intro n h;unfold idxOf at h;omega⟩
 |y::l,b=>by
  obtain⟨i1,i2⟩:=fndl_aux s l (b+1);unfold idxOf;by_cases hy:(y.nm.toList==s.toList)=true
  ·rw[if_pos hy];refine⟨by intro i x _ _;omega,?_⟩;intro n h;obtain rfl:b=n:=by omega
   exact⟨Nat.le_refl _,y,by simp,by simpa using hy⟩
  ·rw[if_neg hy];constructor
   ·intro i x hx he;cases i with
    |zero=>simp at hx;subst hx;simp[he] at hy
    |succ i=>
     have:=i1 i x (by simpa using hx) he;omega
   ·intro n h;obtain⟨h1,x,hx,he⟩:=i2 n h;refine⟨by omega,x,?_,he⟩;rw[show n-b=(n-(b+1))+1 by omega];simpa using hx
theorem fndl_of {g:List Lk} {s:ByteArray} {i:Nat} {x:Lk} (hx:g[i]?=some x) (he:x.nm.toList=s.toList):0<=fndL g s∧fndL g s<=i:=by
 have:=(fndl_aux s g 0).1 i x hx he;unfold fndL;omega
theorem fndl_at {g:List Lk} {s:ByteArray} {n:Nat} (h:fndL g s=(n:Int)):∃x,g[n]?=some x∧x.nm.toList=s.toList:=by
 obtain⟨_,x,hx,he⟩:=(fndl_aux s g 0).2 n h;exact⟨x,by simpa using hx,he⟩
def frB (i:Nat) (f:Int):Bool:=if i=0 then f == -1 else wn f 0 (i-1)
def okL (g:List It) (r:List Lk) (i:Nat):Bool:=decide (0<=fndI g (lkAt r i).nm)&&frB i (lkAt r i).fr && !decide (fndL r (lkAt r i).nm<i)
def vldR (g:List It) (r:List Lk):Bool:=(List.range r.length).all (okL g r)&&wn r.length 1 32
theorem vldR_no {g:List It} {r:List Lk} {k:Nat} {x:Lk} (hx:r[k]?=some x) (h:(decide (0<=fndI g x.nm)&&frB k x.fr && !decide (fndL r x.nm<k))=false):vldR g r=false:=by
 have hk:k<r.length:=(List.getElem?_eq_some_iff.1 hx).1;unfold vldR;rw[Bool.and_eq_false_iff];left;rw[List.all_eq_false];exact⟨k,by simpa using hk,by unfold okL;rw[lkAt_of hx,h];simp⟩
theorem okL_step {g:List It} {r:List Lk} {k:Nat} {x:Lk} (hx:r[k]?=some x) (h:(List.range k).all (okL g r)=true) (hk:(decide (0<=fndI g x.nm)&&frB k x.fr && !decide (fndL r x.nm<k))=true):(List.range (k+1)).all (okL g r)=true:=by
 rw[List.range_succ,List.all_append,h];unfold okL;simp[lkAt_of hx];simpa using hk
theorem vldR_yes {g:List It} {r:List Lk} (h:(List.range r.length).all (okL g r)=true):vldR g r=wn r.length 1 32:=by
 unfold vldR;rw[h,Bool.true_and]
def dlD (g:List It) (r:List Lk):Nat->DataW Unit
 |0=>mkD g g.length
 |k+1=>(dlD g r k).del (kyS (lkAt r k).nm)
theorem dlD_has (g:List It) (r:List Lk) (s:ByteArray):∀k,k<=r.length->Maps.has (dlD g r k) (kyS s)=(decide (0<=fndI g s) && !decide (0<=fndL r s∧fndL r s<k)):=by
 intro k;induction k with
 |zero=>
  intro _;have:=fnd_bd g s;unfold dlD;rw[mkD_has g s _ (Nat.le_refl _),Bool.eq_iff_iff];simp;omega
 |succ k ih=>
  intro hk;obtain⟨x,hx⟩:=get_lt (show k<r.length by omega);unfold dlD;rw[lkAt_of hx];by_cases he:x.nm.toList=s.toList
  ·rw[kyS_inj.2 he,has_del_same];have:=fndl_of hx he;rw[decide_eq_true (p:=0<=fndL r s∧fndL r s<(k+1:Nat)) (by omega)];simp
  ·rw[has_del_other (fun h=>he (kyS_inj.1 h.symm)),ih (by omega)];have hne:fndL r s≠(k:Int):=fun h=>by
    obtain⟨y,hy,e⟩:=fndl_at h;rw[hx] at hy;cases hy;exact he e
   rw[Bool.eq_iff_iff];simp;omega
theorem p_validRig (A B:Option Addr) (g:List It) (r:List Lk) (c d:Nat) (w:World) (hl:g.length<=100000) (hn:r.length<=100000) (hR:Rd It.cs 4 w A g) (hW:∀x∈g,IW x) (hS:Rd Lk.cs 2 w B r) (hV:∀x∈r,LW x):
  Calls Tryz.prog 282 #[.slice A g.length c,.slice B r.length d] w fun e w'=>e=.returned (.bool (vldR g r))∧Below w.heap.size w w':=by
 have HM:=Lib.hid (fun W (h:Below w.heap.size w W)=>p_byMark A g c W hl (hR.on h) hW);clear hR hW;go_enter Tryz.func282,Tryz.ntmps282
 go_wp2_with (go_at_call 91;refine(HM.out _ (below_refl _)).mono ?_;rintro e w2 ⟨rfl,hown,hb2⟩)
 go_loopw [14] (fun i wr=>∃k:Nat,k<=r.length∧i=.int .i64 k∧OM wr w.heap.size g.length (dlD g r k)∧Below w.heap.size w wr∧Hid ((List.range k).all (okL g r)=true)) (fun i _=>r.length-(intOf i).toNat)
 case atStart=>exact⟨0,Nat.zero_le _,rfl,hown,hb2,Lib.hid rfl⟩
 case round=>
  clear hown hb2;obtain⟨k,hk,rfl,hown,hB,HI⟩:=hrel;have k0:=nn k;by_cases hlt:k<r.length
  ·have k1:(k:Int)<(r.length:Int):=by omega
   obtain⟨x,b,off,hx,rfl,hb,c0,c1⟩:=rdL (hS.on hB) hlt;have iw:=hV x (List.mem_of_getElem? hx);have iw1:=iw.f0;have iw2:=iw.f1;have hkey:=keyS iw.m;have HX:=Lib.hid (show dlD g r (k+1)=(dlD g r k).del (kyS x.nm) by rw[dlD,lkAt_of hx]);have HY:=Lib.hid hx;have h0:=fndl_of hx rfl;have HH:=dlD_has g r x.nm k hk;have hbm:=hown.lt;have hB1:Below w.heap.size w (wr.alloc (Obj.cells #[Value.string x.nm,Value.int IntKind.i64 x.fr] 104)):=bl_alloc hB _;have hown0:=hown.alloc (Obj.cells #[Value.string x.nm,Value.int IntKind.i64 x.fr] 104);clear hx iw hown;cases hh:(decide (0<=fndI g x.nm) && !decide (0<=fndL r x.nm∧fndL r x.nm<k))<;>rw[hh] at HH
   ·have HE:=Lib.hid (vldR_no (g:=g) HY.out (by
     rw[Bool.and_eq_false_iff] at hh ⊢;rcases hh with hh|hh
     ·left;rw[hh];rfl
     ·right;simp at hh;simp;omega))
    have HHH:=Lib.hid HH;clear hh HH h0
    go_wp2_with (first
     |(at_lookup;refine wpList_lookup_own_ok_int _ rfl _ _ 154 rfl 9 3 .i64 lawS und_map und_int (zeroN _) w.heap.size g.length _ rfl hown0 _ _ rfl hkey ?_;intro cc hat hwc;rw[HHH.out])
     |go_in)
    go_ret;exact⟨ret_bool (by rw[HE.out]),bl⟩
   ·have HHH:=Lib.hid HH;rw[Bool.and_eq_true] at hh;have hh2:¬fndL r x.nm<k:=by have:=hh.2;simp at this;omega
    cases hf:frB k x.fr
    ·have HE:=Lib.hid (vldR_no (g:=g) HY.out (by rw[hf];simp));clear HH hh h0 hh2;rcases Nat.eq_zero_or_pos k with hp|hp
     ·unfold frB at hf;rw[if_pos hp] at hf;have hf':(x.fr != -1)=true:=by simpa using hf
      subst hp;simp only[Nat.zero_mul,Nat.add_zero] at c0 c1;clear hf
      go_wp2_with (first
       |(at_lookup;refine wpList_lookup_own_ok_int _ rfl _ _ 154 rfl 9 3 .i64 lawS und_map und_int (zeroN _) w.heap.size g.length _ rfl hown0 _ _ rfl hkey ?_;intro cc hat hwc;rw[HHH.out])
       |go_in)
      go_ret;exact⟨ret_bool (by rw[HE.out]),bl⟩
     ·unfold frB at hf;rw[if_neg (by omega)] at hf;have Q1:=Lib.hid (p_withinV hf);have q2:¬(k:Int)=0:=by omega
      have q3:(0:Int)<(k:Int):=by omega
      clear hf
      go_wp2_with (first
       |(at_lookup;refine wpList_lookup_own_ok_int _ rfl _ _ 154 rfl 9 3 .i64 lawS und_map und_int (zeroN _) w.heap.size g.length _ rfl hown0 _ _ rfl hkey ?_;intro cc hat hwc;rw[HHH.out])
       |(go_at_call 89;((with_reducible refine(Q1.out _).mono ?_);rintro e w' ⟨rfl,rfl⟩))
       |go_in)
      go_ret;exact⟨ret_bool (by rw[HE.out]),bl⟩
    ·have HE:=Lib.hid (okL_step (g:=g) HY.out HI.out (by rw[hf,hh.1];simp;omega));clear HH hh h0 hh2;rcases Nat.eq_zero_or_pos k with hp|hp
     ·unfold frB at hf;rw[if_pos hp] at hf;have hf':(x.fr != -1)=false:=by simpa using hf
      subst hp;simp only[Nat.zero_mul,Nat.add_zero] at c0 c1;clear hf
      go_wp2_with (first
       |(at_lookup;refine wpList_lookup_own_ok_int _ rfl _ _ 154 rfl 9 3 .i64 lawS und_map und_int (zeroN _) w.heap.size g.length _ rfl hown0 _ _ rfl hkey ?_;intro cc hat hwc;rw[HHH.out])
       |(at_delete;refine wpList_delete_own _ rfl _ _ 154 9 rfl 3 lawS und_map _ w.heap.size g.length _ rfl hown0 _ _ rfl hkey ?_;intro w1 hown1 hturn1)
       |go_in)
      have R1:=HX.out.symm▸hown1;have R2:=hB1.grown hturn1.grown hB1.size (fun j hj=>by cases hj;exact Nat.le_refl _);clear hown1 hturn1 hown0;go_wp2;go_roundw
      case rel=>exact⟨0+1,by omega,by go_num,R1,R2,HE⟩
      case measure=>simp[intOf];omega
     ·unfold frB at hf;rw[if_neg (by omega)] at hf;have Q1:=Lib.hid (p_withinV hf);have q2:¬(k:Int)=0:=by omega
      have q3:(0:Int)<(k:Int):=by omega
      clear hf
      go_wp2_with (first
       |(at_lookup;refine wpList_lookup_own_ok_int _ rfl _ _ 154 rfl 9 3 .i64 lawS und_map und_int (zeroN _) w.heap.size g.length _ rfl hown0 _ _ rfl hkey ?_;intro cc hat hwc;rw[HHH.out])
       |(at_delete;refine wpList_delete_own _ rfl _ _ 154 9 rfl 3 lawS und_map _ w.heap.size g.length _ rfl hown0 _ _ rfl hkey ?_;intro w1 hown1 hturn1)
       |(go_at_call 89;((with_reducible refine(Q1.out _).mono ?_);rintro e w' ⟨rfl,rfl⟩))
       |go_in)
      have R1:=HX.out.symm▸hown1;have R2:=hB1.grown hturn1.grown hB1.size (fun j hj=>by cases hj;exact Nat.le_refl _);clear hown1 hturn1 hown0;go_wp2;go_roundw
      case rel=>exact⟨k+1,by omega,by go_num,R1,R2,HE⟩
      case measure=>simp[intOf];omega
  ·obtain rfl:k=r.length:=by omega
   go_wp2_with (go_at_call 89;((with_reducible refine(p_within _ _ _ _).mono ?_);rintro e w' ⟨rfl,rfl⟩))
   go_ret;exact⟨ret_bool (by rw[vldR_yes HI.out]),hB⟩
theorem info_int2:∃i:TypeInfo,Tryz.prog.info? 3=some i∧i.zero=some (.int .i64 0)∧i.size=1∧i.bytes=8:=info_parts (by kernel_rfl)
theorem p_ValidRig (A B:Option Addr) (g:List It) (r:List Lk) (c d:Nat) (w:World) (hl:g.length<=100000) (hn:r.length<=100000) (hR:Rd It.cs 4 w A g) (hW:∀x∈g,IW x) (hS:Rd Lk.cs 2 w B r) (hV:∀x∈r,LW x):
  Calls Tryz.prog 275 #[.slice A g.length c,.slice B r.length d] w fun e w'=>e=.returned (.bool (vldG g&&vldR g r))∧Below w.heap.size w w':=by
 have H1:=Lib.hid (p_Valid A g c w hl hR hW);have H2:=Lib.hid (fun W (h:Below w.heap.size w W)=>p_validRig A B g r c d W hl hn (hR.on h) hW (hS.on h) hV);clear hR hS hW hV;cases h:vldG g<;>rw[h] at H1
 ·go_enter Tryz.func275,Tryz.ntmps275
  go_wp2_with (go_at_call 28;((with_reducible refine(H1.out).mono ?_);rintro e w1 ⟨rfl,hb1⟩;obtain⟨hc1,hf1,hz1⟩:=qz hb1))
  go_ret;exact⟨ret_bool (by simp),bl⟩
 ·go_enter Tryz.func275,Tryz.ntmps275
  go_wp2_with (first|(go_at_call 28;((with_reducible refine(H1.out).mono ?_);rintro e w1 ⟨rfl,hb1⟩;obtain⟨hc1,hf1,hz1⟩:=qz hb1))|(go_at_call 282;((with_reducible refine(H2.out _ hb1).mono ?_);rintro e w2 ⟨rfl,hb2⟩;obtain⟨hc2,hf2,hz2⟩:=qz hb2)))
  go_ret;exact⟨ret_bool (by simp),bl⟩
theorem p_ValidRigV {A B:Option Addr} {g:List It} {r:List Lk} {c d:Nat} {w:World} {b:Bool} (h:(vldG g&&vldR g r)=b) (hl:g.length<=100000) (hn:r.length<=100000) (hR:Rd It.cs 4 w A g) (hW:∀x∈g,IW x) (hS:Rd Lk.cs 2 w B r) (hV:∀x∈r,LW x):
  Calls Tryz.prog 275 #[.slice A g.length c,.slice B r.length d] w fun e w'=>e=.returned (.bool b)∧Below w.heap.size w w':=h▸p_ValidRig A B g r c d w hl hn hR hW hS hV
def fdI (g:List It) (s:ByteArray):Int:=if vldG g=true∧0<=fndI g s then fndI g s else 0
def fdE (g:List It) (s:ByteArray):Int:=if vldG g=true then (if 0<=fndI g s then 0 else 5) else 1
theorem p_Find (A:Option Addr) (g:List It) (c:Nat) (s:ByteArray) (w:World) (hl:g.length<=100000) (hR:Rd It.cs 4 w A g) (hW:∀x∈g,IW x) (hs:s.size<=maxLen):
  Calls Tryz.prog 280 #[.slice A g.length c,.string s] w fun e w'=>e=.returned (.tuple #[.int .i64 (fdI g s),.int .i64 (fdE g s)])∧Below w.heap.size w w':=by
 have H1:=Lib.hid (p_Valid A g c w hl hR hW);have H2:=Lib.hid (fun W (h:Below w.heap.size w W)=>p_byMark A g c W hl (hR.on h) hW);have hkey:=keyS hs;clear hR hW;cases h:vldG g
 ·rw[h] at H1;have HI:=Lib.hid (show fdI g s=0 by unfold fdI;rw[if_neg (by simp[h])]);have HE:=Lib.hid (show fdE g s=1 by unfold fdE;rw[if_neg (by simp[h])]);go_enter Tryz.func280,Tryz.ntmps280
  go_wp2_with (go_at_call 28;((with_reducible refine(H1.out).mono ?_);rintro e w1 ⟨rfl,hb1⟩;obtain⟨hc1,hf1,hz1⟩:=qz hb1))
  go_ret2;exact⟨by rw[HI.out,HE.out];rfl,bl⟩
 ·have HH:=mkD_has g s g.length (Nat.le_refl _);have HA:=mkD_at (vldG_dst h) s g.length (Nat.le_refl _);rw[h] at H1;obtain⟨f1,f2⟩:=fnd_bd g s;by_cases hf:0<=fndI g s
  ·rw[decide_eq_true (by omega)] at HH;rw[if_pos (by omega)] at HA;have HHH:=Lib.hid HH;have HAA:=Lib.hid HA;have HI:=Lib.hid (show fdI g s=fndI g s by unfold fdI;rw[if_pos ⟨h,by omega⟩]);have HE:=Lib.hid (show fdE g s=0 by unfold fdE;rw[if_pos h,if_pos (by omega)]);clear HH HA;go_enter Tryz.func280,Tryz.ntmps280
   go_wp2_with (first
    |(go_at_call 28;((with_reducible refine(H1.out).mono ?_);rintro e w1 ⟨rfl,hb1⟩;obtain⟨hc1,hf1,hz1⟩:=qz hb1))
    |(go_at_call 91;refine(H2.out _ hb1).mono ?_;rintro e w2 ⟨rfl,hown,hb2⟩)
    |(at_lookup;refine wpList_lookup_own_ok_int _ rfl _ _ 154 rfl 9 3 .i64 lawS und_map und_int (zeroN _) _ g.length _ rfl hown _ _ rfl hkey ?_;intro cc hat hwc;rw[HHH.out];rw[HAA.out] at hat;obtain rfl:fndI g s=cc:=by(cases hat;rfl)))
   go_ret2;exact⟨by rw[HI.out,HE.out];rfl,bl⟩
  ·rw[decide_eq_false (by omega)] at HH;have HHH:=Lib.hid HH;have HI:=Lib.hid (show fdI g s=0 by unfold fdI;rw[if_neg (by omega)]);have HE:=Lib.hid (show fdE g s=5 by unfold fdE;rw[if_pos h,if_neg (by omega)]);clear HH HA;go_enter Tryz.func280,Tryz.ntmps280
   go_wp2_with (first
    |(go_at_call 28;((with_reducible refine(H1.out).mono ?_);rintro e w1 ⟨rfl,hb1⟩;obtain⟨hc1,hf1,hz1⟩:=qz hb1))
    |(go_at_call 91;refine(H2.out _ hb1).mono ?_;rintro e w2 ⟨rfl,hown,hb2⟩)
    |(at_lookup;refine wpList_lookup_own_ok_int _ rfl _ _ 154 rfl 9 3 .i64 lawS und_map und_int (zeroN _) _ g.length _ rfl hown _ _ rfl hkey ?_;intro cc hat hwc;rw[HHH.out]))
   go_ret2;exact⟨by rw[HI.out,HE.out];rfl,bl⟩
theorem c_indexL (A:Option Addr) (l:List (Lk)) (c:Nat) (p:Lk->Bool) (f:FuncId) (cap:Array Value) (w:World) (hl:l.length<=100000) (hR:Rd Lk.cs 2 w A l)
  (he:∀args W,(callFunc f args).run Tryz.prog W=.ok (.enter f args) W)
  (hf:∀W x,Below w.heap.size w W->x∈l->Calls Tryz.prog f (#[lkV x]++cap) W fun e W'=>e=.returned (.bool (p x))∧Below W.heap.size W W'):
  Calls Tryz.prog 284 #[.slice A l.length c,.func (.func f) #[] cap] w fun e w'=>e=.returned (.int .i64 (idxOf p l 0))∧Below w.heap.size w w':=by
 have HF:=Lib.hid hf;clear hf;go_enter Tryz.func284,Tryz.ntmps284
 go_wp2;go_loopw [8] (fun i wr=>∃k:Nat,k<=l.length∧i=.int .i64 k∧Below w.heap.size w wr∧Hid (idxOf p l 0=idxOf p (l.drop k) k)) (fun i _=>l.length-(intOf i).toNat)
 case atStart=>exact⟨0,by omega,rfl,Below.refl _ _,rfl⟩
 case round=>
  obtain⟨k,hk,rfl,hB,HI⟩:=hrel;by_cases hlt:k<l.length
  ·obtain⟨x,b,off,hx,rfl,hb,c0,c1⟩:=rdL (hR.on hB) hlt;have HD:=Lib.hid (idxOf_drop p l k x hx);have hm:=List.mem_of_getElem? hx;have HC:=Lib.hid (HF.out wr x hB hm);clear hx hm;cases hp:p x
   all_goals
    have HP:=Lib.hid hp;clear hp;go_wp2_with fail
    refine HC.out.mono ?_;rintro e w1 ⟨rfl,hb1⟩;rw[HP.out];go_wp2
   ·go_roundw
    case rel=>exact⟨k+1,by omega,by go_num,hB.trans (hb1.mono hB.size),by rw[HI.out,HD.out,HP.out];rfl⟩
    case measure=>simp[intOf];omega
   ·go_ret;exact⟨ret_int (by rw[HI.out,HD.out,HP.out];rfl),hB.trans (hb1.mono hB.size)⟩
  ·go_wp2;go_ret;exact⟨ret_int (by rw[HI.out,List.drop_of_length_le (by omega)];rfl),hB⟩
theorem c_containsL (A:Option Addr) (l:List (Lk)) (c:Nat) (p:Lk->Bool) (f:FuncId) (cap:Array Value) (w:World) (hl:l.length<=100000) (hR:Rd Lk.cs 2 w A l)
  (he:∀args W,(callFunc f args).run Tryz.prog W=.ok (.enter f args) W)
  (hf:∀W x,Below w.heap.size w W->x∈l->Calls Tryz.prog f (#[lkV x]++cap) W fun e W'=>e=.returned (.bool (p x))∧Below W.heap.size W W'):
  Calls Tryz.prog 278 #[.slice A l.length c,.func (.func f) #[] cap] w fun e w'=>e=.returned (.bool (l.any p))∧Below w.heap.size w w':=by
 have HC:=Lib.hid (c_indexL A l c p f cap w hl hR he hf);have HA:=Lib.hid (idxOf_nonneg p l 0);clear he hf hR;go_enter Tryz.func278,Tryz.ntmps278
 go_wp2_with (go_at_call 284;refine HC.out.mono ?_;rintro e w' ⟨rfl,hb⟩)
 go_ret;exact⟨ret_bool (by rw[Bool.eq_iff_iff,←HA.out];simp),hb⟩
def isE (r:List Lk) (i:Int):Bool:=!(r.any fun x=>x.fr==i)
def endN (r:List Lk) (k:Nat):List Nat:=(List.range k).filter fun i=>isE r i
theorem endN_yes {r:List Lk} {k:Nat} (h:isE r k=true):endN r (k+1)=endN r k++[k]:=by
 unfold endN;rw[List.range_succ,List.filter_append];simp[h]
theorem endN_no {r:List Lk} {k:Nat} (h:isE r k=false):endN r (k+1)=endN r k:=by
 unfold endN;rw[List.range_succ,List.filter_append];simp[h]
theorem endN_len (r:List Lk) (k:Nat):(endN r k).length<=k:=by
 have:=List.length_filter_le (fun i:Nat=>isE r i) (List.range k);simpa[endN] using this
theorem p_isEnd1 (x:Lk) (n:Int) (bx:Nat) (w:World) (hc:w.cell? ⟨bx,0,none⟩=some (.int .i64 n)) (hb:bx<w.heap.size):
  Calls Tryz.prog 308 #[lkV x,.pointer (some ⟨bx,0,none⟩)] w fun e w'=>e=.returned (.bool (x.fr==n))∧Below w.heap.size w w':=by
 have hne:bx≠w.heap.size:=by omega
 go_enter Tryz.func308,Tryz.ntmps308
 go_wp2;go_ret;exact⟨rfl,bl⟩
theorem p_isEnd (B:Option Addr) (r:List Lk) (d:Nat) (n:Int) (w:World) (hn:r.length<=100000) (hS:Rd Lk.cs 2 w B r):
  Calls Tryz.prog 304 #[.slice B r.length d,.int .i64 n] w fun e w'=>e=.returned (.bool (isE r n))∧Below w.heap.size w w':=by
 have HC:=Lib.hid (fun W (h:Below w.heap.size w W) (hb:Blk W w.heap.size 3 #[.int .i64 n])=>c_containsL B r d (fun x=>x.fr==n) 308 #[.pointer (some ⟨w.heap.size,0,none⟩)] W hn (hS.on h) (enters_of Tryz.func308 (by kernel_rfl) rfl)
  (fun V x hV _=>p_isEnd1 x n w.heap.size V ((hb.below hV hb.lt).cell 0) (hb.below hV hb.lt).lt))
 clear hS;go_enter Tryz.func304,Tryz.ntmps304
 go_wp2_with (go_at_call 278;refine(HC.out _ (bl_alloc (below_refl _) _) (Blk.new _ _ _)).mono ?_;rintro e w1 ⟨rfl,hb1⟩;have hz1:=hb1.size;(try simp at hz1))
 go_ret;exact⟨rfl,bl⟩
theorem p_isEndV {B:Option Addr} {r:List Lk} {d:Nat} {n:Int} {w:World} {b:Bool} (h:isE r n=b) (hn:r.length<=100000) (hS:Rd Lk.cs 2 w B r):
  Calls Tryz.prog 304 #[.slice B r.length d,.int .i64 n] w fun e w'=>e=.returned (.bool b)∧Below w.heap.size w w':=h▸p_isEnd B r d n w hn hS
theorem p_ends (B:Option Addr) (r:List Lk) (d:Nat) (w:World) (hn:r.length<=100000) (hS:Rd Lk.cs 2 w B r):
  Calls Tryz.prog 296 #[.slice B r.length d] w fun e w'=>∃v,e=.returned v∧w'.ownsRow w.heap.size 3 1 v (endN r r.length).length (fl nC (endN r r.length))∧Below w.heap.size w w':=by
 obtain⟨i0,hi,hi1,hi2,hi3⟩:=info_int2;go_enter Tryz.func296,Tryz.ntmps296
 go_wp2;go_loopw [3,7] (fun v i wr=>∃k:Nat,k<=r.length∧i=.int .i64 k∧Below w.heap.size w wr∧wr.ownsRow w.heap.size 3 1 v (endN r k).length (fl nC (endN r k))) (fun _ i _=>r.length-(intOf i).toNat)
 case atStart=>exact⟨0,by omega,rfl,Below.refl _ _,World.ownsRow_nil w _ _ _⟩
 case round=>
  obtain⟨k,hk,rfl,hbw,hown⟩:=hrel;obtain⟨ad,cp,rfl⟩:=own_slice hown;have hlen:=endN_len r k;by_cases hlt:k<r.length
  ·have k0:=nn k;have k1:(k:Int)<(r.length:Int):=by omega
   cases he:isE r k
   ·have HE:=Lib.hid (p_isEndV (d:=d) he hn (hS.on hbw));have HST:=Lib.hid (endN_no he);clear he;go_wp2_with (go_at_call 304;((with_reducible refine(HE.out).mono ?_);rintro e w1 ⟨rfl,hb1⟩;obtain⟨hc1,hf1,hz1⟩:=qz hb1))
    go_roundw
    case rel=>exact⟨k+1,by omega,by go_num,bl,by rw[HST.out];exact own_on hown hb1⟩
    case measure=>simp[intOf];omega
   ·have HE:=Lib.hid (p_isEndV (d:=d) he hn (hS.on hbw));have HST:=Lib.hid (endN_yes he);clear he
    go_wp2_with (first
     |((go_at_call 304;((with_reducible refine(HE.out).mono ?_);rintro e w1 ⟨rfl,hb1⟩;obtain⟨hc1,hf1,hz1⟩:=qz hb1));have hown1:=own_on hown hb1;have hbw1:Below w.heap.size w w1:=bl)
     |(at_builtin;refine wpList_append_own _ rfl _ _ 40 rfl w.heap.size 3 i0 (.int .i64 0) 1 8 (by kernel_rfl) hi hi1 hi2 hi3 rfl (by omega) _ _ _ rfl (hown1.alloc _) ⟨w1.heap.size,0,none⟩ 1 1 [.int .i64 k] rfl rfl (cells_new w1 [.int .i64 k] 3) (fun u hu=>by simp at hu;subst hu;rfl) (by unfold maxLen;omega) (by omega) (by simp;have:=hbw1.size;omega) ?_;intro v' w4 hown4 hgrow _))
    go_roundw
    case rel=>exact⟨k+1,by omega,by go_num,bl_app hbw1 hown1 hgrow (Nat.le_refl _) hbw1.size,by rw[HST.out,fl_snoc,List.length_append];exact hown4⟩
    case measure=>simp[intOf];omega
  ·obtain rfl:k=r.length:=by omega
   go_wp2;go_ret;exact⟨_,rfl,hown,hbw⟩
def endZ (r:List Lk):List Int:=(endN r r.length).map fun n:Nat=>(n:Int)
theorem fl_nz (l:List Nat):fl nC l=fl zC (l.map fun n:Nat=>(n:Int)):=by
 induction l with
 |nil=>rfl
 |cons x l ih=>simp only[fl,List.map_cons,List.flatMap_cons] at ih ⊢;rw[ih];rfl
theorem nz_own {w:World} {b:Nat} {v:Value} {l:List Nat} (h:w.ownsRow b 3 1 v l.length (fl nC l)):w.ownsRow b 3 1 v (l.map fun n:Nat=>(n:Int)).length (fl zC (l.map fun n:Nat=>(n:Int))):=by
 rw[fl_nz] at h;rwa [List.length_map]
theorem own_ints {w:World} {b:Nat} {v:Value} {l:List Int} (h:w.ownsRow b 3 1 v l.length (fl zC l)):∃A c,v=.slice A l.length c∧Rd zC 1 w A l:=own_rd zC_len h
theorem p_endsZ (B:Option Addr) (r:List Lk) (d:Nat) (w:World) (hn:r.length<=100000) (hS:Rd Lk.cs 2 w B r):
  Calls Tryz.prog 296 #[.slice B r.length d] w fun e w'=>∃v,e=.returned v∧w'.ownsRow w.heap.size 3 1 v (endZ r).length (fl zC (endZ r))∧Below w.heap.size w w':=by
 refine(p_ends B r d w hn hS).mono ?_;rintro e w' ⟨v,rfl,h,hb⟩;exact⟨v,rfl,nz_own h,hb⟩
abbrev onE (E:Int) (l:List Int):List Int:=if E=0 then l else []
def LI (w:World) (g:Nat) (l:List Int):Prop:=∃cur,Blk w g 3 cur∧InRow zC 1 cur l
theorem LI.lt {w:World} {g:Nat} {l:List Int} (h:LI w g l):g<w.heap.size:=by obtain⟨_,h,_⟩:=h;exact h.lt
theorem LI.cell {w:World} {g:Nat} {l:List Int} (h:LI w g l) {k:Nat} {x:Int} (hx:l[k]?=some x):w.cell? ⟨g,k,none⟩=some (.int .i64 x):=by
 obtain⟨cur,hb,hr⟩:=h;have:=hr k x hx 0 _ rfl;rw[Nat.mul_one,Nat.add_zero] at this;rw[hb.cell];exact this
theorem LI.frozen {w:World} {g:Nat} {l:List Int} (h:LI w g l) (k:Nat):w.frozen? ⟨g,k,none⟩=false:=by obtain⟨_,h,_⟩:=h;exact h.frozen k
theorem LI.rd {w:World} {g:Nat} {l:List Int} (h:LI w g l):Rd zC 1 w (some ⟨g,0,none⟩) l:=by obtain⟨_,h,hr⟩:=h;exact row_rd h hr
theorem inrow_set {cur:Array Value} {l:List Int} {k:Nat} {x:Int} (y:Int) (hc:InRow zC 1 cur l) (hx:l[k]?=some x):InRow zC 1 (cur.setIfInBounds k (.int .i64 y)) (l.set k y):=fun k' z hz r u hu=>by
 have hr:r=0:=by
  rcases Nat.lt_or_ge r 1 with h|h
  ·omega
  ·rw[List.getElem?_eq_none (by rw[zC_len];exact h)] at hu;cases hu
 subst hr;rw[Nat.mul_one,Nat.add_zero];have h1:=hc k x hx 0 _ rfl;rw[Nat.mul_one,Nat.add_zero] at h1;have l1:=(Array.getElem?_eq_some_iff.1 h1).1;have hkl:k<l.length:=(List.getElem?_eq_some_iff.1 hx).1;by_cases hk:k=k'
 ·subst hk;rw[List.getElem?_set_self hkl] at hz;cases hz;rw[Array.getElem?_setIfInBounds_self_of_lt l1];exact hu
 ·rw[List.getElem?_set_ne hk] at hz;rw[Array.getElem?_setIfInBounds_ne hk];have:=hc k' z hz 0 u hu;rwa [Nat.mul_one,Nat.add_zero] at this
theorem LI.set {w:World} {g:Nat} {l:List Int} (h:LI w g l) {k:Nat} {x:Int} (hx:l[k]?=some x) (y:Int):LI (w.setCell ⟨g,k,none⟩ (.int .i64 y)) g (l.set k y):=by
 obtain⟨cur,hb,hr⟩:=h;exact⟨_,hb.set_ _ _,inrow_set y hr hx⟩
theorem LI.alloc {w:World} {g:Nat} {l:List Int} (h:LI w g l) (o:Obj):LI (w.alloc o) g l:=by obtain⟨c,h,hr⟩:=h;exact⟨c,h.alloc o,hr⟩
theorem LI.far {w:World} {g:Nat} {l:List Int} (h:LI w g l) {p:Addr} (hp:g≠p.block) (u:Value):LI (w.setCell p u) g l:=by obtain⟨c,h,hr⟩:=h;exact⟨c,h.far hp u,hr⟩
theorem LI.drew {w:World} {g:Nat} {l:List Int} (h:LI w g l):LI w.drew g l:=h
theorem LI.drewN {w:World} {g:Nat} {l:List Int} (h:LI w g l) (n:Nat):LI (w.drewN n) g l:=h
theorem LI.below {w w':World} {g B:Nat} {l:List Int} (h:LI w g l) (hb:Below B w w') (hg:g<B):LI w' g l:=by obtain⟨c,h,hr⟩:=h;exact⟨c,h.below hb hg,hr⟩
theorem LI.on {w w':World} {g:Nat} {l:List Int} (h:LI w g l) (hb:Below w.heap.size w w'):LI w' g l:=h.below hb h.lt
theorem LI.grown {w w':World} {g:Nat} {l:List Int} {row:Option Nat} (h:LI w g l) (k:w.grownBy w' row) (hn:some g≠row):LI w' g l:=by obtain⟨c,h,hr⟩:=h;exact⟨c,h.grown k hn,hr⟩
theorem own_LI {w:World} {b:Nat} {v:Value} {l:List Int} (h:w.ownsRow b 3 1 v l.length (fl zC l)) (h0:0<l.length):∃g cap,v=.slice (some ⟨g,0,none⟩) l.length cap∧b<=g∧LI w g l:=by
 obtain⟨g,cap,cur,e,hg,hb,hr⟩:=own_row zC_len h h0;exact⟨g,cap,e,hg,cur,hb,hr⟩
structure VR (g:List It) (r:List Lk):Prop where
 l0:1<=r.length
 l1:r.length<=32
 lg:g.length<=64
 fr:∀(k:Nat) (x:Lk),r[k]?=some x->frB k x.fr=true
 fnd:∀(k:Nat) (x:Lk),r[k]?=some x->0<=fndI g x.nm
 dst:∀(k:Nat) (x:Lk),r[k]?=some x->fndL r x.nm=k
 vg:vldG g=true
theorem vr_of {g:List It} {r:List Lk} (h:(vldG g&&vldR g r)=true):VR g r:=by
 rw[Bool.and_eq_true] at h;obtain⟨h1,h2⟩:=h;have h3:=h2;unfold vldR at h2;rw[Bool.and_eq_true,List.all_eq_true,wn_iff] at h2;obtain⟨h4,h5,h6⟩:=h2;have h7:=h1;unfold vldG at h7;rw[Bool.and_eq_true] at h7;have hk:∀(k:Nat) (x:Lk),r[k]?=some x->(0<=fndI g x.nm∧frB k x.fr=true)∧fndL r x.nm=k:=by
  intro k x hx;have:=h4 k (by simpa using(List.getElem?_eq_some_iff.1 hx).1);unfold okL at this;rw[lkAt_of hx] at this;rw[Bool.and_eq_true,Bool.and_eq_true] at this;have h8:=fndl_of hx rfl;have h9:=this.2;simp at h9;exact⟨⟨by simpa using this.1.1,this.1.2⟩,by omega⟩
 exact⟨by omega,by omega,by simpa using h7.2,fun k x hx=>(hk k x hx).1.2,fun k x hx=>(hk k x hx).1.1,fun k x hx=>(hk k x hx).2,h1⟩
theorem VR.frs {g:List It} {r:List Lk} (h:VR g r) {k:Nat} {x:Lk} (hx:r[k]?=some x):-1<=x.fr∧x.fr<k∧(x.fr<0↔k=0):=by
 have:=h.fr k x hx;unfold frB at this;by_cases hk:k=0
 ·rw[if_pos hk] at this;have:x.fr=-1:=by simpa using this
  omega
 ·rw[if_neg hk,wn_iff] at this;omega
def itR (g:List It) (x:Lk):It:=itAt g (fndI g x.nm).toNat
theorem VR.it {g:List It} {r:List Lk} (h:VR g r) {k:Nat} {x:Lk} (hx:r[k]?=some x):g[(fndI g x.nm).toNat]?=some (itR g x)∧sndI (itR g x)=true:=by
 have h1:=h.fnd k x hx;have h2:=(fnd_bd g x.nm).2;obtain⟨y,hy⟩:=get_lt (show(fndI g x.nm).toNat<g.length by omega);have e:itR g x=y:=itAt_of hy;rw[e];refine⟨hy,?_⟩;have h3:=h.vg;rw[vldG_is,Bool.and_eq_true,Bool.and_eq_true,List.all_eq_true] at h3;exact h3.2.1 y (List.mem_of_getElem? hy)
theorem snd_ld {x:It} (h:sndI x=true):(1<=x.ld∧x.ld<=1000000)∧0<=x.du∧x.du<=100000:=by
 unfold sndI at h;simp only[Bool.and_eq_true,wn_iff] at h;exact⟨h.1.2,h.2⟩
def ldL (g:List It) (r:List Lk):List Int:=r.map fun x=>(itR g x).ld
theorem VR.ld {g:List It} {r:List Lk} (h:VR g r) {k:Nat} {n:Int} (hx:(ldL g r)[k]?=some n):1<=n∧n<=1000000:=by
 unfold ldL at hx;rw[List.getElem?_map] at hx;cases hr:r[k]? with
 |none=>rw[hr] at hx;cases hx
 |some x=>
  rw[hr] at hx;cases hx;exact(snd_ld (h.it hr).2).1
def chF (r:List Lk):Nat->Int->List Nat
 |0,_=>[]
 |f+1,i=>if i<0 then [] else i.toNat::chF r f (lkAt r i.toNat).fr
theorem chF_s (r:List Lk) (f:Nat) (i:Int):chF r (f+1) i=if i<0 then [] else i.toNat::chF r f (lkAt r i.toNat).fr:=rfl
def chn (r:List Lk) (i:Int):List Nat:=chF r (i+1).toNat i
theorem chn_neg {r:List Lk} {i:Int} (h:i<0):chn r i=[]:=by
 unfold chn;cases (i+1).toNat with
 |zero=>rfl
 |succ f=>unfold chF;rw[if_pos h]
theorem chF_any {g:List It} {r:List Lk} (h:VR g r):∀(f:Nat) (i:Int),i<r.length->(i+1).toNat<=f->chF r f i=chn r i
 |0,i,hi,hf=>by rw[chn_neg (by omega)];rfl
 |f+1,i,hi,hf=>by
  by_cases hn:i<0
  ·rw[chn_neg hn];unfold chF;rw[if_pos hn]
  ·obtain⟨n,rfl⟩:=Int.eq_ofNat_of_zero_le (show 0<=i by omega);obtain⟨x,hx⟩:=get_lt (show n<r.length by omega);have hfr:=h.frs hx;rw[chn,show((n:Int)+1).toNat=n+1 by omega,chF_s,if_neg hn,chF_s,if_neg hn,show((n:Int)).toNat=n by omega,lkAt_of hx];congr 1;rw[chF_any h f x.fr (by omega) (by omega),chF_any h n x.fr (by omega) (by omega)]
theorem chn_step {g:List It} {r:List Lk} (h:VR g r) {n:Nat} {x:Lk} (hx:r[n]?=some x):chn r (n:Int)=n::chn r x.fr:=by
 have hn:=(List.getElem?_eq_some_iff.1 hx).1;have hfr:=h.frs hx;rw[←chF_any h (n+1) n (by omega) (by omega)];rw[chF_s,if_neg (by omega),show((n:Int)).toNat=n by omega,lkAt_of hx,chF_any h n x.fr (by omega) (by omega)]
theorem chn_lt {g:List It} {r:List Lk} (h:VR g r):∀(f:Nat) (i:Int),i<r.length->(i+1).toNat<=f->∀n∈chn r i,(n:Int)<=i
 |0,i,hi,hf,n,hn=>by rw[chn_neg (by omega)] at hn;cases hn
 |f+1,i,hi,hf,n,hn=>by
  by_cases hneg:i<0
  ·rw[chn_neg hneg] at hn;cases hn
  ·obtain⟨m,rfl⟩:=Int.eq_ofNat_of_zero_le (show 0<=i by omega);obtain⟨x,hx⟩:=get_lt (show m<r.length by omega);have hfr:=h.frs hx;rw[chn_step h hx] at hn;rcases List.mem_cons.1 hn with rfl|hn
   ·omega
   ·have:=chn_lt h f x.fr (by omega) (by omega) n hn;omega
theorem getD_of {l:List Int} {k:Nat} {x:Int} (h:l[k]?=some x):l.getD k 0=x:=by simp[List.getD_eq_getElem?_getD,h]
theorem end_pos {g:List It} {r:List Lk} (h:VR g r):0<(endN r r.length).length:=by
 have h0:=h.l0;have hm:r.length-1∈endN r r.length:=by
  unfold endN;rw[List.mem_filter];refine⟨by simp;omega,?_⟩;unfold isE;rw[Bool.not_eq_true',List.any_eq_false];intro x hx;obtain⟨k,hk⟩:=List.getElem?_of_mem hx;have:=(h.frs hk).2.1;have hl:=(List.getElem?_eq_some_iff.1 hk).1;simp;omega
 exact List.length_pos_of_mem hm
theorem endN_lt {r:List Lk} {k n:Nat} (h:(endN r r.length)[k]?=some n):n<r.length:=by
 have:=List.mem_of_getElem? h;unfold endN at this;rw[List.mem_filter] at this;simpa using this.1
def subC (l:List Int) (n:Int) (c:List Nat):List Int:=c.foldl (fun l i=>l.set i (l.getD i 0-n)) l
def Bd (l:List Int):Prop:=∀(i:Nat) (x:Int),l[i]?=some x->0<=x∧x<=1000000
theorem Bd.getD {l:List Int} (h:Bd l) (i:Nat):0<=l.getD i 0∧l.getD i 0<=1000000:=by
 cases hx:l[i]? with
 |none=>simp[List.getD_eq_getElem?_getD,hx]
 |some x=>rw[getD_of hx];exact h i x hx
theorem fits_wrap {n:Int} (h:-9223372036854775808<=n∧n<=9223372036854775807):IntKind.i64.wrap n=n:=by
 simp only[IntKind.wrap,IntKind.bits,IntKind.signed];simp;omega
theorem info_item:∃i:TypeInfo,Tryz.prog.info? 67=some i∧i.zero=some (.agg #[.string ByteArray.empty,.int .i64 0,.int .i64 0,.string ByteArray.empty])∧i.size=4∧i.bytes=48:=info_parts (by kernel_rfl)
def lkE (g:List It) (s:ByteArray) (d:Int):Int:=if vldG g=true then (if wn d 0 100000=true then (if 0<=fndI g s then 0 else 5) else 7) else 1
def setDu (g:List It) (i:Nat) (d:Int):List It:=g.set i ⟨(itAt g i).nm,(itAt g i).ld,d,(itAt g i).bt⟩
def lkL (g:List It) (s:ByteArray) (d:Int):List It:=if lkE g s d=0 then setDu g (fndI g s).toNat d else []
theorem vldG_len {g:List It} (h:vldG g=true):g.length<=64:=by
 unfold vldG at h;rw[Bool.and_eq_true] at h;simpa using h.2
section
variable {P:Program} (w:World)
theorem step_append_grows {ops:Array Oper} {o:Oper} {a:Act} {K:Act->World->Prop} {Q:Exit->Act->World->Prop} {E:Prop} (hgd:o.guard=none) (s x:Operand) (t:TypeId)
  (ho:o.op=.call {callee:=.builtin .append,args:=#[s,x],argTypes:=#[t,t]})
  (e:TypeId) (i:TypeInfo) (z:Value) (size bytes:Nat) (ht:P.underlying t=some (.slice e)) (hi:P.info? e=some i) (hz:i.zero=some z)
  (hsize:i.size=size) (hby:i.bytes=bytes) (hzs:z.cells.size=size) (hsz:0<size)
  (b:Addr) (n cap:Nat) (olds:List Value) (hs:a.eval s=.slice (some b) n cap) (hlo:olds.length=n*size) (holds:∀j u,olds[j]?=some u->w.cell? (b.add j)=some u)
  (ad:Addr) (m c:Nat) (news:List Value) (hx:a.eval x=.slice (some ad) m c) (hl:news.length=m*size) (hnews:∀j u,news[j]?=some u->w.cell? (ad.add j)=some u)
  (hg:cap<n+m) (h63:n+m<=maxLen) (hbytes:(n+m)*bytes<=140737488355328)
  (h:∀v' w',w'.ownsRow w.heap.size e size v' (n+m) (olds++news)->w.grownBy w' none->K (a.put o.dst v') w'):
  if Region.wanted o (yielded ops a.tmps)=true then Oper.wp P o a w K Q else E:=by
 have hw:Region.wanted o (yielded ops a.tmps)=true:=by simp[Region.wanted,hgd]
 rw[if_pos hw];obtain⟨v',w',hrun,r1,r2⟩:=run_append_arg_grows (P:=P) w t o.type e i z size bytes ht hi hz hsize hby hzs hsz b n cap olds hlo holds ad m c news hl hnews hg h63 hbytes;unfold Oper.wp;simp[execOp,ho,resolve,invoke,builtin,hs,hx,hrun,Result.andThen];exact h v' w' r1 r2
theorem step_append_own {ops:Array Oper} {o:Oper} {a:Act} {K:Act->World->Prop} {Q:Exit->Act->World->Prop} {E:Prop} (hgd:o.guard=none) (s x:Operand) (t:TypeId)
  (ho:o.op=.call {callee:=.builtin .append,args:=#[s,x],argTypes:=#[t,t]})
  (base:Nat) (e:TypeId) (i:TypeInfo) (z:Value) (size bytes:Nat) (ht:P.underlying t=some (.slice e)) (hi:P.info? e=some i) (hz:i.zero=some z)
  (hsize:i.size=size) (hby:i.bytes=bytes) (hzs:z.cells.size=size) (hsz:0<size)
  (v:Value) (n:Nat) (xs:List Value) (hs:a.eval s=v) (hown:w.ownsRow base e size v n xs)
  (ad:Addr) (m c:Nat) (news:List Value) (hx:a.eval x=.slice (some ad) m c) (hl:news.length=m*size) (hnews:∀j u,news[j]?=some u->w.cell? (ad.add j)=some u) (h1:∀u∈news,u.oneCell'=true)
  (h63:n+m<=maxLen) (hbytes:(n+m)*bytes<=140737488355328) (hbase:base<=w.heap.size)
  (h:∀v' w',w'.ownsRow base e size v' (n+m) (xs++news)->w.grownBy w' v.ownBlock->K (a.put o.dst v') w'):
  if Region.wanted o (yielded ops a.tmps)=true then Oper.wp P o a w K Q else E:=by
 have hw:Region.wanted o (yielded ops a.tmps)=true:=by simp[Region.wanted,hgd]
 rw[if_pos hw];obtain⟨v',w',hrun,r1,r2,_⟩:=run_append_own (P:=P) w base t o.type e i z size bytes ht hi hz hsize hby hzs hsz v n xs hown ad m c news hl hnews h1 h63 hbytes hbase;unfold Oper.wp;simp[execOp,ho,resolve,invoke,builtin,hs,hx,hrun,Result.andThen];exact h v' w' r1 r2
end
theorem rdI_take {w:World} {A:Option Addr} {l:List It} (h:Rd It.cs 4 w A l) (n:Nat):Rd It.cs 4 w A (l.take n):=fun hne=>by
 obtain⟨b,off,e,hb,hc⟩:=h (by rintro rfl;simp at hne);refine⟨b,off,e,hb,fun k x hx j v hv=>hc k x ?_ j v hv⟩;rw[List.getElem?_take] at hx;split at hx
 ·exact hx
 ·cases hx
theorem rdI_drop {w:World} {b off:Nat} {l:List It} (h:Rd It.cs 4 w (some ⟨b,off,none⟩) l) (n:Nat):Rd It.cs 4 w (some ⟨b,off+n*4,none⟩) (l.drop n):=fun hne=>by
 obtain⟨b',off',e,hb,hc⟩:=h (by rintro rfl;simp at hne);cases e;refine⟨b,off+n*4,rfl,hb,fun k x hx j v hv=>?_⟩;rw[List.getElem?_drop] at hx;rw[show off+n*4+k*4+j=off+(n+k)*4+j by omega];exact hc _ x hx j v hv
theorem c_indexZ (A:Option Addr) (l:List (Int)) (c:Nat) (p:Int->Bool) (f:FuncId) (cap:Array Value) (w:World) (hl:l.length<=100000) (hR:Rd zC 1 w A l)
  (he:∀args W,(callFunc f args).run Tryz.prog W=.ok (.enter f args) W)
  (hf:∀W x,Below w.heap.size w W->x∈l->Calls Tryz.prog f (#[.int .i64 x]++cap) W fun e W'=>e=.returned (.bool (p x))∧Below W.heap.size W W'):
  Calls Tryz.prog 252 #[.slice A l.length c,.func (.func f) #[] cap] w fun e w'=>e=.returned (.int .i64 (idxOf p l 0))∧Below w.heap.size w w':=by
 have HF:=Lib.hid hf;clear hf;go_enter Tryz.func252,Tryz.ntmps252
 go_wp2;go_loopw [8] (fun i wr=>∃k:Nat,k<=l.length∧i=.int .i64 k∧Below w.heap.size w wr∧Hid (idxOf p l 0=idxOf p (l.drop k) k)) (fun i _=>l.length-(intOf i).toNat)
 case atStart=>exact⟨0,by omega,rfl,Below.refl _ _,rfl⟩
 case round=>
  obtain⟨k,hk,rfl,hB,HI⟩:=hrel;by_cases hlt:k<l.length
  ·obtain⟨x,b,off,hx,rfl,hb,c0⟩:=rd_int (hR.on hB) hlt;have HD:=Lib.hid (idxOf_drop p l k x hx);have hm:=List.mem_of_getElem? hx;have HC:=Lib.hid (HF.out wr x hB hm);clear hx hm;cases hp:p x
   all_goals
    have HP:=Lib.hid hp;clear hp;go_wp2_with fail
    refine HC.out.mono ?_;rintro e w1 ⟨rfl,hb1⟩;rw[HP.out];go_wp2
   ·go_roundw
    case rel=>exact⟨k+1,by omega,by go_num,hB.trans (hb1.mono hB.size),by rw[HI.out,HD.out,HP.out];rfl⟩
    case measure=>simp[intOf];omega
   ·go_ret;exact⟨ret_int (by rw[HI.out,HD.out,HP.out];rfl),hB.trans (hb1.mono hB.size)⟩
  ·go_wp2;go_ret;exact⟨ret_int (by rw[HI.out,List.drop_of_length_le (by omega)];rfl),hB⟩
theorem c_containsZ (A:Option Addr) (l:List (Int)) (c:Nat) (p:Int->Bool) (f:FuncId) (cap:Array Value) (w:World) (hl:l.length<=100000) (hR:Rd zC 1 w A l)
  (he:∀args W,(callFunc f args).run Tryz.prog W=.ok (.enter f args) W)
  (hf:∀W x,Below w.heap.size w W->x∈l->Calls Tryz.prog f (#[.int .i64 x]++cap) W fun e W'=>e=.returned (.bool (p x))∧Below W.heap.size W W'):
  Calls Tryz.prog 239 #[.slice A l.length c,.func (.func f) #[] cap] w fun e w'=>e=.returned (.bool (l.any p))∧Below w.heap.size w w':=by
 have HC:=Lib.hid (c_indexZ A l c p f cap w hl hR he hf);have HA:=Lib.hid (idxOf_nonneg p l 0);clear he hf hR;go_enter Tryz.func239,Tryz.ntmps239
 go_wp2_with (go_at_call 252;refine HC.out.mono ?_;rintro e w' ⟨rfl,hb⟩)
 go_ret;exact⟨ret_bool (by rw[Bool.eq_iff_iff,←HA.out];simp),hb⟩
def okZ (n:Int):Bool:=wn n 0 1000000
def ldE (r:List Lk) (L:List Int):Int:=if L.length=(endN r r.length).length then (if L.all okZ=true then 0 else 7) else 9
theorem endZ_len2 (r:List Lk):(endZ r).length=(endN r r.length).length:=by unfold endZ;rw[List.length_map]
theorem p_loaded1 (n:Int) (w:World):Calls Tryz.prog 305 #[.int .i64 n] w fun e w'=>e=.returned (.bool (!okZ n))∧Below w.heap.size w w':=by
 go_enter Tryz.func305,Tryz.ntmps305
 go_wp2_with (go_at_call 89;((with_reducible refine(p_within n 0 1000000 _).mono ?_);rintro e w' ⟨rfl,rfl⟩))
 go_ret;exact⟨rfl,below_refl _⟩
theorem any_nok (L:List Int):(L.any fun x=>!okZ x)=!L.all okZ:=by induction L<;>simp_all
theorem p_loaded (B C:Option Addr) (r:List Lk) (L:List Int) (d f:Nat) (w:World) (hn:r.length<=100000) (hl:L.length<=100000) (hS:Rd Lk.cs 2 w B r) (hL:Rd zC 1 w C L):
  Calls Tryz.prog 297 #[.slice B r.length d,.slice C L.length f] w fun e w'=>e=.returned (.int .i64 (ldE r L))∧Below w.heap.size w w':=by
 have H1:=Lib.hid (p_endsZ B r d w hn hS);have H2:=Lib.hid (fun W (h:Below w.heap.size w W)=>c_containsZ C L f (fun x=>!okZ x) 305 #[] W hl (hL.on h) (enters_of Tryz.func305 (by kernel_rfl) rfl) (fun V x _ _=>p_loaded1 x V));rw[any_nok] at H2;have HEL:=Lib.hid (endZ_len2 r);by_cases h1:L.length=(endN r r.length).length
 rotate_left
 ·have HE:=Lib.hid (show ldE r L=9 by unfold ldE;rw[if_neg h1]);have h2:((L.length:Int) != ((endZ r).length:Int))=true:=by rw[HEL.out];simp;omega
  generalize endZ r=E at *;clear h1 hS hL;go_enter Tryz.func297,Tryz.ntmps297
  go_wp2_with (go_at_call 296;((with_reducible refine(H1.out).mono ?_);rintro e w1 ⟨v,rfl,hv,hb1⟩;obtain⟨A1,c1,rfl,_⟩:=own_ints hv))
  go_ret;exact⟨ret_int (by rw[HE.out]),hb1⟩
 ·have h2:((L.length:Int) != ((endZ r).length:Int))=false:=by rw[HEL.out];simp;omega
  have HE:=Lib.hid (show ldE r L=if L.all okZ=true then 0 else 7 by unfold ldE;rw[if_pos h1]);generalize endZ r=E at *;clear h1 hS hL;cases h3:L.all okZ<;>rw[h3] at H2 HE
  ·go_enter Tryz.func297,Tryz.ntmps297
   go_wp2_with (first
    |(go_at_call 296;((with_reducible refine(H1.out).mono ?_);rintro e w1 ⟨v,rfl,hv,hb1⟩;obtain⟨A1,c1,rfl,_⟩:=own_ints hv))
    |(go_at_call 239;refine(H2.out _ hb1).mono ?_;rintro e w2 ⟨rfl,hb2⟩))
   go_ret;exact⟨ret_int (by rw[HE.out];rfl),below_tr hb1 hb2⟩
  ·go_enter Tryz.func297,Tryz.ntmps297
   go_wp2_with (first
    |(go_at_call 296;((with_reducible refine(H1.out).mono ?_);rintro e w1 ⟨v,rfl,hv,hb1⟩;obtain⟨A1,c1,rfl,_⟩:=own_ints hv))
    |(go_at_call 239;refine(H2.out _ hb1).mono ?_;rintro e w2 ⟨rfl,hb2⟩))
   go_ret;exact⟨ret_int (by rw[HE.out];rfl),below_tr hb1 hb2⟩
def boS (r:List Lk) (L:List Int) (E:List Nat):Nat->List Int
 |0=>List.replicate r.length 0
 |k+1=>subC (boS r L E k) (-(L.getD k 0)) (chn r ((E.getD k 0:Nat):Int))
def boZ (r:List Lk) (L:List Int):List Int:=boS r L (endN r r.length) (endN r r.length).length
def Bm (m:Int) (l:List Int):Prop:=∀(i:Nat) (x:Int),l[i]?=some x->0<=x∧x<=m
theorem made_ints (n:Nat):(madeCells (Value.int .i64 0).cells (n*1)).toList=fl zC (List.replicate n 0):=by
 have:(Value.int .i64 0).cells=#[.int .i64 0]:=rfl;rw[this,Nat.mul_one,toList_madeCells_one];induction n with
 |zero=>rfl
 |succ n ih=>rw[List.replicate_succ,ih,List.replicate_succ];rfl
theorem addC_bd {g:List It} {r:List Lk} (hv:VR g r) {N P:Int} (hN:0<=N):∀(f:Nat) (j:Int) (M:List Int),j<r.length->(j+1).toNat<=f->M.length=r.length->Bm (P+N) M->(∀i∈chn r j,M.getD i 0<=P)->Bm (P+N) (subC M (-N) (chn r j))∧(subC M (-N) (chn r j)).length=r.length
 |0,j,M,hj,hf,hl,hb,hn=>by rw[chn_neg (by omega)];exact⟨hb,hl⟩
 |f+1,j,M,hj,hf,hl,hb,hn=>by
  by_cases hneg:j<0
  ·rw[chn_neg hneg];exact⟨hb,hl⟩
  ·obtain⟨m,rfl⟩:=Int.eq_ofNat_of_zero_le (show 0<=j by omega);obtain⟨z,hz⟩:=get_lt (show m<r.length by omega);obtain⟨t,ht⟩:=get_lt (show m<M.length by omega);have hfz:=hv.frs hz;rw[chn_step hv hz] at hn ⊢;have hmt:=hn m (List.mem_cons_self ..);rw[getD_of ht] at hmt;have h0:=hb m t ht;have e:subC M (-N) (m::chn r z.fr)=subC (M.set m (t+N)) (-N) (chn r z.fr):=by unfold subC;rw[List.foldl_cons,getD_of ht,Int.sub_neg]
   rw[e];refine addC_bd hv hN f z.fr _ (by omega) (by omega) (by rw[List.length_set];exact hl) ?_ ?_
   ·intro i x hx;by_cases hi:m=i
    ·subst hi;rw[List.getElem?_set_self (List.getElem?_eq_some_iff.1 ht).1] at hx;cases hx;omega
    ·rw[List.getElem?_set_ne hi] at hx;exact hb i x hx
   ·intro i hi;have hlt2:=chn_lt hv (m+1) z.fr (by omega) (by omega) i hi;rw[List.getD_eq_getElem?_getD,List.getElem?_set_ne (by omega),←List.getD_eq_getElem?_getD];exact hn i (List.mem_cons_of_mem _ hi)
theorem bm_getD {m:Int} {l:List Int} (h:Bm m l) (hm:0<=m) (i:Nat):l.getD i 0<=m:=by
 cases hx:l[i]? with
 |none=>rw[List.getD_eq_getElem?_getD,hx];simpa using hm
 |some x=>rw[getD_of hx];exact(h i x hx).2
theorem boS_bd {g:List It} {r:List Lk} (hv:VR g r) {L:List Int} (hL:L.all okZ=true) (hl:L.length=(endN r r.length).length):∀k,k<=L.length->(boS r L (endN r r.length) k).length=r.length∧Bm (1000000*k) (boS r L (endN r r.length) k):=by
 intro k;induction k with
 |zero=>
  intro _;refine⟨List.length_replicate ..,?_⟩;intro i x hx;have:=List.eq_of_mem_replicate (List.mem_of_getElem? hx);omega
 |succ k ih=>
  intro hk;obtain⟨h1,h2⟩:=ih (by omega);obtain⟨n,hx⟩:=get_lt (show k<(endN r r.length).length by omega);obtain⟨N,hN⟩:=get_lt (show k<L.length by omega);have hnr:=endN_lt hx;obtain⟨N0,N1⟩:0<=N∧N<=1000000:=wn_iff.1 (List.all_eq_true.1 hL N (List.mem_of_getElem? hN));rw[boS,show(endN r r.length).getD k 0=n by simp[List.getD_eq_getElem?_getD,hx],getD_of hN];obtain⟨a,b⟩:=addC_bd hv (P:=1000000*k) N0 (n+1) n _ (by omega) (by omega) h1 (fun i x hx=>by have:=h2 i x hx;omega) (fun i _=>bm_getD h2 (by omega) i);exact⟨b,fun i x hx=>by have:=a i x hx;omega⟩
end Go.Proofs.YtjkkfcghkeoedaaGreatDoor.G
