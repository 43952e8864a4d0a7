/- The parts of the proof, part 10. -/
import Derived.Test.YtjkkfcghkeoedaaGreatDoorR0
import Derived.Test.YtjkkfcghkeoedaaGreatDoorR9
import Derived.Test.YtjkkfcghkeoedaaGreatDoorProg
import Derived.Shelf.Abstract
import Derived.WalkLawsBesides
import Derived.Deep.QuietTactic
import Derived.BigQuiet
import Derived.Deep.RegionHeld3
import Derived.Maps.OwnOps
import Derived.Maps.OwnSet
import Derived.Laws.Strings
import Derived.ArgAppend
import Derived.Deep.AppendLies
import Derived.Laws.OwnMore
import Derived.StillTail
import Derived.StillTailTactics
set_option maxHeartbeats 16000000
set_option maxRecDepth 20000
set_option linter.unusedSimpArgs false
set_option linter.unusedVariables false
namespace Go.Proofs.YtjkkfcghkeoedaaGreatDoor.G
open Go.RowKit Go.Maps
def sC (s:ByteArray):List Value:=[.string s]
theorem rdS {w:World} {A:Option Addr} {l:List ByteArray} (h:Rd sC 1 w A l) {k:Nat} (hk:k<l.length):
  ∃x b off,l[k]?=some x∧A=some ⟨b,off,none⟩∧b<w.heap.size∧w.cell? ⟨b,off+k,none⟩=some (.string x):=by
 obtain⟨x,hx⟩:=get_lt hk;obtain⟨b,off,e,hb,hc⟩:=h.get hx;exact⟨x,b,off,hx,e,hb,by simpa using hc 0 _ rfl⟩
def hasB (l:List ByteArray) (s:ByteArray):Bool:=l.any fun x=>s.toList==x.toList
theorem has_idx (l:List ByteArray) (s:ByteArray):hasB l s=decide (0<=idxOf (fun x:ByteArray=>s.toList==x.toList) l 0):=by
 rw[Bool.eq_iff_iff,decide_eq_true_iff,idxOf_nonneg];rfl
theorem p_index (A:Option Addr) (l:List ByteArray) (c:Nat) (s:ByteArray) (w:World) (hl:l.length<=100000) (hR:Rd sC 1 w A l):
  Calls Tryz.prog 156 #[.slice A l.length c,.string s] w fun e w'=>e=.returned (.int .i64 (idxOf (fun x:ByteArray=>s.toList==x.toList) l 0))∧w=w':=by
 go_enter Tryz.func156,Tryz.ntmps156
 go_wp2;go_loop [8] (fun i=>∃k:Nat,k<=l.length∧i=.int .i64 k∧Hid (idxOf (fun x:ByteArray=>s.toList==x.toList) l 0=idxOf (fun x:ByteArray=>s.toList==x.toList) (l.drop k) k)) (fun i=>l.length-(intOf i).toNat)
 case atStart=>exact⟨0,by omega,rfl,Lib.hid rfl⟩
 case round=>
  obtain⟨k,hk,rfl,HI⟩:=hrel;have k0:=nn k;by_cases hlt:k<l.length
  ·have k1:(k:Int)<(l.length:Int):=by omega
   obtain⟨x,b,off,hx,rfl,hb,c0⟩:=rdS hR hlt;have HD:=Lib.hid (idxOf_drop (fun x:ByteArray=>s.toList==x.toList) l k x hx);clear hx;cases he:(s.toList==x.toList)
   ·have HE:=Lib.hid he;go_wp2;go_round
    case rel=>exact⟨k+1,by omega,by go_num,Lib.hid (by rw[HI.out,HD.out,HE.out];rfl)⟩
    case measure=>simp[intOf];omega
   ·have HE:=Lib.hid he;go_wp2;go_ret;exact⟨by rw[HI.out,HD.out,HE.out];rfl,rfl⟩
  ·obtain rfl:k=l.length:=by omega
   go_wp2;go_ret;exact⟨by rw[HI.out,List.drop_length];rfl,rfl⟩
theorem p_contains (A:Option Addr) (l:List ByteArray) (c:Nat) (s:ByteArray) (w:World) (hl:l.length<=100000) (hR:Rd sC 1 w A l):
  Calls Tryz.prog 118 #[.slice A l.length c,.string s] w fun e w'=>e=.returned (.bool (hasB l s))∧w=w':=by
 have HC:=Lib.hid (p_index A l c s w hl hR);have HA:=Lib.hid (has_idx l s);clear hR;go_enter Tryz.func118,Tryz.ntmps118
 go_wp2_with (go_at_call 156;refine HC.out.mono ?_;rintro e w' ⟨rfl,rfl⟩)
 go_ret;exact⟨ret_bool (by rw[HA.out]),rfl⟩
structure Fw where
 f:FuncId
 cap:Array Value
def Fw.cs (x:Fw):List Value:=[.func (.func x.f) #[] x.cap]
abbrev fwV (x:Fw):Value:=.agg #[.func (.func x.f) #[] x.cap]
theorem rdF {w:World} {A:Option Addr} {l:List Fw} (h:Rd Fw.cs 1 w A l) {k:Nat} (hk:k<l.length):
  ∃x b off,l[k]?=some x∧A=some ⟨b,off,none⟩∧b<w.heap.size∧w.cell? ⟨b,off+k,none⟩=some (.func (.func x.f) #[] x.cap):=by
 obtain⟨x,hx⟩:=get_lt hk;obtain⟨b,off,e,hb,hc⟩:=h.get hx;exact⟨x,b,off,hx,e,hb,by simpa using hc 0 _ rfl⟩
theorem c_indexF (A:Option Addr) (l:List (Fw)) (c:Nat) (p:Fw->Bool) (f:FuncId) (cap:Array Value) (w:World) (hl:l.length<=100000) (hR:Rd Fw.cs 1 w A l)
  (he:∀args W,(callFunc f args).run Tryz.prog W=.ok (.enter f args) W)
  (hf:∀W x,Below w.heap.size w W->x∈l->Calls Tryz.prog f (#[fwV x]++cap) W fun e W'=>e=.returned (.bool (p x))∧Below W.heap.size W W'):
  Calls Tryz.prog 307 #[.slice A l.length c,.func (.func f) #[] cap] w fun e w'=>e=.returned (.int .i64 (idxOf p l 0))∧Below w.heap.size w w':=by
 have HF:=Lib.hid hf;clear hf;go_enter Tryz.func307,Tryz.ntmps307
 go_wp2;go_loopw [8] (fun i wr=>∃k:Nat,k<=l.length∧i=.int .i64 k∧Below w.heap.size w wr∧Hid (idxOf p l 0=idxOf p (l.drop k) k)) (fun i _=>l.length-(intOf i).toNat)
 case atStart=>exact⟨0,by omega,rfl,Below.refl _ _,rfl⟩
 case round=>
  obtain⟨k,hk,rfl,hB,HI⟩:=hrel;by_cases hlt:k<l.length
  ·obtain⟨x,b,off,hx,rfl,hb,c0⟩:=rdF (hR.on hB) hlt;have HD:=Lib.hid (idxOf_drop p l k x hx);have hm:=List.mem_of_getElem? hx;have HC:=Lib.hid (HF.out wr x hB hm);clear hx hm;cases hp:p x
   all_goals
    have HP:=Lib.hid hp;clear hp;go_wp2_with fail
    refine HC.out.mono ?_;rintro e w1 ⟨rfl,hb1⟩;rw[HP.out];go_wp2
   ·go_roundw
    case rel=>exact⟨k+1,by omega,by go_num,hB.trans (hb1.mono hB.size),by rw[HI.out,HD.out,HP.out];rfl⟩
    case measure=>simp[intOf];omega
   ·go_ret;exact⟨ret_int (by rw[HI.out,HD.out,HP.out];rfl),hB.trans (hb1.mono hB.size)⟩
  ·go_wp2;go_ret;exact⟨ret_int (by rw[HI.out,List.drop_of_length_le (by omega)];rfl),hB⟩
theorem c_containsF (A:Option Addr) (l:List (Fw)) (c:Nat) (p:Fw->Bool) (f:FuncId) (cap:Array Value) (w:World) (hl:l.length<=100000) (hR:Rd Fw.cs 1 w A l)
  (he:∀args W,(callFunc f args).run Tryz.prog W=.ok (.enter f args) W)
  (hf:∀W x,Below w.heap.size w W->x∈l->Calls Tryz.prog f (#[fwV x]++cap) W fun e W'=>e=.returned (.bool (p x))∧Below W.heap.size W W'):
  Calls Tryz.prog 302 #[.slice A l.length c,.func (.func f) #[] cap] w fun e w'=>e=.returned (.bool (l.any p))∧Below w.heap.size w w':=by
 have HC:=Lib.hid (c_indexF A l c p f cap w hl hR he hf);have HA:=Lib.hid (idxOf_nonneg p l 0);clear he hf hR;go_enter Tryz.func302,Tryz.ntmps302
 go_wp2_with (go_at_call 307;refine HC.out.mono ?_;rintro e w' ⟨rfl,hb⟩)
 go_ret;exact⟨ret_bool (by rw[Bool.eq_iff_iff,←HA.out];simp),hb⟩
theorem p_Weak1 (x:It) (y day:Int) (b:Nat) (w:World) (hb:b<w.heap.size) (hc:w.cell? ⟨b,0,none⟩=some (.int .i64 day)):
  Calls Tryz.prog 298 #[itV x,.int .i64 y,.pointer (some ⟨b,0,none⟩)] w fun e w'=>e=.returned (.bool (decide (x.du<day)))∧Below w.heap.size w w':=by
 go_enter Tryz.func298,Tryz.ntmps298
 go_wp2;go_ret;exact⟨rfl,bl⟩
theorem p_Weak2 (x:It) (y:Int) (b:Nat) (A:Option Addr) (l:List ByteArray) (c:Nat) (w:World) (hb:b<w.heap.size) (hl:l.length<=100000) (hR:Rd sC 1 w A l) (hc:w.cell? ⟨b,0,none⟩=some (.slice A l.length c)):
  Calls Tryz.prog 299 #[itV x,.int .i64 y,.pointer (some ⟨b,0,none⟩)] w fun e w'=>e=.returned (.bool (hasB l x.bt))∧Below w.heap.size w w':=by
 have HC:=Lib.hid (fun W (h:Below w.heap.size w W)=>p_contains A l c x.bt W hl (hR.on h));clear hR;go_enter Tryz.func299,Tryz.ntmps299
 go_wp2_with (go_at_call 118;refine(HC.out _ bl).mono ?_;rintro e w' ⟨rfl,rfl⟩)
 go_ret;exact⟨rfl,bl⟩
theorem p_Weak3 (x:It) (y:Int) (w:World):
  Calls Tryz.prog 300 #[itV x,.int .i64 y] w fun e w'=>e=.returned (.bool (decide (x.ld<y)))∧Below w.heap.size w w':=by
 go_enter Tryz.func300,Tryz.ntmps300
 go_wp2;go_ret;exact⟨ret_bool (by simp),bl⟩
theorem p_Weak4 (x:Fw) (it:It) (y:Int) (v:Bool) (b1 b2 b3 k c:Nat) (A:Option Addr) (Y:List Int) (w:World) (h1:b1<w.heap.size) (h2:b2<w.heap.size) (h3:b3<w.heap.size) (hk:Y[k]?=some y) (hR:Rd zC 1 w A Y)
  (c0:w.cell? ⟨b1,0,none⟩=some (.string it.nm)) (c1:w.cell? ⟨b1,1,none⟩=some (.int .i64 it.ld)) (c2:w.cell? ⟨b1,2,none⟩=some (.int .i64 it.du)) (c3:w.cell? ⟨b1,3,none⟩=some (.string it.bt))
  (c4:w.cell? ⟨b2,0,none⟩=some (.slice A Y.length c)) (c5:w.cell? ⟨b3,0,none⟩=some (.int .i64 (k:Nat)))
  (he:∀args W,(callFunc x.f args).run Tryz.prog W=.ok (.enter x.f args) W)
  (hf:∀W,Below w.heap.size w W->Calls Tryz.prog x.f (#[itV it,.int .i64 y]++x.cap) W fun e W'=>e=.returned (.bool v)∧Below W.heap.size W W'):
  Calls Tryz.prog 303 #[fwV x,.pointer (some ⟨b1,0,none⟩),.pointer (some ⟨b2,0,none⟩),.pointer (some ⟨b3,0,none⟩)] w fun e w'=>e=.returned (.bool v)∧Below w.heap.size w w':=by
 have hkl:=(List.getElem?_eq_some_iff.1 hk).1;obtain⟨y',ab,ao,hy,rfl,hab,d0⟩:=rd_int hR hkl;obtain rfl:y=y':=by rw[hk] at hy;exact Option.some.inj hy
 have k0:=nn k;have k1:(k:Int)<(Y.length:Int):=by omega
 have HF:=Lib.hid hf;have HB:=Lib.hid (show Below w.heap.size w (w.alloc (.cells #[.func (.func x.f) #[] x.cap] 373)) from bl_alloc (below_refl _) _);clear hk hy hR hf;go_enter Tryz.func303,Tryz.ntmps303
 go_wp2_with fail
 refine wp_region_still_tail 7 (by kernel_rfl) (by kernel_rfl) ?_;change wpStill _ _ (World.drew _) _ _ _
 simp only[List.take_succ_cons,List.take_zero,List.drop_succ_cons,List.drop_zero];repeat still_step
 refine wpStill_nil ?_;change wpList _ _ _ _ _ (World.drew _)
 go_wp2_with fail
 refine(HF.out _ bl).mono ?_;rintro e w1 ⟨rfl,hb1⟩;go_wp2;go_ret;exact⟨rfl,bl⟩
def wkC (day:Int) (back:List ByteArray) (x:It) (y:Int):Bool:=decide (x.du<day)||(hasB back x.bt||decide (x.ld<y))
def wkB (g:List It) (r:List Lk) (back:List ByteArray) (day:Int) (L:List Int) (k:Nat):Bool:=wkC day back (itR g (lkAt r k)) ((boZ r L).getD k 0)
def wkN (g:List It) (r:List Lk) (back:List ByteArray) (day:Int) (L:List Int) (k:Nat):List Nat:=(List.range k).filter (wkB g r back day L)
def wkZ (g:List It) (r:List Lk) (back:List ByteArray) (day:Int) (L:List Int):List Int:=(wkN g r back day L r.length).map fun n:Nat=>(n:Int)
def wkE (g:List It) (r:List Lk) (back:List ByteArray) (day:Int) (L:List Int):Int:=
 if (vldG g&&vldR g r)=true then (if back.length<=100 then (if L.length=(endN r r.length).length then (if wn day 0 100000=true then ldE r L else 7) else 9) else 4) else 1
theorem wkN_no {g:List It} {r:List Lk} {back:List ByteArray} {day:Int} {L:List Int} {k:Nat} (h:wkB g r back day L k=false):wkN g r back day L (k+1)=wkN g r back day L k:=by
 unfold wkN;rw[List.range_succ,List.filter_append];simp[h]
theorem wkN_yes {g:List It} {r:List Lk} {back:List ByteArray} {day:Int} {L:List Int} {k:Nat} (h:wkB g r back day L k=true):wkN g r back day L (k+1)=wkN g r back day L k++[k]:=by
 unfold wkN;rw[List.range_succ,List.filter_append];simp[h]
theorem wkN_len (g:List It) (r:List Lk) (back:List ByteArray) (day:Int) (L:List Int) (k:Nat):(wkN g r back day L k).length<=k:=by
 have:=List.length_filter_le (wkB g r back day L) (List.range k);simpa[wkN] using this
def fwP (day:Int) (back:List ByteArray) (it:It) (y:Int) (x:Fw):Bool:=
 if x.f=298 then decide (it.du<day) else if x.f=299 then hasB back it.bt else decide (it.ld<y)
def fwL (b0 b1:Nat):List Fw:=[⟨298,#[.pointer (some ⟨b1,0,none⟩)]⟩,⟨299,#[.pointer (some ⟨b0,0,none⟩)]⟩,⟨300,#[]⟩]
theorem blk_rdF {w:World} {b b0 b1:Nat} {t:TypeId} (h:Blk w b t #[.func (.func 298) #[] #[.pointer (some ⟨b1,0,none⟩)],.func (.func 299) #[] #[.pointer (some ⟨b0,0,none⟩)],.func (.func 300) #[] #[]]):Rd Fw.cs 1 w (some ⟨b,0,none⟩) (fwL b0 b1):=fun _=>by
 refine⟨b,0,rfl,h.lt,fun k x hx j v hv=>?_⟩;have hk:k<3:=(List.getElem?_eq_some_iff.1 hx).1;rw[Nat.zero_add,h.cell];rcases (by omega:k=0∨k=1∨k=2) with rfl|rfl|rfl<;>(cases hx;have hj:j<1:=(List.getElem?_eq_some_iff.1 hv).1;obtain rfl:j=0:=by omega)<;>exact hv
theorem c_flaws (it:It) (y day:Int) (back:List ByteArray) (C A:Option Addr) (Y:List Int) (gF b0 b1 p1 p2 p3 k c cb:Nat) (w:World) (hbk:back.length<=100000)
  (HF:Rd Fw.cs 1 w (some ⟨gF,0,none⟩) (fwL b0 b1)) (h0:Blk w b0 43 #[.slice C back.length cb]) (h1:Blk w b1 3 #[.int .i64 day]) (hC:Rd sC 1 w C back)
  (hp1:Blk w p1 67 #[.string it.nm,.int .i64 it.ld,.int .i64 it.du,.string it.bt]) (hp2:Blk w p2 40 #[.slice A Y.length c]) (hp3:Blk w p3 3 #[.int .i64 (k:Nat)]) (hA:Rd zC 1 w A Y) (hk:Y[k]?=some y):
  Calls Tryz.prog 302 #[.slice (some ⟨gF,0,none⟩) 3 3,.func (.func 303) #[] #[.pointer (some ⟨p1,0,none⟩),.pointer (some ⟨p2,0,none⟩),.pointer (some ⟨p3,0,none⟩)]] w fun e w'=>e=.returned (.bool (wkC day back it y))∧Below w.heap.size w w':=by
 have he:(fwL b0 b1).any (fwP day back it y)=wkC day back it y:=by
  unfold fwL fwP wkC;simp
 rw[←he];refine c_containsF (some ⟨gF,0,none⟩) (fwL b0 b1) 3 (fwP day back it y) 303 _ w (show 3<=100000 by decide) HF (enters_of Tryz.func303 (by kernel_rfl) rfl) (fun W x hb hx=>?_);have q0:=h0.below hb h0.lt;have q1:=h1.below hb h1.lt;have r1:=hp1.below hb hp1.lt;have r2:=hp2.below hb hp2.lt;have r3:=hp3.below hb hp3.lt;unfold fwL at hx;simp only[List.mem_cons,List.not_mem_nil,or_false] at hx;rcases hx with rfl|rfl|rfl
 ·exact p_Weak4 _ it y _ p1 p2 p3 k c A Y W r1.lt r2.lt r3.lt hk (hA.on hb) (r1.cell 0) (r1.cell 1) (r1.cell 2) (r1.cell 3) (r2.cell 0) (r3.cell 0) (enters_of Tryz.func298 (by kernel_rfl) rfl) (fun W' hb'=>p_Weak1 it y day b1 W' (q1.below hb' q1.lt).lt ((q1.below hb' q1.lt).cell 0))
 ·exact p_Weak4 _ it y _ p1 p2 p3 k c A Y W r1.lt r2.lt r3.lt hk (hA.on hb) (r1.cell 0) (r1.cell 1) (r1.cell 2) (r1.cell 3) (r2.cell 0) (r3.cell 0) (enters_of Tryz.func299 (by kernel_rfl) rfl) (fun W' hb'=>p_Weak2 it y b0 C back cb W' (q0.below hb' q0.lt).lt hbk ((hC.on hb).on hb') ((q0.below hb' q0.lt).cell 0))
 ·exact p_Weak4 _ it y _ p1 p2 p3 k c A Y W r1.lt r2.lt r3.lt hk (hA.on hb) (r1.cell 0) (r1.cell 1) (r1.cell 2) (r1.cell 3) (r2.cell 0) (r3.cell 0) (enters_of Tryz.func300 (by kernel_rfl) rfl) (fun W' hb'=>p_Weak3 it y W')
theorem p_Weak (A B C D:Option Addr) (g:List It) (r:List Lk) (back:List ByteArray) (day:Int) (L:List Int) (c d cb f:Nat) (w:World) (hl:g.length<=100000) (hn:r.length<=100000) (hbk:back.length<=100000) (hk:L.length<=100000) (hR:Rd It.cs 4 w A g) (hW:∀x∈g,IW x) (hS:Rd Lk.cs 2 w B r) (hV:∀x∈r,LW x) (hC:Rd sC 1 w C back) (hL:Rd zC 1 w D L):
  Calls Tryz.prog 295 #[.slice A g.length c,.slice B r.length d,.slice C back.length cb,.int .i64 day,.slice D L.length f] w fun e w'=>∃v,e=.returned (.tuple #[v,.int .i64 (wkE g r back day L)])∧GotW w' v (onE (wkE g r back day L) (wkZ g r back day L))∧Below w.heap.size w w':=by
 have H1:=Lib.hid (fun b h W (hb:Below w.heap.size w W)=>p_ValidRigV (c:=c) (d:=d) (b:=b) h hl hn (hR.on hb) hW (hS.on hb) hV);have H2:=Lib.hid (fun W (hb:Below w.heap.size w W)=>p_endsZ B r d W hn (hS.on hb));have H3:=Lib.hid (fun W (hb:Below w.heap.size w W)=>p_loaded B D r L d f W hn hk (hS.on hb) (hL.on hb));have HEL:=Lib.hid (endZ_len2 r);have HE0:=Lib.hid (show wkE g r back day L=if (vldG g&&vldR g r)=true then (if back.length<=100 then (if L.length=(endN r r.length).length then (if wn day 0 100000=true then ldE r L else 7) else 9) else 4) else 1 from rfl);go_enter Tryz.func295,Tryz.ntmps295
 go_wp2_with fail
 have k0:=(Blk.new w 43 #[.slice C back.length cb]).alloc (.cells #[.int .i64 day] 3);have k1:=Blk.new (w.alloc (.cells #[.slice C back.length cb] 43)) 3 #[.int .i64 day];have B0:Below w.heap.size w ((w.alloc (.cells #[.slice C back.length cb] 43)).alloc (.cells #[.int .i64 day] 3)):=bl_alloc (bl_alloc (below_refl _) _) _;simp only[World.size_alloc] at k1;generalize (w.alloc (.cells #[.slice C back.length cb] 43)).alloc (.cells #[.int .i64 day] 3)=W0 at *;refine(H1.out _ rfl _ B0).mono ?_;rintro e w1 ⟨rfl,hb1⟩;have B1:=below_tr B0 hb1;have j0:=k0.below hb1 k0.lt;have j1:=k1.below hb1 k1.lt;have c0:w1.cell? ⟨w.heap.size,0,none⟩=some (.slice C back.length cb):=j0.cell 0;clear hb1 k0 k1 B0;cases h:(vldG g&&vldR g r)
 ·have HE:=Lib.hid (show wkE g r back day L=1 by rw[HE0.out,if_neg (by simp[h])]);go_wp2;go_ret2;exact⟨_,by rw[HE.out];rfl,by rw[HE.out];exact gotW_nil _,B1⟩
 by_cases h2:(100:Int)<back.length
 ·have HE:=Lib.hid (show wkE g r back day L=4 by rw[HE0.out,if_pos h,if_neg (by omega)]);go_wp2;go_ret2;exact⟨_,by rw[HE.out];rfl,by rw[HE.out];exact gotW_nil _,B1⟩
 by_cases h3:L.length=(endN r r.length).length
 rotate_left
 ·have HE:=Lib.hid (show wkE g r back day L=9 by rw[HE0.out,if_pos h,if_pos (by omega),if_neg h3]);have h4:((L.length:Int) != ((endZ r).length:Int))=true:=by rw[HEL.out];simp;omega
  generalize endZ r=E at *;clear h3;go_wp2_with (go_at_call 296;((with_reducible refine(H2.out _ B1).mono ?_);rintro e w2 ⟨v,rfl,hv,hb2⟩;obtain⟨A2,c2,rfl,_⟩:=own_ints hv))
  go_ret2;exact⟨_,by rw[HE.out];rfl,by rw[HE.out];exact gotW_nil _,below_tr B1 hb2⟩
 have h4:((L.length:Int) != ((endZ r).length:Int))=false:=by rw[HEL.out];simp;omega
 generalize endZ r=E at *;cases h5:wn day 0 100000
 ·have HE:=Lib.hid (show wkE g r back day L=7 by rw[HE0.out,if_pos h,if_pos (by omega),if_pos h3,if_neg (by simp[h5])]);clear h3
  go_wp2_with (first
   |(go_at_call 296;((with_reducible refine(H2.out _ B1).mono ?_);rintro e w2 ⟨v,rfl,hv,hb2⟩;obtain⟨A2,c2,rfl,_⟩:=own_ints hv;have B2:=below_tr B1 hb2;have c1:w2.cell? ⟨w.heap.size+1,0,none⟩=some (.int .i64 day):=(j1.below hb2 j1.lt).cell 0))
   |(go_at_call 90;((with_reducible refine(p_isDayV h5 _).mono ?_);rintro e w' ⟨rfl,rfl⟩)))
  go_ret2;exact⟨_,by rw[HE.out];rfl,by rw[HE.out];exact gotW_nil _,B2⟩
 have HE1:=Lib.hid (show wkE g r back day L=ldE r L by rw[HE0.out,if_pos h,if_pos (by omega),if_pos h3,if_pos h5]);by_cases h6:ldE r L=0
 rotate_left
 ·have h7:(ldE r L != 0)=true:=by simpa using h6
  have HN:=Lib.hid h6;generalize ldE r L=X at *;clear h3 h6
  go_wp2_with (first
   |(go_at_call 296;((with_reducible refine(H2.out _ B1).mono ?_);rintro e w2 ⟨v,rfl,hv,hb2⟩;obtain⟨A2,c2,rfl,_⟩:=own_ints hv;have B2:=below_tr B1 hb2;have c1:w2.cell? ⟨w.heap.size+1,0,none⟩=some (.int .i64 day):=(j1.below hb2 j1.lt).cell 0))
   |(go_at_call 90;((with_reducible refine(p_isDayV h5 _).mono ?_);rintro e w' ⟨rfl,rfl⟩))
   |(go_at_call 297;((with_reducible refine(H3.out _ B2).mono ?_);rintro e w3 ⟨rfl,hb3⟩;obtain⟨hc3,hf3,hz3⟩:=qz hb3)))
  go_ret2;exact⟨_,by rw[HE1.out];rfl,by rw[HE1.out];unfold onE;rw[if_neg HN.out];exact gotW_nil _,below_tr B2 hb3⟩
 obtain⟨h7,h8⟩:=ldE_z h6;have hv:=vr_of h;have H4:=Lib.hid (fun W (hb:Below w.heap.size w W)=>p_borne B D g r L d f W hv h8 h7 (hS.on hb) (hL.on hb));have H5:=Lib.hid (fun W (hb:Below w.heap.size w W)=>p_byMark A g c W hl (hR.on hb) hW);have HZL:=Lib.hid (boZ_len hv h6);have HVV:=Lib.hid hv;have hn32:=hv.l1;have hm0:=hv.l0;have hlg:=hv.lg;have HMA:=Lib.hid (fun s=>mkD_at (vldG_dst hv.vg) s g.length (Nat.le_refl _));have HBK:=Lib.hid (fun k=>show wkB g r back day L k=wkC day back (itR g (lkAt r k)) ((boZ r L).getD k 0) from rfl);have HWN:=Lib.hid (fun k h=>wkN_no (g:=g) (r:=r) (back:=back) (day:=day) (L:=L) (k:=k) h);have HWY:=Lib.hid (fun k h=>wkN_yes (g:=g) (r:=r) (back:=back) (day:=day) (L:=L) (k:=k) h);have HWL:=Lib.hid (fun k=>wkN_len g r back day L k);have HWZ:=Lib.hid (show wkZ g r back day L=(wkN g r back day L r.length).map fun n:Nat=>(n:Int) from rfl);obtain⟨i0,hi,hi1,hi2,hi3⟩:=info_int2;rw[h6] at H3 HE1;generalize boZ r L=Z at *;generalize wkB g r back day L=WB at *;generalize wkN g r back day L=WN at *;clear hv h3 h6 h7 h8
 go_wp2_with (first
  |(go_at_call 296;((with_reducible refine(H2.out _ B1).mono ?_);rintro e w2 ⟨v,rfl,hv,hb2⟩;obtain⟨A2,c2,rfl,_⟩:=own_ints hv;have B2:=below_tr B1 hb2;have c1:w2.cell? ⟨w.heap.size+1,0,none⟩=some (.int .i64 day):=(j1.below hb2 j1.lt).cell 0))
  |(go_at_call 90;((with_reducible refine(p_isDayV h5 _).mono ?_);rintro e w' ⟨rfl,rfl⟩))
  |(go_at_call 297;((with_reducible refine(H3.out _ B2).mono ?_);rintro e w3 ⟨rfl,hb3⟩;have B3:=below_tr B2 hb3)))
 have l0:=((j0.below hb2 j0.lt).below hb3 (j0.below hb2 j0.lt).lt).alloc (.cells #[.func (.func 298) #[] #[.pointer (some ⟨w.heap.size+1,0,none⟩)],.func (.func 299) #[] #[.pointer (some ⟨w.heap.size,0,none⟩)],.func (.func 300) #[] #[]] 373);have l1:=((j1.below hb2 j1.lt).below hb3 (j1.below hb2 j1.lt).lt).alloc (.cells #[.func (.func 298) #[] #[.pointer (some ⟨w.heap.size+1,0,none⟩)],.func (.func 299) #[] #[.pointer (some ⟨w.heap.size,0,none⟩)],.func (.func 300) #[] #[]] 373);have lF:=Blk.new w3 373 #[.func (.func 298) #[] #[.pointer (some ⟨w.heap.size+1,0,none⟩)],.func (.func 299) #[] #[.pointer (some ⟨w.heap.size,0,none⟩)],.func (.func 300) #[] #[]];have B4:=bl_alloc B3 (.cells #[.func (.func 298) #[] #[.pointer (some ⟨w.heap.size+1,0,none⟩)],.func (.func 299) #[] #[.pointer (some ⟨w.heap.size,0,none⟩)],.func (.func 300) #[] #[]] 373);generalize w3.heap.size=gF at *;generalize w3.alloc (.cells #[.func (.func 298) #[] #[.pointer (some ⟨w.heap.size+1,0,none⟩)],.func (.func 299) #[] #[.pointer (some ⟨w.heap.size,0,none⟩)],.func (.func 300) #[] #[]] 373)=w4 at *;clear B2 B3 hb2 hb3 j0 j1 B1 c0 c1;refine(H4.out _ B4).mono ?_;rintro e w5 ⟨A5,c5,rfl,_,hr5,hb5⟩;go_wp2_with fail
 have m0:=(l0.below hb5 l0.lt).alloc (.cells #[.slice (some A5) r.length c5] 40);have m1:=(l1.below hb5 l1.lt).alloc (.cells #[.slice (some A5) r.length c5] 40);have mF:=(lF.below hb5 lF.lt).alloc (.cells #[.slice (some A5) r.length c5] 40);have mB:=Blk.new w5 40 #[.slice (some A5) r.length c5];have B6:=bl_alloc (below_tr B4 hb5) (.cells #[.slice (some A5) r.length c5] 40);have hr6:=hr5.on (below_alloc w5 (.cells #[.slice (some A5) r.length c5] 40));generalize w5.heap.size=gB at *;generalize w5.alloc (.cells #[.slice (some A5) r.length c5] 40)=w6 at *;clear hb5 hr5 l0 l1 lF B4;refine(H5.out _ B6).mono ?_;rintro e w7 ⟨rfl,hom,hb7⟩;have B7:=below_tr B6 hb7;have n0:=m0.below hb7 m0.lt;have n1:=m1.below hb7 m1.lt;have nF:=mF.below hb7 mF.lt;have nB:=mB.below hb7 mB.lt;have hr7:=hr6.on hb7;generalize w6.heap.size=gM at *;clear hb7 hr6 m0 m1 mF mB B6;have B7s:=B7.size;go_wp2;go_loopw [16,55] (fun v i wr=>∃k:Nat,k<=r.length∧i=.int .i64 k∧Below w.heap.size w wr∧Below w7.heap.size w7 wr∧wr.ownsRow w7.heap.size 3 1 v (WN k).length (fl nC (WN k))) (fun _ i _=>r.length-(intOf i).toNat)
 case atStart=>exact⟨0,by omega,rfl,B7,below_refl _,by
  have h0:WN 0=[]:=List.eq_nil_of_length_eq_zero (by have:=HWL.out 0;omega);rw[h0];exact World.ownsRow_nil w7 _ _ _⟩
 case round=>
  clear B7;obtain⟨k,hk,rfl,hbw,hbv,hown⟩:=hrel;obtain⟨ad,cp,rfl⟩:=own_slice hown;have hlen:=HWL.out k;have hbvs:=hbv.size;by_cases hlt:k<r.length
  ·have k0:=nn k;have k1:(k:Int)<(r.length:Int):=by omega
   obtain⟨x,b,off,hx,rfl,hb,q0,q1⟩:=rdL (hS.on hbw) hlt;have iw:=hV x (List.mem_of_getElem? hx);have hkey:=keyS iw.m;obtain⟨hy,_⟩:=HVV.out.it hx;have f1:=HVV.out.fnd k x hx;have f2:=(fnd_bd g x.nm).2;have HA:=HMA.out x.nm;rw[if_pos (by omega)] at HA;obtain⟨y,hyy⟩:=get_lt (show k<Z.length by have:=HZL.out;omega);have HWK:WB k=wkC day back (itR g x) y:=by rw[HBK.out,lkAt_of hx,getD_of hyy]
   obtain⟨n,hn'⟩:=Int.eq_ofNat_of_zero_le f1;rw[hn'] at f2 HA hy;obtain⟨it,gb,goff,hz,hA,hgb,d0,d1,d2,d3⟩:=rdI (hR.on hbw) (show n<g.length by omega);rw[show((n:Nat):Int).toNat=n by omega,hz] at hy;cases hy;have HAA:=Lib.hid HA;have n0':(0:Int)<=(n:Int):=Int.natCast_nonneg _;have n1':(n:Int)<(g.length:Int):=by omega
   have hom':OM wr gM g.length (mkD g g.length):=hom.kept (bl_grownBy hbv none) (by simp);have hom'':=(hom'.alloc (Obj.cells #[Value.int .i64 (k:Nat)] 3)).alloc (Obj.cells #[Value.string x.nm,Value.int IntKind.i64 x.fr] 104);have hne:gb≠wr.heap.size:=by omega
   have hne2:gb≠wr.heap.size+1:=by omega
   subst hA;have HYY:=Lib.hid hyy;generalize itR g x=I at *;clear hx iw hz HA hom' hn' hyy;go_wp2_with (at_lookup;refine wpList_lookup_own_int _ rfl _ _ 154 rfl 9 3 .i64 lawS und_map und_int (zeroN _) _ g.length _ rfl hom'' _ _ rfl hkey ?_;intro cc hat hwc;rw[HAA.out] at hat;obtain rfl:(n:Int)=cc:=by(cases hat;rfl))
   have x3:=((Blk.new wr 3 #[.int .i64 (k:Nat)]).alloc (.cells #[.string x.nm,.int .i64 x.fr] 104)).alloc (.cells #[.string I.nm,.int .i64 I.ld,.int .i64 I.du,.string I.bt] 67);have x1:=Blk.new ((wr.alloc (.cells #[.int .i64 (k:Nat)] 3)).alloc (.cells #[.string x.nm,.int .i64 x.fr] 104)) 67 #[.string I.nm,.int .i64 I.ld,.int .i64 I.du,.string I.bt];have bW:Below wr.heap.size wr (((wr.alloc (.cells #[.int .i64 (k:Nat)] 3)).alloc (.cells #[.string x.nm,.int .i64 x.fr] 104)).alloc (.cells #[.string I.nm,.int .i64 I.ld,.int .i64 I.du,.string I.bt] 67)):=bl_alloc (bl_alloc (bl_alloc (below_refl _) _) _) _;simp only[World.size_alloc] at x1;generalize ((wr.alloc (.cells #[.int .i64 (k:Nat)] 3)).alloc (.cells #[.string x.nm,.int .i64 x.fr] 104)).alloc (.cells #[.string I.nm,.int .i64 I.ld,.int .i64 I.du,.string I.bt] 67)=W3 at *;have b3:=below_tr hbw bW;have v3:=below_tr hbv bW;have own3:=own_on hown bW;refine(c_flaws I y day back C (some A5) Z gF w.heap.size (w.heap.size+1) _ gB wr.heap.size k c5 cb W3 hbk (blk_rdF (nF.below v3 nF.lt)) (n0.below v3 n0.lt) (n1.below v3 n1.lt) (hC.on b3) x1 (by rw[HZL.out];exact nB.below v3 nB.lt) x3 (hr7.on v3) HYY.out).mono ?_;rintro e w8 ⟨rfl,hb8⟩;rw[←HWK];have b8:=below_tr b3 hb8;have v8:=below_tr v3 hb8;have own8:=own_on own3 hb8;have q8:w8.cell? ⟨wr.heap.size,0,none⟩=some (.int .i64 (k:Nat)):=(x3.below hb8 x3.lt).cell 0;clear b3 v3 own3 hb8 x3 x1 bW hown hom'' d0 d1 d2 d3 q0 q1;cases he:WB k
   ·have HST:=Lib.hid (HWN.out k he);clear HWK he;go_wp2;go_roundw
    case rel=>exact⟨k+1,by omega,by go_num,b8,v8,by rw[HST.out];exact own8⟩
    case measure=>simp[intOf];omega
   ·have HST:=Lib.hid (HWY.out k he);clear HWK he;go_wp2_with (at_builtin;refine wpList_append_own _ rfl _ _ 40 rfl w7.heap.size 3 i0 (.int .i64 0) 1 8 (by kernel_rfl) hi hi1 hi2 hi3 rfl (by omega) _ _ _ rfl (own8.alloc _) ⟨w8.heap.size,0,none⟩ 1 1 [.int .i64 k] rfl rfl (cells_new w8 [.int .i64 k] 3) (fun u hu=>by simp at hu;subst hu;rfl) (by unfold maxLen;omega) (by omega) (by simp;have:=v8.size;omega) ?_;intro v' w9 hown9 hgrow _)
    go_roundw
    case rel=>exact⟨k+1,by omega,by go_num,bl_app b8 own8 hgrow B7s b8.size,bl_app v8 own8 hgrow (Nat.le_refl _) v8.size,by rw[HST.out,fl_snoc,List.length_append];exact hown9⟩
    case measure=>simp[intOf];omega
  ·obtain rfl:k=r.length:=by omega
   have hown':=nz_own (own_base hown B7s);have hlen':(WN r.length).length=(wkZ g r back day L).length:=by rw[HWZ.out,List.length_map]
   rw[←HWZ.out,hlen'] at hown';obtain⟨A9,c9,hA9,hr9⟩:=own_ints hown';cases hA9;rw[hlen'];go_wp2;go_ret2;exact⟨_,by rw[HE1.out];rfl,by rw[HE1.out];exact⟨_,_,rfl,hr9⟩,hbw⟩
def weL (g:List It) (r:List Lk) (back:List ByteArray) (day:Int) (L:List Int):List Int:=onE (wkE g r back day L) (wkZ g r back day L)
def mayB (g:List It) (r:List Lk) (back:List ByteArray) (day:Int) (L:List Int):Bool:=decide (wkE g r back day L=0)&&decide ((weL g r back day L).length=0)
theorem weL_len (g:List It) (r:List Lk) (back:List ByteArray) (day:Int) (L:List Int) (hn:r.length<=100000):(weL g r back day L).length<=100000:=by
 unfold weL onE;split
 ·have:=wkN_len g r back day L r.length;unfold wkZ;rw[List.length_map];omega
 ·simp
theorem p_May (A B C D:Option Addr) (g:List It) (r:List Lk) (back:List ByteArray) (day:Int) (L:List Int) (c d cb f:Nat) (w:World) (hl:g.length<=100000) (hn:r.length<=100000) (hbk:back.length<=100000) (hk:L.length<=100000) (hR:Rd It.cs 4 w A g) (hW:∀x∈g,IW x) (hS:Rd Lk.cs 2 w B r) (hV:∀x∈r,LW x) (hC:Rd sC 1 w C back) (hL:Rd zC 1 w D L):
  Calls Tryz.prog 294 #[.slice A g.length c,.slice B r.length d,.slice C back.length cb,.int .i64 day,.slice D L.length f] w fun e w'=>e=.returned (.tuple #[.bool (mayB g r back day L),.int .i64 (wkE g r back day L)])∧Below w.heap.size w w':=by
 have H1:=Lib.hid (p_Weak A B C D g r back day L c d cb f w hl hn hbk hk hR hW hS hV hC hL);have HB:=Lib.hid (show mayB g r back day L=(decide (wkE g r back day L=0)&&decide ((weL g r back day L).length=0)) from rfl);have HL:=Lib.hid (weL_len g r back day L hn);change Hid (Calls _ _ _ _ fun e w'=>∃v,e=.returned (.tuple #[v,.int .i64 (wkE g r back day L)])∧GotW w' v (weL g r back day L)∧Below w.heap.size w w') at H1
 generalize weL g r back day L=Z at *;generalize mayB g r back day L=M at *;generalize wkE g r back day L=E at *;clear hR hW hS hV hC hL;by_cases hE:E=0
 ·subst hE;by_cases h0:(Z.length:Int)=0
  ·have HM:=Lib.hid (show M=true by rw[HB.out,decide_eq_true (show Z.length=0 by omega)];rfl);go_enter Tryz.func294,Tryz.ntmps294
   go_wp2_with (go_at_call 295;((with_reducible refine(H1.out).mono ?_);rintro e w1 ⟨v,rfl,⟨A1,c1,rfl,_⟩,hb1⟩))
   go_ret2;exact⟨by rw[HM.out];simp[h0],hb1⟩
  ·have HM:=Lib.hid (show M=false by rw[HB.out];simp;rintro rfl;exact h0 rfl);go_enter Tryz.func294,Tryz.ntmps294
   go_wp2_with (go_at_call 295;((with_reducible refine(H1.out).mono ?_);rintro e w1 ⟨v,rfl,⟨A1,c1,rfl,_⟩,hb1⟩))
   go_ret2;exact⟨by rw[HM.out];simp;exact fun h=>h0 (by rw[h];rfl),hb1⟩
 ·have HM:=Lib.hid (show M=false by rw[HB.out];simp[hE]);have hE':(E==0)=false:=by simpa using hE
  go_enter Tryz.func294,Tryz.ntmps294
  go_wp2_with (go_at_call 295;((with_reducible refine(H1.out).mono ?_);rintro e w1 ⟨v,rfl,⟨A1,c1,rfl,_⟩,hb1⟩))
  go_ret2;exact⟨by rw[HM.out];rfl,hb1⟩
theorem own_rdc {α:Type} {enc:α->List Value} {sz base:Nat} {W:World} {e:TypeId} {v:Value} {l:List α} (h:∀a,(enc a).length=sz) (hw:W.ownsRow base e sz v l.length (fl enc l)):∃A c,v=.slice A l.length c∧Rd enc sz W A l∧l.length<=c∧c<=maxLen:=by
 obtain⟨A,c,e1,hr⟩:=own_rd h hw;refine⟨A,c,e1,hr,?_⟩;rcases hw.2 with⟨e2,h0⟩|⟨g,cap,cur,e2,_,_,h1,h2,_⟩
 ·rw[e1] at e2;injection e2 with a1 a2 a3;subst a3;exact⟨by omega,Nat.zero_le _⟩
 ·rw[e1] at e2;injection e2 with a1 a2 a3;subst a3;exact⟨h1,h2⟩
structure Rg where
 a:Option Addr
 l:List Lk
 c:Nat
def Rg.cs (x:Rg):List Value:=[.slice x.a x.l.length x.c]
structure RgOk (w:World) (x:Rg):Prop where
 rd:Rd Lk.cs 2 w x.a x.l
 len:x.l.length<=maxLen
 lw:∀y∈x.l,LW y
theorem RgOk.on {w w':World} {x:Rg} (h:RgOk w x) (hb:Below w.heap.size w w'):RgOk w' x:=⟨h.rd.on hb,h.len,h.lw⟩
def RgS (w:World) (R:List Rg):Prop:=∀x∈R,RgOk w x∧x.l.length<=40
theorem RgS.on {w w':World} {R:List Rg} (h:RgS w R) (hb:Below w.heap.size w w'):RgS w' R:=fun x hx=>⟨(h x hx).1.on hb,(h x hx).2⟩
end Go.Proofs.YtjkkfcghkeoedaaGreatDoor.G
