/- The parts of the proof, part 11. -/
import Derived.Test.YtjkkfcghkeoedaaGreatDoorR0
import Derived.Test.YtjkkfcghkeoedaaGreatDoorR6
import Derived.Test.YtjkkfcghkeoedaaGreatDoorR10
import Derived.Test.YtjkkfcghkeoedaaGreatDoorProg
import Derived.WalkLawsBesides
import Derived.Deep.QuietTactic
import Derived.BigQuiet
import Derived.Deep.RegionHeld3
import Derived.Laws.OwnMore
import Derived.ArgAppend
import Derived.Deep.AppendLies
import Derived.StillTail
import Derived.Laws.EntriesVeiled
import Derived.StillTailTactics
import Derived.Maps.OwnIn
import Derived.Laws.StructEq
import Derived.Deep.DeepCutAuto
set_option maxHeartbeats 16000000
set_option maxRecDepth 20000
set_option linter.unusedSimpArgs false
set_option linter.unusedVariables false
namespace Go.Proofs.YtjkkfcghkeoedaaGreatDoor.V
open Go.RowKit Go.Shelf
theorem bl_alloc {w W:World} (h:Below w.heap.size w W) (o:Obj):Below w.heap.size w (W.alloc o):=h.alloc h.size o
theorem sz_drew (w:World):w.drew.heap.size=w.heap.size:=rfl
theorem sz_drewN (w:World) (n:Nat):(w.drewN n).heap.size=w.heap.size:=rfl
def wn (n lo hi:Int):Bool:=decide (lo<=n)&&decide (n<=hi)
theorem wn_iff {n a b:Int}:wn n a b=true↔a<=n∧n<=b:=by simp[wn]
def LI (w:World) (g:Nat) (l:List Int):Prop:=∃cur,Blk w g 3 cur∧InRow zC 1 cur l
theorem LI.lt {w:World} {g:Nat} {l:List Int} (h:LI w g l):g<w.heap.size:=by obtain⟨_,h,_⟩:=h;exact h.lt
theorem LI.cell {w:World} {g:Nat} {l:List Int} (h:LI w g l) {k:Nat} {x:Int} (hx:l[k]?=some x):w.cell? ⟨g,k,none⟩=some (.int .i64 x):=by
 obtain⟨cur,hb,hr⟩:=h;have:=hr k x hx 0 _ rfl;rw[Nat.mul_one,Nat.add_zero] at this;rw[hb.cell];exact this
theorem LI.frozen {w:World} {g:Nat} {l:List Int} (h:LI w g l) (k:Nat):w.frozen? ⟨g,k,none⟩=false:=by obtain⟨_,h,_⟩:=h;exact h.frozen k
theorem LI.alloc {w:World} {g:Nat} {l:List Int} (h:LI w g l) (o:Obj):LI (w.alloc o) g l:=by obtain⟨c,h,hr⟩:=h;exact⟨c,h.alloc o,hr⟩
theorem LI.drew {w:World} {g:Nat} {l:List Int} (h:LI w g l):LI w.drew g l:=h
theorem LI.drewN {w:World} {g:Nat} {l:List Int} (h:LI w g l) (n:Nat):LI (w.drewN n) g l:=h
theorem LI.below {w w':World} {g B:Nat} {l:List Int} (h:LI w g l) (hb:Below B w w') (hg:g<B):LI w' g l:=by obtain⟨c,h,hr⟩:=h;exact⟨c,h.below hb hg,hr⟩
theorem LI.on {w w':World} {g:Nat} {l:List Int} (h:LI w g l) (hb:Below w.heap.size w w'):LI w' g l:=h.below hb h.lt
theorem getD_of {l:List Int} {k:Nat} {x:Int} (h:l[k]?=some x):l.getD k 0=x:=by simp[List.getD_eq_getElem?_getD,h]
theorem c_indexZ (A:Option Addr) (l:List (Int)) (c:Nat) (p:Int->Bool) (f:FuncId) (cap:Array Value) (w:World) (hl:l.length<=100000) (hR:Rd zC 1 w A l)
  (he:∀args W,(callFunc f args).run Tryz.prog W=.ok (.enter f args) W)
  (hf:∀W x,Below w.heap.size w W->x∈l->Calls Tryz.prog f (#[.int .i64 x]++cap) W fun e W'=>e=.returned (.bool (p x))∧Below W.heap.size W W'):
  Calls Tryz.prog 252 #[.slice A l.length c,.func (.func f) #[] cap] w fun e w'=>e=.returned (.int .i64 (idxOf p l 0))∧Below w.heap.size w w':=by
 have HF:=Lib.hid hf;clear hf;go_enter Tryz.func252,Tryz.ntmps252
 go_wp2;go_loopw [8] (fun i wr=>∃k:Nat,k<=l.length∧i=.int .i64 k∧Below w.heap.size w wr∧Hid (idxOf p l 0=idxOf p (l.drop k) k)) (fun i _=>l.length-(intOf i).toNat)
 case atStart=>exact⟨0,by omega,rfl,Below.refl _ _,rfl⟩
 case round=>
  obtain⟨k,hk,rfl,hB,HI⟩:=hrel;by_cases hlt:k<l.length
  ·obtain⟨x,b,off,hx,rfl,hb,c0⟩:=rd_int (hR.on hB) hlt;have HD:=Lib.hid (idxOf_drop p l k x hx);have hm:=List.mem_of_getElem? hx;have HC:=Lib.hid (HF.out wr x hB hm);clear hx hm;cases hp:p x
   all_goals
    have HP:=Lib.hid hp;clear hp;go_wp2_with fail
    refine HC.out.mono ?_;rintro e w1 ⟨rfl,hb1⟩;rw[HP.out];go_wp2
   ·go_roundw
    case rel=>exact⟨k+1,by omega,by go_num,hB.trans (hb1.mono hB.size),by rw[HI.out,HD.out,HP.out];rfl⟩
    case measure=>simp[intOf];omega
   ·go_ret;exact⟨ret_int (by rw[HI.out,HD.out,HP.out];rfl),hB.trans (hb1.mono hB.size)⟩
  ·go_wp2;go_ret;exact⟨ret_int (by rw[HI.out,List.drop_of_length_le (by omega)];rfl),hB⟩
theorem c_containsZ (A:Option Addr) (l:List (Int)) (c:Nat) (p:Int->Bool) (f:FuncId) (cap:Array Value) (w:World) (hl:l.length<=100000) (hR:Rd zC 1 w A l)
  (he:∀args W,(callFunc f args).run Tryz.prog W=.ok (.enter f args) W)
  (hf:∀W x,Below w.heap.size w W->x∈l->Calls Tryz.prog f (#[.int .i64 x]++cap) W fun e W'=>e=.returned (.bool (p x))∧Below W.heap.size W W'):
  Calls Tryz.prog 239 #[.slice A l.length c,.func (.func f) #[] cap] w fun e w'=>e=.returned (.bool (l.any p))∧Below w.heap.size w w':=by
 have HC:=Lib.hid (c_indexZ A l c p f cap w hl hR he hf);have HA:=Lib.hid (idxOf_nonneg p l 0);clear he hf hR;go_enter Tryz.func239,Tryz.ntmps239
 go_wp2_with (go_at_call 252;refine HC.out.mono ?_;rintro e w' ⟨rfl,hb⟩)
 go_ret;exact⟨ret_bool (by rw[Bool.eq_iff_iff,←HA.out];simp),hb⟩
end Go.Proofs.YtjkkfcghkeoedaaGreatDoor.V
namespace Go.Proofs.YtjkkfcghkeoedaaGreatDoor.V
open Go.RowKit
structure Ru where
 s:Int
 g:Int
 c:Int
abbrev ruV (r:Ru):Value:=.agg #[.int .i64 r.s,.int .i64 r.g,.int .i64 r.c]
theorem p_within (n lo hi:Int) (w:World):
  Calls Tryz.prog 92 #[.int .i64 n,.int .i64 lo,.int .i64 hi] w fun e w'=>e=.returned (.bool (wn n lo hi))∧w=w':=by
 by_cases h1:lo<=n
 ·have t1:decide (lo<=n)=true:=by simpa using h1
  go_enter Tryz.func92,Tryz.ntmps92
  go_wp2;go_ret;exact⟨ret_bool (by simp[wn,h1]),rfl⟩
 ·have t1:decide (lo<=n)=false:=by simpa using h1
  go_enter Tryz.func92,Tryz.ntmps92
  go_wp2;go_ret;exact⟨ret_bool (by unfold wn;rw[t1];rfl),rfl⟩
theorem p_withinV {n lo hi:Int} {b:Bool} (h:wn n lo hi=b) (w:World):Calls Tryz.prog 92 #[.int .i64 n,.int .i64 lo,.int .i64 hi] w fun e w'=>e=.returned (.bool b)∧w=w':=h▸p_within n lo hi w
theorem r_within (n lo hi:Int) (w:World):
  Calls Tryz.prog 100 #[.int .i64 n,.int .i64 lo,.int .i64 hi] w fun e w'=>e=.returned (.bool (wn n lo hi))∧w=w':=by
 by_cases h1:lo<=n
 ·have t1:decide (lo<=n)=true:=by simpa using h1
  go_enter Tryz.func100,Tryz.ntmps100
  go_wp2;go_ret;exact⟨ret_bool (by simp[wn,h1]),rfl⟩
 ·have t1:decide (lo<=n)=false:=by simpa using h1
  go_enter Tryz.func100,Tryz.ntmps100
  go_wp2;go_ret;exact⟨ret_bool (by unfold wn;rw[t1];rfl),rfl⟩
theorem r_withinV {n lo hi:Int} {b:Bool} (h:wn n lo hi=b) (w:World):Calls Tryz.prog 100 #[.int .i64 n,.int .i64 lo,.int .i64 hi] w fun e w'=>e=.returned (.bool b)∧w=w':=h▸r_within n lo hi w
def vRu (r:Ru):Bool:=wn r.s 1 200&&(wn r.g 1 r.s&&wn r.c 1 240)
def vGu (l:List Int):Bool:=l.all (fun x=>wn x (-1) 200)&&decide (l.length<=2000)
theorem vru {r:Ru} (h:vRu r=true):1<=r.s∧r.s<=200∧1<=r.g∧r.g<=r.s∧1<=r.c∧r.c<=240:=by
 unfold vRu at h;rw[Bool.and_eq_true,Bool.and_eq_true,wn_iff,wn_iff,wn_iff] at h;omega
theorem vgu {l:List Int} (h:vGu l=true):l.length<=2000∧∀(k:Nat) (x:Int),l[k]?=some x -> -1<=x∧x<=200:=by
 unfold vGu at h;rw[Bool.and_eq_true,List.all_eq_true] at h;exact⟨by simpa using h.2,fun k x hx=>wn_iff.1 (h.1 x (List.mem_of_getElem? hx))⟩
theorem p_ValidRule (r:Ru) (w:World):Calls Tryz.prog 29 #[ruV r] w fun e w'=>e=.returned (.bool (vRu r))∧Below w.heap.size w w':=by
 have HB:=Lib.hid (show vRu r=(wn r.s 1 200&&(wn r.g 1 r.s&&wn r.c 1 240)) from rfl);cases h1:wn r.s 1 200
 ·go_enter Tryz.func29,Tryz.ntmps29
  go_wp2_with (go_at_call 92;((with_reducible refine(p_withinV h1 _).mono ?_);rintro e w' ⟨rfl,rfl⟩))
  go_ret;exact⟨ret_bool (by rw[HB.out,h1];rfl),bl_alloc (below_refl _) _⟩
 cases h2:wn r.g 1 r.s
 ·go_enter Tryz.func29,Tryz.ntmps29
  go_wp2_with (first|(go_at_call 92;((with_reducible refine(p_withinV h1 _).mono ?_);rintro e w' ⟨rfl,rfl⟩))|(go_at_call 92;((with_reducible refine(p_withinV h2 _).mono ?_);rintro e w' ⟨rfl,rfl⟩)))
  go_ret;exact⟨ret_bool (by rw[HB.out,h1,h2];rfl),bl_alloc (below_refl _) _⟩
 ·cases h3:wn r.c 1 240
  all_goals
   go_enter Tryz.func29,Tryz.ntmps29
   go_wp2_with (first|(go_at_call 92;((with_reducible refine(p_withinV h1 _).mono ?_);rintro e w' ⟨rfl,rfl⟩))|(go_at_call 92;((with_reducible refine(p_withinV h2 _).mono ?_);rintro e w' ⟨rfl,rfl⟩))|(go_at_call 92;((with_reducible refine(p_withinV h3 _).mono ?_);rintro e w' ⟨rfl,rfl⟩)))
   go_ret;exact⟨ret_bool (by rw[HB.out,h1,h2,h3];rfl),bl_alloc (below_refl _) _⟩
theorem p_ValidRuleV {r:Ru} {b:Bool} (h:vRu r=b) (w:World):Calls Tryz.prog 29 #[ruV r] w fun e w'=>e=.returned (.bool b)∧Below w.heap.size w w':=h▸p_ValidRule r w
theorem r_ValidRule (r:Ru) (w:World):Calls Tryz.prog 36 #[ruV r] w fun e w'=>e=.returned (.bool (vRu r))∧Below w.heap.size w w':=by
 have HB:=Lib.hid (show vRu r=(wn r.s 1 200&&(wn r.g 1 r.s&&wn r.c 1 240)) from rfl);cases h1:wn r.s 1 200
 ·go_enter Tryz.func36,Tryz.ntmps36
  go_wp2_with (go_at_call 100;((with_reducible refine(r_withinV h1 _).mono ?_);rintro e w' ⟨rfl,rfl⟩))
  go_ret;exact⟨ret_bool (by rw[HB.out,h1];rfl),bl_alloc (below_refl _) _⟩
 cases h2:wn r.g 1 r.s
 ·go_enter Tryz.func36,Tryz.ntmps36
  go_wp2_with (first|(go_at_call 100;((with_reducible refine(r_withinV h1 _).mono ?_);rintro e w' ⟨rfl,rfl⟩))|(go_at_call 100;((with_reducible refine(r_withinV h2 _).mono ?_);rintro e w' ⟨rfl,rfl⟩)))
  go_ret;exact⟨ret_bool (by rw[HB.out,h1,h2];rfl),bl_alloc (below_refl _) _⟩
 ·cases h3:wn r.c 1 240
  all_goals
   go_enter Tryz.func36,Tryz.ntmps36
   go_wp2_with (first|(go_at_call 100;((with_reducible refine(r_withinV h1 _).mono ?_);rintro e w' ⟨rfl,rfl⟩))|(go_at_call 100;((with_reducible refine(r_withinV h2 _).mono ?_);rintro e w' ⟨rfl,rfl⟩))|(go_at_call 100;((with_reducible refine(r_withinV h3 _).mono ?_);rintro e w' ⟨rfl,rfl⟩)))
   go_ret;exact⟨ret_bool (by rw[HB.out,h1,h2,h3];rfl),bl_alloc (below_refl _) _⟩
theorem any_ngu (l:List Int):(l.any fun x=>!wn x (-1) 200)=!l.all fun x=>wn x (-1) 200:=by induction l<;>simp_all
theorem p_ValidGusts1 (n:Int) (w:World):Calls Tryz.prog 240 #[.int .i64 n] w fun e w'=>e=.returned (.bool (!wn n (-1) 200))∧Below w.heap.size w w':=by
 go_enter Tryz.func240,Tryz.ntmps240
 go_wp2_with (go_at_call 92;((with_reducible refine(p_within n (-1) 200 _).mono ?_);rintro e w' ⟨rfl,rfl⟩))
 go_ret;exact⟨rfl,below_refl _⟩
theorem p_ValidGusts (A:Option Addr) (l:List Int) (c:Nat) (w:World) (hl:l.length<=100000) (hR:Rd zC 1 w A l):
  Calls Tryz.prog 201 #[.slice A l.length c] w fun e w'=>e=.returned (.bool (vGu l))∧Below w.heap.size w w':=by
 have HC:=Lib.hid (c_containsZ A l c (fun x=>!wn x (-1) 200) 240 #[] w hl hR (enters_of Tryz.func240 (by kernel_rfl) rfl) (fun V x _ _=>p_ValidGusts1 x V));rw[any_ngu] at HC;have HB:=Lib.hid (show vGu l=(l.all (fun x=>wn x (-1) 200)&&decide (l.length<=2000)) from rfl);clear hR;by_cases h1:(l.length:Int)<=2000
 ·go_enter Tryz.func201,Tryz.ntmps201
  go_wp2_with (go_at_call 239;refine HC.out.mono ?_;rintro e w' ⟨rfl,hb⟩)
  go_ret;exact⟨ret_bool (by rw[HB.out,decide_eq_true (show l.length<=2000 by omega)];simp),hb⟩
 ·go_enter Tryz.func201,Tryz.ntmps201
  go_wp2;go_ret;exact⟨ret_bool (by rw[HB.out,decide_eq_false (show ¬l.length<=2000 by omega)];simp),below_refl _⟩
theorem p_ValidGustsV {A:Option Addr} {l:List Int} {c:Nat} {w:World} {b:Bool} (h:vGu l=b) (hl:l.length<=100000) (hR:Rd zC 1 w A l):
  Calls Tryz.prog 201 #[.slice A l.length c] w fun e w'=>e=.returned (.bool b)∧Below w.heap.size w w':=h▸p_ValidGusts A l c w hl hR
def aE (r:Ru) (l:List Int):Int:=if (vRu r&&vGu l)=true then 0 else 1
theorem p_asked (A:Option Addr) (r:Ru) (l:List Int) (c:Nat) (w:World) (hl:l.length<=100000) (hR:Rd zC 1 w A l):
  Calls Tryz.prog 172 #[ruV r,.slice A l.length c] w fun e w'=>e=.returned (.int .i64 (aE r l))∧Below w.heap.size w w':=by
 have HG:=Lib.hid (fun b (h:vGu l=b) W (hb:Below w.heap.size w W)=>p_ValidGustsV (c:=c) h hl (hR.on hb));have HE0:=Lib.hid (show aE r l=if (vRu r&&vGu l)=true then 0 else 1 from rfl);clear hR;cases h1:vRu r
 ·go_enter Tryz.func172,Tryz.ntmps172
  go_wp2_with (go_at_call 29;((with_reducible refine(p_ValidRuleV h1 _).mono ?_);rintro e w1 ⟨rfl,hb1⟩;obtain⟨hc1,hf1,hz1⟩:=qz hb1;have z1_0:w.heap.size<w1.heap.size:=(by omega)))
  go_ret;exact⟨ret_int (by rw[HE0.out,h1];rfl),bl⟩
 ·cases h2:vGu l
  all_goals
   go_enter Tryz.func172,Tryz.ntmps172
   go_wp2_with (first
    |((go_at_call 29;((with_reducible refine(p_ValidRuleV h1 _).mono ?_);rintro e w1 ⟨rfl,hb1⟩;obtain⟨hc1,hf1,hz1⟩:=qz hb1;have z1_0:w.heap.size<w1.heap.size:=(by omega)));have B1:Below w.heap.size w w1:=bl)
    |(go_at_call 201;((with_reducible refine(HG.out _ h2 _ B1).mono ?_);rintro e w2 ⟨rfl,hb2⟩;obtain⟨hc2,hf2,hz2⟩:=qz hb2)))
   go_ret;exact⟨ret_int (by rw[HE0.out,h1,h2];rfl),bl⟩
def nx (r:Ru) (st g:Int):Int:=if st<0 then (if g<0∨r.s<=g then 0 else -1) else if g<0∨r.g<=g then 0 else if st+1=r.c then -1 else st+1
def gB (r:Ru) (st g:Int):Bool:=decide (st<0)&&(decide (0<=g)&&decide (g<r.s))
theorem nx_bd {r:Ru} (h:vRu r=true) {st:Int} (h0:-1<=st) (h1:st<r.c) (g:Int):-1<=nx r st g∧nx r st g<r.c:=by
 have:=vru h;unfold nx;split
 ·split<;>omega
 ·split
  ·omega
  ·split<;>omega
def wfn (st:Int):Nat:=if st<0 then 202 else 241
def wcs (b:Nat) (r:Ru) (st:Int):Array Value:=#[.int .i64 r.s,.int .i64 r.g,.int .i64 r.c,.int .i64 (if st<0 then 0 else st),.func (.func (wfn st)) #[.pointer (some ⟨b,0,none⟩)] #[]]
abbrev Wt (w:World) (b:Nat) (r:Ru) (st:Int):Prop:=Blk w b 256 (wcs b r st)
theorem wcs_neg {b:Nat} {r:Ru} {st:Int} (h:st<0):wcs b r st=#[.int .i64 r.s,.int .i64 r.g,.int .i64 r.c,.int .i64 0,.func (.func 202) #[.pointer (some ⟨b,0,none⟩)] #[]]:=by
 unfold wcs wfn;rw[if_pos h,if_pos h]
theorem wcs_pos {b:Nat} {r:Ru} {st:Int} (h:0<=st):wcs b r st=#[.int .i64 r.s,.int .i64 r.g,.int .i64 r.c,.int .i64 st,.func (.func 241) #[.pointer (some ⟨b,0,none⟩)] #[]]:=by
 unfold wcs wfn;rw[if_neg (by omega),if_neg (by omega)]
theorem p_newWatch (r:Ru) (w:World):Calls Tryz.prog 173 #[ruV r] w fun e w'=>e=.returned (.pointer (some ⟨w.heap.size+1,0,none⟩))∧Wt w' (w.heap.size+1) r (-1)∧Below w.heap.size w w'∧w'.heap.size=w.heap.size+2:=by
 have hW:=Lib.hid (wcs_neg (b:=w.heap.size+1) (r:=r) (st:=-1) (by omega));go_enter Tryz.func173,Tryz.ntmps173
 go_wp2;go_ret;refine⟨rfl,?_,bl_alloc (bl_alloc (below_refl _) _) _,by simp⟩;unfold Wt;rw[hW.out];have:=Blk.new (w.alloc (.cells #[.int .i64 r.s,.int .i64 r.g,.int .i64 r.c] 28)) 256 #[.int .i64 r.s,.int .i64 r.g,.int .i64 r.c,.int .i64 0,.func (.func 202) #[.pointer (some ⟨w.heap.size+1,0,none⟩)] #[]];simpa only[World.size_alloc] using this
theorem wt_to_stop {w:World} {b:Nat} {r:Ru} {u:Value} (h:Blk w b 256 #[.int .i64 r.s,.int .i64 r.g,.int .i64 r.c,u,.func (.func 202) #[.pointer (some ⟨b,0,none⟩)] #[]]):
  Wt ((w.setCell ⟨b,3,none⟩ (.int .i64 0)).setCell ⟨b,4,none⟩ (.func (.func 241) #[.pointer (some ⟨b,0,none⟩)] #[])) b r 0:=by
 unfold Wt;rw[wcs_pos (by omega)];exact(h.set_ 3 _).set_ 4 _
theorem p_going (b:Nat) (r:Ru) (st g:Int) (w:World) (h:Wt w b r st) (hst:st<0) (hg:-1<=g):Calls Tryz.prog 202 #[.pointer (some ⟨b,0,none⟩),.int .i64 g] w fun e w'=>e=.returned (.bool (gB r st g))∧Wt w' b r (nx r st g)∧Stp (fun x=>x=b) w w':=by
 have h':=h;unfold Wt at h';rw[wcs_neg hst] at h';have c0:=h'.cell 0;have c3:=h'.cell 3;have c4:=h'.cell 4;simp only[GA] at c0 c3 c4;have f3:=h'.frozen 3;have f4:=h'.frozen 4;have hN:nx r st g=if g<0∨r.s<=g then 0 else -1:=by unfold nx;rw[if_pos hst]
 have hG:gB r st g=(decide (0<=g)&&decide (g<r.s)):=by unfold gB;rw[decide_eq_true hst];rfl
 have HH:=Lib.hid (wt_to_stop h');have HH0:=Lib.hid (show Wt w b r (-1) by unfold Wt;rw[wcs_neg (by omega)];exact h');have HS:=Lib.hid (fun u v=>((Stp.refl (fun x=>x=b) w).setCell (p:=⟨b,3,none⟩) (.inl rfl) u).setCell (p:=⟨b,4,none⟩) (.inl rfl) v);clear h h';by_cases h1:g=-1
 ·have HN:=Lib.hid (show nx r st g=0 by rw[hN,if_pos (by omega)]);have HG:=Lib.hid (show gB r st g=false by rw[hG,decide_eq_false (by omega)];rfl);subst h1;clear hN hG;go_enter Tryz.func202,Tryz.ntmps202
  go_wp2;go_ret;exact⟨ret_bool (by rw[HG.out]),by rw[HN.out];exact HH.out,HS.out _ _⟩
 by_cases h2:g<r.s
 ·have HN:=Lib.hid (show nx r st g=-1 by rw[hN,if_neg (by omega)]);have HG:=Lib.hid (show gB r st g=true by rw[hG,decide_eq_true (by omega),decide_eq_true h2];rfl);clear hN hG;go_enter Tryz.func202,Tryz.ntmps202
  go_wp2;go_ret;exact⟨ret_bool (by rw[HG.out]),by rw[HN.out];exact HH0.out,Stp.refl _ _⟩
 ·have HN:=Lib.hid (show nx r st g=0 by rw[hN,if_pos (by omega)]);have HG:=Lib.hid (show gB r st g=false by rw[hG,decide_eq_false h2];simp);clear hN hG;go_enter Tryz.func202,Tryz.ntmps202
  go_wp2;go_ret;exact⟨ret_bool (by rw[HG.out]),by rw[HN.out];exact HH.out,HS.out _ _⟩
theorem wt_set {w:World} {b:Nat} {r:Ru} {u:Value} {x:Int} (hx:0<=x) (h:Blk w b 256 #[.int .i64 r.s,.int .i64 r.g,.int .i64 r.c,u,.func (.func 241) #[.pointer (some ⟨b,0,none⟩)] #[]]):
  Wt (w.setCell ⟨b,3,none⟩ (.int .i64 x)) b r x:=by
 unfold Wt;rw[wcs_pos hx];exact h.set_ 3 _
theorem p_stopped (b:Nat) (r:Ru) (st g:Int) (w:World) (h:Wt w b r st) (hst:0<=st) (hsc:st<1000) (hg:-1<=g):Calls Tryz.prog 241 #[.pointer (some ⟨b,0,none⟩),.int .i64 g] w fun e w'=>e=.returned (.bool (gB r st g))∧Wt w' b r (nx r st g)∧Stp (fun x=>x=b) w w':=by
 have h':=h;unfold Wt at h';rw[wcs_pos hst] at h';have c1:=h'.cell 1;have c2:=h'.cell 2;have c3:=h'.cell 3;have c4:=h'.cell 4;simp only[GA] at c1 c2 c3 c4;have f3:=h'.frozen 3;have f4:=h'.frozen 4;have hN:nx r st g=if g<0∨r.g<=g then 0 else if st+1=r.c then -1 else st+1:=by unfold nx;rw[if_neg (by omega)]
 have HG:=Lib.hid (show gB r st g=false by unfold gB;rw[decide_eq_false (by omega)];rfl);have HH:=Lib.hid h';have HS1:=Lib.hid (fun u=>(Stp.refl (fun x=>x=b) w).setCell (p:=⟨b,3,none⟩) (.inl rfl) u);clear h h';by_cases h1:g=-1
 ·have HN:=Lib.hid (show nx r st g=0 by rw[hN,if_pos (by omega)]);subst h1;clear hN;go_enter Tryz.func241,Tryz.ntmps241
  go_wp2;go_ret;exact⟨ret_bool (by rw[HG.out]),by rw[HN.out];exact wt_set (by omega) HH.out,HS1.out _⟩
 by_cases h2:r.g<=g
 ·have HN:=Lib.hid (show nx r st g=0 by rw[hN,if_pos (by omega)]);clear hN;go_enter Tryz.func241,Tryz.ntmps241
  go_wp2;go_ret;exact⟨ret_bool (by rw[HG.out]),by rw[HN.out];exact wt_set (by omega) HH.out,HS1.out _⟩
 have h3:¬(g<0∨r.g<=g):=by omega
 by_cases h4:st+1=r.c
 ·have HN:=Lib.hid (show nx r st g=-1 by rw[hN,if_neg h3,if_pos h4]);have HC:=Lib.hid h4;have h5:(st+1==r.c)=true:=by simpa using h4
  clear hN h3 h4;go_enter Tryz.func241,Tryz.ntmps241
  go_wp2;go_quiet (fail)
  go_wp2;go_ret;exact⟨ret_bool (by rw[HG.out]),by rw[HN.out];unfold Wt;rw[wcs_neg (by omega)];exact(((HH.out.set_ 3 _).drewN nq).set_ 3 _).set_ 4 _,(((HS1.out _).drewN nq).setCell (.inl rfl) _).setCell (.inl rfl) _⟩
 ·have HN:=Lib.hid (show nx r st g=st+1 by rw[hN,if_neg h3,if_neg h4]);have h5:(st+1==r.c)=false:=by simpa using h4
  clear hN h3 h4;go_enter Tryz.func241,Tryz.ntmps241
  go_wp2;go_quiet (fail)
  go_wp2;go_ret;exact⟨ret_bool (by rw[HG.out]),by rw[HN.out];exact(wt_set (by omega) HH.out).drewN nq,(HS1.out _).drewN nq⟩
end Go.Proofs.YtjkkfcghkeoedaaGreatDoor.V
namespace Go.Proofs.YtjkkfcghkeoedaaGreatDoor.V
open Go.RowKit Go.Shelf
attribute [local go_sem] Oper.semAt_some
def stA (r:Ru) (l:List Int):Nat->Int
 |0=>-1
 |k+1=>nx r (stA r l k) (l.getD k 0)
theorem stA_bd {r:Ru} (h:vRu r=true) (l:List Int):∀k,-1<=stA r l k∧stA r l k<r.c
 |0=>by have:=vru h;unfold stA;omega
 |k+1=>nx_bd h (stA_bd h l k).1 (stA_bd h l k).2 _
end Go.Proofs.YtjkkfcghkeoedaaGreatDoor.V
namespace Go.Proofs.YtjkkfcghkeoedaaGreatDoor.V
open Go.RowKit
theorem a_z {r:Ru} {l:List Int} (h:aE r l=0):vRu r=true∧vGu l=true:=by
 unfold aE at h;split at h
 ·rename_i h1;rwa [Bool.and_eq_true] at h1
 ·omega
theorem aE_one {r:Ru} {l:List Int} (h:¬aE r l=0):aE r l=1:=by
 unfold aE at h ⊢;split at h
 ·omega
 ·rename_i h1;rw[if_neg h1]
theorem w_next {b:Nat} {r:Ru} {st g:Int} {w:World} (h:Wt w b r st) (h1:st<1000) (hg:-1<=g):Calls Tryz.prog (wfn st) #[.pointer (some ⟨b,0,none⟩),.int .i64 g] w fun e w'=>e=.returned (.bool (gB r st g))∧Wt w' b r (nx r st g)∧Stp (fun x=>x=b) w w':=by
 unfold wfn;split
 ·exact p_going _ r _ g w h (by assumption) hg
 ·exact p_stopped _ r _ g w h (by omega) h1 hg
theorem wfn_enters (st:Int):∀args w,(callFunc (wfn st) args).run Tryz.prog w=.ok (.enter (wfn st) args) w:=by
 intro args w;unfold wfn;split
 ·exact enters_of Tryz.func202 (by kernel_rfl) rfl args w
 ·exact enters_of Tryz.func241 (by kernel_rfl) rfl args w
theorem wt_next {w:World} {b:Nat} {r:Ru} {st:Int} (h:Wt w b r st):w.cell? ⟨b,4,none⟩=some (.func (.func (wfn st)) #[.pointer (some ⟨b,0,none⟩)] #[]):=h.cell 4
def rsE (r:Ru) (l:List Int):Int:=if aE r l=0 then (if stA r l l.length<0 then 10 else 0) else 1
def rsN (r:Ru) (l:List Int):Int:=if rsE r l=0 then r.c-stA r l l.length else 0
theorem p_Resumes (A:Option Addr) (r:Ru) (l:List Int) (c:Nat) (w:World) (hl:l.length<=100000) (hR:Rd zC 1 w A l):
  Calls Tryz.prog 139 #[ruV r,.slice A l.length c] w fun e w'=>e=.returned (.tuple #[.int .i64 (rsN r l),.int .i64 (rsE r l)])∧Below w.heap.size w w':=by
 have H1:=Lib.hid (fun W (h:Below w.heap.size w W)=>p_asked A r l c W hl (hR.on h));by_cases h1:aE r l=0
 rotate_left
 ·have HE:=Lib.hid (show rsE r l=1 by unfold rsE;rw[if_neg h1]);have HB:=Lib.hid (show rsN r l=0 by unfold rsN;rw[HE.out];rfl);rw[aE_one h1] at H1;clear h1;go_enter Tryz.func139,Tryz.ntmps139
  go_wp2_with (go_at_call 172;((with_reducible refine(H1.out _ (bl_alloc (below_refl _) _)).mono ?_);rintro e w1 ⟨rfl,hb1⟩;obtain⟨hc1,hf1,hz1⟩:=qz hb1;have z1_0:w.heap.size<w1.heap.size:=(by omega)))
  go_ret2;exact⟨by rw[HE.out,HB.out];rfl,bl⟩
 rw[h1] at H1;obtain⟨hv,hg⟩:=a_z h1;have HST:=Lib.hid (stA_bd hv l);have HRC:=Lib.hid (vru hv);have HGU:=Lib.hid (vgu hg).2;have HZ:=Lib.hid h1;clear h1 hv hg;go_enter Tryz.func139,Tryz.ntmps139
 go_wp2_with fail
 have x0:=Blk.new w 28 #[.int .i64 r.s,.int .i64 r.g,.int .i64 r.c];have B0:=bl_alloc (below_refl w) (.cells #[.int .i64 r.s,.int .i64 r.g,.int .i64 r.c] 28);generalize w.alloc (.cells #[.int .i64 r.s,.int .i64 r.g,.int .i64 r.c] 28)=W0 at *;refine(H1.out _ B0).mono ?_;rintro e w1 ⟨rfl,hb1⟩;have B1:=below_tr B0 hb1;have x1:=x0.below hb1 x0.lt;have q0:=x1.cell 0;have q1:=x1.cell 1;have q2:=x1.cell 2;simp only[GA] at q0 q1 q2;clear hb1 x0 B0 H1;go_wp2_with fail
 refine(p_newWatch r w1).mono ?_;rintro e w2 ⟨rfl,hw2,hb2,_⟩;have B2:=below_tr B1 hb2;have hD2:w.heap.size<=w1.heap.size+1:=by have:=B1.size;omega
 clear q0 q1 q2 x1 hb2;generalize w1.heap.size+1=D at *;clear B1;go_wp2_with fail
 go_loopw [21] (fun i wr=>∃k:Nat,k<=l.length∧i=.int .i64 k∧Below w.heap.size w wr∧Wt wr D r (stA r l k)) (fun i _=>l.length-(intOf i).toNat)
 case atStart=>exact⟨0,by omega,rfl,B2,hw2⟩
 case round=>
  clear hw2 B2;obtain⟨k,hk,rfl,hbw,hw⟩:=hrel;have k0:=nn k;by_cases hlt:k<l.length
  ·have k1:(k:Int)<(l.length:Int):=by omega
   obtain⟨x,b,off,hx,rfl,hb,d0⟩:=rd_int (hR.on hbw) hlt;have hlx:l.getD k 0=x:=getD_of hx;have hsN:stA r l (k+1)=nx r (stA r l k) x:=by rw[stA,hlx]
   have HC:=Lib.hid (w_next hw (by have:=HST.out k;have:=HRC.out;omega) (HGU.out k x hx).1);rw[←hsN] at HC;have q4:=wt_next hw;have hen:=wfn_enters (stA r l k);generalize wfn (stA r l k)=wf at *;clear hx hlx hsN hw;go_wp2_with fail
   refine HC.out.mono ?_;rintro e w3 ⟨rfl,hw3,hs3⟩;have B3:=hbw.trans (hs3.toBelow hbw.size (fun b hb=>by omega));go_wp2;go_roundw
   case rel=>exact⟨k+1,by omega,by go_num,B3,hw3⟩
   case measure=>simp[intOf];omega
  ·obtain rfl:k=l.length:=by omega
   have b0:=HST.out l.length;have hrc:=HRC.out;by_cases hs:stA r l l.length<0
   ·have HE:=Lib.hid (show rsE r l=10 by unfold rsE;rw[if_pos HZ.out,if_pos hs]);have HB:=Lib.hid (show rsN r l=0 by unfold rsN;rw[HE.out];rfl);have HC:=Lib.hid (w_next (g:=0) hw (by omega) (by omega));have hgb:gB r (stA r l l.length) 0=true:=by unfold gB;rw[decide_eq_true hs,decide_eq_true (by omega),decide_eq_true (by omega)];rfl
    rw[hgb] at HC;have q4:=wt_next hw;have hen:=wfn_enters (stA r l l.length);have hst:=stA r l l.length;generalize wfn (stA r l l.length)=wf at *;clear hgb hw b0 hrc;go_wp2_with fail
    go_loopw [32] (fun i wz=>i=.int .i64 0∧wz=wr) (fun i _=>0)
    case atStart=>exact⟨rfl,rfl⟩
    case round=>
     obtain⟨rfl,rfl⟩:=hrel;go_wp2_with fail
     refine HC.out.mono ?_;rintro e w3 ⟨rfl,hw3,hs3⟩;have B3:=hbw.trans (hs3.toBelow hbw.size (fun b hb=>by omega));go_wp2;go_ret2;exact⟨by rw[HE.out,HB.out];rfl,B3⟩
   ·have HE:=Lib.hid (show rsE r l=0 by unfold rsE;rw[if_pos HZ.out,if_neg hs]);have HB:=Lib.hid (show rsN r l=r.c-stA r l l.length by unfold rsN;rw[if_pos HE.out]);generalize stA r l l.length=σ at *;go_wp2_with fail
    go_loopw [32] (fun i wz=>∃n:Nat,(n:Int)+σ<=r.c∧i=.int .i64 n∧Below w.heap.size w wz∧Wt wz D r (if (n:Int)+σ<r.c then (n:Int)+σ else -1)) (fun i _=>241-(intOf i).toNat)
    case atStart=>exact⟨0,by simp;omega,rfl,hbw,by rw[if_pos (by simp;omega)];simpa using hw⟩
    case round=>
     clear hbw hw;rename World=>wz
     obtain⟨n,hn,rfl,hbz,hwz⟩:=hrel;have n0:=nn n;have n1:(n:Int)<241:=by omega
     have hn1:(n:Int)=0->σ<r.c:=fun _=>by omega
     by_cases hlt:(n:Int)+σ<r.c
     ·rw[if_pos hlt] at hwz;have HC:=Lib.hid (w_next (g:=0) hwz (by omega) (by omega));have hgb:gB r ((n:Int)+σ) 0=false:=by unfold gB;rw[decide_eq_false (by omega)];rfl
      have hnx:nx r ((n:Int)+σ) 0=if ((n+1:Nat):Int)+σ<r.c then ((n+1:Nat):Int)+σ else -1:=by
       unfold nx;rw[if_neg (by omega),if_neg (by omega)];by_cases h:(n:Int)+σ+1=r.c
       ·rw[if_pos h,if_neg (by omega)]
       ·rw[if_neg h,if_pos (by omega)];omega
      rw[hgb,hnx] at HC;have q4:=wt_next hwz;have hen:=wfn_enters ((n:Int)+σ);generalize wfn ((n:Int)+σ)=wf at *;clear hgb hnx hwz;go_wp2_with fail
      refine HC.out.mono ?_;rintro e w3 ⟨rfl,hw3,hs3⟩;have B3:=hbz.trans (hs3.toBelow hbz.size (fun b hb=>by omega));go_wp2;go_roundw
      case rel=>exact⟨n+1,by omega,by go_num,B3,hw3⟩
      case measure=>simp[intOf];omega
     ·rw[if_neg hlt] at hwz;have HC:=Lib.hid (w_next (g:=0) hwz (by omega) (by omega));have hgb:gB r (-1) 0=true:=by unfold gB;rw[decide_eq_true (by omega),decide_eq_true (by omega),decide_eq_true (by omega)];rfl
      rw[hgb] at HC;have q4:=wt_next hwz;have hen:=wfn_enters (-1);have hnz:¬(n:Int)=0:=by omega
      have hnz2:¬n=0:=by omega
      have HN:=Lib.hid (show(n:Int)=r.c-σ by omega);generalize wfn (-1)=wf at *;clear hgb hwz;go_wp2_with fail
      refine HC.out.mono ?_;rintro e w3 ⟨rfl,hw3,hs3⟩;have B3:=hbz.trans (hs3.toBelow hbz.size (fun b hb=>by omega));go_wp2;go_ret2;exact⟨by rw[HE.out,HB.out,←HN.out];rfl,B3⟩
end Go.Proofs.YtjkkfcghkeoedaaGreatDoor.V
namespace Go.Proofs.YtjkkfcghkeoedaaGreatDoor.Fi
open Go.Lib Tx
abbrev wn (n lo hi:Int):Bool:=decide (lo<=n)&&decide (n<=hi)
structure Jt where
 h:Int
 s:Bool
structure Cl where
 fi:Int
 ga:Int
 tp:Int
 le:Int
 la:Int
 st:Int
structure Rt where
 lo:Int
 hi:Int
 ab:Int
 co:Int
def jAt (l:List Jt) (i:Nat):Jt:=l[i]?.getD ⟨0,false⟩
def okJ (l:List Jt) (i:Nat):Bool:=wn (jAt l i).h 1 200000&&(decide (i=0)||decide ((jAt l (i-1)).h<(jAt l i).h))
def vJ (l:List Jt):Bool:=(List.range l.length).all (okJ l)&&decide (l.length<=200)
def vCl (c:Cl):Bool:=wn c.fi 1 200000&&(wn c.ga 1 200000&&(wn c.tp 1 200000&&(wn c.le 1 200000&&(wn c.la 0 (c.le-1)&&wn c.st 1 1000000))))
def sdN (l:List Jt) (k:Nat):List Nat:=(List.range k).filter fun i=>(jAt l i).s
def folB (c:Cl) (l:List Jt) (b:Int) (n:Nat):Bool:=if b<0 then decide ((jAt l n).h<=c.fi) else decide (b<(n:Int))&&decide ((jAt l n).h-(jAt l b.toNat).h<=c.ga)
def lastB (c:Cl) (j:Jt):Bool:=decide (c.tp<=j.h+c.ga)
def upM (a m:Int):Int:=if 0<m∧(a=0∨m+1<a) then m+1 else a
def nds (c:Cl):List Jt->List Int
 |[]=>[]
 |j::r=>(if j.s=true then (if lastB c j=true then 1 else ((r.zip (nds c r)).filter fun q=>decide (q.1.h-j.h<=c.ga)).foldl (fun a q=>upM a q.2) 0) else 0)::nds c r
def ndA (c:Cl) (l:List Jt) (i:Nat):Int:=(nds c l).getD i 0
def btr (c:Cl) (l:List Jt) (at0:Int) (b:Option Nat) (i:Nat):Option Nat:=
 if (decide (0<ndA c l i)&&folB c l at0 i)=true then (match b with|none=>some i|some k=>if ndA c l i<ndA c l k then some i else some k) else b
def bstN (c:Cl) (l:List Jt) (at0:Int):Option Nat:=(sdN l l.length).foldl (btr c l at0) none
def fewF (c:Cl) (l:List Jt):Nat->Int->Option (List Nat)
 |0,_=>none
 |k+1,b=>match bstN c l b with
  |none=>none
  |some i=>if ndA c l i=1 then some [i] else (fewF c l k i).map (i::·)
def fewN (c:Cl) (l:List Jt):Option (List Nat):=fewF c l (l.length+1) (-1)
def toZ (l:List Nat):List Int:=l.map fun n:Nat=>(n:Int)
def fewL (c:Cl) (l:List Jt):List Int:=if (vCl c&&vJ l)=true then (match fewN c l with|some d=>toZ d|none=>[]) else []
def fewE (c:Cl) (l:List Jt):Int:=if (vCl c&&vJ l)=true then (match fewN c l with|some _=>0|none=>8) else 1
def vRt (r:Rt):Bool:=wn r.hi 1 200000&&(wn r.lo 0 1000000&&(wn r.ab 0 1000000&&wn r.co 0 1000000))
def mtr (h:Int):Int:=(h+999)/1000
def priE (r:Rt) (h:Int):Int:=if vRt r=true then (if wn h 0 200000=true then 0 else 7) else 1
def priV (r:Rt) (h:Int):Int:=if priE r h=0 then r.co+r.lo*mtr (min h r.hi)+r.ab*mtr (max 0 (h-r.hi)) else 0
def hshS (a:Nat) (c:UInt8):Nat:=((a ^^^ c.toNat)*1099511628211)%18446744073709551616
def hsh (s:List UInt8):Nat:=s.foldl hshS 14695981039346656037
structure En where
 n:Int
 d:Int
 t:ByteArray
 s:Nat
structure Su where
 stk:List (List S.Course)
 jnt:List (List Jt)
 cl:Cl
 gear:List G.It
 ru:V.Ru
 rt:Rt
 men:Int
structure Sit where
 dogs:List Int
 fel:Bool
 men:Int
structure Rig where
 st:Int
 lk:List G.Lk
structure St where
 x:Su
 day:Int
 gusts:List Int
 rigs:List Rig
 sites:List Sit
 items:List G.It
 back:List ByteArray
 money:Int
 lines:List En
inductive Cm where
 |gust (g:Int)
 |day
 |dog (s:Int)
 |rig (s:Int) (l:List G.Lk)
 |strike (r:Int)
 |up (s m:Int)
 |down (s m:Int)
 |lift (r:Int) (l:List Int)
 |look (m:ByteArray)
 |call (b:ByteArray)
 |cut (s:Int)
 |bill (s:Int)
def vSu (x:Su):Bool:=wn x.stk.length 1 8&&(decide (x.jnt.length=x.stk.length)&&(x.stk.all S.validC&&(x.jnt.all vJ&&(vCl x.cl&&(G.vldG x.gear&&(V.vRu x.ru&&(vRt x.rt&&wn x.men 1 16)))))))
def new (x:Su):St:=⟨x,0,[],[],x.stk.map (fun _=>⟨[],false,0⟩),x.gear,[],0,[]⟩
def nT (n:Int):List UInt8:=itoa n
def wsT (l:List Int):List UInt8:=l.flatMap fun n=>32::nT n
def sumL (b:Nat) (n d:Int) (t:List UInt8):Nat:=hsh (decDigits b++32::(nT n++32::(nT d++32::t)))
def lastS (l:List En):Nat:=match l.getLast? with|some x=>x.s|none=>0
def wrt (l:List En) (d:Int) (t:ByteArray):En:=⟨l.length,d,t,sumL (lastS l) l.length d t.data.toList⟩
def siteA (x:St) (i:Int):Sit:=x.sites.getD i.toNat ⟨[],false,0⟩
def rigA (x:St) (i:Int):Rig:=x.rigs.getD i.toNat ⟨0,[]⟩
def stkA (x:St) (i:Int):List S.Course:=x.x.stk.getD i.toNat []
def jntA (x:St) (i:Int):List Jt:=x.x.jnt.getD i.toNat []
def upN (x:St):Int:=x.sites.foldl (fun a s=>a+s.men) 0
def goB (x:St) (g:List Int):Bool:=decide (V.rsE x.x.ru g=10)
def setS (x:St) (i:Int) (s:Sit):St:={x with sites:=x.sites.set i.toNat s}
def eqB (a b:ByteArray):Bool:=decide (a.data.toList=b.data.toList)
def memB (l:List ByteArray) (s:ByteArray):Bool:=l.any fun y=>eqB y s
def hangB (x:St) (m:ByteArray):Bool:=x.rigs.any fun r=>r.lk.any fun k=>eqB k.nm m
def badK (x:St) (k:G.Lk):Bool:=hangB x k.nm||(decide ((G.itAt x.items (G.fndI x.items k.nm).toNat).du<x.day)||memB x.back (G.itAt x.items (G.fndI x.items k.nm).toNat).bt)
def rggB (x:St) (i:Int):Bool:=x.rigs.any fun r=>decide (r.st=i)&&decide (0<r.lk.length)
def gstP (x:St):Int:=min (max 0 (x.gusts.getLastD 0)*max 0 (x.gusts.getLastD 0)/20) 10000
def thB (x:St) (i:Int):Bool:=wn i 0 (x.sites.length-1)
def rtB (x:St) (i:Int):Bool:=wn i 0 (x.rigs.length-1)
def deed (c:Cm) (x:St):Except Int St:=match c with
 |.gust g=>if wn g (-1) 200=false then .error 7 else if ¬x.gusts.length<2000 then .error 10 else if (decide (upN x=0)||goB x (x.gusts++[g]))=false then .error 11 else .ok {x with gusts:=x.gusts++[g]}
 |.day=>if (decide (upN x=0)&&decide (x.day<100000))=false then .error 10 else .ok {x with day:=x.day+1,gusts:=[]}
 |.dog i=>if thB x i=false then .error 5 else if (!(siteA x i).fel&&decide ((siteA x i).dogs.length=0))=false then .error 10 else if goB x x.gusts=false then .error 11
   else if fewE x.x.cl (jntA x i)≠0 then .error (fewE x.x.cl (jntA x i)) else .ok (setS x i {siteA x i with dogs:=fewL x.x.cl (jntA x i)})
 |.rig i l=>if thB x i=false then .error 5 else if (siteA x i).fel=true then .error 10 else if ((G.vldG x.items&&G.vldR x.items l)&&decide (x.rigs.length<50))=false then .error 1
   else if l.any (badK x)=true then .error 12 else .ok {x with rigs:=x.rigs++[⟨i,l⟩]}
 |.strike r=>if rtB x r=false then .error 5 else if (decide (0<(rigA x r).lk.length)&&decide ((siteA x (rigA x r).st).men=0))=false then .error 10
   else .ok {x with rigs:=x.rigs.set r.toNat ⟨(rigA x r).st,[]⟩}
 |.up i m=>if thB x i=false then .error 5 else if wn m 2 16=false then .error 7
   else if (!(siteA x i).fel&&(decide (0<(siteA x i).dogs.length)&&decide (upN x+m<=x.x.men)))=false then .error 10 else if goB x x.gusts=false then .error 11
   else .ok (setS x i {siteA x i with men:=(siteA x i).men+m})
 |.down i m=>if thB x i=false then .error 5 else if wn m 1 16=false then .error 7
   else if (decide (m<=(siteA x i).men) && !decide ((siteA x i).men-m=1))=false then .error 10
   else .ok (setS x i {siteA x i with men:=(siteA x i).men-m})
 |.lift r l=>if rtB x r=false then .error 5 else if (decide (0<(rigA x r).lk.length)&&decide (0<(siteA x (rigA x r).st).men))=false then .error 10 else if goB x x.gusts=false then .error 11
   else if G.wkE x.items (rigA x r).lk x.back x.day l≠0 then .error (G.wkE x.items (rigA x r).lk x.back x.day l) else if G.mayB x.items (rigA x r).lk x.back x.day l=false then .error 12 else .ok x
 |.look m=>if G.lkE x.items m (min (x.day+180) 100000)≠0 then .error (G.lkE x.items m (min (x.day+180) 100000)) else .ok {x with items:=G.lkL x.items m (min (x.day+180) 100000)}
 |.call b=>if G.nmB b=false then .error 1 else if memB x.back b=true then .error 6 else if ¬x.back.length<100 then .error 4 else .ok {x with back:=x.back++[b]}
 |.cut i=>if thB x i=false then .error 5 else if (!(siteA x i).fel&&(decide (upN x=0) && !rggB x i))=false then .error 10 else if goB x x.gusts=false then .error 11
   else if S.windyE (stkA x i) 0 (gstP x) 0≠0 then .error (S.windyE (stkA x i) 0 (gstP x) 0) else if ((List.range 4).all fun k=>S.standsR (stkA x i) (gstP x) (k:Int))=false then .error 11
   else .ok (setS x i {siteA x i with fel:=true,dogs:=[]})
 |.bill i=>if thB x i=false then .error 5 else if (S.heightR (stkA x i)).2≠0 then .error (S.heightR (stkA x i)).2 else if priE x.x.rt (S.heightR (stkA x i)).1≠0 then .error (priE x.x.rt (S.heightR (stkA x i)).1)
   else if ¬x.money+priV x.x.rt (S.heightR (stkA x i)).1<=1000000000000 then .error 4 else .ok {x with money:=x.money+priV x.x.rt (S.heightR (stkA x i)).1}
def txt (c:Cm):List UInt8:=match c with
 |.gust g=>[103,117,115,116]++wsT [g]
 |.day=>[100,97,121]
 |.dog i=>[100,111,103]++wsT [i]
 |.rig i l=>[114,105,103]++wsT [i]++l.flatMap fun k=>32::(k.nm.data.toList++58::nT k.fr)
 |.strike r=>[115,116,114,105,107,101]++wsT [r]
 |.up i m=>[117,112]++wsT [i,m]
 |.down i m=>[100,111,119,110]++wsT [i,m]
 |.lift r l=>[108,105,102,116]++wsT [r]++wsT l
 |.look m=>[108,111,111,107,32]++m.data.toList
 |.call b=>[99,97,108,108,32]++b.data.toList
 |.cut i=>[102,101,108,108]++wsT [i]
 |.bill i=>[98,105,108,108]++wsT [i]
def doC (c:Cm) (x:St):Int×St:=if ¬x.lines.length<2000 then (4,x) else match deed c x with
 |.error e=>(e,x)
 |.ok y=>(0,{y with lines:=y.lines++[wrt y.lines y.day (bts (txt c))]})
def nmsO:List (List UInt8)->Option (List Int)
 |[]=>some []
 |w::r=>if T6.numB w=true then (nmsO r).map (T6.numV w::·) else none
def lksO:List (List UInt8)->Option (List G.Lk)
 |[]=>some []
 |w::r=>if (decide ((cut w [58]).1≠[])&&T6.numB (cut w [58]).2.1)=true then (lksO r).map (⟨bts (cut w [58]).1,T6.numV (cut w [58]).2.1⟩::·) else none
def sngO (w:List UInt8) (n:Int):Option Cm:=
 if w=[103,117,115,116] then some (.gust n) else if w=[100,111,103] then some (.dog n) else if w=[115,116,114,105,107,101] then some (.strike n)
 else if w=[102,101,108,108] then some (.cut n) else if w=[98,105,108,108] then some (.bill n) else none
def cmdO (s:List UInt8):Option Cm:=match cutZ 32 s with
 |[]=>none
 |w::r=>
  if []∈w::r then none
  else if w=[114,105,103]∧1<r.length then (match nmsO (r.take 1),lksO (r.drop 1) with|some [n],some l=>some (.rig n l)|_,_=>none)
  else if w=[108,111,111,107]∧r.length=1 then some (.look (bts (r.getD 0 [])))
  else if w=[99,97,108,108]∧r.length=1 then some (.call (bts (r.getD 0 [])))
  else match nmsO r with
   |none=>none
   |some n=>
    if w=[108,105,102,116]∧1<n.length then some (.lift (n.getD 0 0) (n.drop 1))
    else if w=[100,97,121]∧n.length=0 then some .day
    else if n.length=1 then sngO w (n.getD 0 0)
    else if w=[117,112]∧n.length=2 then some (.up (n.getD 0 0) (n.getD 1 0))
    else if w=[100,111,119,110]∧n.length=2 then some (.down (n.getD 0 0) (n.getD 1 0))
    else none
def errT (e:Int):List UInt8:=[101,114,114,111,114,32]++nT e
def okT:List UInt8:=[111,107]
def repT (c:Cm) (x:St):List UInt8:=if (doC c x).1≠0 then errT (doC c x).1 else match c with
 |.rig _ _=>nT ((doC c x).2.rigs.length-1)
 |_=>okT
def tldT (e:Int) (l:List Int):List UInt8:=if e≠0 then errT e else (wsT l).drop 1
def qWd (w:List UInt8):Bool:=decide (w=[97,108,111,102,116])||(decide (w=[104,101,105,103,104,116])||(decide (w=[115,97,102,101])||decide (w=[98,101,97,114,115])))
def ansO (bears:St->Int->List UInt8) (x:St) (s:List UInt8):Option (List UInt8):=
 if s=[110,111,119] then some (nT x.day) else if s=[109,111,110,101,121] then some (nT x.money)
 else if s=[103,111,101,115] then some (if goB x x.gusts=true then [121,101,115] else [110,111])
 else if T6.numB (cut s [32]).2.1=false then none
 else if qWd (cut s [32]).1=false then none
 else if thB x (T6.numV (cut s [32]).2.1)=false then some (errT 5)
 else if (cut s [32]).1=[97,108,111,102,116] then some (nT (siteA x (T6.numV (cut s [32]).2.1)).men)
 else if (cut s [32]).1=[104,101,105,103,104,116] then some (tldT (S.heightR (stkA x (T6.numV (cut s [32]).2.1))).2 [(S.heightR (stkA x (T6.numV (cut s [32]).2.1))).1])
 else if (cut s [32]).1=[115,97,102,101] then some (tldT (S.leastR (stkA x (T6.numV (cut s [32]).2.1))).2.2 [(S.leastR (stkA x (T6.numV (cut s [32]).2.1))).1,(S.leastR (stkA x (T6.numV (cut s [32]).2.1))).2.1])
 else some (bears x (T6.numV (cut s [32]).2.1))
def linR (bears:St->Int->List UInt8) (x:St) (s:List UInt8):List UInt8×St:=
 if s=[] then ([],x) else match ansO bears x s with
  |some t=>(t++[10],x)
  |none=>match cmdO s with
   |none=>(errT 14++[10],x)
   |some c=>(repT c x++[10],(doC c x).2)
def linsR (bears:St->Int->List UInt8) (x:St):List (List UInt8)->List UInt8×St
 |[]=>([],x)
 |s::r=>((linR bears x s).1++(linsR bears (linR bears x s).2 r).1,(linsR bears (linR bears x s).2 r).2)
def doR (bears:St->Int->List UInt8) (x:St) (s:List UInt8):List UInt8×St:=if 65536<s.length then (errT 3++[10],x) else linsR bears x (cutZ 10 s)
theorem linsR_app (br:St->Int->List UInt8):∀(a b:List (List UInt8)) (x:St),linsR br x (a++b)=((linsR br x a).1++(linsR br (linsR br x a).2 b).1,(linsR br (linsR br x a).2 b).2)
 |[],b,x=>by simp[linsR]
 |s::a,b,x=>by
  rw[List.cons_append,linsR,linsR_app br a b,linsR];simp[List.append_assoc]
end Go.Proofs.YtjkkfcghkeoedaaGreatDoor.Fi
