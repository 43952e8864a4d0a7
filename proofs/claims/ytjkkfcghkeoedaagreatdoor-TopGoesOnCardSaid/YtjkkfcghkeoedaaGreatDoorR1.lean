/- The parts of the proof, part 1. -/
import Derived.Test.YtjkkfcghkeoedaaGreatDoorR0
import Derived.WalkKit
import Derived.Lib.Hide
import Derived.BigQuiet
import Derived.Deep.QuietTactic
import Derived.IntWalk
import Derived.Test.YtjkkfcghkeoedaaGreatDoorRows
import Derived.ProofKit
import Derived.OpenShut
import Derived.ShutString
import Derived.ChangeOld
import Derived.Deep.Slices
import Derived.Deep.Fields
import Derived.ChangeSame
import Derived.Lib.SmallJoins
import Derived.Lib.Split
import Derived.Lib.CutLaws
import Derived.Lib.ItoaNum
import Derived.Lib.AtoiAll
import Derived.Lib.AtoiAllCases
import Derived.Maps.AppendAt
import Derived.Laws.AppendOwn
import Derived.Test.YtjkkfcghkeoedaaGreatDoorProg
import Derived.WalkLawsBesides
import Derived.Deep.RegionHeld3
import Derived.Laws.OwnMore
import Derived.ArgAppend
import Derived.Deep.AppendLies
import Derived.StillTail
import Derived.Laws.EntriesVeiled
import Derived.StillTailTactics
set_option maxHeartbeats 16000000
set_option maxRecDepth 20000
namespace Go.Proofs.YtjkkfcghkeoedaaGreatDoor
open Go.RowKit
theorem ret_bool {a b:Bool} (h:a=b):Ending.returned (.bool a)=.returned (.bool b):=by rw[h]
theorem ret_int {k:IntKind} {a b:Int} (h:a=b):Ending.returned (.int k a)=.returned (.int k b):=by rw[h]
theorem ret_tup2 {a b c d:Value} (h:a=b) (h':c=d):Ending.returned (.tuple #[a,c])=.returned (.tuple #[b,d]):=by rw[h,h']
theorem int_eq {k:IntKind} {a b:Int} (h:a=b):Value.int k a=.int k b:=by rw[h]
def Rd {α:Type} (enc:α->List Value) (sz:Nat) (w:World) (A:Option Addr) (l:List α):Prop:=
 l≠[]->∃b off,A=some ⟨b,off,none⟩∧b<w.heap.size∧∀k x,l[k]?=some x->∀j v,(enc x)[j]?=some v->w.cell? ⟨b,off+k*sz+j,none⟩=some v
section
variable {α:Type} {enc:α->List Value} {sz:Nat} {w w':World} {A:Option Addr} {l:List α}
theorem Rd.nil_:Rd enc sz w A []:=fun h=>absurd rfl h
theorem Rd.get (h:Rd enc sz w A l) {k:Nat} {x:α} (hx:l[k]?=some x):
  ∃b off,A=some ⟨b,off,none⟩∧b<w.heap.size∧∀j v,(enc x)[j]?=some v->w.cell? ⟨b,off+k*sz+j,none⟩=some v:=by
 have hne:l≠[]:=by rintro rfl;simp at hx
 obtain⟨b,off,e,hb,hc⟩:=h hne;exact⟨b,off,e,hb,hc k x hx⟩
theorem Rd.below {B:Nat} (h:Rd enc sz w A l) (hb:Below B w w') (hB:w.heap.size<=B):Rd enc sz w' A l:=fun hne=>by
 obtain⟨b,off,e,hlt,hc⟩:=h hne;exact⟨b,off,e,Nat.lt_of_lt_of_le hlt hb.size,fun k x hx j v hv=>(hb.cell (p:=⟨b,_,none⟩) (show b<B by omega)).trans (hc k x hx j v hv)⟩
theorem Rd.on (h:Rd enc sz w A l) (hb:Below w.heap.size w w'):Rd enc sz w' A l:=h.below hb (Nat.le_refl _)
end
theorem below_refl (w:World):Below w.heap.size w w:=Below.refl _ w
theorem below_alloc (w:World) (o:Obj):Below w.heap.size w (w.alloc o):=(Below.refl _ w).alloc (Nat.le_refl _) o
theorem below_tr {w w1 w2:World} (h:Below w.heap.size w w1) (k:Below w1.heap.size w1 w2):Below w.heap.size w w2:=h.trans (k.mono h.size)
theorem bcell {W w1:World} (hb:Below W.heap.size W w1):(∀b o,b<W.heap.size->w1.cell? ⟨b,o,none⟩=W.cell? ⟨b,o,none⟩)∧(∀b o,b<W.heap.size->w1.frozen? ⟨b,o,none⟩=W.frozen? ⟨b,o,none⟩):=
 ⟨fun b o h=>hb.cell (p:=⟨b,o,none⟩) h,fun b o h=>hb.frozen (p:=⟨b,o,none⟩) h⟩
theorem get_lt {α:Type} {l:List α} {k:Nat} (h:k<l.length):∃x,l[k]?=some x:=⟨l[k],List.getElem?_eq_getElem h⟩
def idxOf {α:Type} (p:α->Bool):List α->Nat->Int
 |[],_=>-1
 |x::l,k=>if p x then (k:Int) else idxOf p l (k+1)
theorem idxOf_drop {α:Type} (p:α->Bool) (l:List α) (k:Nat) (x:α) (h:l[k]?=some x):idxOf p (l.drop k) k=if p x then (k:Int) else idxOf p (l.drop (k+1)) (k+1):=by
 have hk:k<l.length:=by
  rcases Nat.lt_or_ge k l.length with h1|h1
  ·exact h1
  ·rw[List.getElem?_eq_none h1] at h;cases h
 rw[List.drop_eq_getElem_cons hk];rw[List.getElem?_eq_getElem hk] at h;cases h;rfl
theorem idxOf_nonneg {α:Type} (p:α->Bool) (l:List α) (k:Nat):(0<=idxOf p l k)↔l.any p=true:=by
 induction l generalizing k with
 |nil=>simp[idxOf]
 |cons x l ih=>
  simp only[idxOf,List.any_cons];cases h:p x
  ·simp[ih (k+1)]
  ·simp
def Blk (w:World) (g:Nat) (t:TypeId) (cs:Array Value):Prop:=w.heap[g]?=some (.cells cs t (0,0))
section
variable {w w':World} {g:Nat} {t:TypeId} {cs:Array Value}
theorem Blk.lt (h:Blk w g t cs):g<w.heap.size:=lt_of_block h
theorem Blk.cell (h:Blk w g t cs) (i:Nat):w.cell? ⟨g,i,none⟩=cs[i]?:=by
 unfold Blk at h;simp[World.cell?,h]
theorem Blk.frozen (h:Blk w g t cs) (i:Nat):w.frozen? ⟨g,i,none⟩=false:=by
 unfold Blk at h;simp[World.frozen?,h]
theorem Blk.new (w:World) (t:TypeId) (cs:Array Value):Blk (w.alloc (.cells cs t)) w.heap.size t cs:=by
 unfold Blk;show(w.heap.push _)[w.heap.size]?=_;simp
theorem Blk.alloc (h:Blk w g t cs) (o:Obj):Blk (w.alloc o) g t cs:=(Below.heap_alloc w o g h.lt).trans h
theorem Blk.set_ (h:Blk w g t cs) (i:Nat) (u:Value):Blk (w.setCell ⟨g,i,none⟩ u) g t (cs.setIfInBounds i u):=by
 unfold Blk at h ⊢;simp[World.setCell,Array.getElem?_modify,h]
theorem Blk.far (h:Blk w g t cs) {p:Addr} (hp:g≠p.block) (u:Value):Blk (w.setCell p u) g t cs:=(Below.heap_setCell w p u g hp).trans h
theorem Blk.drew (h:Blk w g t cs):Blk w.drew g t cs:=h
theorem Blk.drewN (h:Blk w g t cs) (n:Nat):Blk (w.drewN n) g t cs:=h
theorem Blk.below {B:Nat} (h:Blk w g t cs) (hb:Below B w w') (hg:g<B):Blk w' g t cs:=(hb.block g hg).trans h
end
theorem below_draw {B:Nat} {a w:World} (h:Below B a w):Below B a w.drew:=h.drew
theorem below_drewN {B:Nat} {a w:World} (h:Below B a w) (n:Nat):Below B a (w.drewN n):=⟨h.os,h.tape,h.output,h.size,h.block⟩
theorem quiet_left {P:Program} {f:FuncId} {args:Array Value} {w:World} {n:Nat} {v:Value}
  (h:Calls P f args (w.drewN n) fun e w'=>e=.returned v∧w.drewN n=w'):Calls P f args (w.drewN n) fun e w''=>e=.returned v∧∃m,w''=w.drewN m:=
 h.mono fun _ _ ⟨he,hm⟩=>⟨he,n,hm.symm⟩
section
variable {fn:Func} {p q u v:Tmp} {ty ty':TypeId} {tmps:Array Value} {P:Program} {w:World} {a a':Addr} {x x':Value}
theorem res_c (h:fn.results=#[.cell p ty]) (hp:tmps.getD p undef=.pointer (some a)) (hl:(loadVar ty a).run P w=.ok x w):(results fn tmps).run P w=.ok x w:=by
 simp only[results,h];simp at hp;simp[hp,asAddr,hl]
theorem res_ct (h:fn.results=#[.cell p ty,.tmp u]) (hp:tmps.getD p undef=.pointer (some a)) (hl:(loadVar ty a).run P w=.ok x w):(results fn tmps).run P w=.ok (.tuple #[x,tmps.getD u undef]) w:=by
 simp only[results,h];simp at hp;simp[Result.andThen,hp,asAddr,hl]
end
end Go.Proofs.YtjkkfcghkeoedaaGreatDoor
namespace Go.Proofs.YtjkkfcghkeoedaaGreatDoor
open Go.ChangeShapes Go.WideShapes Go.ChangeAt Go.RowKit Go.Deep Go.Joins
open Go.ChangeMaps (open_string shut_string)
theorem own:ownKnob Tryz.prog.godebug=none:=by kernel_rfl
theorem laidOut:laidOutB Tryz.prog=true:=by kernel_rfl
theorem addr_add0 (b off i:Nat):(Addr.mk b off none).add i=⟨b,off+i,none⟩:=by
 unfold Addr.add;split<;>simp_all
theorem list_of {α:Type} {Q:Nat->α->Prop} (n:Nat) (h:∀i,i<n->∃y,Q i y):∃l:List α,l.length=n∧∀i y,l[i]?=some y->Q i y:=by
 induction n with
 |zero=>exact⟨[],rfl,fun i y hy=>by simp at hy⟩
 |succ n ih=>
  obtain⟨l,hll,hlp⟩:=ih (fun i hin=>h i (by omega));obtain⟨y,hy⟩:=h n (by omega);refine⟨l++[y],by simp[hll],fun i z hz=>?_⟩;rcases Nat.lt_or_ge i n with h1|h1
  ·rw[List.getElem?_append_left (by omega)] at hz;exact hlp i z hz
  ·rw[List.getElem?_append_right (by omega)] at hz;rcases Nat.eq_or_lt_of_le h1 with h2|h2
   ·subst h2;rw[hll,Nat.sub_self] at hz;cases hz;exact hy
   ·rw[List.getElem?_eq_none (by simp;omega)] at hz;cases hz
section
variable {H:Type} {enc:TypeId×Value->H} {P:Program} {w:World} {base:Nat} {spare:Nat->Bool} {held:Bool}
theorem dec_int {t:TypeId} {k:IntKind} (ht:P.underlying t=some (.int k)) (n:Nat) (cs:List Value) (x) (h:DataW.trod enc P w base spare held n t cs=some x):∃a:Int,cs=[.int k a]∧(Lit.int k a).wf=true:=by
 obtain⟨a,h1,_,h2⟩:=DataW.trod_int ht h;exact⟨a,h1,h2⟩
theorem dec_fields {t:TypeId} {fs:Array Field} (hs:P.underlying t=some (.struct fs)) (hone:oneCellFields P fs=true) (hC:P.cellsOf t=fs.size) (n:Nat) (cs:List Value) (x) (h:DataW.trod enc P w base spare held n t cs=some x):
  cs.length=fs.size∧∀(j:Nat) (f:Field) (u:Value),fs[j]?=some f->cs[j]?=some u->∃m y,DataW.trod enc P w base spare held m f.type [u]=some y:=by
 obtain⟨ys,n',_,_,hlen,hyl,hf⟩:=DataW.trod_struct hs h;rw[hC] at hlen;refine⟨hlen,fun j f u hj hu=>?_⟩;obtain⟨ho,hk⟩:=hone_of hone j f hj;have hjl:j<fs.size:=(Array.getElem?_eq_some_iff.1 hj).1;have h1:=hf j f hj;rw[ho,hk] at h1;have h2:(cs.drop j).take 1=[u]:=by
  rw[List.drop_eq_getElem_cons (by omega)];rw[List.getElem?_eq_getElem (by omega)] at hu;cases hu;rfl
 rw[h2] at h1;exact⟨n',ys[j],by rw[h1,List.getElem?_eq_getElem]⟩
end
end Go.Proofs.YtjkkfcghkeoedaaGreatDoor
namespace Go.Proofs.YtjkkfcghkeoedaaGreatDoor
open Go.ChangeShapes Go.WideShapes Go.ChangeAt Go.RowKit Go.Deep Go.Joins
section
variable {H:Type} {enc:TypeId×Value->H} {P:Program} {w:World} {base:Nat} {spare:Nat->Bool} {held:Bool}
theorem open_aggv {α:Type} (encα:α->List Value) (ok:α->Prop) {t:TypeId} {fs:Array Field} {r:Reach} {b0:Nat} {v:Value} {d:DataW H} {p:List MemPlace} (ht:P.underlying t=some (.struct fs))
  (hdec:∀n cs x,DataW.trod enc P w base spare held n t cs=some x->∃a:α,cs=encα a∧ok a)
  (hval:Value.okWide P w r b0 t v) (h:DataW.Trod enc P w base spare held t v d p):∃a:α,v=.agg (encα a).toArray∧ok a:=by
 simp only[Value.okWide,ht] at hval;obtain⟨cs,rfl,_⟩:=hval;obtain⟨fuel,hf⟩:=h;obtain⟨a,ha,hok⟩:=hdec _ _ _ hf;have hcs:(Value.agg cs).cells.toList=cs.toList:=by simp[Value.cells]
 rw[hcs] at ha;exact⟨a,by rw[←ha],hok⟩
end
end Go.Proofs.YtjkkfcghkeoedaaGreatDoor
set_option linter.unusedSimpArgs false
set_option linter.unusedVariables false
namespace Go.Proofs.YtjkkfcghkeoedaaGreatDoor
open Go.Lib
def cutZ (b:UInt8):List UInt8->List (List UInt8)
 |[]=>[[]]
 |x::s=>if x=b then []::cutZ b s else
  match cutZ b s with
  |[]=>[[x]]
  |h::t=>(x::h)::t
theorem cutZ_ne (b:UInt8):∀s,cutZ b s≠[]
 |[]=>by simp[cutZ]
 |x::s=>by
  unfold cutZ;split
  ·simp
  ·split<;>simp
theorem cut_piece {b:UInt8}:∀{p:List UInt8},b∉p->∀s,cutZ b (p++b::s)=p::cutZ b s
 |[],_,s=>by rw[List.nil_append,cutZ,if_pos rfl]
 |x::p,h,s=>by
  have hx:¬x=b:=fun e=>h (e▸List.mem_cons_self ..);have hp:b∉p:=fun e=>h (List.mem_cons_of_mem _ e);rw[List.cons_append,cutZ,if_neg hx,cut_piece hp]
theorem cut_last {b:UInt8}:∀{p:List UInt8},b∉p->cutZ b p=[p]
 |[],_=>rfl
 |x::p,h=>by
  have hx:¬x=b:=fun e=>h (e▸List.mem_cons_self ..);have hp:b∉p:=fun e=>h (List.mem_cons_of_mem _ e);rw[cutZ,if_neg hx,cut_last hp]
theorem first_or (b:UInt8):∀s:List UInt8,b∉s∨∃p q,s=p++b::q∧b∉p
 |[]=>.inl (by simp)
 |x::s=>by
  by_cases hx:x=b
  ·exact .inr ⟨[],s,by rw[hx];rfl,by simp⟩
  ·rcases first_or b s with h|⟨p,q,h1,h2⟩
   ·exact .inl fun h'=>by rcases List.mem_cons.1 h' with e|e;exact hx e.symm;exact h e
   ·exact .inr ⟨x::p,q,by rw[h1];rfl,fun h'=>by rcases List.mem_cons.1 h' with e|e;exact hx e.symm;exact h2 e⟩
theorem index_no {b:UInt8}:∀{s:List UInt8},b∉s->index s [b]=-1
 |[],_=>rfl
 |x::s,h=>by
  have hx:¬x=b:=fun e=>h (e▸List.mem_cons_self ..);have hp:b∉s:=fun e=>h (List.mem_cons_of_mem _ e);unfold index;rw[if_neg (by simp[List.isPrefixOf];exact fun e=>hx e.symm),index_no hp];rfl
theorem index_at {b:UInt8}:∀{p:List UInt8} (q:List UInt8),b∉p->index (p++b::q) [b]=p.length
 |[],q,_=>by rw[List.nil_append];unfold index;rw[if_pos (by simp[List.isPrefixOf])];simp
 |x::p,q,h=>by
  have hx:¬x=b:=fun e=>h (e▸List.mem_cons_self ..);have hp:b∉p:=fun e=>h (List.mem_cons_of_mem _ e);rw[List.cons_append];unfold index;have ih:=index_at q hp;rw[if_neg (by simp[List.isPrefixOf];exact fun e=>hx e.symm),ih,if_neg (by simp)];simp
theorem cutL_no {b:UInt8} {s:List UInt8} (h:b∉s):Lib.cut s [b]=(s,[],false):=by
 unfold Lib.cut;rw[index_no h,if_neg (by omega)]
theorem cutL_at {b:UInt8} {p:List UInt8} (q:List UInt8) (h:b∉p):Lib.cut (p++b::q) [b]=(p,q,true):=by
 unfold Lib.cut;rw[index_at q h,if_pos (by omega)];simp
theorem countFrom_no {b:UInt8} {s:List UInt8} (h:b∉s) (n:Nat):countFrom [b] (n+1) s=0:=by
 unfold countFrom;rw[index_no h];rfl
theorem split_go (b:UInt8):∀(n:Nat) (s:List UInt8),s.length<=n->splitK [b] 0 (countFrom [b] (n+1) s) s=cutZ b s
 |0,s,h=>by
  obtain rfl:s=[]:=List.length_eq_zero_iff.1 (by omega);rfl
 |n+1,s,h=>by
  rcases first_or b s with hn|⟨p,q,rfl,hp⟩
  ·rw[countFrom_no hn,cut_last hn];rfl
  ·have hi:=index_at q hp;have hd:(p++b::q).drop (p.length+1)=q:=by
    rw[show p.length+1=(p++[b]).length by simp,show p++b::q=(p++[b])++q by simp,List.drop_left]
   have hc:countFrom [b] (n+1+1) (p++b::q)=countFrom [b] (n+1) q+1:=by
    rw[countFrom,hi];simp only[List.length_cons,List.length_nil,Int.toNat_natCast,Nat.zero_add];rw[hd,if_neg (by simp)];omega
   have hl:q.length<=n:=by simp at h;omega
   rw[hc,splitK,hi,if_neg (by simp)];simp only[List.length_cons,List.length_nil,Int.toNat_natCast,Nat.zero_add,Nat.add_zero];rw[hd,split_go b n q hl,cut_piece hp];simp
theorem split_cut (b:UInt8) (s:List UInt8):Lib.split s [b]=cutZ b s:=split_go b s.length s (Nat.le_refl _)
theorem cutZ_len (b:UInt8):∀s,(cutZ b s).length<=s.length+1
 |[]=>by simp[cutZ]
 |x::s=>by
  have ih:=cutZ_len b s;unfold cutZ;split
  ·simp;omega
  ·split
   ·simp
   ·rename_i h t e;rw[e] at ih;simp at ih ⊢;omega
/-! ### numerals -/
def digB (c:UInt8):Bool:=decide (48<=c.toNat∧c.toNat<=57)
theorem dg_toNat {u:Nat} (h:u<10):(UInt8.ofNat (48+u)).toNat=48+u:=by
 rw[UInt8.toNat_ofNat'];omega
theorem decD_dig (u:Nat):∀c∈decDigits u,digB c=true:=by
 induction u using Nat.strongRecOn with
 |_ u ih=>
  intro c hc;unfold decDigits at hc;split at hc
  ·rename_i h
   rw[List.mem_singleton] at hc;subst hc;unfold digB;rw[decide_eq_true_eq,dg_toNat h];omega
  ·rename_i h
   rcases List.mem_append.1 hc with hc|hc
   ·exact ih _ (by omega) c hc
   ·rw[List.mem_singleton] at hc;subst hc;unfold digB;rw[decide_eq_true_eq,dg_toNat (Nat.mod_lt u (by omega:0<10))];omega
theorem decD_ne (u:Nat):decDigits u≠[]:=by
 unfold decDigits;split<;>simp
def valD (acc:Nat) (l:List UInt8):Nat:=l.foldl (fun a c=>a*10+(c.toNat-48)) acc
theorem valD_app (acc:Nat) (l m:List UInt8):valD acc (l++m)=valD (valD acc l) m:=by unfold valD;rw[List.foldl_append]
theorem valD_dec (u:Nat):valD 0 (decDigits u)=u:=by
 induction u using Nat.strongRecOn with
 |_ u ih=>
  unfold decDigits;split
  ·rename_i h
   unfold valD;simp only[List.foldl_cons,List.foldl_nil];rw[dg_toNat h];omega
  ·rename_i h
   rw[valD_app,ih _ (by omega)];unfold valD;simp only[List.foldl_cons,List.foldl_nil];rw[dg_toNat (Nat.mod_lt u (by omega:0<10))];omega
theorem itoa_chars (n:Int):∀c∈itoa n,c=45∨digB c=true:=fun c hc=>by
 unfold itoa at hc;split at hc
 ·rcases List.mem_cons.1 hc with rfl|hc
  ·exact .inl rfl
  ·exact .inr (decD_dig _ c hc)
 ·exact .inr (decD_dig _ c hc)
theorem itoa_no {n:Int} {b:UInt8} (h1:b≠45) (h2:digB b=false):b∉itoa n:=fun h=>by
 rcases itoa_chars n b h with e|e
 ·exact h1 e
 ·rw[e] at h2;cases h2
theorem itoa_ne (n:Int):itoa n≠[]:=by
 unfold itoa;split
 ·simp
 ·exact decD_ne _
theorem parse_ok:∀(l:List UInt8) (acc:Nat),(∀c∈l,digB c=true)->valD acc l<18446744073709551616->parseUint10 acc l=.ok (valD acc l)
 |[],acc,_,_=>rfl
 |c::r,acc,h,hv=>by
  have hc:48<=c.toNat∧c.toNat<=57:=by have:=h c (List.mem_cons_self ..);unfold digB at this;exact of_decide_eq_true this
  have hr:=fun x hx=>h x (List.mem_cons_of_mem _ hx);have hge:∀(m:List UInt8) (a:Nat),a<=valD a m:=fun m=>by
   induction m with
   |nil=>intro a;exact Nat.le_refl _
   |cons y m ih=>intro a;exact Nat.le_trans (by omega) (ih (a*10+(y.toNat-48)))
  have h1:valD acc (c::r)=valD (acc*10+(c.toNat-48)) r:=rfl;have h2:=hge r (acc*10+(c.toNat-48));rw[h1] at hv ⊢;simp only[parseUint10];rw[if_pos hc,if_neg (by omega),if_neg (by omega)];exact parse_ok r _ hr hv
theorem atoi_itoa {n:Int} (h0:-9223372036854775808<=n) (h1:n<=9223372036854775807):atoiAll (itoa n)=.ok n:=by
 have pm:∀u:Nat,u<18446744073709551616->parseMag (decDigits u)=.ok u:=fun u hu=>by
  unfold parseMag;rw[if_neg (decD_ne u),parse_ok _ _ (decD_dig u) (by rw[valD_dec];exact hu),valD_dec]
 unfold itoa;by_cases hn:n<0
 ·rw[if_pos hn];unfold atoiAll;dsimp only;rw[if_pos (.inr rfl),pm _ (by omega)];dsimp only;rw[if_neg (by simp),if_neg (by simp;omega),if_pos (by rfl)];congr 1;omega
 ·rw[if_neg hn];obtain⟨c,r,hcr⟩:=List.exists_cons_of_ne_nil (decD_ne n.toNat);have hc:=decD_dig n.toNat c (by rw[hcr];exact List.mem_cons_self ..);unfold digB at hc;have hc':=of_decide_eq_true hc;have hp:=pm n.toNat (by omega);rw[hcr] at hp ⊢;unfold atoiAll;dsimp only;rw[if_neg (by omega),hp];dsimp only;rw[if_neg (by omega),if_neg (by omega),if_neg (by omega)];congr 1;omega
end Go.Proofs.YtjkkfcghkeoedaaGreatDoor
namespace Go.Proofs.YtjkkfcghkeoedaaGreatDoor.Tx
open Go.Lib
def bts (p:List UInt8):ByteArray:=⟨p.toArray⟩
theorem bts_list (p:List UInt8):(bts p).data.toList=p:=by simp[bts]
theorem list_bts (s:ByteArray):bts s.data.toList=s:=by apply ByteArray.ext;simp[bts]
theorem bts_size (p:List UInt8):(bts p).size=p.length:=by unfold bts;simp[ByteArray.size]
theorem ba_app (a b:List UInt8):bts a++bts b=bts (a++b):=by unfold bts;apply ByteArray.ext;simp[ByteArray.data_append]
def dgB (u:Nat):UInt8:=UInt8.ofNat (48+u)
theorem dec_one {u:Nat} (h:u<10):decDigits u=[dgB u]:=by rw[decDigits,dif_pos h];rfl
theorem dec_more {u:Nat} (h:¬u<10):decDigits u=decDigits (u/10)++[dgB (u%10)]:=by rw[decDigits,dif_neg h];rfl
theorem decD_le {u k:Nat} (h:u<10^(k+1)):(decDigits u).length<=k+1:=by
 induction k generalizing u with
 |zero=>rw[dec_one (by simpa using h)];simp
 |succ k ih=>
  by_cases hu:u<10
  ·rw[dec_one hu];simp
  ·rw[dec_more hu];have:=ih (u:=u/10) (by rw[Nat.pow_succ] at h;omega);simp;omega
theorem itoa_len {n:Int} (h0:-9223372036854775808<=n) (h1:n<=9223372036854775807):(itoa n).length<=20:=by
 unfold itoa;split
 ·have:=decD_le (u:=n.natAbs) (k:=18) (by omega);simp;omega
 ·have:=decD_le (u:=n.toNat) (k:=18) (by omega);omega
def bodyZ (s:List UInt8):List UInt8:=if s.head?=some 45 then s.tail else s
def numV (s:List UInt8):Int:=if s.head?=some 45 then -(valD 0 s.tail:Nat) else (valD 0 s:Nat)
def numB (s:List UInt8):Bool:=decide (bodyZ s≠[])&&(decide ((bodyZ s).length<=18)&&((bodyZ s).all digB&&decide (itoa (numV s)=s)))
theorem itoa_head (m:Int):((itoa m).head?=some 45↔m<0)∧(m<0->(itoa m).tail=decDigits m.natAbs)∧(¬m<0->itoa m=decDigits m.toNat):=by
 unfold itoa;by_cases h:m<0
 ·rw[if_pos h];exact⟨by simp[h],fun _=>rfl,fun h'=>absurd h h'⟩
 ·rw[if_neg h];refine⟨⟨fun e=>?_,fun e=>absurd e h⟩,fun e=>absurd e h,fun _=>rfl⟩;obtain⟨c,r,hcr⟩:=List.exists_cons_of_ne_nil (decD_ne m.toNat);have hc:=decD_dig m.toNat c (by rw[hcr];exact List.mem_cons_self ..);rw[hcr] at e;injection e with e
  subst e;exact absurd hc (by decide)
theorem itoa_body (m:Int):numV (itoa m)=m∧bodyZ (itoa m)=decDigits m.natAbs:=by
 obtain⟨h1,h2,h3⟩:=itoa_head m;unfold numV bodyZ;by_cases h:m<0
 ·rw[if_pos (h1.2 h),if_pos (h1.2 h),h2 h,valD_dec];exact⟨by omega,rfl⟩
 ·rw[if_neg (fun e=>h (h1.1 e)),if_neg (fun e=>h (h1.1 e)),h3 h,valD_dec];exact⟨by omega,by congr 1;omega⟩
theorem valD_lt:∀(l:List UInt8) (a:Nat),(∀c∈l,digB c=true)->valD a l<(a+1)*10^l.length
 |[],a,_=>by simp[valD]
 |c::r,a,h=>by
  have hc:=h c (List.mem_cons_self ..);unfold digB at hc;have hc':=of_decide_eq_true hc;have ih:=valD_lt r (a*10+(c.toNat-48)) fun x hx=>h x (List.mem_cons_of_mem _ hx);have e:valD a (c::r)=valD (a*10+(c.toNat-48)) r:=rfl;rw[e,List.length_cons,Nat.pow_succ];refine Nat.lt_of_lt_of_le ih ?_;rw[show(a+1)*(10^r.length*10)=((a+1)*10)*10^r.length by rw[Nat.mul_comm (10^r.length) 10,Nat.mul_assoc]];exact Nat.mul_le_mul_right _ (by omega)
theorem num_iff (s:List UInt8):numB s=true↔itoa (numV s)=s ∧ -1000000000000000000<numV s∧numV s<1000000000000000000:=by
 unfold numB;simp only[Bool.and_eq_true,decide_eq_true_eq];constructor
 ·rintro⟨_,h1,h2,h3⟩;have h4:=valD_lt (bodyZ s) 0 (List.all_eq_true.1 h2);have h5:10^(bodyZ s).length<=10^18:=Nat.pow_le_pow_right (by omega) h1;have h6:numV s=if s.head?=some 45 then -((valD 0 (bodyZ s):Nat):Int) else ((valD 0 (bodyZ s):Nat):Int):=by
   unfold numV bodyZ;split<;>rfl
  refine⟨h3,?_,?_⟩
  ·rw[h6];split<;>omega
  ·rw[h6];split<;>omega
 ·rintro⟨h1,h2,h3⟩;have h4:=(itoa_body (numV s)).2;rw[h1] at h4;rw[h4];exact⟨decD_ne _,decD_le (k:=17) (by omega),List.all_eq_true.2 (decD_dig _),h1⟩
theorem num_of {m:Int} (h0:-1000000000000000000<m) (h1:m<1000000000000000000):numB (itoa m)=true∧numV (itoa m)=m:=by
 have:=(itoa_body m).1;exact⟨(num_iff _).2 (by rw[this];exact⟨rfl,h0,h1⟩),this⟩
/-! ### a line of numbers -/
def valA (w:List UInt8):Int:=match atoiAll w with
 |.ok v=>v
 |.range=>atoiSat w
 |_=>0
def okA (w:List UInt8):Bool:=match atoiAll w with
 |.ok _=>true
 |_=>false
theorem valA_bd (t:List UInt8):-9223372036854775808<=valA t∧valA t<=9223372036854775807:=by
 unfold valA;split
 ·rename_i v h;exact atoiAll_bounds h
 ·exact atoiSat_bounds t
 ·decide
end Go.Proofs.YtjkkfcghkeoedaaGreatDoor.Tx
namespace Go.Proofs.YtjkkfcghkeoedaaGreatDoor
open Go.RowKit
section
variable {α:Type} {enc:α->List Value} {sz:Nat} {w W W':World} {base:Nat} {e:TypeId} {v:Value} {l:List α}
def fl (enc:α->List Value) (l:List α):List Value:=l.flatMap enc
theorem fl_snoc (l:List α) (x:α):fl enc (l++[x])=fl enc l++enc x:=by simp[fl]
theorem fl_length (h:∀a,(enc a).length=sz) (l:List α):(fl enc l).length=l.length*sz:=by
 induction l with
 |nil=>simp[fl]
 |cons x l ih=>
  have:fl enc (x::l)=enc x++fl enc l:=rfl;rw[this,List.length_append,h,ih,List.length_cons,Nat.add_mul,Nat.one_mul,Nat.add_comm]
theorem fl_get (h:∀a,(enc a).length=sz) {l:List α} {k:Nat} {x:α} {r:Nat} {u:Value} (hx:l[k]?=some x) (hu:(enc x)[r]?=some u):(fl enc l)[k*sz+r]?=some u:=by
 have hr:r<sz:=by
  rcases Nat.lt_or_ge r sz with h1|h1
  ·exact h1
  ·rw[List.getElem?_eq_none (by rw[h];exact h1)] at hu;cases hu
 induction l generalizing k with
 |nil=>simp at hx
 |cons y l ih=>
  have hc:fl enc (y::l)=enc y++fl enc l:=rfl;rw[hc];cases k with
  |zero=>
   cases hx;rw[Nat.zero_mul,Nat.zero_add,List.getElem?_append_left (by rw[h];exact hr)];exact hu
  |succ k=>
   have e:(k+1)*sz+r=sz+(k*sz+r):=by rw[Nat.add_mul,Nat.one_mul];omega
   rw[e,List.getElem?_append_right (by rw[h];omega),h,Nat.add_sub_cancel_left];exact ih hx
theorem own_rd (h:∀a,(enc a).length=sz) (hw:W.ownsRow base e sz v l.length (fl enc l)):∃A c,v=.slice A l.length c∧Rd enc sz W A l:=by
 rcases hw.2 with⟨rfl,h0⟩|⟨g,cap,cur,rfl,hB,hh,h1,h2,h3,h4⟩
 ·exact⟨none,0,by rw[h0],fun hne=>absurd (List.eq_nil_of_length_eq_zero h0) hne⟩
 ·refine⟨_,_,rfl,fun _=>⟨g,0,rfl,lt_of_block hh,fun k x hx r u hu=>?_⟩⟩;have h5:=fl_get h hx hu;have hlt:k*sz+r<l.length*sz:=by
   have:=(List.getElem?_eq_some_iff.1 h5).1;rwa [fl_length h] at this
  rw[←h4,List.getElem?_take,if_pos hlt,Array.getElem?_toList] at h5;simp only[World.cell?,hh];rw[Nat.zero_add];exact h5
theorem own_rd' (h:∀a,(enc a).length=sz) {A:Option Addr} {c:Nat} (hw:W.ownsRow base e sz (.slice A l.length c) l.length (fl enc l)):Rd enc sz W A l:=by
 obtain⟨A',c',hv,hr⟩:=own_rd h hw;cases hv;exact hr
theorem own_slice {k:Nat} {xs:List Value} (h:W.ownsRow base e sz v k xs):∃a c,v=.slice a k c:=by
 rcases h.2 with⟨rfl,rfl⟩|⟨g,cap,_,rfl,_⟩<;>exact⟨_,_,rfl⟩
theorem own_ge {k:Nat} {xs:List Value} (h:W.ownsRow base e sz v k xs):∀b,v.ownBlock=some b->base<=b∧b<W.heap.size:=fun b hb=>by
 rcases h.2 with⟨rfl,h0⟩|⟨g',cap,cur,rfl,hB,hh,h1,h2,h3,h4⟩
 ·cases hb
 ·cases hb;exact⟨hB,lt_of_block hh⟩
theorem own_base {base' k:Nat} {xs:List Value} (h:W.ownsRow base e sz v k xs) (hb:base'<=base):W.ownsRow base' e sz v k xs:=by
 refine⟨h.1,?_⟩;rcases h.2 with⟨rfl,h0⟩|⟨g',cap,cur,rfl,hB,hh,h1,h2,h3,h4⟩
 ·exact .inl ⟨rfl,h0⟩
 ·exact .inr ⟨g',cap,cur,rfl,by omega,hh,h1,h2,h3,h4⟩
theorem own_on {k:Nat} {xs:List Value} (h:W.ownsRow base e sz v k xs) (hb:Below W.heap.size W W'):W'.ownsRow base e sz v k xs:=by
 refine⟨h.1,?_⟩;rcases h.2 with⟨rfl,h0⟩|⟨g',cap,cur,rfl,hB,hh,h1,h2,h3,h4⟩
 ·exact .inl ⟨rfl,h0⟩
 ·exact .inr ⟨g',cap,cur,rfl,hB,(hb.block g' (lt_of_block hh)).trans hh,h1,h2,h3,h4⟩
theorem bl_grown {B:Nat} {a w w':World} {row:Option Nat} (h:Below B a w) (k:w.grownBy w' row) (hr:∀r,row=some r->B<=r) (hB:B<=w.heap.size):Below B a w':=
 h.trans ⟨k.os,k.tape,k.output,k.size,fun b hb=>k.block b (by omega) (fun e=>by have:=hr b e.symm;omega)⟩
theorem bl_app {B:Nat} {w w1 w2:World} {o:Obj} {k:Nat} {xs:List Value} (h:Below B w w1) (hown:w1.ownsRow base e sz v k xs) (hg:(w1.alloc o).grownBy w2 v.ownBlock) (hB:B<=base) (hs:B<=w1.heap.size):Below B w w2:=
 bl_grown (h.alloc hs o) hg (fun r hr=>Nat.le_trans hB (own_ge hown r hr).1) (by rw[World.size_alloc];omega)
theorem Blk.grown {g:Nat} {t:TypeId} {cs:Array Value} {row:Option Nat} (h:Blk W g t cs) (k:W.grownBy W' row) (hn:some g≠row):Blk W' g t cs:=(k.block g h.lt hn).trans h
theorem cells_new (w:World) (cs:List Value) (t:TypeId):∀(j:Nat) u,cs[j]?=some u->(w.alloc (.cells cs.toArray t)).cell? ((⟨w.heap.size,0,none⟩:Addr).add j)=some u:=fun j u hj=>by
 have hb:Blk (w.alloc (.cells cs.toArray t)) w.heap.size t cs.toArray:=Blk.new w t _;have:=hb.cell j;rw[show(⟨w.heap.size,0,none⟩:Addr).add j=⟨w.heap.size,j,none⟩ by unfold Addr.add;split<;>simp_all,this];simpa using hj
end
section
variable {α:Type} {enc:α->List Value} {sz:Nat}
theorem fl_at (h:∀a,(enc a).length=sz) {l:List α} {j:Nat} {u:Value} (hj:(fl enc l)[j]?=some u):∃(k:Nat) (x:α) (r:Nat),j=k*sz+r∧l[k]?=some x∧(enc x)[r]?=some u:=by
 induction l generalizing j with
 |nil=>simp[fl] at hj
 |cons y l ih=>
  have hc:fl enc (y::l)=enc y++fl enc l:=rfl;rw[hc] at hj;rcases Nat.lt_or_ge j sz with h1|h1
  ·rw[List.getElem?_append_left (by rw[h];exact h1)] at hj;exact⟨0,y,j,by omega,rfl,hj⟩
  ·rw[List.getElem?_append_right (by rw[h];exact h1),h] at hj;obtain⟨k,x,r,e,hx,hu⟩:=ih hj;exact⟨k+1,x,r,by rw[Nat.add_mul,Nat.one_mul];omega,hx,hu⟩
theorem rd_fl (h:∀a,(enc a).length=sz) {w:World} {b off:Nat} {l:List α} (hr:Rd enc sz w (some ⟨b,off,none⟩) l):∀j u,(fl enc l)[j]?=some u->w.cell? ((⟨b,off,none⟩:Addr).add j)=some u:=fun j u hj=>by
 obtain⟨k,x,r,rfl,hx,hu⟩:=fl_at h hj;obtain⟨b',off',e,_,hc⟩:=hr.get hx;cases e;have:=hc r u hu;rw[show(⟨b,off,none⟩:Addr).add (k*sz+r)=⟨b,off+(k*sz+r),none⟩ by unfold Addr.add;split<;>simp_all,←Nat.add_assoc];exact this
def InRow (enc:α->List Value) (sz:Nat) (cur:Array Value) (l:List α):Prop:=∀(k:Nat) (x:α),l[k]?=some x->∀(r:Nat) (u:Value),(enc x)[r]?=some u->cur[k*sz+r]?=some u
theorem own_row (h:∀a,(enc a).length=sz) {W:World} {base:Nat} {e:TypeId} {v:Value} {l:List α} (hw:W.ownsRow base e sz v l.length (fl enc l)) (h0:0<l.length):
  ∃g cap cur,v=.slice (some ⟨g,0,none⟩) l.length cap∧base<=g∧Blk W g e cur∧InRow enc sz cur l:=by
 rcases hw.2 with⟨rfl,h1⟩|⟨g,cap,cur,rfl,hB,hh,h1,h2,h3,h4⟩
 ·omega
 ·refine⟨g,cap,cur,rfl,hB,hh,fun k x hx r u hu=>?_⟩;have h5:=fl_get h hx hu;have hlt:k*sz+r<l.length*sz:=by
   have:=(List.getElem?_eq_some_iff.1 h5).1;rwa [fl_length h] at this
  rw[←h4,List.getElem?_take,if_pos hlt,Array.getElem?_toList] at h5;exact h5
theorem row_rd {W:World} {g:Nat} {e:TypeId} {cur:Array Value} {l:List α} (hb:Blk W g e cur) (hr:InRow enc sz cur l):Rd enc sz W (some ⟨g,0,none⟩) l:=
 fun _=>⟨g,0,rfl,hb.lt,fun k x hx r u hu=>by rw[Nat.zero_add,hb.cell];exact hr k x hx r u hu⟩
end
def zC (n:Int):List Value:=[.int .i64 n]
theorem zC_len (n:Int):(zC n).length=1:=rfl
def nC (n:Nat):List Value:=[.int .i64 (n:Int)]
theorem nC_len (n:Nat):(nC n).length=1:=rfl
theorem rd_int {w:World} {A:Option Addr} {l:List Int} (h:Rd zC 1 w A l) {k:Nat} (hk:k<l.length):
  ∃x b off,l[k]?=some x∧A=some ⟨b,off,none⟩∧b<w.heap.size∧w.cell? ⟨b,off+k,none⟩=some (.int .i64 x):=by
 obtain⟨x,hx⟩:=get_lt hk;obtain⟨b,off,e,hb,hc⟩:=h.get hx;have:=hc 0 _ rfl;rw[Nat.mul_one,Nat.add_zero] at this;exact⟨x,b,off,hx,e,hb,this⟩
end Go.Proofs.YtjkkfcghkeoedaaGreatDoor
namespace Go.Proofs.YtjkkfcghkeoedaaGreatDoor.Tx
open Go.RowKit
theorem bl_alloc {w W:World} (h:Below w.heap.size w W) (o:Obj):Below w.heap.size w (W.alloc o):=h.alloc h.size o
theorem sz_drew (w:World):w.drew.heap.size=w.heap.size:=rfl
theorem sz_drewN (w:World) (n:Nat):(w.drewN n).heap.size=w.heap.size:=rfl
theorem kp_of {W w':World} (h:Below W.heap.size W w'):(∀b o,b<W.heap.size->w'.cell? ⟨b,o,none⟩=W.cell? ⟨b,o,none⟩)∧(∀b o,b<W.heap.size->w'.frozen? ⟨b,o,none⟩=W.frozen? ⟨b,o,none⟩)∧Below W.heap.size W w':=
 ⟨(bcell h).1,(bcell h).2,h⟩
abbrev Kq (W w':World):Prop:=
 (∀b o,b<W.heap.size->w'.cell? ⟨b,o,none⟩=W.cell? ⟨b,o,none⟩)∧(∀b o,b<W.heap.size->w'.frozen? ⟨b,o,none⟩=W.frozen? ⟨b,o,none⟩)∧Below W.heap.size W w'
section
variable {W w' w'':World}
theorem kq_of (h:Below W.heap.size W w'):Kq W w':=⟨(bcell h).1,(bcell h).2,h⟩
theorem kq_refl:Kq W W:=kq_of (below_refl _)
theorem kq_draw (h:Kq W w'):Kq W w'.drew:=kq_of (below_draw h.2.2)
theorem kq_drewN {n:Nat} (h:Kq W w'):Kq W (w'.drewN n):=kq_of (below_drewN h.2.2 _)
theorem kq_alloc {o:Obj} (h:Kq W w'):Kq W (w'.alloc o):=kq_of (bl_alloc h.2.2 _)
theorem kq_set {p:Addr} {v:Value} (h:Kq W w') (hp:W.heap.size<=p.block):Kq W (w'.setCell p v):=kq_of (h.2.2.setCell hp _)
theorem kq_step (h:Kq W w') (hb:Below w'.heap.size w' w''):Kq W w'':=kq_of (below_tr h.2.2 hb)
end
theorem fits_wrap {n:Int} (h:-9223372036854775808<=n∧n<=9223372036854775807):IntKind.i64.wrap n=n:=by
 simp only[IntKind.wrap,IntKind.bits,IntKind.signed];simp;omega
def stG (p:List UInt8):List Value:=[.string ⟨p.toArray⟩]
end Go.Proofs.YtjkkfcghkeoedaaGreatDoor.Tx
