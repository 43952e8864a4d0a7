/- The parts of the proof, part 9. -/
import Derived.Test.YtjkkfcghkeoedaaGreatDoorR0
import Derived.Test.YtjkkfcghkeoedaaGreatDoorR5
import Derived.Test.YtjkkfcghkeoedaaGreatDoorR8
import Derived.Test.YtjkkfcghkeoedaaGreatDoorProg
import Derived.Shelf.Abstract
import Derived.WalkLawsBesides
import Derived.Deep.QuietTactic
import Derived.BigQuiet
import Derived.Deep.RegionHeld3
import Derived.Maps.OwnOps
import Derived.Maps.OwnSet
import Derived.Laws.Strings
import Derived.ArgAppend
import Derived.Deep.AppendLies
import Derived.Laws.OwnMore
import Derived.StillTail
import Derived.StillTailTactics
set_option maxHeartbeats 16000000
set_option maxRecDepth 20000
set_option linter.unusedSimpArgs false
set_option linter.unusedVariables false
namespace Go.Proofs.YtjkkfcghkeoedaaGreatDoor.G
open Go.RowKit Go.Shelf Go.Maps
theorem fm_congr {α β:Type} {f g:α->List β}:∀{l:List α},(∀x∈l,f x=g x)->l.flatMap f=l.flatMap g
 |[],_=>rfl
 |a::l,h=>by rw[List.flatMap_cons,List.flatMap_cons,h a (List.mem_cons_self ..),fm_congr fun x hx=>h x (List.mem_cons_of_mem _ hx)]
def kids (r:List Lk) (i k:Nat):List Nat:=(List.range k).filter fun j=>(lkAt r j).fr==(i:Int)
def dsF (r:List Lk):Nat->Nat->List Nat
 |0,_=>[]
 |f+1,i=>i::(kids r i r.length).flatMap (dsF r f)
def ds (r:List Lk) (i:Nat):List Nat:=dsF r (r.length-i) i
theorem dsF_s (r:List Lk) (f i:Nat):dsF r (f+1) i=i::(kids r i r.length).flatMap (dsF r f):=rfl
theorem kid_gt {g:List It} {r:List Lk} (hv:VR g r) {i j:Nat} (h:j∈kids r i r.length):i<j∧j<r.length:=by
 unfold kids at h;rw[List.mem_filter] at h;have hj:j<r.length:=by simpa using h.1
 obtain⟨x,hx⟩:=get_lt hj;have hf:=hv.frs hx;have h2:=h.2;rw[lkAt_of hx] at h2;have:x.fr=(i:Int):=by simpa using h2
 omega
theorem dsF_any {g:List It} {r:List Lk} (hv:VR g r):∀(f i:Nat),i<r.length->r.length-i<=f->dsF r f i=ds r i
 |0,i,hi,hf=>by omega
 |f+1,i,hi,hf=>by
  obtain⟨q,hq⟩:∃q,r.length-i=q+1:=⟨r.length-i-1,by omega⟩;rw[ds,hq,dsF_s,dsF_s];congr 1;have hin:∀j∈kids r i r.length,dsF r f j=dsF r q j:=fun j hj=>by
   obtain⟨h1,h2⟩:=kid_gt hv hj;rw[dsF_any hv f j h2 (by omega),dsF_any hv q j h2 (by omega)]
  exact fm_congr hin
termination_by f i=>(f,r.length-i)
decreasing_by all_goals simp_wf;omega
theorem ds_eq {g:List It} {r:List Lk} (hv:VR g r) {i:Nat} (hi:i<r.length):ds r i=i::(kids r i r.length).flatMap (ds r):=by
 obtain⟨q,hq⟩:∃q,r.length-i=q+1:=⟨r.length-i-1,by omega⟩;rw[ds,hq,dsF_s];congr 1;exact fm_congr fun j hj=>by
  obtain⟨h1,h2⟩:=kid_gt hv hj;exact dsF_any hv q j h2 (by omega)
theorem kids_yes {r:List Lk} {i k:Nat} (h:((lkAt r k).fr==(i:Int))=true):kids r i (k+1)=kids r i k++[k]:=by
 unfold kids;rw[List.range_succ,List.filter_append];simp[h]
theorem kids_no {r:List Lk} {i k:Nat} (h:((lkAt r k).fr==(i:Int))=false):kids r i (k+1)=kids r i k:=by
 unfold kids;rw[List.range_succ,List.filter_append];simp[h]
theorem kids_pre (r:List Lk) (i:Nat) {k n:Nat} (h:k<=n):∃t,kids r i n=kids r i k++t:=by
 obtain⟨d,rfl⟩:∃d,n=k+d:=⟨n-k,by omega⟩;clear h;induction d with
 |zero=>exact⟨[],by simp⟩
 |succ d ih=>
  obtain⟨t,ht⟩:=ih;rw[←Nat.add_assoc];cases hh:((lkAt r (k+d)).fr==(i:Int))
  ·exact⟨t,by rw[kids_no hh,ht]⟩
  ·exact⟨t++[k+d],by rw[kids_yes hh,ht,List.append_assoc]⟩
theorem yield_any {m m':Nat} {P:Program} {l:Nat} {args:Array Value} {W:World} {R:Ending->World->Prop} (h:YieldAt Fence.wide m P l args W R):YieldAt Fence.wide m' P l args W R:=by
 obtain⟨fn,tmps,assign,body,hy,hr⟩:=h;exact⟨fn,tmps,assign,body,hy,hr.1,fun c cs _=>hr.2 c cs (room_wide _)⟩
attribute [local go_sem] Oper.semAt_some
abbrev noB:Nat->Prop:=fun _=>False
theorem hang {g:List It} {r:List Lk} (hv:VR g r) (B:Option Addr) (d:Nat) (R:Nat->Prop) (hRr:∀ad,B=some ad->R ad.block) (L:Nat) (B0:Nat) (J Jx:List Nat->(Nat->Prop)->World->Prop) (hJ:AbideIt B0 J) (xs:List Nat) (n:Nat)
  (hY:∀pre x rest W1,xs=pre++x::rest->J pre noB W1->YieldAt Fence.wide n Tryz.prog L #[.int .i64 (x:Nat)] W1 fun e W'=>
   (e=.returned (.bool true)∧J (pre++[x]) noB W'∧Stp (fun b=>¬(noB b∨R b)) W1 W')∨(e=.returned (.bool false)∧Jx (pre++[x]) noB W')):
  ∀(f i:Nat) (pre rest:List Nat) (W1:World),i<r.length->r.length-i<=f->xs=pre++(ds r i++rest)->J pre noB W1->Rd Lk.cs 2 W1 B r ->
   CallsIn Fence.wide 1 Tryz.prog 310 #[.slice B r.length d,.int .i64 (i:Nat),.func (.yield L) #[] #[]] W1 fun e W'=>
    (e=.returned (.bool true)∧J (pre++ds r i) noB W'∧Stp (fun b=>¬(noB b∨R b)) W1 W')∨(e=.returned (.bool false)∧∃pre' rest',xs=pre'++rest'∧Jx pre' noB W'):=by
 intro f;induction f with
 |zero=>intro i pre rest W1 hi hf;omega
 |succ f ih=>
  intro i pre rest W1 hi hf hxs hj hS;have hr32:=hv.l1;have hY1:=yield_any (m':=1-1) (hY pre i ((kids r i r.length).flatMap (ds r)++rest) W1 (by rw[hxs,ds_eq hv hi];rfl) hj);obtain⟨fn',tmps,assign,body,hy,hRd⟩:=hY1;have HRD:=Lib.hid hRd;have HXS:=Lib.hid hxs;have HIH:=Lib.hid ih;have HVV:=Lib.hid hv;have HJA:=Lib.hid hJ;have HRR:=Lib.hid hRr;have HDS:=Lib.hid (ds_eq hv hi);have i0:=nn i;clear hRd hxs ih hv hY hj hJ hRr;refine callsIn_of_wp Tryz.func310 rfl trivial ?_;simp only[Tryz.ntmps310,List.size_toArray,List.length_cons,List.length_nil,Nat.reduceAdd,Nat.reduceSub,Array.replicate_succ,Array.replicate_zero,List.push_toArray,List.append_toArray,List.nil_append,List.cons_append];gi_wp2
  refine HRD.out.mono ?_;rintro e W3 (⟨rfl,hj3,hk3⟩|⟨rfl,hjx⟩);rotate_left
  ·gi_wp2
   go_ret;exact .inr ⟨rfl,pre++[i],(kids r i r.length).flatMap (ds r)++rest,by rw[HXS.out,HDS.out];simp,hjx⟩
  ·have HJ3:=Lib.hid hj3;clear hj3 hy HRD;gi_wp2
   gi_loopw [15] (fun k wr=>∃m:Nat,m<=r.length∧k=.int .i64 m∧Hid (J (pre++i::(kids r i m).flatMap (ds r)) noB wr)∧Hid (Stp (fun b=>¬(noB b∨R b)) W1 wr)) (fun k _=>r.length-(intOf k).toNat)
   case atStart=>exact⟨0,by omega,rfl,Lib.hid (by have:=HJ3.out;simpa[kids] using this),Lib.hid hk3⟩
   case round=>
    clear hk3 HJ3;obtain⟨m,hm,rfl,HJ,HST⟩:=hrel;have m0:=nn m;by_cases hlt:m<r.length
    ·have m1:(m:Int)<(r.length:Int):=by omega
     obtain⟨x,b,off,hx,rfl,hb,c0,c1⟩:=rdL (Rd.stp hS HST.out (fun ad e k=>k (.inr (HRR.out ad e)))) hlt;have hfr:=HVV.out.frs hx;have HXA:=Lib.hid (lkAt_of hx);have HJB:=Lib.hid (fun o=>HJA.out _ noB noB wr (wr.alloc o) HJ.out (fun _ h=>h.elim) (fun _ h=>h) (fun _ h=>.inl h) (fun _ h=>h.elim) ((Stp.refl _ _).alloc _));have HSB:=Lib.hid (fun o=>HST.out.alloc o);clear hx;by_cases he:x.fr=(i:Int)
     ·have HK:=Lib.hid (kids_yes (r:=r) (i:=i) (k:=m) (by rw[HXA.out,he];simp));obtain⟨t,ht⟩:=kids_pre r i (show m+1<=r.length by omega);have HT:=Lib.hid ht;clear ht
      have HC:=Lib.hid (fun o=>callsIn_wide.1 (HIH.out m (pre++i::(kids r i m).flatMap (ds r)) (t.flatMap (ds r)++rest) (wr.alloc o) hlt (by omega)
       (by rw[HXS.out,HDS.out,HT.out,HK.out];simp[List.flatMap_append]) (HJB.out o) (Rd.stp hS (HSB.out o) (fun ad e k=>k (.inr (HRR.out ad e))))))
      have he1:(x.fr==(i:Int))=true:=by simpa using he
      clear he hfr;gi_wp2
      refine⟨trivial,?_⟩;refine(callsIn_wide.2 (HC.out _)).mono ?_;rintro e W4 (⟨rfl,hj4,hk4⟩|⟨rfl,pre',rest',hxx,hjx⟩)
      ·have HJ4:=Lib.hid hj4;have HS4:=Lib.hid ((HSB.out _).trans hk4);clear hj4 hk4;gi_wp2
       go_roundw
       case rel=>exact⟨m+1,by omega,by go_num,Lib.hid (by have:=HJ4.out;rw[HK.out];simpa[List.flatMap_append,List.append_assoc] using this),HS4⟩
       case measure=>simp[intOf];omega
      ·have HXX:=Lib.hid hxx;clear hxx;gi_wp2
       go_ret;exact .inr ⟨rfl,pre',rest',HXX.out,hjx⟩
     ·have HK:=Lib.hid (kids_no (r:=r) (i:=i) (k:=m) (by rw[HXA.out];simpa using he));have he1:(x.fr==(i:Int))=false:=by simpa using he
      have HE1:=Lib.hid he1;clear hfr he1;gi_wp2
      refine⟨trivial,?_⟩;rw[HE1.out];gi_wp2
      go_roundw
      case rel=>exact⟨m+1,by omega,by go_num,Lib.hid (by rw[HK.out];exact HJB.out _),Lib.hid (HSB.out _)⟩
      case measure=>simp[intOf];omega
    ·obtain rfl:m=r.length:=by omega
     gi_wp2
     go_ret;exact .inl ⟨rfl,by rw[HDS.out];exact HJ.out,HST.out⟩
abbrev mrk (D:Nat):Deferred:={target:=.collected D,args:=#[]}
def Marks (w:World) (Ds:List Nat):Prop:=Ds.Nodup∧∀D∈Ds,w.heap[D]?=some (.deferred (some []))
theorem Marks.nil (w:World):Marks w []:=⟨List.nodup_nil,fun _ h=>by cases h⟩
theorem Marks.stp {w w':World} {Ds:List Nat} {N:Nat->Prop} (h:Marks w Ds) (k:Stp N w w') (hn:∀D∈Ds,¬N D):Marks w' Ds:=
 ⟨h.1,fun D hD=>(k.block D (lt_of_block (h.2 D hD)) (hn D hD)).trans (h.2 D hD)⟩
theorem Marks.cons {w:World} {Ds:List Nat} {D:Nat} (h:Marks w Ds) (hD:w.heap[D]?=some (.deferred (some []))) (hn:D∉Ds):Marks w (D::Ds):=
 ⟨List.nodup_cons.2 ⟨hn,h.1⟩,fun E hE=>by rcases List.mem_cons.1 hE with rfl|hE;exact hD;exact h.2 E hE⟩
theorem leaves_marks {F:Fence} {n:Nat} {P:Program} {fn:Func} {tmps:Array Value} {R:Ending->World->Prop} {u:FrameMode} (hu:u≠.run):∀(Ds:List Nat) (w:World),Marks w Ds ->
  (∀w',Stp (fun b=>b∈Ds) w w'->LeavesIn F n P fn tmps R [] u w')->LeavesInM F n P fn tmps R (Ds.map mrk) u w
 |[],w,_,h=>h w (Stp.refl _ _)
 |D::Ds,w,hm,h=>by
  have hD:=hm.2 D (List.mem_cons_self ..);obtain⟨h1,h2⟩:=List.nodup_cons.1 hm.1;refine⟨hu,.inl ⟨D,_,rfl,run_takeDeferred hD,?_⟩⟩;have hs:Stp (fun b=>b=D) w (w.putObj D (.deferred none)):=Stp.putObj (Stp.refl (fun b=>b=D) w) (.inl rfl) _;refine leaves_marks hu Ds _ ⟨h2,fun E hE=>?_⟩ fun w' hw'=>?_
  ·exact(hs.block E (lt_of_block (hm.2 E (List.mem_cons_of_mem _ hE))) (fun e=>h1 (e▸hE))).trans (hm.2 E (List.mem_cons_of_mem _ hE))
  ·exact h w' ((hs.mono fun b _ hb=>by subst hb;exact List.mem_cons_self ..).trans (hw'.mono fun b _ hb=>List.mem_cons_of_mem _ hb))
theorem enters_below:∀args w,(callFunc 309 args).run Tryz.prog w=.ok (.enter 309 args) w:=enters_of Tryz.func309 (by kernel_rfl) rfl
def nE (n:Nat):Array Value:=#[.int .i64 (n:Int)]
theorem below_seq {g:List It} {r:List Lk} (hv:VR g r) (fn:Nat) (B:Option Addr) (d i b1 b2:Nat) (hi:i<r.length) (R:Nat->Prop) (w0:World) (hS:Rd Lk.cs 2 w0 B r) (hRr:∀ad,B=some ad->R ad.block)
  (h1:w0.cell? ⟨b1,0,none⟩=some (.slice B r.length d)) (h2:w0.cell? ⟨b2,0,none⟩=some (.int .i64 (i:Nat))) (hR1:R b1) (hR2:R b2):
  SeqIs fn Tryz.prog 309 #[.pointer (some ⟨b1,0,none⟩),.pointer (some ⟨b2,0,none⟩)] nE (ds r i) R w0:=by
 intro L J Jx W hW hJ hJx hY h0;have c1:=hW.cell h1 (fun k=>k hR1);have c2:=hW.cell h2 (fun k=>k hR2);have hSW:=Rd.stp hS hW (fun ad e k=>k (hRr ad e));have HC:=Lib.hid (callsIn_wide.1 (hang hv B d R hRr L W.heap.size J Jx hJ (ds r i) (fn-1) (fun pre x rest W1 hx hj=>hY pre x rest noB W1 hx hj) (r.length-i) i [] [] W hi (Nat.le_refl _) (by simp) h0 hSW));clear hJ hJx hY h0 h1 h2 hW hS hSW hRr hv;refine callsIn_of_wp Tryz.func309 rfl trivial ?_;simp only[Tryz.ntmps309,List.size_toArray,List.length_cons,List.length_nil,Nat.reduceAdd,Nat.reduceSub,Array.replicate_succ,Array.replicate_zero,List.push_toArray,List.append_toArray,List.nil_append,List.cons_append];gi_wp2
 refine⟨trivial,fun h=>by simp[Fence.wide] at h,?_⟩;refine(callsIn_wide.2 HC.out).mono ?_;rintro e W4 (⟨rfl,hj4,hk4⟩|⟨rfl,pre',rest',hxx,hjx⟩)
 ·gi_wp2
  go_end0
  exact⟨⟨_,rfl⟩,.inl ⟨_,by simpa using hj4⟩⟩
 ·gi_wp2
  go_end0
  exact⟨⟨_,rfl⟩,.inr ⟨_,_,_,hxx,hjx⟩⟩
end Go.Proofs.YtjkkfcghkeoedaaGreatDoor.G
namespace Go.Proofs.YtjkkfcghkeoedaaGreatDoor.G
open Go.RowKit
def cnt (r:List Lk) (i v:Nat):Int:=((chn r (v:Int)).count i:Nat)
def sumL (f:Nat->Int) (l:List Nat):Int:=l.foldr (fun x s=>f x+s) 0
theorem sumL_cons (f:Nat->Int) (x:Nat) (l:List Nat):sumL f (x::l)=f x+sumL f l:=rfl
theorem sumL_app (f:Nat->Int) (l m:List Nat):sumL f (l++m)=sumL f l+sumL f m:=by
 induction l with
 |nil=>simp[sumL]
 |cons x l ih=>rw[List.cons_append,sumL_cons,sumL_cons,ih];omega
theorem sumL_add (f h:Nat->Int) (l:List Nat):sumL (fun x=>f x+h x) l=sumL f l+sumL h l:=by
 induction l with
 |nil=>rfl
 |cons x l ih=>rw[sumL_cons,sumL_cons,sumL_cons,ih];omega
theorem sumL_mul (f:Nat->Int) (c:Int) (l:List Nat):sumL (fun x=>c*f x) l=c*sumL f l:=by
 induction l with
 |nil=>simp[sumL]
 |cons x l ih=>rw[sumL_cons,sumL_cons,ih,Int.mul_add]
theorem sumL_congr {f h:Nat->Int} {l:List Nat} (e:∀x∈l,f x=h x):sumL f l=sumL h l:=by
 induction l with
 |nil=>rfl
 |cons x l ih=>rw[sumL_cons,sumL_cons,e x (List.mem_cons_self ..),ih fun y hy=>e y (List.mem_cons_of_mem _ hy)]
theorem sumL_flat (f:Nat->Int) (h:Nat->List Nat) (l:List Nat):sumL f (l.flatMap h)=sumL (fun x=>sumL f (h x)) l:=by
 induction l with
 |nil=>rfl
 |cons x l ih=>rw[List.flatMap_cons,sumL_app,sumL_cons,ih]
theorem sumL_zero (l:List Nat):sumL (fun _=>0) l=0:=by
 induction l with
 |nil=>rfl
 |cons x l ih=>rw[sumL_cons,ih];rfl
theorem sumL_one (v:Nat):∀(l:List Nat),l.Nodup->sumL (fun x=>if x=v then 1 else 0) l=if v∈l then 1 else 0
 |[],_=>rfl
 |x::l,h=>by
  obtain⟨h1,h2⟩:=List.nodup_cons.1 h;rw[sumL_cons,sumL_one v l h2];by_cases hx:x=v
  ·subst hx;rw[if_pos rfl,if_neg h1,if_pos (List.mem_cons_self ..)];rfl
  ·rw[if_neg hx];by_cases hv:v∈l
   ·rw[if_pos hv,if_pos (List.mem_cons_of_mem _ hv)];rfl
   ·rw[if_neg hv,if_neg (fun h=>by rcases List.mem_cons.1 h with h|h;exact hx h.symm;exact hv h)];rfl
theorem kids_nodup (r:List Lk) (i k:Nat):(kids r i k).Nodup:=List.nodup_range.sublist List.filter_sublist
theorem mem_kids {r:List Lk} {i j:Nat} {x:Lk} (hx:r[j]?=some x):j∈kids r i r.length↔x.fr=(i:Int):=by
 have:=(List.getElem?_eq_some_iff.1 hx).1;unfold kids;rw[List.mem_filter,lkAt_of hx];simp[this]
theorem cnt_neg (r:List Lk) (i:Nat) {v:Int} (h:v<0):((chn r v).count i:Nat)=0:=by rw[chn_neg h];rfl
theorem cnt_step {g:List It} {r:List Lk} (hv:VR g r) (i:Nat) {v:Nat} {x:Lk} (hx:r[v]?=some x):cnt r i v=(if v=i then 1 else 0)+(((chn r x.fr).count i:Nat):Int):=by
 unfold cnt;rw[chn_step hv hx,List.count_cons];by_cases h:v=i
 ·simp[h];omega
 ·simp[h]
theorem cnt_kids {g:List It} {r:List Lk} (hv:VR g r) (i:Nat):∀(v:Nat),v<r.length->cnt r i v=(if v=i then 1 else 0)+sumL (fun c=>cnt r c v) (kids r i r.length):=by
 intro v;induction v using Nat.strongRecOn with
 |_ v ih=>
  intro hvl;obtain⟨x,hx⟩:=get_lt hvl;have hf:=hv.frs hx;have hk:=mem_kids (i:=i) hx;have e:sumL (fun c=>cnt r c v) (kids r i r.length)=(if v∈kids r i r.length then 1 else 0)+sumL (fun c=>(((chn r x.fr).count c:Nat):Int)) (kids r i r.length):=by
   rw[sumL_congr fun c _=>cnt_step hv c hx,sumL_add,←sumL_one v _ (kids_nodup r i _)];congr 1;exact sumL_congr fun c _=>by by_cases h:v=c<;>simp[h,eq_comm]
  rw[cnt_step hv i hx,e];by_cases hneg:x.fr<0
  ·have hnk:v∉kids r i r.length:=fun h=>by have:=hk.1 h;omega
   rw[cnt_neg r i hneg,sumL_congr fun c _=>by rw[cnt_neg r c hneg],if_neg hnk];have:=sumL_zero (kids r i r.length);simp only[Int.natCast_zero] at this ⊢;rw[this];omega
  ·obtain⟨u,hu⟩:=Int.eq_ofNat_of_zero_le (show 0<=x.fr by omega);have h1:=ih u (by omega) (by omega);unfold cnt at h1;rw[hu] at hk ⊢;rw[h1];by_cases h2:u=i
   ·have hnk:v∈kids r i r.length:=hk.2 (by rw[h2]);rw[if_pos h2,if_pos hnk]
   ·have hnk:v∉kids r i r.length:=fun h=>h2 (by have:(u:Int)=i:=hk.1 h;omega);rw[if_neg h2,if_neg hnk]
def bv (r:List Lk) (E:List Nat) (L:List Int):Nat->Nat->Int
 |0,_=>0
 |k+1,i=>bv r E L k i+L.getD k 0*cnt r i (E.getD k 0)
def av (E:List Nat) (L:List Int):Nat->Nat->Int
 |0,_=>0
 |k+1,v=>av E L k v+L.getD k 0*(if E.getD k 0=v then 1 else 0)
theorem bv_kids {g:List It} {r:List Lk} (hv:VR g r) (E:List Nat) (L:List Int) (hE:∀(k n:Nat),E[k]?=some n->n<r.length) (i:Nat):∀k,k<=E.length->bv r E L k i=av E L k i+sumL (fun c=>bv r E L k c) (kids r i r.length)
 |0,_=>by show(0:Int)=0+sumL (fun _=>0) _;rw[sumL_zero];rfl
 |k+1,hk=>by
  obtain⟨n,hn⟩:=get_lt (show k<E.length by omega);have e1:E.getD k 0=n:=by simp[List.getD_eq_getElem?_getD,hn]
  have ih:=bv_kids hv E L hE i k (by omega);show bv r E L k i+L.getD k 0*cnt r i (E.getD k 0)=(av E L k i+L.getD k 0*(if E.getD k 0=i then 1 else 0))+sumL (fun c=>bv r E L k c+L.getD k 0*cnt r c (E.getD k 0)) (kids r i r.length);rw[e1,sumL_add,sumL_mul,cnt_kids hv i n (hE k n hn),ih,Int.mul_add];generalize L.getD k 0*(if n=i then (1:Int) else 0)=p;generalize L.getD k 0*sumL (fun c=>cnt r c n) (kids r i r.length)=q;generalize sumL (fun c=>bv r E L k c) (kids r i r.length)=z;omega
theorem ds_bv {g:List It} {r:List Lk} (hv:VR g r) (E:List Nat) (L:List Int) (hE:∀(k n:Nat),E[k]?=some n->n<r.length) (k:Nat) (hk:k<=E.length):∀(f i:Nat),i<r.length->r.length-i<=f->sumL (av E L k) (ds r i)=bv r E L k i
 |0,i,hi,hf=>by omega
 |f+1,i,hi,hf=>by
  rw[ds_eq hv hi,sumL_cons,sumL_flat,bv_kids hv E L hE i k hk];congr 1;exact sumL_congr fun c hc=>by
   obtain⟨h1,h2⟩:=kid_gt hv hc;exact ds_bv hv E L hE k hk f c h2 (by omega)
theorem subC_at (N:Int):∀(c:List Nat) (M:List Int) (i:Nat),(∀j∈c,j<M.length)->(subC M (-N) c).getD i 0=M.getD i 0+N*((c.count i:Nat):Int)
 |[],M,i,_=>by simp[subC]
 |j::c,M,i,h=>by
  have hj:=h j (List.mem_cons_self ..);have e:subC M (-N) (j::c)=subC (M.set j (M.getD j 0-(-N))) (-N) c:=rfl;rw[e,subC_at N c _ i (fun q hq=>by rw[List.length_set];exact h q (List.mem_cons_of_mem _ hq)),List.count_cons];by_cases hji:j=i
  ·subst hji;have:(M.set j (M.getD j 0-(-N))).getD j 0=M.getD j 0-(-N):=by rw[List.getD_eq_getElem?_getD,List.getElem?_set_self hj];rfl
   rw[this];simp[Int.mul_add];omega
  ·have:(M.set j (M.getD j 0-(-N))).getD i 0=M.getD i 0:=by rw[List.getD_eq_getElem?_getD,List.getElem?_set_ne hji,←List.getD_eq_getElem?_getD]
   rw[this];simp[hji]
theorem boS_at {g:List It} {r:List Lk} (hv:VR g r) {L:List Int} (hL:L.all okZ=true) (hl:L.length=(endN r r.length).length) (i:Nat) (hi:i<r.length):∀k,k<=L.length->(boS r L (endN r r.length) k).getD i 0=bv r (endN r r.length) L k i
 |0,_=>by unfold boS bv;simp[List.getD_eq_getElem?_getD,List.getElem?_replicate,hi]
 |k+1,hk=>by
  obtain⟨n,hx⟩:=get_lt (show k<(endN r r.length).length by omega);have hnr:=endN_lt hx;have hlen:=(boS_bd hv hL hl k (by omega)).1;rw[boS,subC_at _ _ _ _ (fun j hj=>?_),boS_at hv hL hl i hi k (by omega)]
  ·rfl
  ·rw[show(endN r r.length).getD k 0=n by simp[List.getD_eq_getElem?_getD,hx]] at hj;have:=chn_lt hv (n+1) n (by omega) (by omega) j hj;omega
theorem endN_nodup (r:List Lk):(endN r r.length).Nodup:=List.nodup_range.sublist List.filter_sublist
theorem av_zero (E:List Nat) (L:List Int) (v:Nat):∀k,k<=E.length->(∀j,j<k->E.getD j 0≠v)->av E L k v=0
 |0,_,_=>rfl
 |k+1,hk,h=>by
  show av E L k v+L.getD k 0*(if E.getD k 0=v then 1 else 0)=0;rw[av_zero E L v k (by omega) (fun j hj=>h j (by omega)),if_neg (h k (by omega))];simp
theorem av_nonneg {E:List Nat} {L:List Int} (h:∀x∈L,0<=x) (v:Nat):∀k,0<=av E L k v
 |0=>Int.le_refl _
 |k+1=>by
  show 0<=av E L k v+L.getD k 0*(if E.getD k 0=v then 1 else 0);have h1:=av_nonneg h (E:=E) v k;have h2:0<=L.getD k 0:=by
   cases hx:L[k]? with
   |none=>simp[List.getD_eq_getElem?_getD,hx]
   |some x=>rw[getD_of hx];exact h x (List.mem_of_getElem? hx)
  by_cases he:E.getD k 0=v
  ·rw[if_pos he];omega
  ·rw[if_neg he];omega
theorem sumL_nonneg {f:Nat->Int} (h:∀x,0<=f x) (l:List Nat):0<=sumL f l:=by
 induction l with
 |nil=>exact Int.le_refl _
 |cons x l ih=>rw[sumL_cons];have:=h x;omega
theorem sumL_pre {f:Nat->Int} (h:∀x,0<=f x) (l m:List Nat):sumL f l<=sumL f (l++m):=by
 rw[sumL_app];have:=sumL_nonneg h m;omega
theorem list_of_getD {n:Nat} {M:List Int} (h:M.length=n) (f:Nat->Int) (hf:∀i,i<n->M.getD i 0=f i):M=(List.range n).map f:=by
 refine List.ext_getElem? fun i=>?_;by_cases hi:i<n
 ·obtain⟨x,hx⟩:=get_lt (show i<M.length by omega);rw[hx,List.getElem?_map,List.getElem?_range hi,Option.map_some,←hf i hi,getD_of hx]
 ·rw[List.getElem?_eq_none (by omega),List.getElem?_eq_none (by simp;omega)]
theorem boZ_is {g:List It} {r:List Lk} (hv:VR g r) {L:List Int} (hL:L.all okZ=true) (hl:L.length=(endN r r.length).length):boZ r L=(List.range r.length).map (fun i=>bv r (endN r r.length) L L.length i):=by
 unfold boZ;rw[←hl];exact list_of_getD (boS_bd hv hL hl _ (Nat.le_refl _)).1 _ fun i hi=>boS_at hv hL hl i hi _ (Nat.le_refl _)
end Go.Proofs.YtjkkfcghkeoedaaGreatDoor.G
namespace Go.Proofs.YtjkkfcghkeoedaaGreatDoor.G
open Go.RowKit Go.Shelf Go.Maps
theorem und_mapZ:Tryz.prog.underlying 305=some (.map 3 3):=by kernel_rfl
theorem lawZ:Keyed Tryz.prog 3:=int_keyed und_int
abbrev OZ (w:World) (b n:Nat) (D:DataW Unit):Prop:=w.ownsMap Tryz.prog 3 (plainElem Tryz.prog 3) b n D
abbrev kyZ (n:Int):Lit:=.int .i64 n
theorem kyZL (n:Int):WideAt.IsKeyLit (kyZ n):=by unfold kyZ WideAt.IsKeyLit;trivial
theorem keyZ {n:Int} (h:(Lit.int .i64 n).wf=true):keyOf Tryz.prog 3 (.int .i64 n)=some (kyZ n):=keyOf_int_mk und_int h
def atD (E:List Nat) (L:List Int):Nat->DataW Unit
 |0=>.map []
 |k+1=>(atD E L k).put (kyZ (E.getD k 0:Nat)) (i64d (L.getD k 0))
def atZ (E:List Nat) (L:List Int):Nat->Nat->Int
 |0,_=>0
 |k+1,v=>if E.getD k 0=v then L.getD k 0 else atZ E L k v
theorem atD_tidy (E:List Nat) (L:List Int):∀k,Tidy (atD E L k)
 |0=>tidy_empty
 |k+1=>(atD_tidy E L k).put (kyZL _) _
theorem atD_at (E:List Nat) (L:List Int) (v:Nat):∀k,(atD E L k).atKey (kyZ (v:Nat)) (i64d 0)=i64d (atZ E L k v)
 |0=>rfl
 |k+1=>by
  unfold atD atZ;by_cases h:E.getD k 0=v
  ·rw[if_pos h,h,atKey_put_same (atD_tidy E L k).isMap (kyZL _)]
  ·rw[if_neg h,atKey_put_other (fun e=>h (by unfold kyZ at e;injection e with _ e;omega)),atD_at E L v k]
theorem atZ_av {E:List Nat} {L:List Int} (hE:E.Nodup) (v:Nat):∀k,k<=E.length->atZ E L k v=av E L k v
 |0,_=>rfl
 |k+1,hk=>by
  show(if E.getD k 0=v then L.getD k 0 else atZ E L k v)=av E L k v+L.getD k 0*(if E.getD k 0=v then 1 else 0);by_cases h:E.getD k 0=v
  ·rw[if_pos h,if_pos h,av_zero E L v k (by omega),Int.mul_one,Int.zero_add];intro j hj e;obtain⟨n,hn⟩:=get_lt (show k<E.length by omega);obtain⟨m,hm⟩:=get_lt (show j<E.length by omega);have e1:E.getD k 0=n:=by simp[List.getD_eq_getElem?_getD,hn]
   have e2:E.getD j 0=m:=by simp[List.getD_eq_getElem?_getD,hm]
   have:m=n:=by omega
   subst this;have:j=k:=by first|exact List.getElem?_inj (by omega) hE (hm.trans hn.symm)|exact(List.getElem?_inj (by omega) hE).1 (hm.trans hn.symm)
   omega
  ·rw[if_neg h,if_neg h,atZ_av hE v k (by omega)];simp
theorem bl_grownBy {w w':World} (h:Below w.heap.size w w') (row:Option Nat):w.grownBy w' row:=⟨h.os,h.tape,h.output,h.size,fun b hb _=>h.block b hb⟩
theorem oz_stp {N:Nat->Prop} {w w':World} {b n:Nat} {D:DataW Unit} (h:OZ w b n D) (k:Stp N w w') (hn:¬N b):OZ w' b n D:=by
 obtain⟨es,clock,hb,hr⟩:=h;exact⟨es,clock,(k.block b (lt_of_block hb) hn).trans hb,hr⟩
theorem li_stp {N:Nat->Prop} {w w':World} {b:Nat} {l:List Int} (h:LI w b l) (k:Stp N w w') (hn:¬N b):LI w' b l:=by
 obtain⟨cur,h1,h2⟩:=h;exact⟨cur,k.blk h1 hn,h2⟩
theorem ds_lt {g:List It} {r:List Lk} (hv:VR g r):∀(f i:Nat),i<r.length->r.length-i<=f->∀x∈ds r i,x<r.length
 |0,i,hi,hf,_,_=>by omega
 |f+1,i,hi,hf,x,hx=>by
  rw[ds_eq hv hi] at hx;rcases List.mem_cons.1 hx with rfl|hx
  ·exact hi
  ·obtain⟨j,hj,hxj⟩:=List.mem_flatMap.1 hx;obtain⟨h1,h2⟩:=kid_gt hv hj;exact ds_lt hv f j h2 (by omega) x hxj
theorem p_below (B:Option Addr) (n d:Nat) (i:Int) (w:World):
  Calls Tryz.prog 306 #[.slice B n d,.int .i64 i] w fun e w'=>e=.returned (.func (.func 309) #[] #[.pointer (some ⟨w.heap.size,0,none⟩),.pointer (some ⟨w.heap.size+1,0,none⟩)])∧w'=(w.alloc (.cells #[.slice B n d] 99)).alloc (.cells #[.int .i64 i] 3):=by
 go_enter Tryz.func306,Tryz.ntmps306
 go_wp2;go_ret;exact⟨rfl,rfl⟩
theorem p_borne (B C:Option Addr) (g:List It) (r:List Lk) (L:List Int) (d f:Nat) (w:World) (hv:VR g r) (hok:L.all okZ=true) (hll:L.length=(endN r r.length).length) (hS:Rd Lk.cs 2 w B r) (hL:Rd zC 1 w C L):
  Calls Tryz.prog 301 #[.slice B r.length d,.slice C L.length f] w fun e w'=>∃A c,e=.returned (.slice (some A) r.length c)∧w.heap.size<=A.block∧Rd zC 1 w' (some A) (boZ r L)∧Below w.heap.size w w':=by
 have hn32:=hv.l1;have hm0:=hv.l0;have H4:=Lib.hid (fun W (h:Below w.heap.size w W)=>p_ends B r d W (by omega) (hS.on h));have hep:=end_pos hv;have hel:=endN_len r r.length;have HEL:=Lib.hid (fun k n=>endN_lt (r:=r) (k:=k) (n:=n));have HVV:=Lib.hid hv;have HOK:=Lib.hid (show ∀(k:Nat) (x:Int),L[k]?=some x->0<=x∧x<=1000000 from fun k x hx=>wn_iff.1 (List.all_eq_true.1 hok x (List.mem_of_getElem? hx)));obtain⟨i0,hi,hi1,hi2,hi3⟩:=info_int2;have HMI:=Lib.hid made_ints;have HBZ:=Lib.hid (boZ_is hv hok hll);rw[hll] at HBZ;have HND:=Lib.hid (endN_nodup r);have hmm:=@run_makeMap Tryz.prog;have HLN:=Lib.hid (show ∀x∈L,0<=x from fun x hx=>(wn_iff.1 (List.all_eq_true.1 hok x hx)).1);have HBB:=Lib.hid (show ∀i,i<r.length->bv r (endN r r.length) L (endN r r.length).length i<=32000000 from fun i hi=>by
  have h1:=boS_at hv hok hll i hi L.length (Nat.le_refl _);have h2:=bm_getD (boS_bd hv hok hll L.length (Nat.le_refl _)).2 (by omega) i;rw[h1,hll] at h2;omega)
 generalize endN r r.length=E at *;clear hv hok;refine(callsIn_wide (n:=5)).1 ?_;refine callsIn_of_wp_marks Tryz.func301 rfl trivial ?_ rfl;simp only[Tryz.ntmps301,List.size_toArray,List.length_cons,List.length_nil,Nat.reduceAdd,Nat.reduceSub,Array.replicate_succ,Array.replicate_zero,List.push_toArray,List.append_toArray,List.nil_append,List.cons_append];refine wpIn_wide.2 ?_;go_wp2_with (go_at_call 296;((with_reducible refine(H4.out _ (bl_alloc (bl_alloc (below_refl _) _) _)).mono ?_);rintro e w2 ⟨v,rfl,hv2,hb2⟩;obtain⟨ge,ce,rfl,hge,HG2⟩:=own_LI (nz_own hv2) (by rw[List.length_map];exact hep)))
 have hz2:=hb2.size;simp only[World.size_alloc] at hz2 hge;have B2:Below w.heap.size w w2:=below_tr (bl_alloc (bl_alloc (below_refl _) _) _) hb2;have HOZ:OZ w2 w.heap.size 0 (atD E L 0):=((World.ownsMap_made w _ _ _).alloc _).kept (bl_grownBy hb2 none) (by simp);have HBX:Blk w2 (w.heap.size+1) 305 #[.map (some w.heap.size)]:=by
  have:=(Blk.new (w.alloc (.map #[] 0)) 305 #[.map (some w.heap.size)]).below hb2 (by simp);simpa using this
 clear hv2 hb2;go_loopw [15] (fun i wr=>∃k:Nat,k<=E.length∧i=.int .i64 k∧Below w.heap.size w wr∧w2.heap.size<=wr.heap.size∧LI wr ge (E.map fun n:Nat=>(n:Int))∧Blk wr (w.heap.size+1) 305 #[.map (some w.heap.size)]∧OZ wr w.heap.size k (atD E L k)) (fun i _=>E.length-(intOf i).toNat)
 case atStart=>exact⟨0,by omega,rfl,B2,Nat.le_refl _,HG2,HBX,HOZ⟩
 case round=>
  have ge2:=HG2.lt;clear B2 HG2 HBX HOZ;obtain⟨k,hk,rfl,hbw,hsz,HG,HBX,HOZ⟩:=hrel;by_cases hlt:k<E.length
  ·have k0:=nn k;have k1:(k:Int)<(E.length:Int):=by omega
   have k3:(k:Int)<(L.length:Int):=by omega
   obtain⟨n,hx⟩:=get_lt hlt;have hnr:=HEL.out k n hx;have hxx:(E.map fun n:Nat=>(n:Int))[k]?=some (n:Int):=by rw[List.getElem?_map,hx];rfl
   have q0:=HG.cell hxx;obtain⟨N,cb,co,hN,rfl,hcb,d4⟩:=rd_int (hL.on hbw) (show k<L.length by omega);obtain⟨N0,N1⟩:=HOK.out k N hN;have HST:=Lib.hid (show atD E L (k+1)=(atD E L k).put (kyZ (n:Nat)) (i64d N) by
    rw[atD,show E.getD k 0=n by simp[List.getD_eq_getElem?_getD,hx],getD_of hN])
   have q1:=HBX.cell 0;simp only[List.getElem?_toArray,List.getElem?_cons_zero] at q1;have hkey:keyOf Tryz.prog 3 (.int .i64 (n:Nat))=some (kyZ (n:Nat)):=keyZ (WalkArith.wf_i64 (by omega));clear hx hxx hN;go_wp2;refine wp_region_still_tail 6 (by kernel_rfl) (by kernel_rfl) ?_;change wpStill _ _ wr.drew _ _ _
   simp only[List.take_succ_cons,List.take_zero,List.drop_succ_cons,List.drop_zero];repeat still_step
   refine wpStill_nil ?_;change wpList _ _ _ _ _ wr.drew
   go_wp2_with (first
    |(at_mapUpdate;refine wpList_mapUpdate_own _ rfl _ _ _ 305 rfl 3 3 lawZ und_mapZ _ w.heap.size k _ rfl HOZ.drew (by unfold maxLen;omega) _ _ _ rfl rfl hkey _ [] (plainElem_int und_int (WalkArith.wf_i64 (by omega))) ?_)
    |go_in)
   intro w1 hown1 hgrow1;have R1:=HST.out.symm▸hown1;have R2:Below w.heap.size w w1:=(below_draw hbw).grown hgrow1 hbw.size (fun j hj=>by cases hj;exact Nat.le_refl _);have R3:LI w1 ge (E.map fun n:Nat=>(n:Int)):=HG.drew.grown hgrow1 (fun e=>by injection e with e;omega);have R4:Blk w1 (w.heap.size+1) 305 #[.map (some w.heap.size)]:=HBX.drew.grown hgrow1 (fun e=>by injection e with e;omega);have R5:w2.heap.size<=w1.heap.size:=Nat.le_trans hsz hgrow1.size;clear hown1 hgrow1 HG HBX HOZ;go_wp2;go_roundw
   case rel=>exact⟨k+1,by omega,by go_num,R2,R5,R3,R4,R1⟩
   case measure=>simp[intOf];omega
  ·obtain rfl:k=E.length:=by omega
   go_wp2_with (at_make;refine wpList_make_full _ rfl _ _ 40 rfl wr.heap.size 3 i0 (.int .i64 0) 1 (by kernel_rfl) hi hi1 hi2 _ _ _ _ r.length rfl rfl (by simp) (by simp) (by rw[hi3];omega) (by unfold maxLen;omega) (Nat.le_refl _) ?_;intro w5 hown5 hgrow5;rw[HMI.out] at hown5;have B5:Below w.heap.size w w5:=bl_grown hbw hgrow5 (fun r h=>by cases h) hbw.size;obtain⟨gl,cl,e1,hgl,HL5⟩:=own_LI (l:=List.replicate r.length 0) (by rw[List.length_replicate];exact hown5) (by rw[List.length_replicate];omega);have e2:gl=wr.heap.size:=(by injection e1 with h1 h2 h3;injection h1 with h1;injection h1 with h1;exact h1.symm);subst e2)
   have K5:w.heap.size<=wr.heap.size:=hbw.size;have K6:w2.heap.size<=wr.heap.size:=hsz;have X5:Blk w5 (w.heap.size+1) 305 #[.map (some w.heap.size)]:=HBX.grown hgrow5 (by simp);have O5:OZ w5 w.heap.size E.length (atD E L E.length):=HOZ.kept hgrow5 (by simp);have Y5:Blk (w5.alloc (.cells #[.slice (some ⟨wr.heap.size,0,none⟩) r.length cl] 40)) w5.heap.size 40 #[.slice (some ⟨wr.heap.size,0,none⟩) r.length cl]:=Blk.new _ _ _;have B6:=bl_alloc B5 (.cells #[.slice (some ⟨wr.heap.size,0,none⟩) r.length cl] 40);have X6:=X5.alloc (.cells #[.slice (some ⟨wr.heap.size,0,none⟩) r.length cl] 40);have O6:=O5.alloc (.cells #[.slice (some ⟨wr.heap.size,0,none⟩) r.length cl] 40);have L6:=HL5.alloc (.cells #[.slice (some ⟨wr.heap.size,0,none⟩) r.length cl] 40);have Z5:=HL5.lt;have Z6:(w5.alloc (.cells #[.slice (some ⟨wr.heap.size,0,none⟩) r.length cl] 40)).heap.size=w5.heap.size+1:=by simp
   clear HBX HOZ hgrow5 hown5 e1 hbw HG X5 O5 HL5 B5;generalize (w5.alloc (.cells #[.slice (some ⟨wr.heap.size,0,none⟩) r.length cl] 40))=w6 at *;generalize hgl:wr.heap.size=gl at *;generalize hgb:w5.heap.size=gb at *;clear hgl hgb
   refine wp_loop (fun a wv=>∃(i:Nat) (s9 s10 s33 s34 s35 s36 s37 s38 s39 s40 s41 s42 s43 s44 s45 s46 s47 s48:Value) (Ds:List Nat) (M:List Int),
    a={tmps:=#[.slice B r.length d,.slice C E.length f,undef,undef,.slice none 0 0,.pointer (some ⟨w.heap.size+1,0,none⟩),u6,u7,.pointer (some ⟨gb,0,none⟩),s9,s10,.map (some w.heap.size),
     .slice B r.length d,.slice (some ⟨ge,0,none⟩) E.length ce,.int .i64 E.length,.int .i64 E.length,.bool false,u17,u18,u19,u20,u21,u22,u23,u24,u25,u26,.slice B r.length d,.int .i64 r.length,
     .slice (some ⟨gl,0,none⟩) r.length cl,.slice B r.length d,.int .i64 r.length,.int .i64 i,s33,s34,s35,s36,s37,s38,s39,s40,s41,s42,s43,s44,s45,s46,s47,s48,undef],defers:=Ds.map mrk} ∧
    i<=r.length∧Below w.heap.size w wv∧w6.heap.size<=wv.heap.size∧Marks wv Ds∧(∀D∈Ds,w6.heap.size<=D) ∧
    Blk wv gb 40 #[.slice (some ⟨gl,0,none⟩) r.length cl]∧Blk wv (w.heap.size+1) 305 #[.map (some w.heap.size)]∧OZ wv w.heap.size E.length (atD E L E.length)∧LI wv gl M ∧
    Hid (M.length=r.length∧∀j,M.getD j 0=if j<i then bv r E L E.length j else 0))
    (fun a _=>r.length-(intOf (a.tmps.getD 32 undef)).toNat) ?h0 ?round
   case h0=>
    refine⟨0,_,_,_,_,_,_,_,_,_,_,_,_,_,_,_,_,_,_,[],List.replicate r.length 0,rfl,by omega,B6,Nat.le_refl _,Marks.nil _,fun _ h=>(by cases h),Y5,X6,O6,L6,Lib.hid ⟨List.length_replicate ..,fun j=>?_⟩⟩;rw[if_neg (by omega),List.getD_eq_getElem?_getD,List.getElem?_replicate];split<;>rfl
   case round=>
    clear B6 Y5 X6 O6 L6;rintro a wv ⟨i,s9,s10,s33,s34,s35,s36,s37,s38,s39,s40,s41,s42,s43,s44,s45,s46,s47,s48,Ds,M,rfl,hi,hbw,hsz6,hmk,hmd,hgb,hbx,hoz,hli,HM⟩;by_cases hlt:i<r.length
    ·have k0:=nn i;have k1:(i:Int)<(r.length:Int):=by omega
     go_wp2_with (go_at_call 306;((with_reducible refine(p_below B r.length d i _).mono ?_);rintro e w7 ⟨rfl,hw7⟩))
     have hw8:=hw7;clear hw7;have x0:Blk (wv.alloc (.cells #[.int .i64 (i:Nat)] 3)) wv.heap.size 3 #[.int .i64 (i:Nat)]:=Blk.new _ _ _;have y0:Blk w7 wv.heap.size 3 #[.int .i64 (i:Nat)]:=by rw[hw8];exact(x0.alloc _).alloc _
     have y1:Blk w7 (wv.heap.size+1) 99 #[.slice B r.length d]:=by
      have:=(Blk.new (wv.alloc (.cells #[.int .i64 (i:Nat)] 3)) 99 #[.slice B r.length d]).alloc (.cells #[.int .i64 (i:Nat)] 3);rw[hw8];simpa using this
     have y2:Blk w7 (wv.heap.size+1+1) 3 #[.int .i64 (i:Nat)]:=by
      have:=Blk.new ((wv.alloc (.cells #[.int .i64 (i:Nat)] 3)).alloc (.cells #[.slice B r.length d] 99)) 3 #[.int .i64 (i:Nat)];rw[hw8];simpa using this
     have st7:Stp noB wv w7:=by rw[hw8];exact(((Stp.refl _ _).alloc _).alloc _).alloc _
     have sz7:w7.heap.size=wv.heap.size+1+1+1:=by rw[hw8];simp
     have B7:Below w.heap.size w w7:=hbw.trans (st7.toBelow hbw.size (fun _ _ h=>h));have hS7:Rd Lk.cs 2 w7 B r:=hS.on B7;have M7:=hmk.stp st7 (fun _ _ h=>h);have G7:=st7.blk hgb (fun h=>h);have X7:=st7.blk hbx (fun h=>h);have O7:=oz_stp hoz st7 (fun h=>h);have L7:=li_stp hli st7 (fun h=>h);have hbz:∀ad,B=some ad->ad.block<w.heap.size:=by
      rintro ad rfl;obtain⟨_,b0,_,_,e0,hb0,_⟩:=rdL hS hlt;cases e0;exact hb0
     have hM0:M=M.set i (sumL (av E L E.length) []):=by
      refine List.ext_getElem? fun j=>?_;by_cases hj:i=j
      ·subst hj;obtain⟨t,ht⟩:=get_lt (show i<M.length by rw[HM.out.1];exact hlt);have h0:=HM.out.2 i;rw[if_neg (by omega),getD_of ht] at h0;rw[List.getElem?_set_self (by rw[HM.out.1];exact hlt),ht,h0];rfl
      ·rw[List.getElem?_set_ne hj]
     have hD7:∀D∈Ds,D<w7.heap.size:=fun D hD=>lt_of_block (M7.2 D hD);rw[←hw8];clear hw8 x0 hgb hbx hoz hli hmk st7
     refine(wpIn_wide (n:=5)).1 (wp_range (n:=5) (by omega) (gf:=309) (lb:=#[.pointer (some ⟨wv.heap.size+1,0,none⟩),.pointer (some ⟨wv.heap.size+1+1,0,none⟩)]) rfl enters_below (encs:=nE) (xs:=ds r i)
      (R:=fun b=>(∃ad,B=some ad∧b=ad.block)∨b=wv.heap.size+1∨b=wv.heap.size+1+1)
      (below_seq HVV.out _ B d i (wv.heap.size+1) (wv.heap.size+1+1) hlt _ w7 hS7 (fun ad e=>.inl ⟨ad,e,rfl⟩) (y1.cell 0) (y2.cell 0) (.inr (.inl rfl)) (.inr (.inr rfl))) (Stp.refl _ _) (fun _=>rfl)
      (fun b hb=>by rcases hb with⟨ad,e,rfl⟩|rfl|rfl;(have:=hbz ad e;have:=hbw.size;omega);omega;omega)
      (fun pre M' W=>(Below w.heap.size w W∧w7.heap.size<=W.heap.size)∧Marks W Ds∧Blk W gb 40 #[.slice (some ⟨gl,0,none⟩) r.length cl]∧Blk W (w.heap.size+1) 305 #[.map (some w.heap.size)]∧Blk W wv.heap.size 3 #[.int .i64 (i:Nat)]∧OZ W w.heap.size E.length (atD E L E.length)∧LI W gl (M.set i (sumL (av E L E.length) pre)))
      (fun _ _ _ _=>False) ?hI ?hIx ?h00 ?rnd ?done ?stop)
     case hIx=>exact fun _ _ _ _ _ _ h=>h.elim
     case stop=>rintro c pre rest M' W _ h;exact h.elim
     case h00=>exact⟨⟨B7,Nat.le_refl _⟩,M7,G7,X7,y0,O7,by rw[←hM0];exact L7⟩
     case hI=>
      rintro s M1 M2 W W' ⟨⟨a1,a2⟩,a3,a4,a5,a6,a7,a8⟩ hM' hMM hnew hlt2 hst;have hno:∀b,b<w7.heap.size->(M1 b->False)->¬(M1 b∨b+2=w7.heap.size+2∨b+1=w7.heap.size+2):=by
       intro b hb h1 h;rcases h with h|h|h
       ·exact h1 h
       ·omega
       ·omega
      have hM1:∀b,b<w7.heap.size->M1 b->False:=fun b hb h=>by have:=hM' b (hMM b h);omega
      have hz:=hst.size;refine⟨⟨a1.trans (hst.toBelow a1.size (fun b hb=>hno b (by omega) (hM1 b (by omega)))),by omega⟩,a3.stp hst (fun D hD=>hno D (hD7 D hD) (hM1 D (hD7 D hD))),hst.blk a4 (hno _ (by omega) (hM1 _ (by omega))),hst.blk a5 (hno _ (by omega) (hM1 _ (by omega))),hst.blk a6 (hno _ (by omega) (hM1 _ (by omega))),oz_stp a7 hst (hno _ (by omega) (hM1 _ (by omega))),li_stp a8 hst (hno _ (by omega) (hM1 _ (by omega)))⟩
     case done=>
      rintro M' W ⟨⟨a1,a2⟩,a3,a4,a5,a6,a7,a8⟩ hK;have HA:=Lib.hid (show(M.set i (sumL (av E L E.length) (ds r i))).length=r.length∧∀j,(M.set i (sumL (av E L E.length) (ds r i))).getD j 0=if j<i+1 then bv r E L E.length j else 0 by
       refine⟨by rw[List.length_set];exact HM.out.1,fun j=>?_⟩;have hMj:=HM.out.2 j;by_cases hj:i=j
       ·subst hj;rw[List.getD_eq_getElem?_getD,List.getElem?_set_self (by rw[HM.out.1];exact hlt),if_pos (by omega),ds_bv HVV.out E L HEL.out E.length (Nat.le_refl _) (r.length-i) i hlt (Nat.le_refl _)];rfl
       ·rw[List.getD_eq_getElem?_getD,List.getElem?_set_ne hj,←List.getD_eq_getElem?_getD,hMj];by_cases hji:j<i
        ·rw[if_pos hji,if_pos (by omega)]
        ·rw[if_neg hji,if_neg (by omega)])
      have HMK:=Lib.hid (a3.cons hK (fun h=>by have:=hD7 _ h;omega));have HMD:=Lib.hid (show ∀D∈w7.heap.size::Ds,w6.heap.size<=D from fun D hD=>by
       rcases List.mem_cons.1 hD with rfl|hD
       ·omega
       ·exact hmd D hD)
      have hsz8:w6.heap.size<=W.heap.size:=by omega
      clear a3 hK HM;dsimp only;go_wp2;refine⟨⟨i+1,_,_,_,_,_,_,_,_,_,_,_,_,_,_,_,_,_,_,w7.heap.size::Ds,_,rfl,by omega,a1,hsz8,HMK.out,HMD.out,a4,a5,a7,a8,Lib.hid HA.out⟩,?_⟩;simp[intOf];omega
     case rnd=>
      rintro l pre x rest M' W hxs ⟨⟨a1,a2⟩,a3,a4,a5,a6,a7,a8⟩ hM hsz;simp only[nE,setAll1,List.setIfInBounds_toArray,List.set_cons_zero,List.set_cons_succ];gi_wp2
      refine⟨Stp.refl _ _,fun W2 hsz2 hst2=>?_⟩;have hno:∀b,b<w7.heap.size->¬b=w7.heap.size+1:=fun b hb=>by omega
      have s1:Blk W2 gb 40 #[.slice (some ⟨gl,0,none⟩) r.length cl]:=hst2.blk a4 (hno _ (by omega));have s2:Blk W2 (w.heap.size+1) 305 #[.map (some w.heap.size)]:=hst2.blk a5 (hno _ (by omega));have s3:Blk W2 wv.heap.size 3 #[.int .i64 (i:Nat)]:=hst2.blk a6 (hno _ (by omega));have s4:=oz_stp a7 hst2 (hno _ (by omega));have s5:=li_stp a8 hst2 (hno _ (by omega));have s6:=a3.stp hst2 (fun D hD=>hno D (hD7 D hD));have s7:Below w.heap.size w W2:=a1.trans (hst2.toBelow a1.size (fun b hb=>hno b (by omega)));have hxl:x<r.length:=ds_lt HVV.out (r.length-i) i hlt (Nat.le_refl _) x (by rw[hxs];simp);have hav:∀v,0<=av E L E.length v:=fun v=>av_nonneg HLN.out v _;have hsn:sumL (av E L E.length) (pre++[x])=sumL (av E L E.length) pre+av E L E.length x:=by rw[sumL_app];simp[sumL]
      have hT0:=sumL_nonneg hav pre;have hT1:sumL (av E L E.length) (pre++[x])<=32000000:=by
       have h1:=sumL_pre hav (pre++[x]) rest;rw[show pre++[x]++rest=ds r i by rw[hxs];simp,ds_bv HVV.out E L HEL.out E.length (Nat.le_refl _) (r.length-i) i hlt (Nat.le_refl _)] at h1;have h2:=HBB.out i hlt;omega
      have hA0:=hav x;have hlM:i<M.length:=by rw[HM.out.1];exact hlt
      have q9:=s5.cell (k:=i) (x:=sumL (av E L E.length) pre) (by rw[List.getElem?_set_self hlM]);have f9:=s5.frozen i;have HSN:=Lib.hid hsn;have HT1:=Lib.hid (show IntKind.i64.wrap (sumL (av E L E.length) pre+av E L E.length x)=sumL (av E L E.length) pre+av E L E.length x from fits_wrap ⟨by omega,by omega⟩);have s5':LI (W2.setCell ⟨gl,i,none⟩ (.int .i64 (sumL (av E L E.length) pre+av E L E.length x))) gl (M.set i (sumL (av E L E.length) (pre++[x]))):=by
       have:=s5.set (k:=i) (x:=sumL (av E L E.length) pre) (by rw[List.getElem?_set_self hlM]) (sumL (av E L E.length) pre+av E L E.length x);rw[List.set_set] at this;rw[hsn];exact this
      have hgn:gb≠gl:=by omega
      have stS:∀u,Stp (fun b=>b=gl) W2 (W2.setCell ⟨gl,i,none⟩ u):=fun u=>Stp.setCell (Stp.refl (fun b=>b=gl) W2) (.inl rfl) u;have hBn:∀ad,B=some ad->ad.block≠gl:=fun ad e=>by have:=hbz ad e;omega
      clear hsn hT1;gi_wp2
      refine wpIn_round_held (fun w'=>Blk w' gb 40 #[.slice (some ⟨gl,0,none⟩) r.length cl]∧Blk w' (w.heap.size+1) 305 #[.map (some w.heap.size)]∧Blk w' wv.heap.size 3 #[.int .i64 (i:Nat)]∧OZ w' w.heap.size E.length (atD E L E.length)) (by kernel_rfl) (by omega) (by rintro⟨_,_,h⟩;exact h) (by kernel_rfl) ⟨s1.drew,s2.drew,s3.drew,s4.drew⟩ (fun hH=>?_);refine wpAnyH_take (i:=0) (oi:={dst:=some 39,op:=_,type:=_,pos:=_,after:=_,guard:=none}) (v:=.slice (some ⟨gl,0,none⟩) r.length cl) rfl (by kernel_rfl) (by kernel_rfl) (by kernel_rfl) (fun _ _ _ h=>h) (Or.inl ⟨by rfl,?gy0⟩) (by assumption) ?_
      case gy0=>
       rintro w' ⟨s1,s2,s3,s4⟩;have q:=s1.cell 0;simp only[List.getElem?_toArray,List.getElem?_cons_zero] at q;go_simp
      try simp only[AP]
      refine wpAnyH_take (i:=1) (oi:={dst:=some 40,op:=_,type:=_,pos:=_,after:=_,guard:=none}) (v:=.int .i64 (i:Nat)) rfl (by kernel_rfl) (by kernel_rfl) (by kernel_rfl) (fun _ _ _ h=>h) (Or.inl ⟨by rfl,?gy1⟩) (by assumption) ?_
      case gy1=>
       rintro w' ⟨s1,s2,s3,s4⟩;have q:=s3.cell 0;simp only[List.getElem?_toArray,List.getElem?_cons_zero] at q;go_simp
      try simp only[AP]
      refine wpAnyH_take (i:=2) (oi:={dst:=some 41,op:=_,type:=_,pos:=_,after:=_,guard:=none}) (v:=.pointer (some ⟨gl,i,none⟩)) rfl (by kernel_rfl) (by kernel_rfl) (by kernel_rfl) (fun _ _ _ h=>h) (Or.inl ⟨by rfl,?gy2⟩) (by assumption) ?_
      case gy2=>
       rintro w' ⟨s1,s2,s3,s4⟩;go_simp
      try simp only[AP]
      refine wpAnyH_take (i:=4) (oi:={dst:=some 43,op:=_,type:=_,pos:=_,after:=_,guard:=none}) (v:=.map (some w.heap.size)) rfl (by kernel_rfl) (by kernel_rfl) (by kernel_rfl) (fun _ _ _ h=>h) (Or.inl ⟨by rfl,?gy4⟩) (by assumption) ?_
      case gy4=>
       rintro w' ⟨s1,s2,s3,s4⟩;have q:=s2.cell 0;simp only[List.getElem?_toArray,List.getElem?_cons_zero] at q;go_simp
      try simp only[AP]
      refine wpAnyH_take (i:=5) (oi:={dst:=some 44,op:=_,type:=_,pos:=_,after:=_,guard:=none}) (v:=.int .i64 (x:Nat)) rfl (by kernel_rfl) (by kernel_rfl) (by kernel_rfl) (fun _ _ _ h=>h) (Or.inl ⟨by rfl,?gy5⟩) (by assumption) ?_
      case gy5=>
       rintro w' ⟨s1,s2,s3,s4⟩;go_simp
      try simp only[AP]
      refine wpAnyH_take (i:=6) (oi:={dst:=some 45,op:=_,type:=_,pos:=_,after:=_,guard:=none}) (v:=.int .i64 (av E L E.length x)) rfl (by kernel_rfl) (by kernel_rfl) (by kernel_rfl) (fun _ _ _ h=>h) (Or.inl ⟨by rfl,?gy6⟩) (by assumption) ?_
      case gy6=>
       rintro w' ⟨s1,s2,s3,s4⟩;have hkey:=keyZ (n:=(x:Nat)) (WalkArith.wf_i64 (by omega));obtain⟨c,hrun,hat,_⟩:=s4.lookup_int lawZ und_mapZ und_int (zeroN _) hkey;rw[atD_at,atZ_av HND.out x E.length (Nat.le_refl _)] at hat;obtain rfl:av E L E.length x=c:=by cases hat;rfl
       go_simp
      try simp only[AP]
      refine tr 3 fun K hK=>?_;go_simp
      refine hK.out _ _ ⟨s1.drew,s2.drew,s3.drew,s4.drew⟩ (fun hS1=>?_);clear hK K;try simp only[AP]
      refine wpAnyH_take (i:=7) (oi:={dst:=some 46,op:=_,type:=_,pos:=_,after:=_,guard:=none}) (v:=.int .i64 (sumL (av E L E.length) pre+av E L E.length x)) rfl (by kernel_rfl) (by kernel_rfl) (by kernel_rfl) (fun _ _ _ h=>h) (Or.inl ⟨by rfl,?gy7⟩) (by assumption) ?_
      case gy7=>
       rintro w' ⟨s1,s2,s3,s4⟩;have:=HT1.out;go_simp
      try simp only[AP]
      refine wpAnyH_take (i:=8) (oi:={dst:=some 47,op:=_,type:=_,pos:=_,after:=_,guard:=none}) (v:=.pointer (some ⟨gl,i,none⟩)) rfl (by kernel_rfl) (by kernel_rfl) (by kernel_rfl) (fun _ _ _ h=>h) (Or.inl ⟨by rfl,?gy8⟩) (by assumption) ?_
      case gy8=>
       rintro w' ⟨s1,s2,s3,s4⟩;go_simp
      try simp only[AP]
      refine tr 9 fun K hK=>?_;go_simp
      have z1:=s1.far (p:=⟨gl,i,none⟩) hgn (.int .i64 (sumL (av E L E.length) pre+av E L E.length x));have z2:=s2.far (p:=⟨gl,i,none⟩) (by show w.heap.size+1≠gl;omega) (.int .i64 (sumL (av E L E.length) pre+av E L E.length x));have z3:=s3.far (p:=⟨gl,i,none⟩) (by show wv.heap.size≠gl;omega) (.int .i64 (sumL (av E L E.length) pre+av E L E.length x));have z4:=oz_stp s4 (stS (.int .i64 (sumL (av E L E.length) pre+av E L E.length x))) (by show ¬w.heap.size=gl;omega);have z6:=s6.stp (stS (.int .i64 (sumL (av E L E.length) pre+av E L E.length x))) (fun D hD e=>by have:=hmd D hD;omega);have z7:Below w.heap.size w (W2.setCell ⟨gl,i,none⟩ (.int .i64 (sumL (av E L E.length) pre+av E L E.length x))):=s7.setCell (p:=⟨gl,i,none⟩) (by show w.heap.size<=gl;omega) _;have z8:Stp (fun b=>b=gl) W2 (W2.setCell ⟨gl,i,none⟩ (.int .i64 (sumL (av E L E.length) pre+av E L E.length x))).drew:=(stS _).drew;refine hK.out _ _ ⟨z1,z2,z3,z4⟩ (fun hS2=>?_);clear hK K;try simp only[AP]
      refine wpAnyH_done (by kernel_rfl) ?_ _;refine⟨z8.mono fun b hb e=>?_,⟨below_draw z7,by have:=hst2.size;have h3:=z8.size;have h4:=sz7;omega⟩,z6,z1,z2,z3,z4,s5'⟩;subst e;rintro (h|h|h|h)
      ·have:=(hM _ h).1;omega
      ·rcases h with⟨ad,e1,e2⟩|h|h
       ·exact hBn ad e1 e2.symm
       ·omega
       ·omega
      ·omega
      ·omega
    ·obtain rfl:i=r.length:=by omega
     have q8:=hgb.cell 0;simp only[List.getElem?_toArray,List.getElem?_cons_zero] at q8;go_wp2;refine leaves_marks (by simp) Ds _ hmk fun w' hw'=>?_;have e1:boZ r L=M:=by rw[HBZ.out];exact(list_of_getD HM.out.1 _ fun j hj=>by rw[HM.out.2 j,if_pos hj]).symm
     have s1:LI w' gl M:=by
      obtain⟨cur,h1,h2⟩:=hli;exact⟨cur,hw'.blk h1 (fun h=>by have:=hmd _ h;omega),h2⟩
     exact⟨_,results_tmp rfl _ _ _,⟨gl,0,none⟩,cl,rfl,by omega,by rw[e1];exact s1.rd,hbw.trans (hw'.toBelow (by omega) (fun b hb h=>by have:=hmd b h;omega))⟩
end Go.Proofs.YtjkkfcghkeoedaaGreatDoor.G
namespace Go.Proofs.YtjkkfcghkeoedaaGreatDoor.G
open Go.RowKit Go.Maps
def GotW (w':World) (v:Value) (l:List Int):Prop:=∃A c,v=.slice A l.length c∧Rd zC 1 w' A l
theorem gotW_nil (w':World):GotW w' (.slice none 0 0) []:=⟨none,0,rfl,fun h=>absurd rfl h⟩
theorem ldE_z {r:List Lk} {L:List Int} (h:ldE r L=0):L.length=(endN r r.length).length∧L.all okZ=true:=by
 unfold ldE at h;split at h
 ·rename_i h1
  split at h
  ·rename_i h2;exact⟨h1,h2⟩
  ·omega
 ·omega
theorem boZ_len {g:List It} {r:List Lk} (hv:VR g r) {L:List Int} (h:ldE r L=0):(boZ r L).length=r.length:=by
 obtain⟨h1,h2⟩:=ldE_z h;rw[boZ_is hv h2 h1];simp
end Go.Proofs.YtjkkfcghkeoedaaGreatDoor.G
