/- The parts of the proof, part 17. -/
import Derived.Test.YtjkkfcghkeoedaaGreatDoorR0
import Derived.Test.YtjkkfcghkeoedaaGreatDoorR16
import Derived.Laws.BitsAllLaws
import Derived.Lib.AppendIntMem
import Derived.Deep.DeepCutAuto
set_option maxHeartbeats 16000000
set_option maxRecDepth 20000
set_option linter.unusedSimpArgs false
set_option linter.unusedVariables false
namespace Go.Proofs.YtjkkfcghkeoedaaGreatDoor.Fi
open Go.Lib Tx
abbrev I64 (n:Int):Prop:=-9223372036854775808<=n∧n<=9223372036854775807
def CmOk:Cm->Prop
 |.gust g=>I64 g
 |.day=>True
 |.dog i=>I64 i
 |.rig i l=>I64 i∧l.length<=100000∧∀k∈l,G.LW k
 |.strike r=>I64 r
 |.up i m=>I64 i∧I64 m
 |.down i m=>I64 i∧I64 m
 |.lift r l=>I64 r∧l.length<=100000∧∀n∈l,I64 n
 |.look m=>m.size<=maxLen
 |.call b=>b.size<=maxLen
 |.cut i=>I64 i
 |.bill i=>I64 i
theorem siteA_mem {x:St} {i:Int} (h:thB x i=true):siteA x i∈x.sites:=by
 unfold thB at h;obtain⟨h0,h1⟩:=wn_iff.1 h;unfold siteA;rw[List.getD_eq_getElem?_getD];obtain⟨s,hs⟩:=get_lt (l:=x.sites) (k:=i.toNat) (by omega);rw[hs];exact List.mem_of_getElem? hs
theorem upN_ge {x:St} (h:∀s∈x.sites,0<=s.men) {s:Sit} (hs:s∈x.sites):s.men<=upN x:=by
 have go:∀(q:List Sit) (a:Int),(∀s∈q,0<=s.men)->a<=q.foldl (fun a s=>a+s.men) a:=fun q=>by
  induction q with
  |nil=>intro a _;simp
  |cons t q ih=>
   intro a hq;have h1:=hq t (List.mem_cons_self ..);have h2:=ih (a+t.men) fun x hx=>hq x (List.mem_cons_of_mem _ hx);simp only[List.foldl_cons];omega
 have go2:∀(q:List Sit) (a:Int),0<=a->(∀s∈q,0<=s.men)->s∈q->s.men<=q.foldl (fun a s=>a+s.men) a:=fun q=>by
  induction q with
  |nil=>intro a _ _ hm;cases hm
  |cons t q ih=>
   intro a ha hq hm;have h1:=hq t (List.mem_cons_self ..);simp only[List.foldl_cons];rcases List.mem_cons.1 hm with rfl|hm
   ·have:=go q (a+s.men) fun x hx=>hq x (List.mem_cons_of_mem _ hx);omega
   ·exact ih (a+t.men) (by omega) (fun x hx=>hq x (List.mem_cons_of_mem _ hx)) hm
 exact go2 x.sites 0 (by omega) h hs
theorem few_len {c:Cl} {l:List Jt}:∀(k:Nat) (b:Int) (d:List Nat),fewF c l k b=some d->d.length<=k:=by
 intro k;induction k with
 |zero=>intro b d h;unfold fewF at h;cases h
 |succ k ih=>
  intro b d h;rw[fewF_step] at h;cases hb:bstN c l b with
  |none=>rw[hb] at h;cases h
  |some i=>
   rw[hb] at h;dsimp only at h;by_cases h1:ndA c l i=1
   ·rw[if_pos h1] at h;cases h;simp
   ·rw[if_neg h1] at h;cases h2:fewF c l k i with
    |none=>rw[h2] at h;cases h
    |some e=>
     rw[h2] at h;cases h;have:=ih _ _ h2;simp;omega
theorem fewL_len {c:Cl} {l:List Jt} (h:vJ l=true):(fewL c l).length<=300:=by
 have h2:l.length<=200:=by unfold vJ at h;exact of_decide_eq_true (Bool.and_eq_true_iff.1 h).2
 unfold fewL;split
 ·cases hf:fewN c l with
  |none=>simp
  |some d=>
   dsimp only;unfold toZ;rw[List.length_map];have:=few_len _ _ _ (show fewF c l (l.length+1) (-1)=some d from hf);omega
 ·simp
theorem hsh_lt (s:List UInt8):hsh s<18446744073709551616:=by
 unfold hsh;have go:∀(s:List UInt8) (a:Nat),a<18446744073709551616->s.foldl hshS a<18446744073709551616:=by
  intro s;induction s with
  |nil=>intro a h;exact h
  |cons c s ih=>intro a h;exact ih _ (by unfold hshS;omega)
 exact go s _ (by omega)
theorem nm_size {s:ByteArray} (h:G.nmB s=true):s.size<=16:=by
 unfold G.nmB at h;have:=(Bool.and_eq_true_iff.1 h).1;have:=(of_decide_eq_true (Bool.and_eq_true_iff.1 this).2);omega
theorem snd_parts {x:G.It} (h:G.sndI x=true):G.nmB x.nm=true∧G.nmB x.bt=true∧(1<=x.ld∧x.ld<=1000000)∧(0<=x.du∧x.du<=100000):=by
 unfold G.sndI at h;obtain⟨h,h4⟩:=Bool.and_eq_true_iff.1 h;obtain⟨h,h3⟩:=Bool.and_eq_true_iff.1 h;obtain⟨h1,h2⟩:=Bool.and_eq_true_iff.1 h;exact⟨h1,h2,wn_iff.1 h3,wn_iff.1 h4⟩
theorem snd_iw {x:G.It} (h:G.sndI x=true):G.IW x:=by
 obtain⟨h1,h2,h3,h4⟩:=snd_parts h;have:=nm_size h1;have:=nm_size h2;exact⟨by unfold maxLen;omega,by unfold maxLen;omega,by omega,by omega,by omega,by omega⟩
theorem vldG_snd {g:List G.It} (h:G.vldG g=true):∀x∈g,G.sndI x=true:=by
 intro x hx;obtain⟨i,hi⟩:=List.getElem?_of_mem hx;unfold G.vldG at h;have h1:=List.all_eq_true.1 (Bool.and_eq_true_iff.1 h).1 i (by simpa using(List.getElem?_eq_some_iff.1 hi).1);unfold G.okI at h1;rw[G.itAt_of hi] at h1;exact(Bool.and_eq_true_iff.1 h1).1
theorem idx_set {p:G.It->Bool}:∀(l:List G.It) (i k:Nat) (x:G.It),(∀y,l[i]?=some y->p x=p y)->idxOf p (l.set i x) k=idxOf p l k:=by
 intro l;induction l with
 |nil=>intro i k x _;rfl
 |cons y l ih=>
  intro i k x h;cases i with
  |zero=>
   rw[List.set_cons_zero];unfold idxOf;rw[h y rfl]
  |succ i=>
   rw[List.set_cons_succ];unfold idxOf;rw[ih i (k+1) x fun z hz=>h z hz]
theorem fnd_set (g:List G.It) (i:Nat) (d:Int) (s:ByteArray):G.fndI (G.setDu g i d) s=G.fndI g s:=by
 unfold G.fndI G.setDu;refine idx_set g i 0 _ fun y hy=>?_;rw[G.itAt_of hy]
theorem vld_set {g:List G.It} (h:G.vldG g=true) (i:Nat) {d:Int} (hd:wn d 0 100000=true):G.vldG (G.setDu g i d)=true:=by
 have hl:(G.setDu g i d).length=g.length:=by unfold G.setDu;rw[List.length_set]
 by_cases hi:i<g.length
 rotate_left
 ·have:G.setDu g i d=g:=by unfold G.setDu;rw[List.set_eq_of_length_le (by omega)]
  rw[this];exact h
 have hs:=vldG_snd h;unfold G.vldG at h ⊢;rw[hl];obtain⟨h1,h2⟩:=Bool.and_eq_true_iff.1 h;rw[Bool.and_eq_true_iff];refine⟨List.all_eq_true.2 fun j hj=>?_,h2⟩;have h3:=List.all_eq_true.1 h1 j hj;have hjl:j<g.length:=by simpa using hj
 obtain⟨y,hy⟩:=get_lt hjl;unfold G.okI at h3 ⊢;rw[fnd_set];rw[G.itAt_of hy] at h3;by_cases hij:i=j
 ·subst hij;have e:G.itAt (G.setDu g i d) i=⟨y.nm,y.ld,d,y.bt⟩:=by
   unfold G.setDu;rw[G.itAt_of hy];exact G.itAt_of (List.getElem?_set_self hjl)
  rw[e];have h4:=hs y (List.mem_of_getElem? hy);obtain⟨_,h6⟩:=Bool.and_eq_true_iff.1 h3;rw[Bool.and_eq_true_iff];refine⟨?_,h6⟩;unfold G.sndI at h4 ⊢;obtain⟨h7,_⟩:=Bool.and_eq_true_iff.1 h4;rw[Bool.and_eq_true_iff];exact⟨h7,hd⟩
 ·have e:G.itAt (G.setDu g i d) j=y:=by
   unfold G.setDu;exact G.itAt_of (by rw[List.getElem?_set_ne hij];exact hy)
  rw[e];exact h3
theorem vldR_parts {g:List G.It} {r:List G.Lk} (hg:G.vldG g=true) (h:G.vldR g r=true):(1<=r.length∧r.length<=32)∧∀k∈r,0<=G.fndI g k.nm∧k.nm.size<=16 ∧ -1<=k.fr∧k.fr<=32:=by
 unfold G.vldR at h;obtain⟨h1,h2⟩:=Bool.and_eq_true_iff.1 h;obtain⟨h3,h4⟩:=wn_iff.1 h2;refine⟨by omega,fun k hk=>?_⟩;obtain⟨i,hi⟩:=List.getElem?_of_mem hk;have hil:=(List.getElem?_eq_some_iff.1 hi).1;have h5:=List.all_eq_true.1 h1 i (by simpa using hil);unfold G.okL at h5;rw[G.lkAt_of hi] at h5;obtain⟨h5,_⟩:=Bool.and_eq_true_iff.1 h5;obtain⟨h5,h6⟩:=Bool.and_eq_true_iff.1 h5;have h7:0<=G.fndI g k.nm:=of_decide_eq_true h5;obtain⟨n,hn⟩:=Int.eq_ofNat_of_zero_le h7;obtain⟨y,hy,he⟩:=G.fnd_at hn;have h8:=nm_size (snd_parts (vldG_snd hg y (List.mem_of_getElem? hy))).1;have h9:k.nm.size=y.nm.size:=by
  have:=congrArg List.length he;rw[ByteArray.toList_eq,ByteArray.toList_eq] at this;simpa using this.symm
 refine⟨h7,by omega,?_⟩;unfold G.frB at h6;split at h6
 ·have:=beq_iff_eq.1 h6;omega
 ·obtain⟨a,b⟩:=wn_iff.1 h6;omega
theorem nT_len (n:Int) (h:I64 n):(nT n).length<=20:=by
 have:=itoa_len (n:=n) h.1 h.2;unfold nT;omega
theorem fnd_size {g:List G.It} {s:ByteArray} (hg:G.vldG g=true) (h:0<=G.fndI g s):s.size<=16:=by
 obtain⟨n,hn⟩:=Int.eq_ofNat_of_zero_le h;obtain⟨y,hy,he⟩:=G.fnd_at hn;have h8:=nm_size (snd_parts (vldG_snd hg y (List.mem_of_getElem? hy))).1;have h9:s.size=y.nm.size:=by
  have:=congrArg List.length he;rw[ByteArray.toList_eq,ByteArray.toList_eq] at this;simpa using this.symm
 omega
theorem Inv.setS {x:St} (h:Inv x) (i:Int) (s:Sit) (h1:0<=s.men∧s.men<=16) (h2:s.dogs.length<=300):Inv (setS x i s):=by
 have hm:∀t∈(x.sites.set i.toNat s),t∈x.sites∨t=s:=fun t ht=>List.mem_or_eq_of_mem_set ht;unfold Fi.setS
 exact {h with
  rs:=fun r hr=>by have:=h.rs r hr;rw[List.length_set];exact this
  sl:=by rw[List.length_set];exact h.sl
  sm:=fun t ht=>by rcases hm t ht with h3|rfl;exact h.sm t h3;exact h1
  sd:=fun t ht=>by rcases hm t ht with h3|rfl;exact h.sd t h3;exact h2}
theorem inv_deed {c:Cm} {x y:St} (hI:Inv x) (hc:CmOk c) (h:deed c x=.ok y):Inv y∧y.lines=x.lines∧(txt c).length<=5000:=by
 have hst:=(vSu_parts hI.su).1;cases c with
 |gust g=>
  unfold deed at h;dsimp only at h;split at h;cases h
  rename_i h1
  split at h;cases h
  rename_i h2
  split at h;cases h
  cases h;have h1:wn g (-1) 200=true:=by simpa using h1
  obtain⟨g0,g1⟩:=wn_iff.1 h1;have h2:x.gusts.length<2000:=by omega
  refine⟨{hI with gl:=by simp;omega,gb:=fun q hq=>?_},rfl,?_⟩
  ·rcases List.mem_append.1 hq with h3|h3
   ·exact hI.gb q h3
   ·rw[List.mem_singleton.1 h3];exact⟨g0,g1⟩
  ·have:=nT_len g hc;simp[txt,wsT];omega
 |day=>
  unfold deed at h;dsimp only at h;split at h;cases h
  rename_i h1
  cases h;have h1:(decide (upN x=0)&&decide (x.day<100000))=true:=by simpa using h1
  have h2:x.day<100000:=of_decide_eq_true (Bool.and_eq_true_iff.1 h1).2;have:=hI.d0;exact⟨{hI with d0:=(by dsimp only;omega),d1:=(by dsimp only;omega),gl:=(by simp),gb:=fun q hq=>by cases hq},rfl,by simp[txt]⟩
 |dog i=>
  unfold deed at h;dsimp only at h;split at h;cases h
  rename_i h1
  split at h;cases h
  split at h;cases h
  split at h;cases h
  cases h;have h1:thB x i=true:=by simpa using h1
  have hm:=siteA_mem h1;refine⟨hI.setS i _ (hI.sm (siteA x i) hm) ?_,rfl,?_⟩
  ·refine fewL_len ?_;unfold thB at h1;obtain⟨a,b⟩:=wn_iff.1 h1;have hj:=(vSu_parts hI.su).2.1;have hs:=hI.sl;obtain⟨z,hz⟩:=get_lt (l:=x.x.jnt) (k:=i.toNat) (by omega);have:jntA x i=z:=by unfold jntA;rw[List.getD_eq_getElem?_getD,hz];rfl
   rw[this];exact(vSu_parts hI.su).2.2.2.1 z (List.mem_of_getElem? hz)
  ·have:=nT_len i hc;simp[txt,wsT];omega
 |rig i l=>
  unfold deed at h;dsimp only at h;split at h;cases h
  rename_i h1
  split at h;cases h
  split at h;cases h
  rename_i h3
  split at h;cases h
  cases h;have h1:thB x i=true:=by simpa using h1
  have h3:((G.vldG x.items&&G.vldR x.items l)&&decide (x.rigs.length<50))=true:=by cases hb:((G.vldG x.items&&G.vldR x.items l)&&decide (x.rigs.length<50));exact absurd hb h3;rfl
  obtain⟨h3,h4⟩:=Bool.and_eq_true_iff.1 h3;obtain⟨h5,h6⟩:=Bool.and_eq_true_iff.1 h3;have h4:=of_decide_eq_true h4;obtain⟨⟨q0,q1⟩,q2⟩:=vldR_parts h5 h6;unfold thB at h1;obtain⟨a,b⟩:=wn_iff.1 h1;refine⟨{hI with rl:=by simp;omega,rs:=fun r hr=>?_,rk:=fun r hr=>?_},rfl,?_⟩
  ·rcases List.mem_append.1 hr with hr|hr
   ·exact hI.rs r hr
   ·rw[List.mem_singleton.1 hr];dsimp only;omega
  ·rcases List.mem_append.1 hr with hr|hr
   ·exact hI.rk r hr
   ·rw[List.mem_singleton.1 hr];dsimp only;exact⟨q1,fun k hk=>⟨hc.2.2 k hk,(q2 k hk).2.1⟩⟩
  ·have e1:=nT_len i hc.1;have go:∀q:List G.Lk,(∀k∈q,k.nm.size<=16 ∧ -1<=k.fr∧k.fr<=32)->(q.flatMap fun k=>32::(k.nm.data.toList++58::nT k.fr)).length<=40*q.length:=fun q=>by
    induction q with
    |nil=>intro _;simp
    |cons k q ih=>
     intro hq;have f1:=ih fun z hz=>hq z (List.mem_cons_of_mem _ hz);obtain⟨f2,f3,f4⟩:=hq k (List.mem_cons_self ..);have f5:=nT_len k.fr ⟨by omega,by omega⟩;have f6:k.nm.data.toList.length=k.nm.size:=by simp
     simp only[List.flatMap_cons,List.length_append,List.length_cons];omega
   have f:=go l fun k hk=>(q2 k hk).2;simp[txt,wsT] at f ⊢;omega
 |strike r=>
  unfold deed at h;dsimp only at h;split at h;cases h
  rename_i h1
  split at h;cases h
  cases h;have h1:rtB x r=true:=by simpa using h1
  refine⟨{hI with rl:=by rw[List.length_set];exact hI.rl,rs:=fun q hq=>?_,rk:=fun q hq=>?_},rfl,?_⟩
  ·rcases List.mem_or_eq_of_mem_set hq with h3|rfl
   ·exact hI.rs q h3
   ·unfold rtB at h1;obtain⟨a,b⟩:=wn_iff.1 h1;unfold rigA;rw[List.getD_eq_getElem?_getD];obtain⟨z,hz⟩:=get_lt (l:=x.rigs) (k:=r.toNat) (by omega);rw[hz];exact hI.rs z (List.mem_of_getElem? hz)
  ·rcases List.mem_or_eq_of_mem_set hq with h3|rfl
   ·exact hI.rk q h3
   ·exact⟨by simp,fun k hk=>by cases hk⟩
  ·have:=nT_len r hc;simp[txt,wsT];omega
 |up i m=>
  unfold deed at h;dsimp only at h;split at h;cases h
  rename_i h1
  split at h;cases h
  rename_i h2
  split at h;cases h
  rename_i h3
  split at h;cases h
  cases h;have h1:thB x i=true:=by simpa using h1
  have h2:wn m 2 16=true:=by simpa using h2
  have h3:(!(siteA x i).fel&&(decide (0<(siteA x i).dogs.length)&&decide (upN x+m<=x.x.men)))=true:=by simpa using h3
  obtain⟨m0,m1⟩:=wn_iff.1 h2;have h4:=of_decide_eq_true (Bool.and_eq_true_iff.1 (Bool.and_eq_true_iff.1 h3).2).2;have hm:=siteA_mem h1;have h5:=upN_ge (fun s hs=>(hI.sm s hs).1) hm;have h6:=(vSu_parts hI.su).2.2.2.2.2.2.2.2.2;have h7:=hI.sm _ hm;refine⟨hI.setS i _ ⟨by dsimp only;omega,by dsimp only;omega⟩ (hI.sd (siteA x i) hm),rfl,?_⟩;have e1:=nT_len i hc.1;have e2:=nT_len m hc.2;simp[txt,wsT];omega
 |down i m=>
  unfold deed at h;dsimp only at h;split at h;cases h
  rename_i h1
  split at h;cases h
  rename_i h2
  split at h;cases h
  rename_i h3
  cases h;have h1:thB x i=true:=by simpa using h1
  have h2:wn m 1 16=true:=by simpa using h2
  have h3:(decide (m<=(siteA x i).men) && !decide ((siteA x i).men-m=1))=true:=by simpa using h3
  obtain⟨m0,m1⟩:=wn_iff.1 h2;have h4:=of_decide_eq_true (Bool.and_eq_true_iff.1 h3).1;have hm:=siteA_mem h1;have h7:=hI.sm _ hm;refine⟨hI.setS i _ ⟨by dsimp only;omega,by dsimp only;omega⟩ (hI.sd (siteA x i) hm),rfl,?_⟩;have e1:=nT_len i hc.1;have e2:=nT_len m hc.2;simp[txt,wsT];omega
 |lift r l=>
  unfold deed at h;dsimp only at h;split at h;cases h
  rename_i h1
  split at h;cases h
  split at h;cases h
  split at h;cases h
  rename_i h4
  split at h;cases h
  cases h;refine⟨hI,rfl,?_⟩;have h1:rtB x r=true:=by simpa using h1
  have h4:G.wkE x.items (rigA x r).lk x.back x.day l=0:=by simpa using h4
  have h5:(rigA x r).lk.length<=32:=by
   unfold rtB at h1;obtain⟨a,b⟩:=wn_iff.1 h1;unfold rigA;rw[List.getD_eq_getElem?_getD];obtain⟨z,hz⟩:=get_lt (l:=x.rigs) (k:=r.toNat) (by omega);rw[hz];exact(hI.rk z (List.mem_of_getElem? hz)).1
  have h6:l.length<=32:=by
   unfold G.wkE at h4;split at h4
   ·split at h4
    ·split at h4
     ·rename_i h7
      have:=G.endN_len (rigA x r).lk (rigA x r).lk.length;omega
     ·cases h4
    ·cases h4
   ·cases h4
  have e1:=nT_len r hc.1;have e2:=wsT_len l hc.2.2;simp[txt,wsT] at e2 ⊢;omega
 |look m=>
  unfold deed at h;dsimp only at h;split at h;cases h
  rename_i h1
  cases h;have h1:G.lkE x.items m (min (x.day+180) 100000)=0:=by simpa using h1
  have hL:G.lkL x.items m (min (x.day+180) 100000)=G.setDu x.items (G.fndI x.items m).toNat (min (x.day+180) 100000):=by unfold G.lkL;rw[if_pos h1]
  have h2:wn (min (x.day+180) 100000) 0 100000=true∧0<=G.fndI x.items m:=by
   unfold G.lkE at h1;split at h1
   ·split at h1
    ·rename_i h3
     split at h1
     ·rename_i h4;exact⟨h3,h4⟩
     ·cases h1
    ·cases h1
   ·cases h1
  have h3:=vld_set hI.it (G.fndI x.items m).toNat h2.1;refine⟨{hI with it:=by dsimp only;rw[hL];exact h3,iw:=fun i hi=>?_},rfl,?_⟩
  ·dsimp only at hi;rw[hL] at hi;exact snd_iw (vldG_snd h3 i hi)
  ·have:=fnd_size hI.it h2.2;have e:m.data.toList.length=m.size:=by simp
   simp[txt] at e ⊢;omega
 |call b=>
  unfold deed at h;dsimp only at h;split at h;cases h
  rename_i h1
  split at h;cases h
  split at h;cases h
  rename_i h3
  cases h;have h1:G.nmB b=true:=by simpa using h1
  have h4:=nm_size h1;refine⟨{hI with bl:=by simp;omega,bs:=fun q hq=>?_},rfl,?_⟩
  ·rcases List.mem_append.1 hq with h5|h5
   ·exact hI.bs q h5
   ·rw[List.mem_singleton.1 h5];exact h4
  ·have e:b.data.toList.length=b.size:=by simp
   simp[txt] at e ⊢;omega
 |cut i=>
  unfold deed at h;dsimp only at h;split at h;cases h
  rename_i h1
  split at h;cases h
  split at h;cases h
  split at h;cases h
  split at h;cases h
  cases h;have h1:thB x i=true:=by simpa using h1
  have hm:=siteA_mem h1;refine⟨hI.setS i _ (hI.sm (siteA x i) hm) (by simp),rfl,?_⟩;have:=nT_len i hc;simp[txt,wsT];omega
 |bill i=>
  unfold deed at h;dsimp only at h;split at h;cases h
  split at h;cases h
  split at h;cases h
  split at h;cases h
  rename_i h4
  cases h;have h8:=pri_bd (h:=(S.heightR (stkA x i)).1) (vSu_parts hI.su).2.2.2.2.2.2.2.1;have:=hI.m0;refine⟨{hI with m0:=by dsimp only;omega,m1:=by dsimp only;omega},rfl,?_⟩;have:=nT_len i hc;simp[txt,wsT];omega
theorem Inv.line {x:St} (h:Inv x) (hl:x.lines.length<2000) {t:ByteArray} (ht:t.size<=100000):Inv {x with lines:=x.lines++[wrt x.lines x.day t]}:=
 {h with
  ll:=by simp;omega
  lt:=fun e he=>by
   rcases List.mem_append.1 he with h1|h1
   ·exact h.lt e h1
   ·rw[List.mem_singleton.1 h1];have:=h.d0;have:=h.d1;refine⟨ht,hsh_lt _,?_,?_,?_,?_⟩<;>(unfold wrt;dsimp only;omega)}
theorem inv_doC {c:Cm} {x:St} (hI:Inv x) (hc:CmOk c):Inv (doC c x).2:=by
 unfold doC;by_cases h1:¬x.lines.length<2000
 ·rw[if_pos h1];exact hI
 ·rw[if_neg h1];cases hd:deed c x with
  |error e=>exact hI
  |ok y=>
   dsimp only;obtain⟨h2,h3,h4⟩:=inv_deed hI hc hd;exact h2.line (by rw[h3];omega) (by rw[bts_size];omega)
theorem inv_new {x:Su} (h:vSu x=true):Inv (new x):=by
 have hp:=vSu_parts h;have hg:=hp.2.2.2.2.2.1;have hw:∀i∈x.gear,G.IW i:=fun i hi=>snd_iw (vldG_snd hg i hi);unfold new
 exact {su:=h,gw:=hw,d0:=(by dsimp only;omega),d1:=(by dsimp only;omega),gl:=(by simp),gb:=(fun g hg=>by cases hg),rl:=(by simp),rs:=(fun r hr=>by cases hr),rk:=(fun r hr=>by cases hr)
        sl:=(by simp),sm:=(fun s hs=>by obtain⟨_,_,rfl⟩:=List.mem_map.1 hs;dsimp only;omega),sd:=(fun s hs=>by obtain⟨_,_,rfl⟩:=List.mem_map.1 hs;simp)
        it:=hg,iw:=hw,bl:=(by simp),bs:=(fun b hb=>by cases hb),m0:=(by dsimp only;omega),m1:=(by dsimp only;omega),ll:=(by simp),lt:=(fun e he=>by cases he)}
end Go.Proofs.YtjkkfcghkeoedaaGreatDoor.Fi
namespace Go.Proofs.YtjkkfcghkeoedaaGreatDoor.Fi
open Go.RowKit Go.Lib Tx
theorem hsh_step {s:ByteArray} {k:Nat} (h:k<s.size):hsh (s.data.toList.take (k+1))=((hsh (s.data.toList.take k) ^^^ s[k].toNat)*1099511628211)%18446744073709551616:=by
 have h':k<s.data.toList.length:=by simpa using h
 have e:s.data.toList[k]=s[k]:=by simp[ByteArray.getElem_eq_getElem_data]
 unfold hsh;rw[List.take_add_one,List.getElem?_eq_getElem h',List.foldl_append,Option.toList_some,List.foldl_cons,List.foldl_nil,e];generalize List.foldl hshS 14695981039346656037 (List.take k s.data.toList)=H;unfold hshS;rfl
theorem f_hash (s:ByteArray) (w:World) (hs:s.size<=1000000000):
  Calls Tryz.prog 171 #[.string s] w fun e w'=>e=.returned (.int .u64 (hsh s.data.toList:Nat))∧w=w':=by
 have HK:=hid (fun k=>hsh_lt (s.data.toList.take k));have HST:=hid (fun k (h:k<s.size)=>hsh_step h);have HA:=hid (show hsh (s.data.toList.take s.size)=hsh s.data.toList by rw[List.take_of_length_le (by simp)]);go_enter Tryz.func171,Tryz.ntmps171
 go_wp2;go_loop [3,7] (fun h i=>∃k:Nat,k<=s.size∧i=.int .i64 k∧h=.int .u64 (hsh (s.data.toList.take k):Nat)) (fun _ i=>s.size-(RowKit.intOf i).toNat)
 case atStart=>exact⟨0,by omega,rfl,rfl⟩
 case round=>
  obtain⟨k,hk,rfl,rfl⟩:=hrel;have k0:=nn k;by_cases hlt:k<s.size
  ·have k1:(k:Int)<(s.size:Int):=by omega
   have HT:=hid (HST.out k hlt);have h64:=HK.out k;have hb:s[k].toNat<256:=UInt8.toNat_lt _;have hx:=u64_xor_nat (hsh (s.data.toList.take k)) s[k].toNat h64 (by omega);have hcv:IntKind.u64.wrap (s[k].toNat:Int)=(s[k].toNat:Int):=by rw[IntKind.wrap_u64];omega
   generalize hsh (s.data.toList.take k)=H at *;obtain⟨Z,hZ⟩:∃Z,Z=H ^^^ s[k].toNat:=⟨_,rfl⟩;have hm:IntKind.u64.wrap ((Z:Int)*1099511628211)=(((Z*1099511628211)%18446744073709551616:Nat):Int):=by rw[IntKind.wrap_u64];omega
   rw[←hZ] at hx;have HZ:=hid hZ;clear hZ;go_wp2;go_round
   case rel=>exact⟨k+1,by omega,by go_num,by rw[HT.out,←HZ.out];congr 1⟩
   case measure=>simp[RowKit.intOf];omega
  ·obtain rfl:k=s.size:=by omega
   rw[HA.out];go_wp2;go_ret;exact⟨rfl,rfl⟩
open Go.Sort in
set_option maxRecDepth 100000 in
theorem i_FormatUint (u:Nat) (hu:u<18446744073709551616) (w:World) (htab:TabP w):
  Calls Tryz.prog 167 #[.int .u64 (u:Nat),.int .i64 10] w fun e w'=>e=.returned (.string (bts (decDigits u)))∧Below w.heap.size w w':=by
 by_cases hs:u<100
 ·have hcv:IntKind.i64.wrap (u:Int)=(u:Int):=fits_wrap ⟨by omega,by omega⟩;go_enter Tryz.func167,Tryz.ntmps167
  go_wp2_with (go_at_call 191;refine(Tryz.internal_strconv_small u hs _).mono ?_;rintro e w' ⟨rfl,rfl⟩)
  go_ret;exact⟨rfl,below_refl _⟩
 ·have hu1:1<=u:=by omega
  have hnd20:Lib.nDigits u<=20:=by have:=Lib.numDigits_eq u hu1 hu;split at this<;>omega
  have hsl1:∀W,(Instr.sliceAt 277 (.pointer (some ⟨w.heap.size,0,none⟩)) none (some (.int .i64 ((Lib.nDigits u:Nat):Int))) none).run Tryz.prog W=.ok (.slice (some ⟨w.heap.size,0,none⟩) (Lib.nDigits u) 24) W:=fun W=>by
   rw[run_sliceAt_array_h W 277 ⟨w.heap.size,0,none⟩ (by kernel_rfl) .i64 ((Lib.nDigits u:Nat):Int) (by omega) (by rw[show Tryz.prog.arrayLen 277=24 by kernel_rfl];omega)];go_simp
  have hH0:=Lib.holds_zero0 w 277 (Lib.nDigits u) (by omega);have hfmt:=Tryz.internal_strconv_formatBase10 w.heap.size 0 24 u (Array.replicate (Lib.nDigits u) 0) (w.alloc (.cells Lib.zeros24 277)) hH0 (by rw[Array.size_replicate];exact Lib.lt_pow_nDigits u) hu (by rw[Array.size_replicate];omega);rw[Array.size_replicate] at hfmt;have HH0:=hid hH0;clear hH0;have hlt:decide ((u:Int)<100)=false:=decide_eq_false (by omega);go_enter Tryz.func167,Tryz.ntmps167
  go_wp2_with (first
   |(go_at_call 192;refine(Tryz.internal_strconv_numDigits u hu1 hu _ (Lib.tabIs_alloc htab _)).mono ?_;rintro e w' ⟨rfl,rfl⟩))
  go_at_call 193
  refine hfmt.mono ?_;rintro e w' ⟨rfl,k,v',dk,rfl,hF⟩;have hcv:(convert 54 9 (.slice (some ⟨w.heap.size,0,none⟩) (Lib.nDigits u) 24)).run Tryz.prog ((putRow (fun(b:UInt8)=>Value.int .u8 (b.toNat:Int)) (w.alloc (.cells Lib.zeros24 277)) w.heap.size 0 dk).drewN k)=.ok (.string ⟨(Lib.decDigits u).toArray⟩) ((putRow (fun(b:UInt8)=>Value.int .u8 (b.toNat:Int)) (w.alloc (.cells Lib.zeros24 277)) w.heap.size 0 dk).drewN k):=by
   have h:=run_convert_bytes_back (P:=Tryz.prog) ((putRow (fun(b:UInt8)=>Value.int .u8 (b.toNat:Int)) (w.alloc (.cells Lib.zeros24 277)) w.heap.size 0 dk).drewN k) 54 9 5 ⟨w.heap.size,0,none⟩ 24 (Lib.decDigits u) Tryz.underlying54 Tryz.underlying5 Tryz.underlying9 (fun j hj=>by
    rw[Lib.row_is_numeral hF j hj,Lib.add_plain,World.cell?_drewN];exact cell?_putRow (fun(b:UInt8)=>Value.int .u8 (b.toNat:Int)) _ w.heap.size 0 _ dk HH0.out (by rw[hF.size,Array.size_replicate]) j (by rw[hF.size];rw[Lib.decDigits_length] at hj;exact hj))
   rw[Lib.decDigits_length] at h;exact h
  go_wp2;go_ret;obtain⟨os,eo⟩:=Lib.fin_at w (.cells Lib.zeros24 277) dk k 0;exact⟨rfl,by rw[eo];exact Lib.below_grow _ _ (Nat.le_refl _) _ _⟩
theorem f_digits (u:Nat) (hu:u<18446744073709551616) (w:World) (hT:TabP w):
  Calls Tryz.prog 71 #[.int .u64 (u:Nat)] w fun e w'=>e=.returned (.string (bts (decDigits u)))∧Below w.heap.size w w':=by
 have H:=hid (i_FormatUint u hu w hT);have H2:Hid (Calls Tryz.prog 125 #[.int .u64 (u:Nat),.int .i64 10] w fun e w'=>e=.returned (.string (bts (decDigits u)))∧Below w.heap.size w w'):=hid (by
  go_enter Tryz.func125,Tryz.ntmps125
  go_wp2_with (go_at_call 167;((with_reducible refine H.out.mono ?_);rintro e w' ⟨rfl,hb⟩))
  go_ret;exact⟨rfl,hb⟩)
 go_enter Tryz.func71,Tryz.ntmps71
 go_wp2_with (go_at_call 125;((with_reducible refine H2.out.mono ?_);rintro e w' ⟨rfl,hb⟩))
 go_ret;exact⟨rfl,hb⟩
def sumS (b:Nat) (n d:Int) (t:ByteArray):ByteArray:=bts (decDigits b)++⟨#[32]⟩++bts (itoa n)++⟨#[32]⟩++bts (itoa d)++⟨#[32]⟩++t
theorem sumS_list (b:Nat) (n d:Int) (t:ByteArray):(sumS b n d t).data.toList=decDigits b++32::(nT n++32::(nT d++32::t.data.toList)):=by
 unfold sumS nT bts;simp[ByteArray.data_append]
theorem dig_size {b:Nat} (h:b<18446744073709551616):(bts (decDigits b)).size<=20:=by
 have e:(10:Nat)^(19+1)=100000000000000000000:=rfl;have:=decD_le (u:=b) (k:=19) (by omega);rw[bts_size];omega
theorem f_sumOf (b:Nat) (n d:Int) (t:ByteArray) (s:Int) (w:World) (hb:b<18446744073709551616) (hn:I64 n) (hd:I64 d) (ht:t.size<=1000000) (hL:LdW w):
  Calls Tryz.prog 129 #[.int .u64 (b:Nat),.agg #[.int .i64 n,.int .i64 d,.string t,.int .u64 s]] w fun e w'=>e=.returned (.int .u64 (sumL b n d t.data.toList:Nat))∧Below w.heap.size w w':=by
 have HD:=hid (fun W (h:Below w.heap.size w W)=>f_digits b hb W (hL.on h).tab);have HI1:=hid (fun W (h:Below w.heap.size w W)=>c_ItoaV n W hn.1 hn.2 (hL.on h).tab);have HI2:=hid (fun W (h:Below w.heap.size w W)=>c_ItoaV d W hd.1 hd.2 (hL.on h).tab);have s1:=dig_size hb;have s2:(bts (itoa n)).size<=21:=by have:=itoa_len hn.1 hn.2;rw[bts_size];omega
 have s3:(bts (itoa d)).size<=21:=by have:=itoa_len hd.1 hd.2;rw[bts_size];omega
 have hsz:(sumS b n d t).size<=1000000000:=by unfold sumS;simp only[ByteArray.size_append];show _+1+_+1+_+1+_<=_;omega
 have HH:=hid (fun W=>(show Calls Tryz.prog 171 #[.string (sumS b n d t)] W fun e w'=>e=.returned (.int .u64 (sumL b n d t.data.toList:Nat))∧W=w' by
  have:=f_hash (sumS b n d t) W hsz;rw[sumS_list] at this;exact this))
 have HSS:=hid (show sumS b n d t=bts (decDigits b)++⟨#[32]⟩++bts (itoa n)++⟨#[32]⟩++bts (itoa d)++⟨#[32]⟩++t from rfl);rw[HSS.out] at HH;clear HSS hsz;have x0:=Blk.new w 62 #[.int .i64 n,.int .i64 d,.string t,.int .u64 s];have B0:=bl_alloc (below_refl w) (.cells #[.int .i64 n,.int .i64 d,.string t,.int .u64 s] 62);have q0:=x0.cell 0;have q1:=x0.cell 1;have q2:=x0.cell 2;simp only[GA] at q0 q1 q2;have lw:=x0.lt;generalize sumL b n d t.data.toList=R at *;generalize bts (itoa n)=S1 at *;generalize bts (itoa d)=S2 at *;generalize bts (decDigits b)=D at *;have z1:¬9223372036854775807<D.size+1:=by omega
 have z2:¬9223372036854775807<D.size+1+S1.size:=by omega
 have z3:¬9223372036854775807<D.size+1+S1.size+1:=by omega
 have z4:¬9223372036854775807<D.size+1+S1.size+1+S2.size:=by omega
 have z5:¬9223372036854775807<D.size+1+S1.size+1+S2.size+1:=by omega
 have z6:¬9223372036854775807<D.size+1+S1.size+1+S2.size+1+t.size:=by omega
 clear x0;go_enter Tryz.func129,Tryz.ntmps129
 go_upto_region 1 with fail
 generalize (w.alloc (.cells #[.int .i64 n,.int .i64 d,.string t,.int .u64 s] 62))=w1 at *;refine wp_region_noPanic ?_;refine th w1 fun hS0=>?_;refine tq 0 ?_;refine tq 3 ?_;refine tq 4 ?_;refine tq 8 ?_;refine tq 9 ?_;refine tq 13 ?_;refine tq 14 ?_;refine tr 1 fun K hK=>?_;go_simp
 (go_at_call 71;((with_reducible refine(HD.out _ (below_tr B0 bl)).mono ?_);rintro e w3 ⟨rfl,hb3⟩;obtain⟨hc3,hf3,hz3⟩:=qz hb3))
 refine hK.out _ _ kq (fun hS1=>?_);clear hK K;try simp only[AP]
 refine tq 2 ?_;refine tr 5 fun K hK=>?_;go_simp
 (go_at_call 70;((with_reducible refine(HI1.out _ (below_tr B0 bl)).mono ?_);rintro e w4 ⟨rfl,hb4⟩;obtain⟨hc4,hf4,hz4⟩:=qz hb4))
 refine hK.out _ _ kq (fun hS2=>?_);clear hK K;try simp only[AP]
 refine tq 6 ?_;refine tq 7 ?_;refine tr 10 fun K hK=>?_;go_simp
 (go_at_call 70;((with_reducible refine(HI2.out _ (below_tr B0 bl)).mono ?_);rintro e w5 ⟨rfl,hb5⟩;obtain⟨hc5,hf5,hz5⟩:=qz hb5))
 refine hK.out _ _ kq (fun hS3=>?_);clear hK K;try simp only[AP]
 refine tq 11 ?_;refine tq 12 ?_;refine tq 15 ?_;refine tr 16 fun K hK=>?_;go_simp
 (go_at_call 171;((with_reducible refine(HH.out _).mono ?_);rintro e w' ⟨rfl,rfl⟩))
 refine hK.out _ _ kq (fun hS4=>?_);clear hK K;try simp only[AP]
 refine tq 17 ?_;refine wpAnyH_done (by kernel_rfl) (NoPanic.normal ?_) _;go_wp2;go_ret;exact⟨rfl,below_tr B0 bl⟩
theorem rdEn {w:World} {A:Option Addr} {l:List En} (h:Rd En.cs 4 w A l) {k:Nat} (hk:k<l.length):
  ∃x b off,l[k]?=some x∧A=some ⟨b,off,none⟩∧b<w.heap.size∧w.cell? ⟨b,off+k*4,none⟩=some (.int .i64 x.n)∧w.cell? ⟨b,off+k*4+1,none⟩=some (.int .i64 x.d)∧w.cell? ⟨b,off+k*4+2,none⟩=some (.string x.t)∧w.cell? ⟨b,off+k*4+3,none⟩=some (.int .u64 (x.s:Nat)):=by
 obtain⟨x,hx⟩:=get_lt hk;obtain⟨b,off,e,hb,hc⟩:=h.get hx;exact⟨x,b,off,hx,e,hb,hc 0 _ rfl,hc 1 _ rfl,hc 2 _ rfl,hc 3 _ rfl⟩
theorem load_en {W:World} {b:Nat} {x y z u:Value} (h:Blk W b 62 #[x,y,z,u]):(loadVar 62 ⟨b,0,none⟩).run Tryz.prog W=.ok (.agg #[x,y,z,u]) W:=by
 have h0:=h.cell 0;have h1:=h.cell 1;have h2:=h.cell 2;have h3:=h.cell 3;simp only[GA] at h0 h1 h2 h3;simp[go_sem,h0,h1,h2,h3]
abbrev enV (e:En):Value:=.agg #[.int .i64 e.n,.int .i64 e.d,.string e.t,.int .u64 (e.s:Nat)]
theorem f_written (A:Option Addr) (l:List En) (c:Nat) (d:Int) (t:ByteArray) (w:World) (hl:l.length<=2000) (hs:∀e∈l,e.s<18446744073709551616) (hd:I64 d) (ht:t.size<=1000000) (hL:LdW w) (hR:Rd En.cs 4 w A l):
  Calls Tryz.prog 134 #[.slice A l.length c,.int .i64 d,.string t] w fun e w'=>e=.returned (enV (wrt l d t))∧Below w.heap.size w w':=by
 have HSU:=hid (fun(b:Nat) (hb:b<18446744073709551616) W (h:Below w.heap.size w W)=>f_sumOf b (l.length:Int) d t 0 W hb ⟨by omega,by omega⟩ hd ht (hL.on h));by_cases h0:0<l.length
 ·obtain⟨m,hm⟩:∃m,l.length=m+1:=⟨l.length-1,by omega⟩;obtain⟨x,b,off,hx,rfl,hb,_,_,_,c3⟩:=rdEn hR (k:=m) (by omega);have hls:lastS l=x.s:=by unfold lastS;rw[List.getLast?_eq_getElem?,hm,Nat.add_sub_cancel,hx]
  have HS:=hid (HSU.out x.s (hs x (List.mem_of_getElem? hx)));have HW:=hid (show wrt l d t=⟨l.length,d,t,sumL x.s l.length d t.data.toList⟩ by unfold wrt;rw[hls]);have hwm:IntKind.i64.wrap ((l.length:Int)-1)=(m:Int):=by rw[fits_wrap ⟨by omega,by omega⟩];omega
  have m0:=nn m;have m1:(m:Int)<(l.length:Int):=by omega
  have d1:decide (0<(l.length:Int))=true:=decide_eq_true (by omega);have d2:decide (0<l.length)=true:=decide_eq_true h0;rw[HW.out];clear hx hm h0 hls HSU hR hs;generalize l.length=N at *;generalize sumL x.s N d t.data.toList=R at *;have x0:=(Blk.new w 62 #[.int .i64 0,.int .i64 0,.string ⟨#[]⟩,.int .u64 0]).alloc (.cells #[.int .i64 (N:Int),.int .i64 d,.string t,.int .u64 0] 62);have x1:=Blk.new (w.alloc (.cells #[.int .i64 0,.int .i64 0,.string ⟨#[]⟩,.int .u64 0] 62)) 62 #[.int .i64 (N:Int),.int .i64 d,.string t,.int .u64 0];rw[World.size_alloc] at x1;have B1:=bl_alloc (bl_alloc (below_refl w) (.cells #[.int .i64 0,.int .i64 0,.string ⟨#[]⟩,.int .u64 0] 62)) (.cells #[.int .i64 (N:Int),.int .i64 d,.string t,.int .u64 0] 62);go_enter Tryz.func134,Tryz.ntmps134
  go_upto_region 5 with fail
  generalize ((w.alloc (.cells #[.int .i64 0,.int .i64 0,.string ⟨#[]⟩,.int .u64 0] 62)).alloc (.cells #[.int .i64 (N:Int),.int .i64 d,.string t,.int .u64 0] 62))=w1 at *;have l0:=x0.lt;have l1:=x1.lt;have e0:=x1.cell 0;have e1:=x1.cell 1;have e2:=x1.cell 2;have e3:=x1.cell 3;have f0:=x0.cell 0;have f1:=x0.cell 1;have f2:=x0.cell 2;have f3:=x0.cell 3;simp only[GA] at e0 e1 e2 e3 f0 f1 f2 f3;have af0:=x0.frozen 0;have af1:=x0.frozen 1;have af2:=x0.frozen 2;have af3:=x0.frozen 3;have ag3:=x1.frozen 3;go_wp2_with (go_at_call 129;((with_reducible refine(HS.out _ B1).mono ?_);rintro e w3 ⟨rfl,hb3⟩;obtain⟨hc3,hf3⟩:=bcell hb3;have hz3:=hb3.size))
  have HB:=(((((x0.below hb3 l0).far (p:=⟨w.heap.size+1,3,none⟩) (fun e=>by have e':w.heap.size=w.heap.size+1:=e;omega) (.int .u64 (R:Nat))).set_ 0 (.int .i64 (N:Int))).set_ 1 (.int .i64 d)).set_ 2 (.string t)).set_ 3 (.int .u64 (R:Nat));clear hc3 hf3;refine bodyPost_ret (v:=enV ⟨N,d,t,R⟩) (res_c rfl rfl (load_en HB)) rfl ⟨rfl,?_⟩;(repeat'(first|assumption|exact below_refl _|refine bl_alloc ?_ _|refine Below.setCell ?_ ?_ _|refine below_draw ?_|refine below_drewN ?_ _|refine below_tr ?_ (by assumption)))<;>(first|omega|(simp;done)|(simp;omega))
 ·have hl0:l=[]:=List.eq_nil_of_length_eq_zero (by omega);subst hl0;have HS:=hid (fun W (h:Below w.heap.size w W)=>(show Calls Tryz.prog 129 #[.int .u64 0,.agg #[.int .i64 0,.int .i64 d,.string t,.int .u64 0]] W fun e w'=>e=.returned (.int .u64 (sumL 0 0 d t.data.toList:Nat))∧Below W.heap.size W w' from HSU.out 0 (by omega) W h));have HW:=hid (show wrt [] d t=⟨0,d,t,sumL 0 0 d t.data.toList⟩ from rfl);rw[HW.out];clear HW HSU hR hs hl;generalize sumL 0 0 d t.data.toList=R at *;have x0:=(Blk.new w 62 #[.int .i64 0,.int .i64 0,.string ⟨#[]⟩,.int .u64 0]).alloc (.cells #[.int .i64 0,.int .i64 d,.string t,.int .u64 0] 62);have x1:=Blk.new (w.alloc (.cells #[.int .i64 0,.int .i64 0,.string ⟨#[]⟩,.int .u64 0] 62)) 62 #[.int .i64 0,.int .i64 d,.string t,.int .u64 0];rw[World.size_alloc] at x1;have B1:=bl_alloc (bl_alloc (below_refl w) (.cells #[.int .i64 0,.int .i64 0,.string ⟨#[]⟩,.int .u64 0] 62)) (.cells #[.int .i64 0,.int .i64 d,.string t,.int .u64 0] 62);go_enter Tryz.func134,Tryz.ntmps134
  go_upto_region 5 with fail
  generalize ((w.alloc (.cells #[.int .i64 0,.int .i64 0,.string ⟨#[]⟩,.int .u64 0] 62)).alloc (.cells #[.int .i64 0,.int .i64 d,.string t,.int .u64 0] 62))=w1 at *;have l0:=x0.lt;have l1:=x1.lt;have e0:=x1.cell 0;have e1:=x1.cell 1;have e2:=x1.cell 2;have e3:=x1.cell 3;have f0:=x0.cell 0;have f1:=x0.cell 1;have f2:=x0.cell 2;have f3:=x0.cell 3;simp only[GA] at e0 e1 e2 e3 f0 f1 f2 f3;have af0:=x0.frozen 0;have af1:=x0.frozen 1;have af2:=x0.frozen 2;have af3:=x0.frozen 3;have ag3:=x1.frozen 3;go_wp2_with (go_at_call 129;((with_reducible refine(HS.out _ B1).mono ?_);rintro e w3 ⟨rfl,hb3⟩;obtain⟨hc3,hf3⟩:=bcell hb3;have hz3:=hb3.size))
  have HB:=(((((x0.below hb3 l0).far (p:=⟨w.heap.size+1,3,none⟩) (fun e=>by have e':w.heap.size=w.heap.size+1:=e;omega) (.int .u64 (R:Nat))).set_ 0 (.int .i64 0)).set_ 1 (.int .i64 d)).set_ 2 (.string t)).set_ 3 (.int .u64 (R:Nat));clear hc3 hf3;refine bodyPost_ret (v:=enV ⟨0,d,t,R⟩) (res_c rfl rfl (load_en HB)) rfl ⟨rfl,?_⟩;(repeat'(first|assumption|exact below_refl _|refine bl_alloc ?_ _|refine Below.setCell ?_ ?_ _|refine below_draw ?_|refine below_drewN ?_ _|refine below_tr ?_ (by assumption)))<;>(first|omega|(simp;done)|(simp;omega))
end Go.Proofs.YtjkkfcghkeoedaaGreatDoor.Fi
