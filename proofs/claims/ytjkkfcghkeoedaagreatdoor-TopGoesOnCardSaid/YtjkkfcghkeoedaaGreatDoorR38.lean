/- The parts of the proof, part 38. -/
import Derived.Test.YtjkkfcghkeoedaaGreatDoorR0
import Derived.Test.YtjkkfcghkeoedaaGreatDoorR37
set_option maxHeartbeats 16000000
set_option maxRecDepth 20000
set_option linter.unusedSimpArgs false
set_option linter.unusedVariables false
namespace Go.Proofs.YtjkkfcghkeoedaaGreatDoor.Fi
open Go.RowKit Go.Lib Tx
theorem bts_eta (s:ByteArray):bts s.data.toList=s:=by
 obtain⟨⟨l⟩⟩:=s;rfl
theorem dsz (s:ByteArray):s.data.toList.length=s.size:=by rw[Array.length_toList];rfl
theorem nm_free {s:ByteArray} (h:G.nmB s=true) {b:UInt8} (hb:b=32∨b=58∨b=10):b∉s.data.toList:=by
 intro hm;obtain⟨k,hk,he⟩:=List.getElem_of_mem hm;unfold G.nmB at h;have h1:=List.all_eq_true.1 (Bool.and_eq_true_iff.1 h).2 k (List.mem_range.2 (by rw[←dsz];exact hk));unfold G.chB G.chAt at h1;rw[List.getD_eq_getElem?_getD,List.getElem?_eq_getElem hk,Option.getD_some,he] at h1;rcases hb with rfl|rfl|rfl<;>simp at h1
theorem nm_ne {s:ByteArray} (h:G.nmB s=true):s.data.toList≠[]:=by
 unfold G.nmB at h;have h1:=(G.wn_iff.1 (Bool.and_eq_true_iff.1 h).1).1;intro e;have:=dsz s;rw[e] at this;simp at this;omega
theorem nT_no {n:Int} {b:UInt8} (hb:b=32∨b=58∨b=10):b∉nT n:=by
 rcases hb with rfl|rfl|rfl
 all_goals exact itoa_no (by decide) (by decide)
theorem cut_ws:∀(l:List Int) {w:List UInt8},32∉w->cutZ 32 (w++wsT l)=w::l.map nT
 |[],w,hw=>by
  rw[show w++wsT []=w by simp[wsT]];exact cut_last hw
 |n::l,w,hw=>by
  rw[show w++wsT (n::l)=w++32::(nT n++wsT l) by simp[wsT],cut_piece hw,cut_ws l (nT_no (.inl rfl))];rfl
def B15 (n:Int):Prop:=-1000000000000000<=n∧n<=1000000000000000
theorem nms_back {l:List Int} (h:∀n∈l,B15 n):nmsO (l.map nT)=some l:=by
 rw[nms_is,if_pos,List.map_map]
 ·congr 1;conv=>rhs;rw[←List.map_id l]
  exact List.map_congr_left fun n hn=>(T6.num_of (h n hn).1 (h n hn).2).2
 ·rw[List.all_eq_true];intro p hp;obtain⟨n,hn,rfl⟩:=List.mem_map.1 hp;exact(T6.num_of (h n hn).1 (h n hn).2).1
theorem no_nil {w:List UInt8} (hw:w≠[]) (l:List Int):[]∉w::l.map nT:=by
 intro h;rcases List.mem_cons.1 h with h|h
 ·exact hw h.symm
 ·obtain⟨n,_,he⟩:=List.mem_map.1 h;exact itoa_ne n he
theorem cmd_ws {w:List UInt8} {l:List Int} (hw:32∉w) (hw0:w≠[]) (hl:∀n∈l,B15 n) (h1:w≠[114,105,103]) (h2:w≠[108,111,111,107]) (h3:w≠[99,97,108,108]):cmdO (w++wsT l) =
  (if w=[108,105,102,116]∧1<l.length then some (.lift (l.getD 0 0) (l.drop 1))
   else if w=[100,97,121]∧l.length=0 then some .day
   else if l.length=1 then sngO w (l.getD 0 0)
   else if w=[117,112]∧l.length=2 then some (.up (l.getD 0 0) (l.getD 1 0))
   else if w=[100,111,119,110]∧l.length=2 then some (.down (l.getD 0 0) (l.getD 1 0))
   else none):=by
 rw[cmd_is (cut_ws l hw) (no_nil hw0 l),if_neg (fun h=>h1 h.1),if_neg (fun h=>h2 h.1),if_neg (fun h=>h3 h.1),nms_back hl]
def lkT (k:G.Lk):List UInt8:=k.nm.data.toList++58::nT k.fr
theorem lkT_no {k:G.Lk} (h:G.nmB k.nm=true) {b:UInt8} (hb:b=32∨b=10):b∉lkT k:=by
 unfold lkT;intro hm;rcases List.mem_append.1 hm with hm|hm
 ·exact nm_free h (by rcases hb with h|h;exact .inl h;exact .inr (.inr h)) hm
 ·rcases List.mem_cons.1 hm with hm|hm
  ·rcases hb with rfl|rfl<;>cases hm
  ·exact nT_no (by rcases hb with h|h;exact .inl h;exact .inr (.inr h)) hm
theorem cut_lks:∀(l:List G.Lk) {w:List UInt8},32∉w->(∀k∈l,G.nmB k.nm=true)->cutZ 32 (w++l.flatMap fun k=>32::(k.nm.data.toList++58::nT k.fr))=w::l.map lkT
 |[],w,hw,_=>by
  rw[List.flatMap_nil,List.append_nil];exact cut_last hw
 |k::l,w,hw,h=>by
  rw[List.flatMap_cons,List.cons_append,cut_piece hw];show w::cutZ 32 (lkT k++_)=_;rw[cut_lks l (lkT_no (h k (List.mem_cons_self ..)) (.inl rfl)) fun q hq=>h q (List.mem_cons_of_mem _ hq)];rfl
theorem lks_back {l:List G.Lk} (h:∀k∈l,G.nmB k.nm=true∧B15 k.fr):lksO (l.map lkT)=some l:=by
 have hc:∀k∈l,Lib.cut (lkT k) [58]=(k.nm.data.toList,nT k.fr,true):=fun k hk=>cutL_at _ (nm_free (h k hk).1 (.inr (.inl rfl)));rw[lks_is,if_pos,List.map_map]
 ·congr 1;conv=>rhs;rw[←List.map_id l]
  refine List.map_congr_left fun k hk=>?_;show lkZ (lkT k)=k;unfold lkZ;rw[hc k hk];dsimp only;rw[bts_eta,show T6.numV (nT k.fr)=k.fr from(T6.num_of (h k hk).2.1 (h k hk).2.2).2]
 ·rw[List.all_eq_true];intro p hp;obtain⟨k,hk,rfl⟩:=List.mem_map.1 hp;unfold lkB;rw[hc k hk];dsimp only;rw[show T6.numB (nT k.fr)=true from(T6.num_of (h k hk).2.1 (h k hk).2.2).1,decide_eq_true (nm_ne (h k hk).1)];rfl
theorem fnd_nm {g:List G.It} {m:ByteArray} (hg:G.vldG g=true) (h:0<=G.fndI g m):G.nmB m=true:=by
 obtain⟨n,hn⟩:=Int.eq_ofNat_of_zero_le h;obtain⟨x,hx,he⟩:=G.fnd_at hn;have h1:=(snd_parts (vldG_snd hg x (List.mem_of_getElem? hx))).1;have h2:x.nm=m:=by
  rw[ByteArray.toList_eq,ByteArray.toList_eq] at he;rw[←bts_eta x.nm,he,bts_eta]
 rwa [h2] at h1
theorem vld_nm {g:List G.It} {l:List G.Lk} (hg:G.vldG g=true) (h:G.vldR g l=true):1<=l.length∧∀k∈l,G.nmB k.nm=true ∧ -1<=k.fr∧k.fr<=32:=by
 unfold G.vldR at h;obtain⟨h1,h2⟩:=Bool.and_eq_true_iff.1 h;have h2:=G.wn_iff.1 h2;refine⟨by omega,fun k hk=>?_⟩;obtain⟨i,hi,rfl⟩:=List.getElem_of_mem hk;have h3:=List.all_eq_true.1 h1 i (List.mem_range.2 hi);unfold G.okL at h3;rw[mk_get (List.getElem?_eq_getElem hi)] at h3;simp only[Bool.and_eq_true,decide_eq_true_eq] at h3;refine⟨fnd_nm hg h3.1.1,?_⟩;have h4:=h3.1.2;unfold G.frB at h4;split at h4
 ·have:(l[i]).fr=-1:=by simpa using h4
  omega
 ·have:=G.wn_iff.1 h4;omega
theorem end_last {g:List G.It} {r:List G.Lk} (h:G.vldR g r=true):1<=(G.endN r r.length).length:=by
 unfold G.vldR at h;obtain⟨h1,h2⟩:=Bool.and_eq_true_iff.1 h;have h2:=G.wn_iff.1 h2;have hm:r.length-1∈G.endN r r.length:=by
  unfold G.endN;rw[List.mem_filter];refine⟨List.mem_range.2 (by omega),?_⟩;unfold G.isE;rw[Bool.not_eq_true',List.any_eq_false];intro k hk;obtain⟨i,hi,rfl⟩:=List.getElem_of_mem hk;have h3:=List.all_eq_true.1 h1 i (List.mem_range.2 hi);unfold G.okL at h3;rw[mk_get (List.getElem?_eq_getElem hi)] at h3;simp only[Bool.and_eq_true,decide_eq_true_eq] at h3;have h4:=h3.1.2;unfold G.frB at h4;split at h4
  ·have:(r[i]).fr=-1:=by simpa using h4
   rw[this];first|(simp;done)|(simp;omega)
  ·have:=G.wn_iff.1 h4;first|(simp;done)|(simp;omega)
 exact List.length_pos_of_mem hm
theorem txt_cmd {c:Cm} {x y:St} (hI:Inv x) (h:deed c x=.ok y):cmdO (txt c)=some c:=by
 have hst:=(vSu_parts hI.su).1;have hsl:=hI.sl;have hth:∀i,thB x i=true->B15 i:=fun i hi=>by
  unfold thB at hi;have:=wn_iff.1 hi;unfold B15;omega
 have hrt:∀i,rtB x i=true->B15 i:=fun i hi=>by
  unfold rtB at hi;have:=wn_iff.1 hi;have:=hI.rl;unfold B15;omega
 cases c with
 |gust g=>
  unfold deed at h;dsimp only at h;split at h;cases h
  rename_i h1
  have h1:wn g (-1) 200=true:=by simpa using h1
  have h2:=wn_iff.1 h1;rw[show txt (.gust g)=[103,117,115,116]++wsT [g] from rfl,cmd_ws (by decide) (by decide) (fun n hn=>by rw[List.mem_singleton.1 hn];unfold B15;omega) (by decide) (by decide) (by decide)];simp[sngO]
 |day=>
  rw[show txt .day=[100,97,121]++wsT [] from rfl,cmd_ws (by decide) (by decide) (fun n hn=>by cases hn) (by decide) (by decide) (by decide)];simp
 |dog i=>
  unfold deed at h;dsimp only at h;split at h;cases h
  rename_i h1
  have h1:thB x i=true:=by simpa using h1
  rw[show txt (.dog i)=[100,111,103]++wsT [i] from rfl,cmd_ws (by decide) (by decide) (fun n hn=>by rw[List.mem_singleton.1 hn];exact hth i h1) (by decide) (by decide) (by decide)];simp[sngO]
 |rig i l=>
  unfold deed at h;dsimp only at h;split at h;cases h
  rename_i h1
  split at h;cases h
  split at h;cases h
  rename_i h3
  have h1:thB x i=true:=by simpa using h1
  have h3:((G.vldG x.items&&G.vldR x.items l)&&decide (x.rigs.length<50))=true:=eq_true_of_ne_false h3;obtain⟨q0,q⟩:=vld_nm hI.it (Bool.and_eq_true_iff.1 (Bool.and_eq_true_iff.1 h3).1).2;have hc:cutZ 32 (txt (.rig i l))=[114,105,103]::nT i::l.map lkT:=by
   rw[show txt (.rig i l)=[114,105,103]++32::(nT i++l.flatMap fun k=>32::(k.nm.data.toList++58::nT k.fr)) by simp[txt,wsT],cut_piece (by decide),cut_lks l (nT_no (.inl rfl)) fun k hk=>(q k hk).1]
  have hn:[]∉[114,105,103]::nT i::l.map lkT:=by
   intro hm;rcases List.mem_cons.1 hm with hm|hm
   ·cases hm
   rcases List.mem_cons.1 hm with hm|hm
   ·exact itoa_ne i hm.symm
   ·obtain⟨k,hk,he⟩:=List.mem_map.1 hm;unfold lkT at he;simp at he
  rw[cmd_is hc hn,if_pos ⟨rfl,by simp;omega⟩];rw[show(nT i::l.map lkT).take 1=[i].map nT from rfl,show(nT i::l.map lkT).drop 1=l.map lkT from rfl,nms_back (fun n hn=>by rw[List.mem_singleton.1 hn];exact hth i h1),lks_back fun k hk=>⟨(q k hk).1,by have:=(q k hk).2;unfold B15;omega⟩]
 |strike r=>
  unfold deed at h;dsimp only at h;split at h;cases h
  rename_i h1
  have h1:rtB x r=true:=by simpa using h1
  rw[show txt (.strike r)=[115,116,114,105,107,101]++wsT [r] from rfl,cmd_ws (by decide) (by decide) (fun n hn=>by rw[List.mem_singleton.1 hn];exact hrt r h1) (by decide) (by decide) (by decide)];simp[sngO]
 |up i m=>
  unfold deed at h;dsimp only at h;split at h;cases h
  rename_i h1
  split at h;cases h
  rename_i h2
  have h1:thB x i=true:=by simpa using h1
  have h2:wn m 2 16=true:=by simpa using h2
  have h2:=wn_iff.1 h2;rw[show txt (.up i m)=[117,112]++wsT [i,m] from rfl,cmd_ws (by decide) (by decide) (fun n hn=>by
   rcases List.mem_cons.1 hn with rfl|hn
   ·exact hth _ h1
   ·rw[List.mem_singleton.1 hn];unfold B15;omega) (by decide) (by decide) (by decide)]
  simp
 |down i m=>
  unfold deed at h;dsimp only at h;split at h;cases h
  rename_i h1
  split at h;cases h
  rename_i h2
  have h1:thB x i=true:=by simpa using h1
  have h2:wn m 1 16=true:=by simpa using h2
  have h2:=wn_iff.1 h2;rw[show txt (.down i m)=[100,111,119,110]++wsT [i,m] from rfl,cmd_ws (by decide) (by decide) (fun n hn=>by
   rcases List.mem_cons.1 hn with rfl|hn
   ·exact hth _ h1
   ·rw[List.mem_singleton.1 hn];unfold B15;omega) (by decide) (by decide) (by decide)]
  simp
 |lift r l=>
  unfold deed at h;dsimp only at h;split at h;cases h
  rename_i h1
  split at h;cases h
  split at h;cases h
  split at h;cases h
  rename_i h4
  have h1:rtB x r=true:=by simpa using h1
  have h4:G.wkE x.items (rigA x r).lk x.back x.day l=0:=by simpa using h4
  have h5:1<=l.length∧∀n∈l,0<=n∧n<=1000000:=by
   unfold G.wkE at h4;split at h4
   ·rename_i hv
    split at h4
    ·split at h4
     ·rename_i he
      split at h4
      ·have h6:=(G.ldE_z h4).2;have h7:=end_last (Bool.and_eq_true_iff.1 hv).2;exact⟨by omega,fun n hn=>G.wn_iff.1 (List.all_eq_true.1 h6 n hn)⟩
      ·cases h4
     ·cases h4
    ·cases h4
   ·cases h4
  rw[show txt (.lift r l)=[108,105,102,116]++wsT (r::l) by simp[txt,wsT],cmd_ws (by decide) (by decide) (fun n hn=>by
   rcases List.mem_cons.1 hn with rfl|hn
   ·exact hrt _ h1
   ·have:=h5.2 n hn;unfold B15;omega) (by decide) (by decide) (by decide),if_pos ⟨rfl,by simp;omega⟩]
  rfl
 |look m=>
  unfold deed at h;dsimp only at h;split at h;cases h
  rename_i h1
  have h1:G.lkE x.items m (min (x.day+180) 100000)=0:=by simpa using h1
  have h2:G.nmB m=true:=by
   unfold G.lkE at h1;split at h1
   ·rename_i hg
    split at h1
    ·split at h1
     ·rename_i hf
      exact fnd_nm hg hf
     ·cases h1
    ·cases h1
   ·cases h1
  have hc:cutZ 32 (txt (.look m))=[[108,111,111,107],m.data.toList]:=by
   rw[show txt (.look m)=[108,111,111,107]++32::m.data.toList from rfl,cut_piece (by decide),cut_last (nm_free h2 (.inl rfl))]
  rw[cmd_is hc (by
   intro hm;rcases List.mem_cons.1 hm with hm|hm
   ·cases hm
   ·exact nm_ne h2 (List.mem_singleton.1 hm).symm),if_neg (by rintro⟨h,_⟩;cases h),if_pos ⟨rfl,rfl⟩]
  show some (Cm.look (bts m.data.toList))=_;rw[bts_eta]
 |call b=>
  unfold deed at h;dsimp only at h;split at h;cases h
  rename_i h1
  have h2:G.nmB b=true:=by simpa using h1
  have hc:cutZ 32 (txt (.call b))=[[99,97,108,108],b.data.toList]:=by
   rw[show txt (.call b)=[99,97,108,108]++32::b.data.toList from rfl,cut_piece (by decide),cut_last (nm_free h2 (.inl rfl))]
  rw[cmd_is hc (by
   intro hm;rcases List.mem_cons.1 hm with hm|hm
   ·cases hm
   ·exact nm_ne h2 (List.mem_singleton.1 hm).symm),if_neg (by rintro⟨h,_⟩;cases h),if_neg (by rintro⟨h,_⟩;cases h),if_pos ⟨rfl,rfl⟩]
  show some (Cm.call (bts b.data.toList))=_;rw[bts_eta]
 |cut i=>
  unfold deed at h;dsimp only at h;split at h;cases h
  rename_i h1
  have h1:thB x i=true:=by simpa using h1
  rw[show txt (.cut i)=[102,101,108,108]++wsT [i] from rfl,cmd_ws (by decide) (by decide) (fun n hn=>by rw[List.mem_singleton.1 hn];exact hth i h1) (by decide) (by decide) (by decide)];simp[sngO]
 |bill i=>
  unfold deed at h;dsimp only at h;split at h;cases h
  rename_i h1
  have h1:thB x i=true:=by simpa using h1
  rw[show txt (.bill i)=[98,105,108,108]++wsT [i] from rfl,cmd_ws (by decide) (by decide) (fun n hn=>by rw[List.mem_singleton.1 hn];exact hth i h1) (by decide) (by decide) (by decide)];simp[sngO]
def play (x:St):List ByteArray->Option St
 |[]=>some x
 |t::r=>match cmdO t.data.toList with
  |none=>none
  |some c=>if (doC c x).1=0 then play (doC c x).2 r else none
theorem play_cons (x:St) (t:ByteArray) (r:List ByteArray):play x (t::r)=match cmdO t.data.toList with
  |none=>none
  |some c=>if (doC c x).1=0 then play (doC c x).2 r else none:=rfl
theorem play_app:∀(a b:List ByteArray) (x:St),play x (a++b)=(play x a).bind fun y=>play y b
 |[],b,x=>rfl
 |t::a,b,x=>by
  rw[List.cons_append,play_cons,play_cons];cases cmdO t.data.toList with
  |none=>rfl
  |some c=>
   dsimp only;split
   ·exact play_app a b _
   ·rfl
theorem deed_l {c:Cm} {x y:St} (h:deed c x=.ok y):y.lines=x.lines:=by
 cases c<;>(unfold deed at h;dsimp only at h;(repeat' split at h)<;>first|(cases h;done)|(cases h;rfl))
theorem doC_or (c:Cm) (x:St):((doC c x).1≠0∧(doC c x).2=x)∨∃y,x.lines.length<2000∧deed c x=.ok y∧doC c x=(0,{y with lines:=x.lines++[wrt x.lines y.day (bts (txt c))]}):=by
 by_cases hl:x.lines.length<2000
 ·cases hd:deed c x with
  |error e=>
   left;have h1:doC c x=(e,x):=by unfold doC;rw[if_neg (by omega),hd]
   rw[h1];refine⟨?_,rfl⟩;intro h0;have h0:e=0:=h0;subst h0;revert hd
   cases c<;>(unfold deed;dsimp only;(repeat' split)<;>first|(intro h;cases h;done)|(intro h;injection h;contradiction)|(intro h;injection h with h;omega))
  |ok y=>
   right;refine⟨y,hl,rfl,?_⟩;unfold doC;rw[if_neg (by omega),hd];dsimp only;rw[deed_l hd]
 ·left;have h1:doC c x=(4,x):=by unfold doC;rw[if_pos hl]
  rw[h1];exact⟨(by decide:(4:Int)≠0),rfl⟩
structure LnOk (x:St):Prop where
 n:∀(k:Nat) e,x.lines[k]?=some e->e.n=(k:Int)∧0<=e.d∧e.d<=100000∧e.s=sumL (lastS (x.lines.take k)) k e.d e.t.data.toList∧10∉e.t.data.toList∧e.t.data.toList≠[]
 pl:play (new x.x) (x.lines.map (·.t))=some x
theorem ln_new (x:Su):LnOk (new x):=⟨fun k e h=>by simp[new] at h,rfl⟩
theorem txt_ne (c:Cm):txt c≠[]:=by cases c<;>simp[txt]
theorem wsT_no {l:List Int} {b:UInt8} (hb:b=32∨b=58∨b=10) (h:b≠32):b∉wsT l:=by
 unfold wsT;rw[List.mem_flatMap];rintro⟨n,_,hm⟩;rcases List.mem_cons.1 hm with hm|hm
 ·exact h hm
 ·exact nT_no hb hm
theorem txt_nl {c:Cm} {x y:St} (hI:Inv x) (h:deed c x=.ok y):(10:UInt8)∉txt c:=by
 have hw:∀l:List Int,(10:UInt8)∉wsT l:=fun l=>wsT_no (.inr (.inr rfl)) (by decide);have hc:=txt_cmd hI h;cases c with
 |rig i l=>
  unfold deed at h;dsimp only at h;split at h;cases h
  split at h;cases h
  split at h;cases h
  rename_i h3
  have h3:((G.vldG x.items&&G.vldR x.items l)&&decide (x.rigs.length<50))=true:=eq_true_of_ne_false h3;obtain⟨_,q⟩:=vld_nm hI.it (Bool.and_eq_true_iff.1 (Bool.and_eq_true_iff.1 h3).1).2;unfold txt;intro hm;rcases List.mem_append.1 hm with hm|hm
  ·rcases List.mem_append.1 hm with hm|hm
   ·revert hm;decide
   ·exact hw _ hm
  ·rw[List.mem_flatMap] at hm;obtain⟨k,hk,hm⟩:=hm;rcases List.mem_cons.1 hm with hm|hm
   ·cases hm
   ·exact lkT_no (q k hk).1 (.inr rfl) hm
 |look m=>
  unfold deed at h;dsimp only at h;split at h;cases h
  rename_i h1
  have h1:G.lkE x.items m (min (x.day+180) 100000)=0:=by simpa using h1
  have h2:G.nmB m=true:=by
   unfold G.lkE at h1;split at h1
   ·rename_i hg
    split at h1
    ·split at h1
     ·rename_i hf
      exact fnd_nm hg hf
     ·cases h1
    ·cases h1
   ·cases h1
  unfold txt;intro hm;rcases List.mem_append.1 hm with hm|hm
  ·revert hm;decide
  ·exact nm_free h2 (.inr (.inr rfl)) hm
 |call b=>
  unfold deed at h;dsimp only at h;split at h;cases h
  rename_i h1
  have h2:G.nmB b=true:=by simpa using h1
  unfold txt;intro hm;rcases List.mem_append.1 hm with hm|hm
  ·revert hm;decide
  ·exact nm_free h2 (.inr (.inr rfl)) hm
 |day=>decide
 |lift r l=>
  unfold txt;intro hm;rcases List.mem_append.1 hm with hm|hm
  ·rcases List.mem_append.1 hm with hm|hm
   ·revert hm;decide
   ·exact hw _ hm
  ·exact hw _ hm
 |_=>
  unfold txt;intro hm;rcases List.mem_append.1 hm with hm|hm
  ·revert hm;decide
  ·exact hw _ hm
theorem ln_doC {c:Cm} {x:St} (hI:Inv x) (hc:CmOk c) (h:LnOk x):LnOk (doC c x).2:=by
 have hi:=inv_doC hI hc;rcases doC_or c x with⟨_,h1⟩|⟨y,hl,hd,h1⟩
 ·rw[h1];exact h
 ·have hx:(doC c x).2.x=x.x:=doC_x;have hy:=(inv_deed hI hc hd).1;refine⟨?_,?_⟩
  ·rw[h1];intro k e he;have he:(x.lines++[wrt x.lines y.day (bts (txt c))])[k]?=some e:=he;show _∧_∧_∧e.s=sumL (lastS ((x.lines++[wrt x.lines y.day (bts (txt c))]).take k)) k e.d e.t.data.toList∧_;by_cases hk:k<x.lines.length
   ·rw[List.getElem?_append_left hk] at he;rw[List.take_append_of_le_length (by omega)];exact h.n k e he
   ·rw[List.getElem?_append_right (by omega)] at he;have hk0:k-x.lines.length=0:=by
     have:=(List.getElem?_eq_some_iff.1 he).1;simp at this;omega
    have hk1:k=x.lines.length:=by omega
    subst hk1;rw[Nat.sub_self] at he;cases he;rw[List.take_left']
    ·refine⟨rfl,hy.d0,hy.d1,by unfold wrt;rfl,?_,?_⟩
     ·show(10:UInt8)∉(bts (txt c)).data.toList;rw[bts_list];exact txt_nl hI hd
     ·show(bts (txt c)).data.toList≠[];rw[bts_list];exact txt_ne c
    ·rfl
  ·rw[hx,h1];show play (new x.x) ((x.lines++[wrt x.lines y.day (bts (txt c))]).map (·.t))=some {y with lines:=x.lines++[wrt x.lines y.day (bts (txt c))]};rw[List.map_append,play_app,h.pl];show play x [bts (txt c)]=_;rw[play_cons];rw[bts_list,txt_cmd hI hd];dsimp only;rw[h1,if_pos rfl];rfl
theorem ln_lins (br:St->Int->List UInt8):∀(P:List (List UInt8)) (x:St),(∀p∈P,p.length<=100000)->Inv x->LnOk x->LnOk (linsR br x P).2
 |[],_,_,_,h=>h
 |p::P,x,hP,hI,h=>by
  have hp:=hP p (List.mem_cons_self ..);have h2:Inv (linR br x p).2∧LnOk (linR br x p).2:=by
   unfold linR;split
   ·exact⟨hI,h⟩
   split
   ·exact⟨hI,h⟩
   split
   ·exact⟨hI,h⟩
   ·rename_i c hc
    exact⟨inv_doC hI (cmd_ok hp hc),ln_doC hI (cmd_ok hp hc) h⟩
  exact ln_lins br P _ (fun q hq=>hP q (List.mem_cons_of_mem _ hq)) h2.1 h2.2
theorem ln_doR (br:St->Int->List UInt8) {x:St} {s:List UInt8} (hs:s.length<=100000) (hI:Inv x) (h:LnOk x):LnOk (doR br x s).2:=by
 unfold doR;split
 ·exact h
 ·exact ln_lins br _ _ (fun p hp=>Nat.le_trans (cut_szZ 10 s p hp) hs) hI h
def Grow (x y:St):Prop:=∃ex,y.lines=x.lines++ex
theorem Grow.refl (x:St):Grow x x:=⟨[],by simp⟩
theorem Grow.trans {x y z:St} (h:Grow x y) (k:Grow y z):Grow x z:=by
 obtain⟨a,ha⟩:=h;obtain⟨b,hb⟩:=k;exact⟨a++b,by rw[hb,ha,List.append_assoc]⟩
theorem grow_doC (c:Cm) (x:St):Grow x (doC c x).2:=by
 rcases doC_or c x with⟨_,h1⟩|⟨y,_,_,h1⟩
 ·rw[h1];exact Grow.refl x
 ·rw[h1];exact⟨_,rfl⟩
theorem grow_doR (br:St->Int->List UInt8) (x:St) (s:List UInt8):Grow x (doR br x s).2:=by
 have h1:∀(P:List (List UInt8)) (x:St),Grow x (linsR br x P).2:=by
  intro P;induction P with
  |nil=>exact Grow.refl
  |cons p P ih=>
   intro x;refine Grow.trans (y:=(linR br x p).2) ?_ (ih _);unfold linR;split
   ·exact Grow.refl x
   split
   ·exact Grow.refl x
   split
   ·exact Grow.refl x
   ·exact grow_doC _ x
 unfold doR;split
 ·exact Grow.refl x
 ·exact h1 _ x
theorem play_len:∀(l:List ByteArray) (x y:St),play x l=some y->∃ex,y.lines=x.lines++ex∧ex.length=l.length
 |[],x,y,h=>by cases h;exact⟨[],by simp,rfl⟩
 |t::l,x,y,h=>by
  rw[play_cons] at h;cases hc:cmdO t.data.toList with
  |none=>rw[hc] at h;cases h
  |some c=>
   rw[hc] at h;dsimp only at h;split at h
   ·rename_i h0
    obtain⟨ex,h2,h3⟩:=play_len l _ _ h;rcases doC_or c x with⟨h4,_⟩|⟨z,_,_,h5⟩
    ·exact absurd h0 h4
    ·rw[h5] at h2;exact⟨wrt x.lines z.day (bts (txt c))::ex,by rw[h2];simp,by simp[h3]⟩
   ·cases h
theorem play_at {x:St} (h:LnOk x) {k:Nat} (hk:k<=x.lines.length):∃y,play (new x.x) ((x.lines.take k).map (·.t))=some y∧y.lines=x.lines.take k:=by
 have h1:=h.pl;rw[←List.take_append_drop k x.lines,List.map_append,play_app] at h1;cases hy:play (new x.x) ((x.lines.take k).map (·.t)) with
 |none=>rw[hy] at h1;cases h1
 |some y=>
  rw[hy] at h1;have h1:play y ((x.lines.drop k).map (·.t))=some x:=by
   have h2:play y ((x.lines.drop k).map (·.t))=some {x with lines:=x.lines.take k++x.lines.drop k}:=by simpa using h1
   rwa [List.take_append_drop] at h2
  obtain⟨e1,h3,h4⟩:=play_len _ _ _ hy;obtain⟨e2,h5,h6⟩:=play_len _ _ _ h1;refine⟨y,rfl,?_⟩;have h7:y.lines.length=k:=by
   rw[h3];show([]++e1).length=k;rw[List.nil_append,h4,List.length_map,List.length_take];omega
  rw[h5,←h7,List.take_left'];rfl
theorem play_step {x y:St} (h:LnOk x) {k:Nat} {e:En} (he:x.lines[k]?=some e) (hy:play (new x.x) ((x.lines.take k).map (·.t))=some y) (hl:y.lines=x.lines.take k):
  ∃c,cmdO e.t.data.toList=some c∧(doC c y).1=0∧play (new x.x) ((x.lines.take (k+1)).map (·.t))=some (doC c y).2∧(doC c y).2.lines=x.lines.take (k+1):=by
 have hk:=(List.getElem?_eq_some_iff.1 he).1;obtain⟨z,hz,hzl⟩:=play_at h (k:=k+1) (by omega);have e1:x.lines.take (k+1)=x.lines.take k++[e]:=by rw[List.take_add_one,he];rfl
 rw[e1,List.map_append,play_app,hy] at hz;have hz:play y [e.t]=some z:=hz;rw[play_cons] at hz;cases hc:cmdO e.t.data.toList with
 |none=>rw[hc] at hz;cases hz
 |some c=>
  rw[hc] at hz;dsimp only at hz;split at hz
  ·rename_i h0
   have hz:some (doC c y).2=some z:=hz;cases hz;refine⟨c,rfl,h0,?_,hzl⟩;rw[e1,List.map_append,play_app,hy];show play y [e.t]=_;rw[play_cons];rw[hc];dsimp only;rw[if_pos h0];rfl
  ·cases hz
def lnT (e:En):List UInt8:=nT e.n++32::(nT e.d++32::(decDigits e.s++32::e.t.data.toList))
def bytT (l:List En):List UInt8:=l.flatMap fun e=>lnT e++[10]
theorem bytT_cons (e:En) (l:List En):bytT (e::l)=lnT e++10::bytT l:=by
 unfold bytT;rw[List.flatMap_cons,List.append_assoc];rfl
theorem bytT_app (a b:List En):bytT (a++b)=bytT a++bytT b:=by unfold bytT;rw[List.flatMap_append]
theorem bytT_step {l:List En} {k:Nat} {e:En} (h:l[k]?=some e):bytT (l.take (k+1))=bytT (l.take k)++(lnT e++[10]):=by
 rw[List.take_add_one,h,bytT_app];show _++bytT [e]=_;rw[bytT_cons];rfl
theorem dec_no {u:Nat} {b:UInt8} (hb:b=32∨b=58∨b=10):b∉decDigits u:=by
 intro h;have:=decD_dig u b h;rcases hb with rfl|rfl|rfl<;>revert this<;>decide
theorem lnT_nl {e:En} (h:(10:UInt8)∉e.t.data.toList):(10:UInt8)∉lnT e:=by
 have h3:(10:UInt8)=32∨(10:UInt8)=58∨(10:UInt8)=10:=.inr (.inr rfl);unfold lnT;simp only[List.mem_append,List.mem_cons,not_or];exact⟨nT_no h3,by decide,nT_no h3,by decide,dec_no h3,by decide,h⟩
theorem splitK_at {p:List UInt8} (h:(32:UInt8)∉p) (k:Nat) (q:List UInt8):Lib.splitK [32] 0 (k+1) (p++32::q)=p::Lib.splitK [32] 0 k q:=by
 have hi:=index_at (b:=32) q h;have h1:(((p.length:Nat):Int) == -1)=false:=beq_eq_false_iff_ne.2 (by omega);show(if (Lib.index (p++32::q) [32] == -1)=true then [p++32::q] else (p++32::q).take ((Lib.index (p++32::q) [32]).toNat+0)::Lib.splitK [32] 0 k ((p++32::q).drop ((Lib.index (p++32::q) [32]).toNat+1)))=_;rw[hi,h1,if_neg (by decide),Int.toNat_natCast,Nat.add_zero,List.take_left' rfl,←List.drop_drop,List.drop_left' rfl];rfl
theorem split_line (e:En):Lib.splitK [32] 0 3 (lnT e)=[nT e.n,nT e.d,decDigits e.s,e.t.data.toList]:=by
 unfold lnT;rw[splitK_at (nT_no (.inl rfl)),splitK_at (nT_no (.inl rfl)),splitK_at (dec_no (.inl rfl))];rfl
theorem lnT_len {e:En} (h1:I64 e.n) (h2:I64 e.d) (h3:e.s<18446744073709551616) (h4:e.t.size<=100000):(lnT e).length<=100100∧3<=(lnT e).length:=by
 unfold lnT;have a:=itoa_len h1.1 h1.2;have b:=itoa_len h2.1 h2.2;unfold nT;have c:=decD_le (u:=e.s) (k:=19) (by omega);have d:=dsz e.t;simp only[List.length_append,List.length_cons];omega
theorem bytT_le {l:List En} {m:Nat} (h:∀e∈l,(lnT e).length<=m):(bytT l).length<=l.length*(m+1):=by
 induction l with
 |nil=>simp[bytT]
 |cons e l ih=>
  rw[bytT_cons,List.length_append,List.length_cons,List.length_cons,Nat.add_mul,Nat.one_mul];have h1:=h e (List.mem_cons_self ..);have h2:=ih fun q hq=>h q (List.mem_cons_of_mem _ hq);omega
theorem valD_ge:∀(l:List UInt8) (a:Nat),a<=valD a l
 |[],a=>Nat.le_refl _
 |c::r,a=>by
  have h:=valD_ge r (a*10+(c.toNat-48));have e:valD a (c::r)=valD (a*10+(c.toNat-48)) r:=rfl;rw[e];omega
theorem puM:∀(l:List UInt8) (a:Nat),(∀c∈l,digB c=true)->valD a l<=18446744073709551615->parseUintM 18446744073709551615 a l=.ok (valD a l)
 |[],a,_,_=>rfl
 |c::r,a,h,hv=>by
  have hc:48<=c.toNat∧c.toNat<=57:=of_decide_eq_true (h c (List.mem_cons_self ..));have e:valD a (c::r)=valD (a*10+(c.toNat-48)) r:=rfl;rw[e] at hv;have hg:=valD_ge r (a*10+(c.toNat-48));rw[parseUintM,if_pos hc,if_neg (by omega),if_neg (by omega),e];exact puM r _ (fun x hx=>h x (List.mem_cons_of_mem _ hx)) hv
theorem pu_dec {u:Nat} (h:u<18446744073709551616):parseUintB 64 (decDigits u)=.ok u:=by
 unfold parseUintB;rw[if_neg (decD_ne u)];have:=puM (decDigits u) 0 (decD_dig u) (by rw[valD_dec];omega);rw[valD_dec] at this;exact this
theorem lnO_good {e:En} (h1:0<=e.n∧e.n<=100000) (h2:0<=e.d∧e.d<=100000) (h3:e.s<18446744073709551616) (h4:e.t.data.toList≠[]):lnO (lnT e)=some e:=by
 have ha:atoiAll (nT e.n)=.ok e.n:=atoi_itoa (by omega) (by omega);have hb:atoiAll (nT e.d)=.ok e.d:=atoi_itoa (by omega) (by omega);have hu:=pu_dec h3;have va:valA (nT e.n)=e.n:=by unfold valA;rw[ha]
 have vb:valA (nT e.d)=e.d:=by unfold valA;rw[hb]
 have vu:valU (decDigits e.s)=e.s:=by unfold valU;rw[hu]
 have oa:Tx.okA (nT e.n)=true:=by unfold Tx.okA;rw[ha]
 have ob:Tx.okA (nT e.d)=true:=by unfold Tx.okA;rw[hb]
 have ou:okU (decDigits e.s)=true:=by unfold okU;rw[hu]
 have hl:3<=(lnT e).length:=by unfold lnT;simp only[List.length_append,List.length_cons];omega
 unfold lnO lnW;rw[show min 4 ((lnT e).length+1)-1=3 by omega,split_line];dsimp only;rw[if_neg (by rintro (h|h);exact absurd h (by simp);exact h4 h),if_pos]
 ·unfold lnE;simp only[List.getD_cons_zero,List.getD_cons_succ,va,vb,vu,bts_eta]
 ·unfold lnB;simp only[List.getD_cons_zero,List.getD_cons_succ,va,vb,vu,oa,ob,ou,Bool.true_and,Bool.and_eq_true,decide_eq_true_iff,and_true];first|exact h2|exact⟨⟨rfl,rfl⟩,wn_iff.2 h2⟩|exact⟨⟨rfl,rfl⟩,h2⟩
def bkO:Nat->Nat->Nat->List UInt8->Except Int (List En)
 |0,_,_,_=>.ok []
 |f+1,sum,k,l=>
  if (Lib.cut l [10]).2.2=false then .ok []
  else match lnO (Lib.cut l [10]).1 with
   |none=>.error 13
   |some x=>
    if x.n≠(k:Int)∨x.s≠sumL sum x.n x.d x.t.data.toList then .error 13
    else if k=2000 then .error 4
    else match bkO f x.s (k+1) (Lib.cut l [10]).2.1 with
     |.error e=>.error e
     |.ok r=>.ok (x::r)
instance decEn:DecidableEq En:=fun a b=>decidable_of_iff (a.n=b.n∧a.d=b.d∧a.t=b.t∧a.s=b.s) (by cases a;cases b;simp)
def plO:St->Nat->List En->Except Int St
 |x,_,[]=>.ok x
 |x,k,y::r=>match cmdO y.t.data.toList with
  |none=>.error 10
  |some c=>if (doC c x).1≠0 then .error 10 else if (doC c x).2.lines[k]?≠some y then .error 10 else plO (doC c x).2 (k+1) r
def readO (x:Su) (l:List UInt8):Except Int St:=if vSu x=false then .error 1 else match bkO (l.length+1) 0 0 l with
 |.error e=>.error e
 |.ok a=>plO (new x) 0 a
theorem lastS_app (l:List En) (e:En):lastS (l++[e])=e.s:=by unfold lastS;simp
theorem bk_good {l:List En} (hl:l.length<=2000) (hn:∀(k:Nat) e,l[k]?=some e->e.n=(k:Int)∧0<=e.d∧e.d<=100000∧e.s=sumL (lastS (l.take k)) k e.d e.t.data.toList∧10∉e.t.data.toList∧e.t.data.toList≠[]):
  ∀(r:List En) (k f:Nat),l.drop k=r->k<=l.length->(bytT r).length<f->bkO f (lastS (l.take k)) k (bytT r)=.ok r:=by
 intro r;induction r with
 |nil=>
  intro k f _ _ hf;cases f with
  |zero=>omega
  |succ f=>rfl
 |cons e r ih=>
  intro k f hr hk hf;cases f with
  |zero=>omega
  |succ f=>
   have he:l[k]?=some e:=by
    have h:=congrArg (fun q=>q[0]?) hr;simpa using h
   obtain⟨q1,q2,q3,q4,q5,q6⟩:=hn k e he;have hk2:=(List.getElem?_eq_some_iff.1 he).1;have hc:Lib.cut (bytT (e::r)) [10]=(lnT e,bytT r,true):=by rw[bytT_cons];exact cutL_at _ (lnT_nl q5)
   have hs:e.s<18446744073709551616:=by rw[q4];exact hsh_lt _
   have hd:l.drop (k+1)=r:=by rw[←List.drop_drop,hr];rfl
   have ht:lastS (l.take (k+1))=e.s:=by rw[List.take_add_one,he];exact lastS_app _ _
   have hb:(bytT r).length<f:=by rw[bytT_cons,List.length_append,List.length_cons] at hf;omega
   have h:=ih (k+1) f hd (by omega) hb;rw[ht] at h;rw[bkO,hc];dsimp only;rw[if_neg (by decide),lnO_good ⟨by omega,by omega⟩ ⟨q2,q3⟩ hs q6];dsimp only;rw[if_neg (by rintro (h|h);exact h q1;exact h (by rw[q4,q1])),if_neg (by omega),h]
theorem pl_good {x:St} (h:LnOk x):∀(r:List En) (k:Nat) (y:St),x.lines.drop k=r->play (new x.x) ((x.lines.take k).map (·.t))=some y->y.lines=x.lines.take k->plO y k r=.ok x:=by
 intro r;induction r with
 |nil=>
  intro k y hr hy _;have hk:x.lines.length<=k:=List.drop_eq_nil_iff.1 hr;rw[List.take_of_length_le hk,h.pl] at hy;cases hy;rfl
 |cons e r ih=>
  intro k y hr hy hl;have he:x.lines[k]?=some e:=by
   have h:=congrArg (fun q=>q[0]?) hr;simpa using h
  have hk2:=(List.getElem?_eq_some_iff.1 he).1;obtain⟨c,h1,h2,h3,h4⟩:=play_step h he hy hl;have hd:x.lines.drop (k+1)=r:=by rw[←List.drop_drop,hr];rfl
  rw[plO,h1];dsimp only;rw[if_neg (by simpa using h2),if_neg]
  ·exact ih (k+1) _ hd h3 h4
  ·rw[h4];simp[List.getElem?_take,he]
theorem read_good {x:St} (h:LnOk x) (hv:vSu x.x=true) (hl:x.lines.length<=2000):readO x.x (bytT x.lines)=.ok x:=by
 unfold readO;rw[if_neg (by rw[hv];decide)];have h1:=bk_good hl h.n x.lines 0 ((bytT x.lines).length+1) rfl (Nat.zero_le _) (by omega);have h2:lastS (x.lines.take 0)=0:=rfl;rw[h2] at h1;rw[h1];exact pl_good h x.lines 0 (new x.x) rfl rfl rfl
def itO:Nat->Nat->Nat->List UInt8->List (En×Int)
 |0,_,_,_=>[]
 |f+1,sum,k,l=>
  if (Lib.cut l [10]).2.2=false then []
  else if lnQ (Lib.cut l [10]).1=false∨(lnX (Lib.cut l [10]).1).n≠(k:Int)∨(lnX (Lib.cut l [10]).1).s≠sumL sum (lnX (Lib.cut l [10]).1).n (lnX (Lib.cut l [10]).1).d (lnX (Lib.cut l [10]).1).t.data.toList then [(lnX (Lib.cut l [10]).1,13)]
  else if k=2000 then [(lnX (Lib.cut l [10]).1,4)]
  else (lnX (Lib.cut l [10]).1,0)::itO f (lnX (Lib.cut l [10]).1).s (k+1) (Lib.cut l [10]).2.1
def resO:List (En×Int)->Except Int (List En)
 |[]=>.ok []
 |y::r=>if y.2≠0 then .error y.2 else match resO r with|.error e=>.error e|.ok r=>.ok (y.1::r)
theorem bk_it:∀(f sum k:Nat) (l:List UInt8),bkO f sum k l=resO (itO f sum k l)
 |0,_,_,_=>rfl
 |f+1,sum,k,l=>by
  rw[bkO,itO,lnO_eq];generalize Lib.cut l [10]=C;by_cases h1:C.2.2=false
  ·rw[if_pos h1,if_pos h1];rfl
  rw[if_neg h1,if_neg h1];cases h2:lnQ C.1
  ·rw[if_neg (by decide),if_pos (.inl rfl)];rfl
  rw[if_pos rfl];dsimp only;by_cases h3:(lnX C.1).n≠(k:Int)∨(lnX C.1).s≠sumL sum (lnX C.1).n (lnX C.1).d (lnX C.1).t.data.toList
  ·rw[if_pos h3,if_pos (.inr h3)];rfl
  have h5:¬(true=false∨(lnX C.1).n≠(k:Int)∨(lnX C.1).s≠sumL sum (lnX C.1).n (lnX C.1).d (lnX C.1).t.data.toList):=by
   rintro (h|h)
   ·exact absurd h (by decide)
   ·exact h3 h
  rw[if_neg h3,if_neg h5];by_cases h4:k=2000
  ·rw[if_pos h4,if_pos h4];rfl
  rw[if_neg h4,if_neg h4,bk_it f,resO,if_neg (by simp)]
theorem resO_ok:∀{l:List (En×Int)},(∀y∈l,y.2=0)->resO l=.ok (l.map (·.1))
 |[],_=>rfl
 |y::r,h=>by
  rw[resO,if_neg (by rw[h y (List.mem_cons_self ..)];simp),resO_ok (fun z hz=>h z (List.mem_cons_of_mem _ hz))];rfl
theorem resO_err:∀{p:List (En×Int)} {y:En×Int} {r:List (En×Int)},(∀z∈p,z.2=0)->y.2≠0->resO (p++y::r)=.error y.2
 |[],y,r,_,hy=>by rw[List.nil_append,resO,if_pos hy]
 |z::p,y,r,h,hy=>by
  rw[List.cons_append,resO,if_neg (by rw[h z (List.mem_cons_self ..)];simp),resO_err (fun q hq=>h q (List.mem_cons_of_mem _ hq)) hy]
theorem itO_len:∀(f sum k:Nat) (l:List UInt8),k<=2000->(itO f sum k l).length+k<=2001
 |0,_,k,_,h=>by rw[itO];simp;omega
 |f+1,sum,k,l,h=>by
  rw[itO];split
  ·simp;omega
  split
  ·simp;omega
  split
  ·simp;omega
  ·have:=itO_len f (lnX (Lib.cut l [10]).1).s (k+1) (Lib.cut l [10]).2.1 (by omega);rw[List.length_cons];omega
end Go.Proofs.YtjkkfcghkeoedaaGreatDoor.Fi
