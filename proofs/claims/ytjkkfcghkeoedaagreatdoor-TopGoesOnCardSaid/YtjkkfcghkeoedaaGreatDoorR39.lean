/- The parts of the proof, part 39. -/
import Derived.Test.YtjkkfcghkeoedaaGreatDoorR0
import Derived.Test.YtjkkfcghkeoedaaGreatDoorR38
set_option maxHeartbeats 16000000
set_option maxRecDepth 20000
set_option linter.unusedSimpArgs false
set_option linter.unusedVariables false
namespace Go.Proofs.YtjkkfcghkeoedaaGreatDoor
open Go.RowKit Go.Shelf
def AbideItK {β:Type} (K:Nat->Prop) (B:Nat) (J:β->(Nat->Prop)->World->Prop):Prop:=
 ∀s (M M':Nat->Prop) W W',J s M W->(∀b,M' b->B<=b)->(∀b,M b->M' b)->(∀b,M' b->M b∨W.heap.size<=b)->(∀b,M' b->b<W'.heap.size)->Stp (fun b=>M b∨K b) W W'->J s M' W'
def AbideK {β:Type} (K:Nat->Prop) (B:Nat) (I:β->(Nat->Prop)->World->Prop):Prop:=
 ∀s (M M':Nat->Prop) W W',I s M W->(∀b,M' b->B<=b)->(∀b,M b->M' b)->(∀b,M' b->M b∨W.heap.size<=b)->(∀b,M' b->b<W'.heap.size)->Stp (fun b=>M b∨K b∨b+2=B∨b+1=B) W W'->I s M' W'
def SeqIsK {α:Type} (n:Nat) (P:Program) (g:Nat) (lb:Array Value) (encs:α->Array Value) (xs:List α) (R K:Nat->Prop) (w0:World):Prop:=
 ∀(l:Nat) (J Jx:List α->(Nat->Prop)->World->Prop) (W:World),Stp (fun b=>¬R b) w0 W->AbideItK K W.heap.size J->AbideItK K W.heap.size Jx ->
  (∀pre x rest M W1,xs=pre++x::rest->J pre M W1->YieldAt Fence.wide (n-1) P l (encs x) W1 fun e W'=>
   (e=.returned (.bool true)∧J (pre++[x]) M W'∧Stp (fun b=>¬(M b∨R b)) W1 W')∨(e=.returned (.bool false)∧Jx (pre++[x]) M W')) ->
  J [] (fun _=>False) W ->
  CallsIn Fence.wide n P g (#[.func (.yield l) #[] #[]]++lb) W fun e W'=>(∃v,e=.returned v)∧((∃M,J xs M W')∨(∃pre rest M,xs=pre++rest∧Jx pre M W'))
theorem wp_rangeK {α:Type} {n:Nat} {P:Program} {g:Operand} {ps:Array Tmp} {assign body:Code} {Q:Exit->Act->World->Prop} {a:Act} {w:World}
  (h1:1<=n) {gf:Nat} {lb:Array Value} (hg:a.eval g=.func (.func gf) #[] lb) (eg:∀args w,(callFunc gf args).run P w=.ok (.enter gf args) w)
  {encs:α->Array Value} {xs:List α} {R K:Nat->Prop} {w0:World} (hseq:SeqIsK (n-1) P gf lb encs xs R K w0) (hKR:∀b,K b->R b) (hb0:Stp (fun b=>¬R b) w0 w) (hps:∀x,(encs x).size=ps.size) (hR:∀b,R b->b<w.heap.size)
  (I:List α->(Nat->Prop)->World->Prop) (Ix:Code->List α->(Nat->Prop)->World->Prop) (hI:AbideK K (w.heap.size+2) I) (hIx:∀c,AbideK K (w.heap.size+2) (Ix c)) (h0:I [] (fun _=>False) w)
  (hround:∀(l:Nat) (pre:List α) (x:α) (rest:List α) (M:Nat->Prop) (W:World),xs=pre++x::rest->I pre M W->(∀b,M b->w.heap.size+2<=b∧b<W.heap.size)->w.heap.size+2<=W.heap.size ->
   assign.wpIn (Fence.wide.inRound l) (n-1-1) P (Exit.then (fun a₁ W1=>KeepN M R (w.heap.size+2) W W1∧∀W2,W2.heap.size=W1.heap.size->Stp (fun b=>b+1=w.heap.size+2) W1 W2 ->
    body.wpIn (Fence.wide.inRound l) (n-1-1) P (bPost I Ix (pre++[x]) M R (w.heap.size+2) W2) a₁ W2) (fun _ _ _=>False))
    {tmps:=setAll ps (encs x) a.tmps,defers:=[]} W)
  (hdone:∀(M:Nat->Prop) (W:World),I xs M W->W.heap[w.heap.size]?=some (.deferred (some []))->Q .normal {a with defers:={target:=.collected w.heap.size,args:=#[]}::a.defers} W)
  (hstop:∀(c:Code) (pre rest:List α) (M:Nat->Prop) (W:World),xs=pre++rest->Ix c pre M W->W.heap[w.heap.size]?=some (.deferred (some []))->c.wpIn Fence.wide n P Q {a with defers:={target:=.collected w.heap.size,args:=#[]}::a.defers} W):
  (Code.rangeFunc g ps assign body).wpIn Fence.wide n P Q a w:=by
 refine wpIn_rangeFunc ?_;intro fn hfn;obtain⟨rec,hrec⟩:∃rec:LoopState->Option Code->Loop,rec=fun st pe=>{state:=st,pending:=pe,fn,tmps:=a.tmps,params:=ps,assign,body,defers:=w.heap.size}:=⟨_,rfl⟩;obtain⟨W1,hW1⟩:∃W1,(w.alloc (.deferred (some []))).alloc (.loop (rec .ready none))=W1:=⟨_,rfl⟩;have hL1:W1.heap[w.heap.size+1]?=some (.loop (rec .ready none)):=by
  rw[←hW1];have:=World.alloc_heap_new (w.alloc (.deferred (some []))) (.loop (rec .ready none));rwa [World.size_alloc] at this
 have hK1:W1.heap[w.heap.size]?=some (.deferred (some [])):=by
  rw[←hW1];exact(Below.heap_alloc _ _ _ (by simp)).trans (World.alloc_heap_new w _)
 have hs1:W1.heap.size=w.heap.size+2:=by rw[←hW1];simp
 have hst1:∀N,Stp N w W1:=fun N=>by rw[←hW1];exact((Stp.refl N w).alloc _).alloc _
 have hI1:I [] (fun _=>False) W1:=hI [] _ _ w W1 h0 (fun _ h=>h.elim) (fun _ h=>h) (fun _ h=>h.elim) (fun _ h=>h.elim) (hst1 _)
 refine⟨w.heap.size+1,[{target:=.collected w.heap.size,args:=#[]}],W1,{target:=.fn (.func gf) lb,args:=#[.func (.yield (w.heap.size+1)) #[] #[]]},W1,gf,
  #[.func (.yield (w.heap.size+1)) #[] #[]]++lb,W1,?_,?_,?_,?_,fun _=>h1,?_⟩
 ·rw[←hW1,hrec];exact run_enterLoop_outer _ _ _ _ _
 ·simp only[resolve,hg];simp[go_sem]
 ·intro f' _;trivial
 ·simp[invoke,go_sem,eg]
 ·refine(hseq (w.heap.size+1)
   (fun pre M W=>(I pre M W∧W.heap[w.heap.size+1]?=some (.loop (rec .ready none))∧W.heap[w.heap.size]?=some (.deferred (some [])))∧∀b,M b->w.heap.size+2<=b∧b<W.heap.size)
   (fun pre M W=>(∃c,Ix c pre M W∧W.heap[w.heap.size+1]?=some (.loop (rec .done (some c)))∧W.heap[w.heap.size]?=some (.deferred (some [])))∧∀b,M b->w.heap.size+2<=b∧b<W.heap.size)
   W1 (hb0.trans (hst1 _)) ?_ ?_ ?_ ⟨⟨hI1,hL1,hK1⟩,fun _ h=>h.elim⟩).mono ?_
  ·rintro s M M' A B ⟨⟨hi,hl,hk⟩,hm⟩ hM' hMM hnew hlt hstp;rw[hs1] at hM'
   exact⟨⟨hI s M M' A B hi hM' hMM hnew hlt (hstp.mono fun b _ h=>h.elim .inl (fun k=>.inr (.inl k))),
    (hstp.block _ (lt_of_block hl) (fun h=>by rcases h with h|h;(have:=(hm _ h).1;omega);(have:=hR _ (hKR _ h);omega))).trans hl,(hstp.block _ (lt_of_block hk) (fun h=>by rcases h with h|h;(have:=(hm _ h).1;omega);(have:=hR _ (hKR _ h);omega))).trans hk⟩,fun b h=>⟨hM' b h,hlt b h⟩⟩
  ·rintro s M M' A B ⟨⟨c,hi,hl,hk⟩,hm⟩ hM' hMM hnew hlt hstp;rw[hs1] at hM'
   exact⟨⟨c,hIx c s M M' A B hi hM' hMM hnew hlt (hstp.mono fun b _ h=>h.elim .inl (fun k=>.inr (.inl k))),
    (hstp.block _ (lt_of_block hl) (fun h=>by rcases h with h|h;(have:=(hm _ h).1;omega);(have:=hR _ (hKR _ h);omega))).trans hl,(hstp.block _ (lt_of_block hk) (fun h=>by rcases h with h|h;(have:=(hm _ h).1;omega);(have:=hR _ (hKR _ h);omega))).trans hk⟩,fun b h=>⟨hM' b h,hlt b h⟩⟩
  ·-- one round
   rintro pre x rest M W hxs ⟨⟨hi,hl,hk⟩,hm⟩;have hlt:w.heap.size+1<W.heap.size:=lt_of_block hl;have hy:=run_yield (P:=P) (args:=encs x) hl (by rw[hrec];exact hps x);rw[hrec] at hy;refine⟨fn,_,assign,body,hy,roundIn_of_wpIn hfn (wpIn_mono (hround _ pre x rest M W hxs hi hm (by omega)) ?_)⟩;rintro e a2 W2 hp;cases e with
   |normal=>
    obtain⟨hk2,hbody⟩:=hp;have hl2:=(hk2.block _ (lt_of_block hl) (by simp)).trans hl;have hkk2:=(hk2.block _ (lt_of_block hk) (by simp)).trans hk;refine⟨_,run_beginRound hl2 (by rw[hrec]),?_⟩;obtain⟨W3,hW3⟩:∃W3,W2.putObj (w.heap.size+1) (.loop {rec .ready none with state:=.busy})=W3:=⟨_,rfl⟩;rw[hW3];have hst3:Stp (fun b=>b+1=w.heap.size+2) W2 W3:=by rw[←hW3];exact Stp.putObj (Stp.refl (fun b=>b+1=w.heap.size+2) W2) (.inl rfl) _
    have hl3:W3.heap[w.heap.size+1]?=some (.loop {rec .ready none with state:=.busy}):=by rw[←hW3];exact World.putObj_heap_same (lt_of_block hl2)
    have hkk3:W3.heap[w.heap.size]?=some (.deferred (some [])):=(hst3.block _ (lt_of_block hkk2) (by omega)).trans hkk2;have hsz3:W3.heap.size=W2.heap.size:=by rw[←hW3];simp
    refine wpIn_mono (hbody W3 hsz3 hst3) ?_
    have fin:∀(jump:Option Code) (W4:World),KeepN M R (w.heap.size+2) W3 W4->∃W5,
      (Instr.endRound (w.heap.size+1) jump).run P W4=.ok (.bool jump.isNone) W5∧Stp (fun b=>b+1=w.heap.size+2) W4 W5 ∧
      W5.heap[w.heap.size+1]?=some (.loop (rec (if jump.isNone then .ready else .done) jump))∧W5.heap[w.heap.size]?=some (.deferred (some [])):=fun jump W4 hk4=>by
     have hl4:=(hk4.block _ (lt_of_block hl3) (by simp)).trans hl3;have hkk4:=(hk4.block _ (lt_of_block hkk3) (by simp)).trans hkk3;have hr:=run_endRound (P:=P) jump hl4;rw[hrec] at hr;refine⟨_,hr,Stp.putObj (Stp.refl (fun b=>b+1=w.heap.size+2) W4) (.inl rfl) _,?_,?_⟩
     ·rw[World.putObj_heap_same (lt_of_block hl4),hrec]
     ·rw[World.putObj_heap_other (by omega)];exact hkk4
    have ab:∀{s:List α} {A B:World},I s M A->W.heap.size<=A.heap.size->Stp (fun b=>b+1=w.heap.size+2) A B->I s M B:=fun {s A B} ha hAW hab=>
     hI s M M A B ha (fun b h=>(hm b h).1) (fun _ h=>h) (fun _ h=>.inl h) (fun b h=>by have:=(hm b h).2;have:=hab.size;omega) (hab.mono fun b _ h=>.inr (.inr (.inr h)))
    have abx:∀{c:Code} {s:List α} {A B:World},Ix c s M A->W.heap.size<=A.heap.size->Stp (fun b=>b+1=w.heap.size+2) A B->Ix c s M B:=fun {c s A B} ha hAW hab=>
     hIx c s M M A B ha (fun b h=>(hm b h).1) (fun _ h=>h) (fun _ h=>.inl h) (fun b h=>by have:=(hm b h).2;have:=hab.size;omega) (hab.mono fun b _ h=>.inr (.inr (.inr h)))
    rintro e a3 W4 hp4;cases e with
    |normal=>
     obtain⟨hk4,hi4⟩:=hp4;obtain⟨W5,hr,h45,hl5,hkk5⟩:=fin none W4 hk4;have hAW:=Nat.le_trans (Nat.le_trans hk2.size hst3.size) hk4.size;refine⟨_,_,hr,.inl ⟨rfl,⟨⟨ab hi4 hAW h45,hl5,hkk5⟩,fun b h=>⟨(hm b h).1,by have:=(hm b h).2;have:=h45.size;omega⟩⟩,?_⟩⟩;have q:∀b,¬(M b∨R b∨b+2=w.heap.size+2∨b+1=w.heap.size+2)->¬(M b∨R b):=fun b h k=>h (by rcases k with k|k;exact .inl k;exact .inr (.inl k));have q2:∀b,b+1=w.heap.size+2->¬(M b∨R b):=fun b h k=>by rcases k with k|k;(have:=(hm b k).1;omega);(have:=hR b k;omega)
     exact(((hk2.mono fun b _=>q b).trans (hst3.mono fun b _=>q2 b)).trans (hk4.mono fun b _=>q b)).trans (h45.mono fun b _=>q2 b)
    |ret=>
     obtain⟨hk4,hi4⟩:=hp4;obtain⟨W5,hr,h45,hl5,hkk5⟩:=fin (some .ret) W4 hk4;have hAW:=Nat.le_trans (Nat.le_trans hk2.size hst3.size) hk4.size;exact⟨_,_,hr,.inr ⟨rfl,⟨.ret,abx hi4 hAW h45,hl5,hkk5⟩,fun b h=>⟨(hm b h).1,by have:=(hm b h).2;have:=h45.size;omega⟩⟩⟩
    |exit id=>
     obtain⟨hk4,hi4⟩:=hp4;obtain⟨W5,hr,h45,hl5,hkk5⟩:=fin (some (.exit id)) W4 hk4;have hAW:=Nat.le_trans (Nat.le_trans hk2.size hst3.size) hk4.size;exact⟨_,_,hr,.inr ⟨rfl,⟨.exit id,abx hi4 hAW h45,hl5,hkk5⟩,fun b h=>⟨(hm b h).1,by have:=(hm b h).2;have:=h45.size;omega⟩⟩⟩
    |goto t=>
     obtain⟨hk4,hi4⟩:=hp4;obtain⟨W5,hr,h45,hl5,hkk5⟩:=fin (some (.goto t)) W4 hk4;have hAW:=Nat.le_trans (Nat.le_trans hk2.size hst3.size) hk4.size;exact⟨_,_,hr,.inr ⟨rfl,⟨.goto t,abx hi4 hAW h45,hl5,hkk5⟩,fun b h=>⟨(hm b h).1,by have:=(hm b h).2;have:=h45.size;omega⟩⟩⟩
    |panic ch=>exact hp4.elim
    |outgrown=>exact hp4.elim
   |ret=>exact hp.elim
   |exit id=>exact hp.elim
   |goto t=>exact hp.elim
   |panic ch=>exact hp.elim
   |outgrown=>exact hp.elim
  ·-- behind the iterator
   rintro e W2 ⟨⟨v,rfl⟩,(⟨M,⟨hi,hl,hk⟩,hm⟩|⟨pre,rest,M,hx,⟨c,hi,hl,hk⟩,hm⟩)⟩
   ·refine⟨none,_,by have:=run_endLoop (P:=P) hl (by rw[hrec];simp);rw[hrec] at this;exact this,hdone M _ ?_ ((World.putObj_heap_other (by omega)).trans hk)⟩;exact hI xs M M W2 _ hi (fun b h=>(hm b h).1) (fun _ h=>h) (fun _ h=>.inl h) (fun b h=>by simpa using(hm b h).2) ((Stp.refl _ _).putObj (.inl (.inr (.inr (.inr rfl)))) _)
   ·refine⟨some c,_,by have:=run_endLoop (P:=P) hl (by rw[hrec];simp);rw[hrec] at this;exact this,hstop c pre rest M _ hx ?_ ((World.putObj_heap_other (by omega)).trans hk)⟩;exact hIx c pre M M W2 _ hi (fun b h=>(hm b h).1) (fun _ h=>h) (fun _ h=>.inl h) (fun b h=>by simpa using(hm b h).2) ((Stp.refl _ _).putObj (.inl (.inr (.inr (.inr rfl)))) _)
section
variable {β:Type} {B:Nat} {K:Nat->Prop}
theorem AbideK.and {I I':β->(Nat->Prop)->World->Prop} (h:AbideK K B I) (h':AbideK K B I'):AbideK K B (fun s M W=>I s M W∧I' s M W):=
 fun s M M' W W' hs a b c d e=>⟨h s M M' W W' hs.1 a b c d e,h' s M M' W W' hs.2 a b c d e⟩
theorem abideK_pure (p:β->Prop):AbideK K B (fun s (_:Nat->Prop) (_:World)=>p s):=fun _ _ _ _ _ hs _ _ _ _ _=>hs
theorem abideK_below {W0:World} {k:Nat} (hk:k+2<=B) (hK:∀b,K b->k<=b):AbideK K B (fun(_:β) (_:Nat->Prop) W=>Below k W0 W∧k<=W.heap.size):=fun _ M M' W W' hs hM hMM _ _ hst=>by
 obtain⟨h2,h3⟩:=hs;exact⟨h2.trans (hst.toBelow h3 (fun b hb hn=>by rcases hn with hn|hn|hn|hn;(have:=hM b (hMM b hn);omega);(have:=hK b hn;omega);omega;omega)),Nat.le_trans h3 hst.size⟩
theorem abideK_row {g:Nat} {t e:TypeId} {sz:Nat} (k:β->Nat) (f:β->List Value) (hg:g+2<B) (hK:∀b,K b->b+2<B∧b≠g):
  AbideK K B (fun s M W=>∃v,Blk W g t #[v]∧W.ownsRow B e sz v (k s) (f s)∧∀b,v.ownBlock=some b->¬M b):=by
 rintro s M M' W W' ⟨v,hb,hr,hn⟩ hM hMM hnew _ hst;refine⟨v,hst.blk hb (fun h=>by rcases h with h|h|h|h;(have:=hM _ (hMM _ h);omega);(exact(hK _ h).2 rfl);omega;omega),?_,?_⟩
 ·refine⟨hr.1,?_⟩;rcases hr.2 with⟨rfl,h0⟩|⟨g',cap,cur,rfl,hB,hh,h1,h2,h3,h4⟩
  ·exact .inl ⟨rfl,h0⟩
  ·exact .inr ⟨g',cap,cur,rfl,hB,(hst.block g' (lt_of_block hh) (fun h=>by rcases h with h|h|h|h;(exact hn g' rfl h);(have:=(hK _ h).1;omega);omega;omega)).trans hh,h1,h2,h3,h4⟩
 ·intro b hvb hm;rcases hr.2 with⟨rfl,h0⟩|⟨g',cap,cur,rfl,hB,hh,h1,h2,h3,h4⟩
  ·cases hvb
  ·cases hvb;rcases hnew _ hm with h|h
   ·exact hn _ rfl h
   ·have:=lt_of_block hh;exact absurd h (by simp;omega)
theorem abideK_blk {g:Nat} {t:TypeId} (f:β->Array Value) (hg:g+2<B) (hK:¬K g):AbideK K B (fun s (_:Nat->Prop) W=>Blk W g t (f s)):=fun _ M M' W W' hs hM hMM _ _ hst=>
 hst.blk hs (fun hn=>by rcases hn with hn|hn|hn|hn;(have:=hM _ (hMM _ hn);omega);(exact hK hn);omega;omega)
end
end Go.Proofs.YtjkkfcghkeoedaaGreatDoor
namespace Go.Proofs.YtjkkfcghkeoedaaGreatDoor.Fi
open Go.RowKit Go.Lib Tx
theorem wp_opaque {P:Program} {c:Code} {Q:Exit->Act->World->Prop} {a:Act} {w:World} (h:∀Q':Exit->Act->World->Prop,Hid (∀e a w,Q e a w->Q' e a w)->c.wp P Q' a w):c.wp P Q a w:=h Q (hid fun _ _ _ h=>h)
theorem f_linesOf (A:Option Addr) (n c:Nat) (w:World):
  Calls Tryz.prog 73 #[.slice A n c] w fun e w'=>e=.returned (.func (.func 126) #[] #[.pointer (some ⟨w.heap.size,0,none⟩)])∧w'=w.alloc (.cells #[.slice A n c] 54):=by
 go_enter Tryz.func73,Tryz.ntmps73
 go_wp2;go_ret;exact⟨rfl,rfl⟩
def inE (y:En×Int):Array Value:=#[enV y.1,.int .i64 y.2]
def Short (l:List UInt8):Prop:=∀p∈cutZ 10 l,p.length<=300000∧(lnX p).t.size<=70000
theorem lnX_nil:(lnX []).t.size<=70000:=by
 have h:=(lnX_bd []).2.2.2;exact Nat.le_trans h (by decide)
theorem Short.cut {l:List UInt8} (h:Short l):((Lib.cut l [10]).1.length<=300000∧(lnX (Lib.cut l [10]).1).t.size<=70000)∧Short (Lib.cut l [10]).2.1∧((Lib.cut l [10]).2.2=true->(Lib.cut l [10]).2.1.length<l.length)∧(Lib.cut l [10]).2.1.length<=l.length:=by
 unfold Short at *;rcases first_or 10 l with hn|⟨p,q,rfl,hp⟩
 ·rw[cutL_no hn];rw[cut_last hn] at h;refine⟨h l (List.mem_cons_self ..),fun p hp=>?_,(fun h=>by cases h),Nat.zero_le _⟩;have:cutZ 10 []=[[]]:=rfl;rw[this] at hp;rcases List.mem_cons.1 hp with rfl|hp
  ·exact⟨Nat.zero_le _,lnX_nil⟩
  ·cases hp
 ·rw[cutL_at q hp];rw[cut_piece hp] at h;exact⟨h p (List.mem_cons_self ..),fun x hx=>h x (List.mem_cons_of_mem _ hx),fun _=>by simp;omega,by simp;omega⟩
theorem enters_lines:∀args w,(callFunc 126 args).run Tryz.prog w=.ok (.enter 126 args) w:=enters_of Tryz.func126 (by kernel_rfl) rfl
def badL (sum k:Nat) (s:List UInt8):Bool:=!lnQ s||(decide ((lnX s).n≠(k:Int))||decide ((lnX s).s≠sumL sum (lnX s).n (lnX s).d (lnX s).t.data.toList))
theorem itO_no {f sum k:Nat} {l:List UInt8} (h:(Lib.cut l [10]).2.2=false):itO f sum k l=[]:=by
 cases f with
 |zero=>rfl
 |succ f=>rw[itO,if_pos h]
theorem itO_yes {f sum k:Nat} {l:List UInt8} (h:(Lib.cut l [10]).2.2=true):itO (f+1) sum k l=if badL sum k (Lib.cut l [10]).1=true then [(lnX (Lib.cut l [10]).1,13)] else if k=2000 then [(lnX (Lib.cut l [10]).1,4)] else (lnX (Lib.cut l [10]).1,0)::itO f (lnX (Lib.cut l [10]).1).s (k+1) (Lib.cut l [10]).2.1:=by
 rw[itO,if_neg (by rw[h];decide)];by_cases hb:badL sum k (Lib.cut l [10]).1=true
 ·rw[if_pos hb,if_pos];unfold badL at hb;rw[Bool.or_eq_true,Bool.or_eq_true,decide_eq_true_iff,decide_eq_true_iff] at hb;rcases hb with hb|hb
  ·exact .inl (by simpa using hb)
  ·exact .inr hb
 ·rw[if_neg hb,if_neg];intro hc;refine hb ?_;unfold badL;rw[Bool.or_eq_true,Bool.or_eq_true,decide_eq_true_iff,decide_eq_true_iff];rcases hc with hc|hc
  ·exact .inl (by rw[hc];rfl)
  ·exact .inr hc
def eO (sum k:Nat) (s:List UInt8):Int:=if badL sum k s=true then 13 else if k=2000 then 4 else 0
theorem itO_one {f sum k:Nat} {l:List UInt8} (h:(Lib.cut l [10]).2.2=true):itO (f+1) sum k l=(lnX (Lib.cut l [10]).1,eO sum k (Lib.cut l [10]).1)::(if eO sum k (Lib.cut l [10]).1=0 then itO f (lnX (Lib.cut l [10]).1).s (k+1) (Lib.cut l [10]).2.1 else []):=by
 rw[itO_yes h];unfold eO;cases badL sum k (Lib.cut l [10]).1
 ·by_cases hk:k=2000
  ·simp[hk]
  ·simp[hk]
 ·simp
theorem itO_short:∀(f sum k:Nat) (l:List UInt8),Short l->∀y∈itO f sum k l,y.1.t.size<=70000
 |0,_,_,_,_,y,hy=>by cases hy
 |f+1,sum,k,l,h,y,hy=>by
  obtain⟨⟨_,h1⟩,h2,_⟩:=h.cut;rw[itO] at hy;split at hy
  ·cases hy
  split at hy
  ·rcases List.mem_cons.1 hy with rfl|hy
   ·exact h1
   ·cases hy
  split at hy
  ·rcases List.mem_cons.1 hy with rfl|hy
   ·exact h1
   ·cases hy
  ·rcases List.mem_cons.1 hy with rfl|hy
   ·exact h1
   ·exact itO_short f _ _ _ h2 y hy
theorem lines_seq (n:Nat) (h1:2<=n) {N b1:Nat} {A:Option Addr} {l:List UInt8} {c:Nat} (wn w0:World) (hN:wn.heap.size=N) (hL:LdW wn) (hwn:Below N wn w0) (hb1:Blk w0 b1 54 #[.slice A l.length c]) (hNb:N<=b1) (hR:ByR w0 N A l c) (hl:l.length<=300000000) (hS:Short l):
  SeqIsK n Tryz.prog 126 #[.pointer (some ⟨b1,0,none⟩)] inE (itO (l.length+1) 0 0 l) (fun b=>b<N∨b=b1) (fun b=>b=b1) w0:=by
 intro L J Jx W hW hJ hJx hY h0;have c1:=hW.blk hb1 (fun k=>k (.inr rfl));have hBN:Below N w0 W:=hW.toBelow (hN▸hwn.size) (fun b hb k=>k (.inl hb));have hRW:=hR.below hBN;have hBW:=hwn.trans hBN;have HJ:=hid hJ;have HY:=hid hY;have z1:=c1.lt;have HLd:=hid (fun W' (h:Below N wn W')=>hL.on (hN▸h));clear hJ hJx hY hW hb1 hR hBN hwn hN hL;refine callsIn_of_wp Tryz.func126 rfl trivial ?_;simp only[Tryz.ntmps126,List.size_toArray,List.length_cons,List.length_nil,Nat.reduceAdd,Nat.reduceSub,Array.replicate_succ,Array.replicate_zero,List.push_toArray,List.append_toArray,List.nil_append,List.cons_append];obtain⟨XS,hXS⟩:∃XS,XS=itO (l.length+1) 0 0 l:=⟨_,rfl⟩;have HXS:=hid hXS;rw[←hXS] at HY ⊢;clear hXS;refine wpIn_wide.2 ?_;go_wp2;go_loopw [3,4] (fun s3 s4 wr=>∃(pre:List (En×Int)) (f sum k:Nat) (A':Option Addr) (l':List UInt8) (c':Nat) (M:Nat->Prop),XS=pre++itO f sum k l'∧s3=.int .u64 (sum:Int)∧s4=.int .i64 (k:Int)∧k<=2000∧sum<18446744073709551616∧l'.length<f∧l'.length<=300000000∧Short l'∧J pre M wr∧(∀b,M b->W.heap.size<=b∧b<wr.heap.size)∧W.heap.size<=wr.heap.size∧Blk wr b1 54 #[.slice A' l'.length c']∧ByR wr N A' l' c'∧Below N wn wr) (fun _ s4 _=>2001-(RowKit.intOf s4).toNat)
 case atStart=>exact⟨[],l.length+1,0,0,A,l,c,(fun _=>False),by rw[List.nil_append];exact HXS.out,rfl,rfl,by omega,by decide,Nat.lt_succ_self _,hl,hS,h0,fun b h=>h.elim,Nat.le_refl _,c1,hRW,hBW⟩
 case round=>
  clear hRW h0 c1 hS hl HXS;obtain⟨pre,f,sum,k,A',l',c',M,hp,rfl,rfl,hk,hsum,hf,hl',hS,hj,hMW,hWs,cb,hRr,hBr⟩:=hrel;have q0:=cb.cell 0;have f0:=cb.frozen 0;simp only[List.getElem?_toArray,List.getElem?_cons_zero] at q0;have zb:=cb.lt;have bg:=Blk.new wr 5 #[.int .u8 10];have Bg:=bl_alloc (below_refl wr) (.cells #[.int .u8 10] 5);have hNr:N<=wr.heap.size:=by omega
  have BgN:Below N wn (wr.alloc (.cells #[.int .u8 10] 5)):=hBr.trans (Bg.mono hNr);have HC:=hid (c_CutB hl' (hRr.below (Bg.mono hNr)) bg (HLd.out _ BgN));have k0:=nn k;obtain⟨⟨hs1,hs2⟩,hs3,hs4,hs5⟩:=hS.cut;obtain⟨f',rfl⟩:∃f',f=f'+1:=⟨f-1,by omega⟩;have HP:=hid hp;have HNo:=hid (fun h=>itO_no (f:=f'+1) (sum:=sum) (k:=k) (l:=l') h);have HYes:=hid (fun h=>itO_one (f:=f') (sum:=sum) (k:=k) (l:=l') h);clear hp hS bg BgN;generalize Lib.cut l' [10]=C at *;obtain⟨p,r,b⟩:=C;dsimp only at *;have HS3:=hid hs3;clear hs3;go_upto_region 4 with (go_at_call 127;((with_reducible refine HC.out.mono ?_);rintro e w3 ⟨A2,c2,rfl,hR1,hR2,hA,hb3⟩))
  replace hR1:=hR1.below (hb3.mono (by rw[World.size_alloc];omega))
  replace hR2:=hR2.below (hb3.mono (by rw[World.size_alloc];omega))
  have B3:Below wr.heap.size wr w3:=below_tr Bg hb3;have hB3:Below N wn w3:=hBr.trans (B3.mono hNr);have cb3:=cb.below B3 zb;have hz3:=B3.size;cases b
  ·have HX:=HP.out;rw[HNo.out rfl,List.append_nil] at HX;have hj3:=HJ.out _ M M wr w3 hj (fun b h=>(hMW b h).1) (fun _ h=>h) (fun _ h=>.inl h) (fun b h=>by have:=hMW b h;omega) ((Stp.refl _ _).below B3 (Nat.le_refl _));have HJ3:=hid (show ∃M,J XS M w3 from⟨M,by rw[HX];exact hj3⟩);clear HX hj3;go_wp2;refine bodyPost_ret (results_none rfl _ _ _) rfl ?_;exact⟨⟨_,rfl⟩,.inl HJ3.out⟩
  obtain⟨ad,rfl⟩:=hA rfl;have hcv:=conv_by hR1;have HLN:=hid (f_lineOf p w3 (by omega) (HLd.out w3 hB3));have HXY:=hid (HYes.out rfl);obtain⟨hxn,hxd,hxs,hxt⟩:=lnX_bd p;have HBad:=hid (show badL sum k p=(!lnQ p||(decide ((lnX p).n≠(k:Int))||decide ((lnX p).s≠sumL sum (lnX p).n (lnX p).d (lnX p).t.data.toList))) from rfl);have HSM:=hid (fun W' (h:Below w3.heap.size w3 W')=>f_sumOf sum (lnX p).n (lnX p).d (lnX p).t ((lnX p).s:Nat) W' hsum hxn hxd (by omega) (HLd.out W' (hB3.trans (h.mono (by omega)))));have HE:=hid (show eO sum k p=(if badL sum k p=true then 13 else if k=2000 then 4 else 0) from rfl);clear HNo HYes HC hA hB3 hxn hxd;generalize badL sum k p=BD at *;generalize eO sum k p=E at *;generalize lnX p=x at *;generalize lnQ p=q at *;go_upto_region 6 with (go_at_call 128;go_loud ((with_reducible refine HLN.out.mono ?_);rintro e w4 ⟨rfl,hb4⟩))
  have xb:=Blk.new w4 62 #[.int .i64 x.n,.int .i64 x.d,.string x.t,.int .u64 (x.s:Nat)];have B45:=below_tr hb4 (bl_alloc (below_refl w4) (.cells #[.int .i64 x.n,.int .i64 x.d,.string x.t,.int .u64 (x.s:Nat)] 62));have lx:=xb.lt;have hz4:=hb4.size;clear hb4 HLN hcv;generalize hw5:w4.alloc (.cells #[.int .i64 x.n,.int .i64 x.d,.string x.t,.int .u64 (x.s:Nat)] 62)=w5 at *;clear hw5;generalize w4.heap.size=X at *;have e0:=xb.cell 0;have e1:=xb.cell 1;have e2:=xb.cell 2;have e3:=xb.cell 3;simp only[GA] at e0 e1 e2 e3;go_upto_region 7 with fail
  have d1:(x.n != (k:Int))=decide (x.n≠(k:Int)):=by
   by_cases h:x.n=(k:Int)
   ·rw[decide_eq_false (fun h2=>h2 h),bne_eq_false_iff_eq];exact h
   ·rw[decide_eq_true h,bne_iff_ne];exact h
  have d2:(((x.s:Nat):Int) != ((sumL sum x.n x.d x.t.data.toList:Nat):Int))=decide (x.s≠sumL sum x.n x.d x.t.data.toList):=by
   by_cases h:x.s=sumL sum x.n x.d x.t.data.toList
   ·rw[decide_eq_false (fun h2=>h2 h),bne_eq_false_iff_eq,←h]
   ·rw[decide_eq_true h,bne_iff_ne];exact fun h2=>h (by omega)
  generalize decide (x.n≠(k:Int))=D1 at *;generalize decide (x.s≠sumL sum x.n x.d x.t.data.toList)=D2 at *;generalize sumL sum x.n x.d x.t.data.toList=SL at *;have HD1:=hid d1;have HD2:=hid d2;clear d1 d2;go_cut [28] (fun v wx=>v=.bool BD∧Below w5.heap.size w5 wx)
  case first=>
   have d1:=HD1.out;have d2:=HD2.out;cases q
   ·skip
    refine wp_region_noPanic ?_;refine th w5 fun hS0=>?_;refine tq 0 ?_;refine tq 1 ?_;refine tq 2 ?_;refine tv 3 ?_;refine tv 4 ?_;refine tv 5 ?_;refine tv 6 ?_;refine tq 7 ?_;refine tq 8 ?_;refine tv 9 ?_;refine tv 10 ?_;refine tv 11 ?_;refine tv 12 ?_;refine tv 13 ?_;refine tv 14 ?_;refine tq 15 ?_;refine tq 16 ?_;refine wpAnyH_done (by kernel_rfl) (NoPanic.normal ?_) _;rotate_left
    all_goals
     try simp only[Act.put,List.getElem_toArray,List.getElem_cons_zero,List.getElem_cons_succ,List.setIfInBounds_toArray,List.set_cons_zero,List.set_cons_succ]
     go_wp2;go_meet
     exact⟨by rw[HBad.out];rfl,bl⟩
   cases D1;rotate_left
   ·skip
    refine wp_region_noPanic ?_;refine th w5 fun hS0=>?_;refine tq 0 ?_;refine tq 1 ?_;refine tq 2 ?_;refine tq 3 ?_;refine tq 4 ?_;refine tq 5 ?_;refine tq 6 ?_;refine tq 7 ?_;refine tq 8 ?_;refine tv 9 ?_;refine tv 10 ?_;refine tv 11 ?_;refine tv 12 ?_;refine tv 13 ?_;refine tv 14 ?_;refine tq 15 ?_;refine tq 16 ?_;refine wpAnyH_done (by kernel_rfl) (NoPanic.normal ?_) _;rotate_left
    all_goals
     try simp only[Act.put,List.getElem_toArray,List.getElem_cons_zero,List.getElem_cons_succ,List.setIfInBounds_toArray,List.set_cons_zero,List.set_cons_succ]
     go_wp2;go_meet
     exact⟨by rw[HBad.out];rfl,bl⟩
   ·skip
    refine wp_region_noPanic ?_;refine th w5 fun hS0=>?_;refine tq 0 ?_;refine tq 1 ?_;refine tq 2 ?_;refine tq 3 ?_;refine tq 4 ?_;refine tq 5 ?_;refine tq 6 ?_;refine tq 7 ?_;refine tq 8 ?_;refine tq 9 ?_;refine tq 10 ?_;refine tq 11 ?_;refine tq 12 ?_;refine tr 13 fun K hK=>?_;go_simp
    (go_at_call 129;((with_reducible refine(HSM.out _ bl).mono ?_);rintro e w6 ⟨rfl,hb6⟩;obtain⟨hc6,hf6,hz6⟩:=qz hb6))
    refine hK.out _ _ kq (fun hS1=>?_);clear hK K;try simp only[AP]
    refine tq 14 ?_;refine tq 15 ?_;refine tq 16 ?_;refine wpAnyH_done (by kernel_rfl) (NoPanic.normal ?_) _;rotate_left
    all_goals
     try simp only[Act.put,List.getElem_toArray,List.getElem_cons_zero,List.getElem_cons_succ,List.setIfInBounds_toArray,List.set_cons_zero,List.set_cons_succ]
     go_wp2;go_meet
     exact⟨by rw[HBad.out];rfl,bl⟩
  case rest=>
   obtain⟨rfl,B56⟩:=hcut;have B36:=below_tr B45 B56;have xc:=xb.below B56 xb.lt;clear HD1 HD2 HBad HSM e0 e1 e2 e3 xb B45 lx B56;have hE3:(BD=true∧E=13)∨(BD=false∧k=2000∧E=4)∨(BD=false∧k≠2000∧E=0):=by
    have h:=HE.out;cases BD
    ·by_cases hk2:k=2000
     ·rw[if_neg (by decide),if_pos hk2] at h;exact .inr (.inl ⟨rfl,hk2,h⟩)
     ·rw[if_neg (by decide),if_neg hk2] at h;exact .inr (.inr ⟨rfl,hk2,h⟩)
    ·rw[if_pos rfl] at h;exact .inl ⟨rfl,h⟩
   clear HE;have e0:=xc.cell 0;have e1:=xc.cell 1;have e2:=xc.cell 2;have e3:=xc.cell 3;simp only[GA] at e0 e1 e2 e3;have lx:=xc.lt;have B6:=below_tr B3 B36;have hX:wr.heap.size<=X:=by omega
   have hj6:=HJ.out pre M (fun y=>M y∨y=X) wr _ hj (fun y h=>by rcases h with h|h;exact(hMW y h).1;omega) (fun _ h=>.inl h) (fun y h=>by rcases h with h|h;exact .inl h;exact .inr (by omega)) (fun y h=>by rcases h with h|h;(have:=(hMW y h).2;have:=B6.size;omega);omega) ((Stp.refl _ _).below B6 (Nat.le_refl _));have cb6:=cb.below B6 zb;have hB6:Below N wn _:=hBr.trans (B6.mono hNr);have HX6:=hid (HP.out.trans (congrArg (pre ++ ·) HXY.out));have hr6:=hR2.below (B36.mono (by omega));have HY2:=hid (fun rest (h:XS=pre++(x,E)::rest)=>HY.out pre (x,E) rest (fun y=>M y∨y=X) wc h hj6);clear HY hj hj6 HP HXY;rcases hE3 with⟨rfl,rfl⟩|⟨rfl,hk2,rfl⟩|⟨rfl,hk2,rfl⟩
   ·go_upto_region 11 with fail
    have hx:=HX6.out;rw[if_neg (by decide)] at hx;obtain⟨fn',tmps,assign,body,hy',hRd⟩:=HY2.out [] hx;dsimp only[inE] at hy' hRd;have HRD:=hid hRd;have HX:=hid hx;clear hRd HY2 HX6 hx;refine wp_opaque (fun Q' HQ=>?_);refine(wpIn_wide (n:=n)).1 ?_;gi_wp2
    refine⟨(fun _=>(by omega)),HRD.out.mono ?_⟩;rintro e W5 (⟨rfl,hj5,hk5⟩|⟨rfl,hjx⟩)
    ·have HJ5:=hid (show J XS _ W5 from by rw[HX.out];exact hj5);clear hj5 hk5 hy' HRD;gi_wp2
     refine HQ.out _ _ _ ?_;go_wp2;refine bodyPost_ret (results_none rfl _ _ _) rfl ?_;exact⟨⟨_,rfl⟩,.inl ⟨_,HJ5.out⟩⟩
    ·have HJ5:=hid hjx;clear hjx hy' HRD;gi_wp2
     refine HQ.out _ _ _ ?_;go_wp2;refine bodyPost_ret (results_none rfl _ _ _) rfl ?_;exact⟨⟨_,rfl⟩,.inr ⟨_,[],_,HX.out.trans (List.append_nil _).symm,HJ5.out⟩⟩
   ·have g1:((k:Int)==2000)=true:=by rw[hk2];rfl
    go_upto_region 11 with fail
    have hx:=HX6.out;rw[if_neg (by decide)] at hx;obtain⟨fn',tmps,assign,body,hy',hRd⟩:=HY2.out [] hx;dsimp only[inE] at hy' hRd;have HRD:=hid hRd;have HX:=hid hx;clear hRd HY2 HX6 hx;refine wp_opaque (fun Q' HQ=>?_);refine(wpIn_wide (n:=n)).1 ?_;gi_wp2
    refine⟨(fun _=>(by omega)),HRD.out.mono ?_⟩;rintro e W5 (⟨rfl,hj5,hk5⟩|⟨rfl,hjx⟩)
    ·have HJ5:=hid (show J XS _ W5 from by rw[HX.out];exact hj5);clear hj5 hk5 hy' HRD;gi_wp2
     refine HQ.out _ _ _ ?_;go_wp2;refine bodyPost_ret (results_none rfl _ _ _) rfl ?_;exact⟨⟨_,rfl⟩,.inl ⟨_,HJ5.out⟩⟩
    ·have HJ5:=hid hjx;clear hjx hy' HRD;gi_wp2
     refine HQ.out _ _ _ ?_;go_wp2;refine bodyPost_ret (results_none rfl _ _ _) rfl ?_;exact⟨⟨_,rfl⟩,.inr ⟨_,[],_,HX.out.trans (List.append_nil _).symm,HJ5.out⟩⟩
   ·have g1:((k:Int)==2000)=false:=beq_eq_false_iff_ne.2 (by omega);go_upto_region 11 with fail
    have hx:=HX6.out;rw[if_pos rfl] at hx;obtain⟨fn',tmps,assign,body,hy',hRd⟩:=HY2.out _ hx;dsimp only[inE] at hy' hRd;have HRD:=hid hRd;have HX:=hid hx;clear hRd HY2 HX6 hx g1;refine wp_opaque (fun Q' HQ=>?_);refine(wpIn_wide (n:=n)).1 ?_;gi_wp2
    refine⟨(fun _=>(by omega)),HRD.out.mono ?_⟩;rintro e W5 (⟨rfl,hj5,hk5⟩|⟨rfl,hjx⟩);rotate_left
    ·have HJ5:=hid hjx;clear hjx hy' HRD;gi_wp2
     refine HQ.out _ _ _ ?_;go_wp2;refine bodyPost_ret (results_none rfl _ _ _) rfl ?_;exact⟨⟨_,rfl⟩,.inr ⟨_,itO f' x.s (k+1) r,_,HX.out.trans (List.append_cons _ _ _),HJ5.out⟩⟩
    ·have cb5:=hk5.blk cb6 (fun q=>q (.inr (.inr rfl)));have xc5:=hk5.blk xc (fun q=>q (.inl (.inr rfl)));have hN5:Below N wc W5:=hk5.toBelow (by omega) (fun y hy q=>q (.inr (.inl hy)));have hB5:=hB6.trans hN5;have hr5:=hr6.below hN5;have hz5:=hk5.size;have zb5:=cb5.lt;have q5:=cb5.cell 0;have p3:=xc5.cell 3;have f5:=cb5.frozen 0;simp only[GA] at q5 p3;have hst5:=(Stp.refl (fun y=>(M y∨y=X)∨y=b1) W5).setCell (p:=⟨b1,0,none⟩) (.inl (.inr rfl)) (.slice A2 r.length c2);have hj6:=hid (HJ.out _ (fun y=>M y∨y=X) (fun y=>M y∨y=X) W5 _ hj5 (fun y h=>by rcases h with h|h;exact(hMW y h).1;omega) (fun _ h=>h) (fun _ h=>.inl h) (fun y h=>by rw[World.size_setCell];rcases h with h|h;(have:=(hMW y h).2;have:=B6.size;omega);omega) hst5);have cb7:=hid (cb5.set_ 0 (.slice A2 r.length c2));have hN7:Below N W5 (W5.setCell ⟨b1,0,none⟩ (.slice A2 r.length c2)):=Stp.toBelow (N:=fun y=>y=b1) ((Stp.refl (fun y=>y=b1) W5).setCell (p:=⟨b1,0,none⟩) (.inl rfl) (.slice A2 r.length c2)) (by omega) (fun y hy q=>by omega);have hr7:=hid (hr5.below hN7);have hB7:=hid (hB5.trans hN7);have HMB:=hid (show ∀y,(M y∨y=X)->W.heap.size<=y∧y<(W5.setCell ⟨b1,0,none⟩ (.slice A2 r.length c2)).heap.size from fun y h=>by
      rw[World.size_setCell];rcases h with h|h
      ·have:=hMW y h;have:=B6.size;omega
      ·omega)
     have HSZ:=hid (show W.heap.size<=(W5.setCell ⟨b1,0,none⟩ (.slice A2 r.length c2)).heap.size from by rw[World.size_setCell];have:=B6.size;omega);have hlt:=hs4 (by trivial);clear hj5 hk5 hy' HRD hst5 hN5 hN7 hr5 hB5 cb5 xc5;gi_wp2
     refine HQ.out _ _ _ ?_;go_wp2;go_roundw
     case rel=>exact⟨pre++[(x,0)],f',x.s,k+1,A2,r,c2,(fun y=>M y∨y=X),by rw[List.append_assoc];exact HX.out,rfl,by go_num,by omega,hxs,by omega,by omega,HS3.out,hj6.out,HMB.out,HSZ.out,cb7.out,hr7.out,hB7.out⟩
     case measure=>simp[RowKit.intOf];omega
end Go.Proofs.YtjkkfcghkeoedaaGreatDoor.Fi
