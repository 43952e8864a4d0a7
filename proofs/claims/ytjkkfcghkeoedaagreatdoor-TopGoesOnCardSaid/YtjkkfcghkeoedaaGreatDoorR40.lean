/- The parts of the proof, part 40. -/
import Derived.Test.YtjkkfcghkeoedaaGreatDoorR0
import Derived.Test.YtjkkfcghkeoedaaGreatDoorR39
import Derived.Laws.StructEq
set_option maxHeartbeats 16000000
set_option maxRecDepth 20000
set_option linter.unusedSimpArgs false
set_option linter.unusedVariables false
namespace Go.Proofs.YtjkkfcghkeoedaaGreatDoor.Fi
open Go.RowKit Go.Lib Tx
def RedP (x:Su) (l:List UInt8) (w:World) (e:Ending) (w':World):Prop:=Below w.heap.size w w'∧match readO x l with
 |.error k=>e=.returned (.tuple #[.pointer none,.int .i64 k])
 |.ok y=>∃b L T,e=.returned (.tuple #[.pointer (some ⟨b,0,none⟩),.int .i64 0])∧FirmAt w' b L T∧L.val=y∧Inv L.val∧(∀g,T g->w.heap.size<=g∧g<w'.heap.size)∧∀g,Foot b L g->w.heap.size<=g
section
variable {β:Type} {B:Nat} {K:Nat->Prop}
theorem AbideK.ex {γ:Type} {I:γ->β->(Nat->Prop)->World->Prop} (h:∀c,AbideK K B (I c)):AbideK K B (fun s M W=>∃c,I c s M W):=
 fun s M M' W W' ⟨c,hs⟩ a b d e f=>⟨c,h c s M M' W W' hs a b d e f⟩
end
structure RdM (W:World) (b:Nat) (L0:LS) (T0:Nat->Prop) (x:Su) (AL:List En) (k:Nat) (wr:World) (L1:LS) (T1:Nat->Prop):Prop where
 fut:Fut W b L0 T0 wr L1 T1
 inv:Inv L1.val
 len:L1.lines.l.length=k
 pl:plO (new x) 0 AL=plO L1.val k (AL.drop k)
theorem neq_if (a b:En) {D:Bool} (h:decide (a=b)=D) {α:Type} (f:Bool->α):(if a.n=b.n then if a.d=b.d then if a.t.toList=b.t.toList then if (a.s:Int)=(b.s:Int) then f false else f true else f true else f true else f true)=f (!D):=by
 rw[←h];by_cases h1:a.n=b.n
 ·by_cases h2:a.d=b.d
  ·by_cases h3:a.t.toList=b.t.toList
   ·by_cases h4:(a.s:Int)=(b.s:Int)
    ·have h5:a.t=b.t:=by
      apply ByteArray.ext;rw[←Array.toList_inj,←ByteArray.toList_eq,←ByteArray.toList_eq];exact h3
     have h6:a=b:=by
      obtain⟨_,_,_,_⟩:=a;obtain⟨_,_,_,_⟩:=b;dsimp only at *;subst h1 h2 h5;congr 1;omega
     rw[if_pos h1,if_pos h2,if_pos h3,if_pos h4,decide_eq_true h6];rfl
    ·rw[if_pos h1,if_pos h2,if_pos h3,if_neg h4,decide_eq_false (fun e=>h4 (by rw[e]))];rfl
   ·rw[if_pos h1,if_pos h2,if_neg h3,decide_eq_false (fun e=>h3 (by rw[e]))];rfl
  ·rw[if_pos h1,if_neg h2,decide_eq_false (fun e=>h2 (by rw[e]))];rfl
 ·rw[if_neg h1,decide_eq_false (fun e=>h1 (by rw[e]))];rfl
theorem doC_len {c:Cm} {x:St} (h:(doC c x).1=0):(doC c x).2.lines.length=x.lines.length+1:=by
 rcases doC_or c x with⟨h1,_⟩|⟨y,_,_,h2⟩
 ·exact absurd h h1
 ·rw[h2];show(x.lines++[_]).length=_;simp
theorem end_cells {N D:Nat} {w V:World} {a c:Value} (hN:w.heap.size=N) (s1:Blk V (N+1) 35 #[a]) (s2:Blk V (N+1+1) 36 #[c]) (hm:Marks V [D]) (hD:N+2<D) (hb:Below N w V) (p e:Value):
  Blk ((V.setCell ⟨N+1,0,none⟩ p).setCell ⟨N+1+1,0,none⟩ e) (N+1) 35 #[p]∧Blk ((V.setCell ⟨N+1,0,none⟩ p).setCell ⟨N+1+1,0,none⟩ e) (N+1+1) 36 #[e]∧Marks ((V.setCell ⟨N+1,0,none⟩ p).setCell ⟨N+1+1,0,none⟩ e) [D]∧Below N w ((V.setCell ⟨N+1,0,none⟩ p).setCell ⟨N+1+1,0,none⟩ e)∧Stp (fun z=>z=N+1∨z=N+1+1) V ((V.setCell ⟨N+1,0,none⟩ p).setCell ⟨N+1+1,0,none⟩ e):=by
 have stW:Stp (fun z=>z=N+1∨z=N+1+1) V ((V.setCell ⟨N+1,0,none⟩ p).setCell ⟨N+1+1,0,none⟩ e):=((Stp.refl _ V).setCell (.inl (.inl rfl)) _).setCell (.inl (.inr rfl)) _;refine⟨(s1.set_ 0 p).far (p:=⟨N+1+1,0,none⟩) (fun e=>by have e':N+1=N+1+1:=e;omega) e,(s2.far (p:=⟨N+1,0,none⟩) (fun e=>by have e':N+1+1=N+1:=e;omega) p).set_ 0 e,hm.stp stW (fun z hz e=>?_),(hb.setCell (by show N<=N+1;omega) _).setCell (by show N<=N+1+1;omega) _,stW⟩;rcases List.mem_cons.1 hz with h|h
 ·omega
 ·cases h
theorem enC_one (e:En):∀u∈e.cs,u.oneCell'=true:=fun u hu=>by
 simp only[En.cs,List.mem_cons,List.not_mem_nil,or_false] at hu;rcases hu with rfl|rfl|rfl|rfl<;>rfl
theorem load_pf {W:World} {b:Nat} {x:Value} (h:Blk W b 35 #[x]):(loadVar 35 ⟨b,0,none⟩).run Tryz.prog W=.ok x W:=by
 have c0:=h.cell 0;simp only[List.getElem?_toArray,List.getElem?_cons_zero] at c0;go_simp
attribute [local go_sem] Oper.semAt_some
theorem f_ReadT {T:Nat->Prop} (x:LSu) (A:Option Addr) (l:List UInt8) (c:Nat) (w:World) (hS:SuOk T w x) (hW:SuW x) (hv:vSu x.val=true) (hR:ByR w w.heap.size A l c) (hl:l.length<=300000000) (hSh:Short l) (hL:LdW w):
  Calls Tryz.prog 18 #[.agg x.cs.toArray,.slice A l.length c] w (RedP x.val l w):=by
 have x0:=((Blk.new w 32 x.cs.toArray).alloc (.cells #[.pointer none] 35)).alloc (.cells #[.int .i64 0] 36);have x1:=(Blk.new (w.alloc (.cells x.cs.toArray 32)) 35 #[.pointer none]).alloc (.cells #[.int .i64 0] 36);have x2:=Blk.new ((w.alloc (.cells x.cs.toArray 32)).alloc (.cells #[.pointer none] 35)) 36 #[.int .i64 0];simp only[World.size_alloc] at x1 x2;have B0:=bl_alloc (bl_alloc (bl_alloc (below_refl w) (.cells x.cs.toArray 32)) (.cells #[.pointer none] 35)) (.cells #[.int .i64 0] 36);have HN:=Lib.hid (fun W (h:Below w.heap.size w W)=>f_NewT x W (hS.on h) hW hv);have hCs:=su_cs x;have HRes:=Lib.hid (show ∀e w',Below w.heap.size w w'->(∃k,resO (itO (l.length+1) 0 0 l)=.error k∧e=.returned (.tuple #[.pointer none,.int .i64 k]))∨(∃a,resO (itO (l.length+1) 0 0 l)=.ok a∧((plO (new x.val) 0 a=.error 10∧e=.returned (.tuple #[.pointer none,.int .i64 10]))∨∃y,plO (new x.val) 0 a=.ok y∧∃b L T,e=.returned (.tuple #[.pointer (some ⟨b,0,none⟩),.int .i64 0])∧FirmAt w' b L T∧L.val=y∧Inv L.val∧(∀g,T g->w.heap.size<=g∧g<w'.heap.size)∧∀g,Foot b L g->w.heap.size<=g))->RedP x.val l w e w' from fun e w' hb h=>by
  refine⟨hb,?_⟩;unfold readO;rw[if_neg (by rw[hv];decide),bk_it];rcases h with⟨k,h1,h2⟩|⟨a,h1,⟨h2,h3⟩|⟨y,h2,h3⟩⟩
  ·rw[h1];exact h2
  ·rw[h1];dsimp only;rw[h2];exact h3
  ·rw[h1];dsimp only;rw[h2];exact h3)
 obtain⟨RR,hRR⟩:∃RR,RR=RedP x.val l w:=⟨_,rfl⟩;rw[←hRR] at HRes ⊢;clear hS hW hv hRR;obtain⟨CA,hCA⟩:∃CA,x.cs.toArray=CA:=⟨_,rfl⟩;rw[hCA] at x0 x1 x2 B0 hCs ⊢;rw[hCA] at HN;clear hCA;refine(callsIn_wide (n:=5)).1 ?_;refine callsIn_of_wp_marks Tryz.func18 rfl trivial ?_ rfl;simp only[Tryz.ntmps18,List.size_toArray,List.length_cons,List.length_nil,Nat.reduceAdd,Nat.reduceSub,Array.replicate_succ,Array.replicate_zero,List.push_toArray,List.append_toArray,List.nil_append,List.cons_append];refine wpIn_wide.2 ?_;go_upto_region 1 with fail
 generalize ((w.alloc (.cells CA 32)).alloc (.cells #[.pointer none] 35)).alloc (.cells #[.int .i64 0] 36)=w1 at *;go_upto_region 4 with (first|(refine wpList_load_row rfl 32 _ rfl w.heap.size rfl 32 CA (0,0) _ x0 Tryz.underlying32 rfl hCs ?_)|(go_at_call 7;((with_reducible refine(HN.out _ B0).mono ?_);rintro e w2 ⟨b,L0,T0,rfl,n1⟩)))
 have hb2:=n1.out.bel;have r1:=x1.below hb2 x1.lt;have r2:=x2.below hb2 x2.lt;have B2:=below_tr B0 hb2;have lb:=n1.out.at_.blk.lt;have z1:=x2.lt;have z2:=hb2.size;have hNI:=n1.out.inv;have hNV:=n1.out.val;have hNA:=n1.out.at_;have hNT:=n1.out.tt;have hNF:=n1.out.ft;clear x0 x1 x2 hb2 HN hCs;go_wp2_with (go_at_call 73;((with_reducible refine(f_linesOf A l.length c _).mono ?_);rintro e w5 ⟨rfl,rfl⟩))
 have y8:=(Blk.new w2 44 #[.slice none 0 0]).alloc (.cells #[.slice A l.length c] 54);have y9:=Blk.new (w2.alloc (.cells #[.slice none 0 0] 44)) 54 #[.slice A l.length c];have B25:Below w2.heap.size w2 ((w2.alloc (.cells #[.slice none 0 0] 44)).alloc (.cells #[.slice A l.length c] 54)):=bl;have z5a:w2.heap.size+2<=((w2.alloc (.cells #[.slice none 0 0] 44)).alloc (.cells #[.slice A l.length c] 54)).heap.size:=by simp
 have z5b:((w2.alloc (.cells #[.slice none 0 0] 44)).alloc (.cells #[.slice A l.length c] 54)).heap.size<=w2.heap.size+2:=by simp
 simp only[World.size_alloc] at y9;try simp only[World.size_alloc]
 generalize (w2.alloc (.cells #[.slice none 0 0] 44)).alloc (.cells #[.slice A l.length c] 54)=w5 at *;have B5:=below_tr B2 (B25.mono (by omega));have hz0:w.heap.size+3<=w2.heap.size:=by omega
 have HRs:=Lib.hid (fun h=>resO_ok (l:=itO (l.length+1) 0 0 l) h);have HRe:=Lib.hid (fun(p:List (En×Int)) (y:En×Int) (r:List (En×Int)) (e:itO (l.length+1) 0 0 l=p++y::r) (h1:∀z∈p,z.2=0) (h2:y.2≠0)=>(show resO (itO (l.length+1) 0 0 l)=.error y.2 by rw[e];exact resO_err h1 h2));have hIt:=itO_len (l.length+1) 0 0 l (by omega);have HSt:=Lib.hid (itO_short (l.length+1) 0 0 l hSh);have HSQ:=Lib.hid (fun n (h:2<=n)=>lines_seq n h (N:=w.heap.size) (b1:=w2.heap.size+1) w w5 rfl hL B5 y9 (by omega) (hR.below B5) hl hSh);have q1:=r1.lt;have q2:=r2.lt;clear hR hSh;generalize hXS:itO (l.length+1) 0 0 l=XS at *;clear hXS
 refine(wpIn_wide (n:=5)).1 (wp_rangeK (n:=5) (by omega) (gf:=126) (lb:=#[.pointer (some ⟨w2.heap.size+1,0,none⟩)]) rfl enters_lines (encs:=inE) (xs:=XS) (R:=fun y=>y<w.heap.size∨y=w2.heap.size+1) (K:=fun y=>y=w2.heap.size+1)
  (HSQ.out _ (by omega)) (fun _ h=>.inr h) (Stp.refl _ _) (fun _=>rfl) (by rintro y (h|h)<;>omega)
  (fun pre M W=>(∀y∈pre,y.2=0)∧(Below w2.heap.size w2 W∧w2.heap.size<=W.heap.size)∧∃v,Blk W w2.heap.size 44 #[v]∧W.ownsRow (w5.heap.size+2) 62 4 v pre.length (fl En.cs (pre.map (·.1)))∧∀g,v.ownBlock=some g->¬M g)
  (fun cd pre M W=>∃(p:List (En×Int)) (y:En×Int),(cd=Code.ret∧pre=p++[y]∧(∀z∈p,z.2=0)∧y.2≠0)∧(Below w.heap.size w W∧w.heap.size<=W.heap.size)∧Blk W (w.heap.size+1) 35 #[.pointer none]∧Blk W (w.heap.size+1+1) 36 #[.int .i64 y.2])
  ?hI ?hIx ?h00 ?rnd ?done ?stop)
 case hI=>exact(abideK_pure _).and ((abideK_below (by omega) (fun y hy=>by omega)).and (abideK_row _ _ (by omega) (fun y hy=>by omega)))
 case hIx=>exact fun cd=>AbideK.ex fun p=>AbideK.ex fun y=>(abideK_pure _).and ((abideK_below (by omega) (fun y hy=>by omega)).and ((abideK_blk _ (by omega) (by omega)).and (abideK_blk _ (by omega) (by omega))))
 case h00=>exact⟨(fun _ h=>by cases h),⟨B25,by omega⟩,_,y8,World.ownsRow_nil w5 _ _ _,(fun _ h=>by cases h)⟩
 case stop=>
  rintro cd pre rest M W hpre ⟨p,y,⟨rfl,rfl,h1,h2⟩,⟨hB,hz⟩,g1,g2⟩ hK;rw[List.append_assoc] at hpre;have HER:=Lib.hid (HRe.out p y rest hpre h1 h2);have HMK:=Lib.hid ((Marks.nil W).cons hK (by simp));clear hpre;gi_wp2
  refine leaves_marks (by simp) [w5.heap.size] W HMK.out fun w' hw'=>?_;have hDw:∀z,z<w5.heap.size->¬z∈[w5.heap.size]:=fun z hz h=>by
   rcases List.mem_cons.1 h with h|h
   ·omega
   ·cases h
  exact⟨_,res_cc rfl rfl (load_pf (hw'.blk g1 (hDw _ (by omega)))) rfl (load_er (hw'.blk g2 (hDw _ (by omega)))),HRes.out _ _ (hB.trans (hw'.toBelow hz (fun z hz=>hDw z (by omega)))) (.inl ⟨y.2,HER.out,rfl⟩)⟩
 case rnd=>
  rintro lo pre ⟨ye,yn⟩ rest M W hpre ⟨h0s,⟨hB,hz⟩,v,hv,hr,hvm⟩ hM hsz;simp only[inE,enV,setAll2,List.setIfInBounds_toArray,List.set_cons_zero,List.set_cons_succ];gi_wp2
  refine⟨(Stp.refl _ _).alloc _,fun W2 hsz2 hst2=>?_⟩;rw[World.size_alloc] at hsz2;have xb2:=hst2.blk (Blk.new W 62 #[.int .i64 ye.n,.int .i64 ye.d,.string ye.t,.int .u64 (ye.s:Nat)]) (by omega);have e1:=hst2.blk (hv.alloc (.cells #[.int .i64 ye.n,.int .i64 ye.d,.string ye.t,.int .u64 (ye.s:Nat)] 62)) (by omega);have r2x:=own_stp (own_stp hr ((Stp.refl (fun _=>False) W).alloc (.cells #[.int .i64 ye.n,.int .i64 ye.d,.string ye.t,.int .u64 (ye.s:Nat)] 62)) (fun _ _ h=>h)) hst2 (fun g hg=>by have:=(own_ge hr g hg).1;omega);have hB2:Below w2.heap.size w2 W2:=(hB.alloc hz _).trans (Stp.toBelow hst2 (by rw[World.size_alloc];omega) (fun z hz=>by omega));obtain⟨ad,cp,rfl⟩:=own_slice hr;have HP:=Lib.hid hpre;have H0:=Lib.hid h0s;have hln:pre.length<=2001:=by
   have h1:=congrArg List.length hpre;simp only[List.length_append,List.length_cons] at h1;omega
  have hWx:W.heap.size<W2.heap.size:=by omega
  clear hpre h0s hsz2;by_cases hy0:yn=0
  rotate_left
  ·have g1:(yn != 0)=true:=by rw[bne_iff_ne];exact hy0
   have s1:=r1.below hB2 q1;have s2:=r2.below hB2 q2;have c1:W2.cell? ⟨w.heap.size+1,0,none⟩=some (.pointer none):=s1.cell 0;have c2:W2.cell? ⟨w.heap.size+1+1,0,none⟩=some (.int .i64 0):=s2.cell 0;have f1:=s1.frozen 0;have f2:=s2.frozen 0;have k1:=(s1.set_ 0 (.pointer none)).far (p:=⟨w.heap.size+1+1,0,none⟩) (fun e=>by have e':w.heap.size+1=w.heap.size+1+1:=e;omega) (.int .i64 yn);have k2:=(s2.far (p:=⟨w.heap.size+1,0,none⟩) (fun e=>by have e':w.heap.size+1+1=w.heap.size+1:=e;omega) (.pointer none)).set_ 0 (.int .i64 yn);have stW:Stp (fun z=>z=w.heap.size+1∨z=w.heap.size+1+1) W2 ((W2.setCell ⟨w.heap.size+1,0,none⟩ (.pointer none)).setCell ⟨w.heap.size+1+1,0,none⟩ (.int .i64 yn)):=((Stp.refl _ W2).setCell (.inl (.inl rfl)) _).setCell (.inl (.inr rfl)) _;have BS:Below w.heap.size w ((W2.setCell ⟨w.heap.size+1,0,none⟩ (.pointer none)).setCell ⟨w.heap.size+1+1,0,none⟩ (.int .i64 yn)):=(((B2.trans (hB2.mono (by omega)))).setCell (by show w.heap.size<=w.heap.size+1;omega) _).setCell (by show w.heap.size<=w.heap.size+1+1;omega) _;have HNE:=Lib.hid hy0;clear hy0 s1 s2 e1 xb2 r2x;gi_wp2
   refine⟨stW.mono ?_,pre,(ye,yn),⟨rfl,rfl,H0.out,HNE.out⟩,⟨BS,BS.size⟩,k1,k2⟩;rintro z hz (h|h) (hh|(hh|hh)|hh|hh);all_goals first|omega|(have:=(hM _ hh).1;omega)
  ·subst hy0;have p0:=xb2.cell 0;have p1:=xb2.cell 1;have p2:=xb2.cell 2;have p3:=xb2.cell 3;have u1:=e1.cell 0;have uf:=e1.frozen 0;simp only[GA] at p0 p1 p2 p3 u1;obtain⟨i0,hi,hi1,hi2,hi3⟩:=info_Entry;have zx:=xb2.lt;have lk:=e1.lt;have hrowne:∀z,(Value.slice ad pre.length cp).ownBlock=some z->w2.heap.size≠z:=fun z hz=>by have:=(own_ge hr z hz).1;omega
   clear xb2;gi_wp2_with (gi_at_builtin;go_loud (refine wpListIn_append_own_at _ rfl _ _ 44 rfl (w5.heap.size+2) 62 i0 (.agg #[.int .i64 0,.int .i64 0,.string ByteArray.empty,.int .u64 0]) 4 40 (by kernel_rfl) hi hi1 hi2 hi3 rfl (by omega) _ _ _ rfl (own_stp r2x ((Stp.refl (fun _=>False) W2).alloc _) (fun _ _ h=>h)) ⟨W2.heap.size,0,none⟩ 1 1 ye.cs rfl rfl (cells_new W2 ye.cs 62) (enC_one ye) (by unfold maxLen;omega) (by omega) (by simp;omega) ?_;intro v' U2 hown hgrow _ hat;obtain⟨ad',cp',rfl⟩:=own_slice hown;have e42:Blk U2 w2.heap.size 44 #[.slice ad pre.length cp]:=(hgrow.block w2.heap.size (e1.alloc _).lt (fun h=>hrowne _ h.symm rfl)).trans (e1.alloc _);have q42:=e42.cell 0;have f42:=e42.frozen 0;simp only[List.getElem?_toArray,List.getElem?_cons_zero] at q42))
   have hmk:∀N:Nat->Prop,N w2.heap.size->(∀r,(Value.slice ad pre.length cp).ownBlock=some r->N r∨W2.heap.size<=r)->Stp N W2 (U2.setCell ⟨w2.heap.size,0,none⟩ (.slice ad' (pre.length+1) cp')):=fun N h1 h2=>(((Stp.refl N W2).alloc _).grown hgrow h2).setCell (.inl h1) _;have hst:=hmk (fun z=>z=w2.heap.size∨w5.heap.size+2<=z) (.inl rfl) (fun r hr'=>.inl (.inr (own_ge hr r hr').1));refine⟨hmk _ ?_ ?_,?_,⟨hB2.trans (hst.toBelow (by omega) (fun z hz=>by omega)),Nat.le_trans hB2.size hst.size⟩,_,e42.set_ 0 _,?_,?_⟩
   ·rintro (h|(h|h)|h|h)
    ·have:=(hM _ h).1;omega
    all_goals omega
   ·intro r' hr';have:=own_ge hr r' hr';refine .inl ?_;rintro (h|(h|h)|h|h)
    ·exact hvm r' hr' h
    all_goals omega
   ·intro z hz;rcases List.mem_append.1 hz with h|h
    ·exact H0.out z h
    ·rw[List.mem_singleton.1 h]
   ·have:=own_stp hown (Stp.setCell (p:=⟨w2.heap.size,0,none⟩) (Stp.refl (fun z=>z=w2.heap.size) U2) (.inl rfl) (.slice ad' (pre.length+1) cp')) (fun z hz=>by have:=(own_ge hown z hz).1;omega);rw[List.length_append,List.map_append,List.map_cons,List.map_nil,fl_snoc];exact this
   ·intro z hz hm;rcases hat with h|h
    ·rw[h] at hz;exact hvm z hz hm
    ·rw[h] at hz;cases hz;have:=(hM _ hm).2;rw[World.size_alloc] at this;omega
 case done=>
  rintro M W ⟨h0s,⟨hB,hz⟩,v,hv,hr,_⟩ hK;obtain⟨ad,cp,rfl⟩:=own_slice hr;have hres:=HRs.out h0s;have hall:∀y∈XS.map (·.1),y.t.size<=70000:=fun y hy=>by
   obtain⟨z,hz,rfl⟩:=List.mem_map.1 hy;exact HSt.out z hz
  have hlen:(XS.map (·.1)).length=XS.length:=List.length_map ..;rw[←hlen] at hr hv hIt;generalize XS.map (·.1)=AL at *;have HMK:=Lib.hid ((Marks.nil W).cons hK (by simp));have BW:=B2.trans (hB.mono (by omega));have lD:w5.heap.size<W.heap.size:=lt_of_block hK;have HR0:=Lib.hid (own_rd' En.cs_len hr);have hrg:=fun g hg=>own_ge hr g hg;have hFW:=hNA.on hB;have s1:=r1.below hB q1;have s2:=r2.below hB q2;have v0:=hv.cell 0;simp only[List.getElem?_toArray,List.getElem?_cons_zero] at v0;have hfl:=hNA.flt;have M0:RdM W b L0 T0 x.val AL 0 W L0 (fun g=>T0 g∧g<W.heap.size):=⟨(Fut.cut (Fut.refl hFW)),hNI,by have:=congrArg St.lines hNV;exact congrArg List.length this,by rw[hNV];rfl⟩;obtain⟨n,hn⟩:∃n,AL.length=n:=⟨_,rfl⟩;rw[hn] at v0 hIt;have HN:=Lib.hid hn;have HAL:=Lib.hid hall;have HRS:=Lib.hid hres;clear hn hall hres hlen h0s HRs HSt hr hv hK HRe HSQ B5 B25 y8 y9;dsimp only;go_wp2;go_loopw [35] (fun i wr=>∃k:Nat,k<=n∧i=.int .i64 k∧∃L1 T1,Hid (RdM W b L0 T0 x.val AL k wr L1 T1)) (fun i _=>n-(RowKit.intOf i).toNat)
  case atStart=>exact⟨0,Nat.zero_le _,rfl,_,_,Lib.hid M0⟩
  case round=>
   clear M0;obtain⟨k,hk,rfl,L1,T1,HM⟩:=hrel;have k0:=nn k;have hM:=HM.out;have hzr:=hM.fut.stp.size;have hff:∀g,Foot b L1 g->w1.heap.size<=g:=fun g hg=>by
    rcases hM.fut.ff g hg with h|h
    ·exact hNF g h
    ·omega
   have BWr:Below w.heap.size w wr:=below_stp BW hM.fut.stp (fun g hg e=>by have:=hNF g e;omega) (by have:=B0.size;omega);by_cases hlt:k<n
   ·have k1:(k:Int)<(n:Int):=by omega
    have hRk:=HR0.out.stp hM.fut.stp (fun ad' e hf=>by
     subst e;have h1:=hrg ad'.block rfl;have h2:=hfl _ hf;omega)
    obtain⟨y,g1,o1,hy,hA,lg1,c0,c1,c2,c3⟩:=rdEn hRk (k:=k) (by rw[HN.out];omega);subst hA;have hFr:=hM.fut.at_;have hyt:y.t.size<=70000:=HAL.out y (List.mem_of_getElem? hy);have hdr:AL.drop k=y::AL.drop (k+1):=by
     obtain⟨h1,h2⟩:=List.getElem?_eq_some_iff.1 hy;rw[←h2];exact List.drop_eq_getElem_cons h1
    have HPL:=Lib.hid (show plO (new x.val) 0 AL=plO L1.val k (y::AL.drop (k+1)) by rw[hM.pl,hdr]);have hIr:=hM.inv;have HLn:=Lib.hid hM.len;have nF:∀z,z<w1.heap.size∨(w2.heap.size<=z∧z<W.heap.size)->¬Foot b L1 z:=fun z hz hf=>by
     rcases hM.fut.ff z hf with h|h
     ·have:=hNF z h;have:=hfl z h;omega
     ·omega
    have nF0:∀z,z<w1.heap.size∨(w2.heap.size<=z∧z<W.heap.size)->¬Foot b L0 z:=fun z hz hf=>by
     have:=hNF z hf;have:=hfl z hf;omega
    have s1r:=hM.fut.stp.blk s1 (nF0 _ (by omega));have s2r:=hM.fut.stp.blk s2 (nF0 _ (by omega));have mkr:Marks wr [w5.heap.size]:=HMK.out.stp hM.fut.stp (fun D hD=>nF0 _ (by rcases List.mem_cons.1 hD with h|h;omega;cases h));have hFt:=hFr.flt;have lbr:=hFr.blk.lt;clear hdr hy hRk;go_upto_region 14 with fail
    have xb:=Blk.new wr 62 #[.int .i64 y.n,.int .i64 y.d,.string y.t,.int .u64 (y.s:Nat)];have Bq:=bl_alloc (below_refl wr) (.cells #[.int .i64 y.n,.int .i64 y.d,.string y.t,.int .u64 (y.s:Nat)] 62);generalize wr.alloc (.cells #[.int .i64 y.n,.int .i64 y.d,.string y.t,.int .u64 (y.s:Nat)] 62)=wq at *;have p2:wq.cell? ⟨wr.heap.size,2,none⟩=some (.string y.t):=xb.cell 2
    have hco:=f_commandOf y.t.data.toList wq (by have e:y.t.data.toList.length=y.t.size:=by simp
                                                 omega) (hL.on (below_tr BWr Bq))
    rw[bts_eta] at hco;have HCO:=Lib.hid hco;clear hco c0 c1 c2 c3;cases hc:cmdO y.t.data.toList with
    |none=>
     have HC0:=Lib.hid (show Calls Tryz.prog 65 #[.string y.t] wq fun e w'=>e=.returned .nilIface∧Below wq.heap.size wq w' from by
      refine HCO.out.mono ?_;rintro e w' ⟨hb,h⟩;rw[hc] at h;exact⟨h,hb⟩)
     have HER:=Lib.hid (show plO (new x.val) 0 AL=.error 10 by rw[HPL.out,plO,hc]);clear HCO hc;go_upto_region 15 with (go_at_call 65;((with_reducible refine HC0.out.mono ?_);rintro e w6 ⟨rfl,hb6⟩))
     have Br6:=below_tr Bq hb6;have s16:=s1r.below Br6 s1r.lt;have s26:=s2r.below Br6 s2r.lt;have mk6:=mkr.stp ((Stp.refl noB wr).below Br6 (Nat.le_refl _)) (fun _ _ h=>h);have BW6:=below_tr BWr Br6;have c1:w6.cell? ⟨w.heap.size+1,0,none⟩=some (.pointer none):=s16.cell 0;have c2:w6.cell? ⟨w.heap.size+1+1,0,none⟩=some (.int .i64 0):=s26.cell 0;have f1:=s16.frozen 0;have f2:=s26.frozen 0;clear p2 xb;refine wp_region_noPanic ?_;refine th w6 fun hS0=>?_;refine tq 0 ?_;refine tq 1 ?_;refine tq 2 ?_;refine tv 3 ?_;refine tv 4 ?_;refine tv 5 ?_;refine tv 6 ?_;refine tq 7 ?_;refine tq 8 ?_;refine tv 9 ?_;refine tv 10 ?_;refine tv 11 ?_;refine tv 12 ?_;refine tv 13 ?_;refine tv 14 ?_;refine tv 15 ?_;refine tv 16 ?_;refine tv 17 ?_;refine tv 18 ?_;refine tq 19 ?_;refine wpAnyH_done (by kernel_rfl) (NoPanic.normal ?_) _;rotate_left
     all_goals
      try simp only[Act.put,List.getElem_toArray,List.getElem_cons_zero,List.getElem_cons_succ,List.setIfInBounds_toArray,List.set_cons_zero,List.set_cons_succ]
      have HEC:=Lib.hid (end_cells (V:=w6) rfl s16 s26 mk6 (show w.heap.size+2<w5.heap.size by omega) BW6 (.pointer none) (.int .i64 10));go_wp2;generalize (w6.setCell ⟨w.heap.size+1,0,none⟩ (.pointer none)).setCell ⟨w.heap.size+1+1,0,none⟩ (.int .i64 10)=wS at *;obtain⟨u1,u2,u3,u4,_⟩:=HEC.out;refine leaves_marks (by simp) [w5.heap.size] wS.drew (u3.stp (Stp.refl noB wS).drew (fun _ _ h=>h)) fun w' hw'=>?_;have hDw:∀z,z<w5.heap.size->¬z∈[w5.heap.size]:=fun z hz h=>by
       rcases List.mem_cons.1 h with h|h
       ·omega
       ·cases h
      exact⟨_,res_cc rfl rfl (load_pf (hw'.blk u1.drew (hDw _ (by omega)))) rfl (load_er (hw'.blk u2.drew (hDw _ (by omega)))),HRes.out _ _ ((below_draw u4).trans (hw'.toBelow (show w.heap.size<=wS.heap.size from u4.size) (fun z hz=>hDw z (by omega)))) (.inr ⟨AL,HRS.out,.inl ⟨HER.out,rfl⟩⟩)⟩
    |some cm=>
     have HC1:=Lib.hid (show Calls Tryz.prog 65 #[.string y.t] wq fun e w'=>∃v,e=.returned v∧CmV w' cm v∧Below wq.heap.size wq w' from by
      refine HCO.out.mono ?_;rintro e w' ⟨hb,h⟩;rw[hc] at h;obtain⟨v,h1,h2⟩:=h;exact⟨v,h1,h2,hb⟩)
     have HC:=Lib.hid hc;clear HCO hc;go_upto_region 15 with (go_at_call 65;((with_reducible refine HC1.out.mono ?_);rintro e w6 ⟨v6,rfl,hcv,hb6⟩;obtain⟨ty,V6,rfl⟩:=hcv.ifc))
     have Br6:=below_tr Bq hb6;have s16:=s1r.below Br6 s1r.lt;have s26:=s2r.below Br6 s2r.lt;have mk6:=mkr.stp ((Stp.refl noB wr).below Br6 (Nat.le_refl _)) (fun _ _ h=>h);have BW6:=below_tr BWr Br6;have hF6:=hFr.on Br6;have lb6:=hF6.blk.lt;have xb6:=xb.below hb6 xb.lt;have hz6:=Br6.size;have HDO:=Lib.hid (fun W' (h:Below w6.heap.size w6 W')=>f_doV (hF6.on h) hIr (hL.on (below_tr BW6 h)) (hcv.on h));have HOK:=Lib.hid hcv.ok;clear p2 xb hcv HC1;have HP2:=Lib.hid (show plO (new x.val) 0 AL=if (doC cm L1.val).1≠0 then .error 10 else if (doC cm L1.val).2.lines[k]?≠some y then .error 10 else plO (doC cm L1.val).2 (k+1) (AL.drop (k+1)) by rw[HPL.out,plO,HC.out]);by_cases hE:(doC cm L1.val).1=0
     rotate_left
     ·have HER:=Lib.hid (show plO (new x.val) 0 AL=.error 10 by rw[HP2.out,if_pos hE]);clear HP2;refine wp_region_noPanic ?_;refine wp_region_any (by kernel_rfl) ?_;change wpAny _ _ _ _ _ _ _ (World.drew _)
      refine wpAny_take (i:=0) (oi:={dst:=some 43,op:=_,type:=_,pos:=_,after:=_,guard:=none}) (v:=?gv7) rfl (by kernel_rfl) (by kernel_rfl) (by kernel_rfl) (fun _ _ _ h=>h) (Or.inl ⟨by rfl,?gy7⟩) ?_
      case gy7=>(intro w';go_simp;try with_reducible rfl)
      try simp only[AP]
      refine wpAny_take (i:=1) (oi:={dst:=some 44,op:=_,type:=_,pos:=_,after:=_,guard:=none}) (v:=?gv8) rfl (by kernel_rfl) (by kernel_rfl) (by kernel_rfl) (fun _ _ _ h=>h) (Or.inl ⟨by rfl,?gy8⟩) ?_
      case gy8=>(intro w';go_simp;try with_reducible rfl)
      try simp only[AP]
      refine wpAny_take (i:=2) (oi:={dst:=some 45,op:=_,type:=_,pos:=_,after:=_,guard:=none}) (v:=?gv9) rfl (by kernel_rfl) (by kernel_rfl) (by kernel_rfl) (fun _ _ _ h=>h) (Or.inl ⟨by rfl,?gy9⟩) ?_
      case gy9=>(intro w';go_simp;try with_reducible rfl)
      try simp only[AP]
      refine wpAny_take (i:=3) (oi:={dst:=some 46,op:=_,type:=_,pos:=_,after:=_,guard:=some (2,false)}) (v:=?gv10) rfl (by kernel_rfl) (by kernel_rfl) (by kernel_rfl) (fun _ _ _ h=>h) (Or.inl ⟨by rfl,?gy10⟩) ?_
      case gy10=>(intro w';go_simp;try with_reducible rfl)
      try simp only[AP]
      refine wpAny_take (i:=4) (oi:={dst:=some 47,op:=_,type:=_,pos:=_,after:=_,guard:=some (2,false)}) (v:=?gv11) rfl (by kernel_rfl) (by kernel_rfl) (by kernel_rfl) (fun _ _ _ h=>h) (Or.inl ⟨by rfl,?gy11⟩) ?_
      case gy11=>(intro w';go_simp;try with_reducible rfl)
      try simp only[AP]
      refine wpAny_ready (rs:=[5]) (by kernel_rfl) (by simp) ?_;refine AllReady.cons rfl (fun K hK=>?_) AllReady.nil;go_simp
      (go_at_call 74;((with_reducible refine(HDO.out _ bl).mono ?_);rintro e w7 ⟨rfl,L2,T2,hv2,hf2⟩))
      refine hK _ _ ?_;clear hK K;try simp only[AP]
      refine wpAny_of_held (S:=fun Wx=>Wx=w7) _ _ _ _ ?_;have hSS:(fun Wx:World=>Wx=w7) w7:=rfl;refine wpAnyH_take (i:=6) (oi:={dst:=some 49,op:=_,type:=_,pos:=_,after:=_,guard:=some (2,false)}) (v:=.bool true) rfl (by kernel_rfl) (by kernel_rfl) (by kernel_rfl) (fun _ _ _ h=>h) (Or.inl ⟨by rfl,?gy12⟩) (by assumption) ?_
      case gy12=>(intro w' hSw;obtain rfl:w'=w7:=hSw;go_simp)
      try simp only[AP]
      refine tk 7 50 ?gv13 rfl ?_ (hy:=?gy13)
      case gy13=>(intro w' hSw;obtain rfl:w'=w7:=hSw;go_simp;try with_reducible rfl)
      try simp only[AP]
      refine tk 8 51 ?gv14 rfl ?_ (hy:=?gy14)
      case gy14=>(intro w' hSw;obtain rfl:w'=w7:=hSw;go_simp;try with_reducible rfl)
      try simp only[AP]
      refine tv 9 ?_;refine tv 10 ?_;refine tv 11 ?_;refine tv 12 ?_;refine tv 13 ?_;refine tv 14 ?_;refine tv 15 ?_;refine tv 16 ?_;refine tv 17 ?_;refine tv 18 ?_;refine tk 19 62 ?gv15 rfl ?_ (hy:=?gy15)
      case gy15=>(intro w' hSw;obtain rfl:w'=w7:=hSw;go_simp;try with_reducible rfl)
      try simp only[AP]
      refine wpAnyH_done (by kernel_rfl) (NoPanic.normal ?_) _;try simp only[Act.put,List.getElem_toArray,List.getElem_cons_zero,List.getElem_cons_succ,List.setIfInBounds_toArray,List.set_cons_zero,List.set_cons_succ]
      have s17:=hf2.stp.blk s16.drew (nF _ (by omega));have s27:=hf2.stp.blk s26.drew (nF _ (by omega));have mk7:=(mk6.stp (Stp.refl noB w6).drew (fun _ _ h=>h)).stp hf2.stp (fun D hD=>nF _ (by rcases List.mem_cons.1 hD with h|h;omega;cases h));have BW7:Below w.heap.size w w7:=below_stp (below_draw BW6) hf2.stp (fun g hg e=>by have:=hff g e;omega) (show w.heap.size<=w6.heap.size by omega);have c1:w7.cell? ⟨w.heap.size+1,0,none⟩=some (.pointer none):=s17.cell 0;have c2:w7.cell? ⟨w.heap.size+1+1,0,none⟩=some (.int .i64 0):=s27.cell 0;have f1:=s17.frozen 0;have f2:=s27.frozen 0;clear xb6;have HEC:=Lib.hid (end_cells (V:=w7) rfl s17 s27 mk7 (show w.heap.size+2<w5.heap.size by omega) BW7 (.pointer none) (.int .i64 10));go_wp2;generalize (w7.setCell ⟨w.heap.size+1,0,none⟩ (.pointer none)).setCell ⟨w.heap.size+1+1,0,none⟩ (.int .i64 10)=wS at *;obtain⟨u1,u2,u3,u4,_⟩:=HEC.out;refine leaves_marks (by simp) [w5.heap.size] wS (u3.stp (Stp.refl noB wS) (fun _ _ h=>h)) fun w' hw'=>?_;have hDw:∀z,z<w5.heap.size->¬z∈[w5.heap.size]:=fun z hz h=>by
       rcases List.mem_cons.1 h with h|h
       ·omega
       ·cases h
      exact⟨_,res_cc rfl rfl (load_pf (hw'.blk u1 (hDw _ (by omega)))) rfl (load_er (hw'.blk u2 (hDw _ (by omega)))),HRes.out _ _ (u4.trans (hw'.toBelow (show w.heap.size<=wS.heap.size from u4.size) (fun z hz=>hDw z (by omega)))) (.inr ⟨AL,HRS.out,.inl ⟨HER.out,rfl⟩⟩)⟩
     ·have HL2:=Lib.hid (fun(L2:LS) (h:L2.val=(doC cm L1.val).2)=>(show L2.lines.l.length=k+1 by
       have h1:=doC_len hE;rw[←h] at h1;have h2:L2.val.lines.length=L2.lines.l.length:=rfl;have h3:L1.val.lines.length=L1.lines.l.length:=rfl;have:=HLn.out;omega))
      have nX:∀z,z=wr.heap.size->¬Foot b L1 z:=fun z e h=>by have:=hFt z h;omega
      refine wp_region_noPanic ?_;refine wp_region_any (by kernel_rfl) ?_;change wpAny _ _ _ _ _ _ _ (World.drew _)
      refine wpAny_take (i:=0) (oi:={dst:=some 43,op:=_,type:=_,pos:=_,after:=_,guard:=none}) (v:=?gv16) rfl (by kernel_rfl) (by kernel_rfl) (by kernel_rfl) (fun _ _ _ h=>h) (Or.inl ⟨by rfl,?gy16⟩) ?_
      case gy16=>(intro w';go_simp;try with_reducible rfl)
      try simp only[AP]
      refine wpAny_take (i:=1) (oi:={dst:=some 44,op:=_,type:=_,pos:=_,after:=_,guard:=none}) (v:=?gv17) rfl (by kernel_rfl) (by kernel_rfl) (by kernel_rfl) (fun _ _ _ h=>h) (Or.inl ⟨by rfl,?gy17⟩) ?_
      case gy17=>(intro w';go_simp;try with_reducible rfl)
      try simp only[AP]
      refine wpAny_take (i:=2) (oi:={dst:=some 45,op:=_,type:=_,pos:=_,after:=_,guard:=none}) (v:=?gv18) rfl (by kernel_rfl) (by kernel_rfl) (by kernel_rfl) (fun _ _ _ h=>h) (Or.inl ⟨by rfl,?gy18⟩) ?_
      case gy18=>(intro w';go_simp;try with_reducible rfl)
      try simp only[AP]
      refine wpAny_take (i:=3) (oi:={dst:=some 46,op:=_,type:=_,pos:=_,after:=_,guard:=some (2,false)}) (v:=?gv19) rfl (by kernel_rfl) (by kernel_rfl) (by kernel_rfl) (fun _ _ _ h=>h) (Or.inl ⟨by rfl,?gy19⟩) ?_
      case gy19=>(intro w';go_simp;try with_reducible rfl)
      try simp only[AP]
      refine wpAny_take (i:=4) (oi:={dst:=some 47,op:=_,type:=_,pos:=_,after:=_,guard:=some (2,false)}) (v:=?gv20) rfl (by kernel_rfl) (by kernel_rfl) (by kernel_rfl) (fun _ _ _ h=>h) (Or.inl ⟨by rfl,?gy20⟩) ?_
      case gy20=>(intro w';go_simp;try with_reducible rfl)
      try simp only[AP]
      refine wpAny_ready (rs:=[5]) (by kernel_rfl) (by simp) ?_;refine AllReady.cons rfl (fun K hK=>?_) AllReady.nil;go_simp
      (go_at_call 74;((with_reducible refine(HDO.out _ bl).mono ?_);rintro e w7 ⟨rfl,L2,T2,hv2,hf2⟩;have hl2:=HL2.out L2 hv2;have c24:=hf2.at_.cel 24 _ (show L2.cs[24]?=some (.slice L2.lines.a L2.lines.l.length L2.lines.c) from rfl);have hrw:=own_rd' En.cs_len hf2.at_.row;obtain⟨z,g2,o2,hz2,hA2,lg2,d0,d1,d2,d3⟩:=rdEn hrw (k:=k) (by omega);rw[hA2,hl2] at c24;have xb7:=hf2.stp.blk xb6.drew (nX _ rfl);have p0:=xb7.cell 0;have p1:=xb7.cell 1;have p2:=xb7.cell 2;have p3:=xb7.cell 3;simp only[GA] at p0 p1 p2 p3;obtain⟨DD,hDD⟩:∃DD,decide (z=y)=DD:=⟨_,rfl⟩;have HDD:=Lib.hid hDD;have HZ2:=Lib.hid hz2;clear hDD hz2 hl2 hA2 hrw xb7;have ik:k<k+1:=Nat.lt_succ_self k;have ik2:(k:Int)<(k:Int)+1:=by omega))
      refine hK _ _ ?_;clear hK K;try simp only[AP]
      refine wpAny_of_held (S:=fun Wx=>Wx=w7) _ _ _ _ ?_;have hSS:(fun Wx:World=>Wx=w7) w7:=rfl;refine tg 6 49 2 false ?gv21 rfl ?_ (hy:=?gy21)
      case gy21=>(intro w' hSw;obtain rfl:w'=w7:=hSw;go_simp;try with_reducible rfl)
      try simp only[AP]
      refine tk 7 50 ?gv22 rfl ?_ (hy:=?gy22)
      case gy22=>(intro w' hSw;obtain rfl:w'=w7:=hSw;go_simp;try with_reducible rfl)
      try simp only[AP]
      refine tk 8 51 ?gv23 rfl ?_ (hy:=?gy23)
      case gy23=>(intro w' hSw;obtain rfl:w'=w7:=hSw;go_simp;try with_reducible rfl)
      try simp only[AP]
      refine tg 9 52 8 false ?gv24 rfl ?_ (hy:=?gy24)
      case gy24=>(intro w' hSw;obtain rfl:w'=w7:=hSw;go_simp;try with_reducible rfl)
      try simp only[AP]
      refine tg 10 53 8 false ?gv25 rfl ?_ (hy:=?gy25)
      case gy25=>(intro w' hSw;obtain rfl:w'=w7:=hSw;go_simp;try with_reducible rfl)
      try simp only[AP]
      refine tg 11 54 8 false ?gv26 rfl ?_ (hy:=?gy26)
      case gy26=>(intro w' hSw;obtain rfl:w'=w7:=hSw;go_simp;try with_reducible rfl)
      try simp only[AP]
      refine tg 12 55 8 false ?gv27 rfl ?_ (hy:=?gy27)
      case gy27=>(intro w' hSw;obtain rfl:w'=w7:=hSw;go_simp;try with_reducible rfl)
      try simp only[AP]
      refine tg 13 56 8 false ?gv28 rfl ?_ (hy:=?gy28)
      case gy28=>(intro w' hSw;obtain rfl:w'=w7:=hSw;go_simp;try with_reducible rfl)
      try simp only[AP]
      refine tg 14 57 8 false ?gv29 rfl ?_ (hy:=?gy29)
      case gy29=>(intro w' hSw;obtain rfl:w'=w7:=hSw;go_simp;try with_reducible rfl)
      try simp only[AP]
      refine tg 15 58 8 false ?gv30 rfl ?_ (hy:=?gy30)
      case gy30=>(intro w' hSw;obtain rfl:w'=w7:=hSw;go_simp;try with_reducible rfl)
      try simp only[AP]
      refine tg 16 59 8 false ?gv31 rfl ?_ (hy:=?gy31)
      case gy31=>(intro w' hSw;obtain rfl:w'=w7:=hSw;go_simp;try with_reducible rfl)
      try simp only[AP]
      refine tg 17 60 8 false ?gv32 rfl ?_ (hy:=?gy32)
      case gy32=>(intro w' hSw;obtain rfl:w'=w7:=hSw;go_simp;try with_reducible rfl)
      try simp only[AP]
      refine wpAnyH_take (i:=18) (oi:={dst:=some 61,op:=_,type:=_,pos:=_,after:=_,guard:=some (8,false)}) (v:=.bool (!DD)) rfl (by kernel_rfl) (by kernel_rfl) (by kernel_rfl) (fun _ _ _ h=>h) (Or.inl ⟨by rfl,?gy33⟩) (by assumption) ?_
      case gy33=>(intro w' hSw;obtain rfl:w'=w7:=hSw;go_simp;exact neq_if z y HDD.out (fun b=>Result.ok (Next.value (Value.bool b)) w'))
      try simp only[AP]
      refine tk 19 62 ?gv34 rfl ?_ (hy:=?gy34)
      case gy34=>(intro w' hSw;obtain rfl:w'=w7:=hSw;go_simp;try with_reducible rfl)
      try simp only[AP]
      refine wpAnyH_done (by kernel_rfl) (NoPanic.normal ?_) _;try simp only[Act.put,List.getElem_toArray,List.getElem_cons_zero,List.getElem_cons_succ,List.setIfInBounds_toArray,List.set_cons_zero,List.set_cons_succ]
      have HLK:=Lib.hid (show(doC cm L1.val).2.lines[k]?=some z by rw[←hv2];exact HZ2.out);clear p0 p1 p2 p3 c24 d0 d1 d2 d3 lg2 xb6 hSS;cases DD
      ·have HER:=Lib.hid (show plO (new x.val) 0 AL=.error 10 by
        rw[HP2.out,if_neg (by rw[hE];simp),if_pos];rw[HLK.out];intro e;exact of_decide_eq_false HDD.out (Option.some.inj e))
       clear HP2;have s17:=hf2.stp.blk s16.drew (nF _ (by omega));have s27:=hf2.stp.blk s26.drew (nF _ (by omega));have mk7:=(mk6.stp (Stp.refl noB w6).drew (fun _ _ h=>h)).stp hf2.stp (fun D hD=>nF _ (by rcases List.mem_cons.1 hD with h|h;omega;cases h));have BW7:Below w.heap.size w w7:=below_stp (below_draw BW6) hf2.stp (fun g hg e=>by have:=hff g e;omega) (show w.heap.size<=w6.heap.size by omega);have c1:w7.cell? ⟨w.heap.size+1,0,none⟩=some (.pointer none):=s17.cell 0;have c2:w7.cell? ⟨w.heap.size+1+1,0,none⟩=some (.int .i64 0):=s27.cell 0;have f1:=s17.frozen 0;have f2:=s27.frozen 0;have HEC:=Lib.hid (end_cells (V:=w7) rfl s17 s27 mk7 (show w.heap.size+2<w5.heap.size by omega) BW7 (.pointer none) (.int .i64 10));go_wp2;generalize (w7.setCell ⟨w.heap.size+1,0,none⟩ (.pointer none)).setCell ⟨w.heap.size+1+1,0,none⟩ (.int .i64 10)=wS at *;obtain⟨u1,u2,u3,u4,u5⟩:=HEC.out;refine leaves_marks (by simp) [w5.heap.size] wS (u3.stp (Stp.refl noB wS) (fun _ _ h=>h)) fun w' hw'=>?_;have hDw:∀z,z<w5.heap.size->¬z∈[w5.heap.size]:=fun z hz h=>by
        rcases List.mem_cons.1 h with h|h
        ·omega
        ·cases h
       exact⟨_,res_cc rfl rfl (load_pf (hw'.blk u1 (hDw _ (by omega)))) rfl (load_er (hw'.blk u2 (hDw _ (by omega)))),HRes.out _ _ (u4.trans (hw'.toBelow (show w.heap.size<=wS.heap.size from u4.size) (fun z hz=>hDw z (by omega)))) (.inr ⟨AL,HRS.out,.inl ⟨HER.out,rfl⟩⟩)⟩
      ·have hzy:z=y:=of_decide_eq_true HDD.out;have HPN:=Lib.hid (show plO (new x.val) 0 AL=plO L2.val (k+1) (AL.drop (k+1)) by
        rw[HP2.out,if_neg (by rw[hE];simp),if_neg (by rw[HLK.out,hzy];simp),hv2])
       have HM2:=Lib.hid (show RdM W b L0 T0 x.val AL (k+1) w7 L2 T2 from⟨((hM.fut.trans (Fut.of_below hFr Br6)).trans (Fut.of_below hF6 (below_draw (below_refl w6)))).trans hf2,by rw[hv2];exact inv_doC hIr HOK.out,HL2.out L2 hv2,HPN.out⟩);clear hzy HP2 hv2 hf2 hE hM HLK;go_wp2;go_roundw
       case rel=>exact⟨k+1,by omega,by go_num,L2,T2,HM2⟩
       case measure=>simp[RowKit.intOf];omega
   ·obtain rfl:n=k:=by omega
    have hM:=HM.out;have hfr:=hM.fut.cut;have nF:∀z,z<w1.heap.size∨(w2.heap.size<=z∧z<W.heap.size)->¬Foot b L1 z:=fun z hz hf=>by
     rcases hM.fut.ff z hf with h|h
     ·have:=hNF z h;have:=hfl z h;omega
     ·omega
    have nF0:∀z,z<w1.heap.size∨(w2.heap.size<=z∧z<W.heap.size)->¬Foot b L0 z:=fun z hz hf=>by
     have:=hNF z hf;have:=hfl z hf;omega
    have hTT:∀g,T1 g->w1.heap.size<=g∧(g<w2.heap.size∨W.heap.size<=g):=fun g hg=>by
     rcases hM.fut.tt g hg with h|h
     ·have:=hNT g h;omega
     ·omega
    have s1r:=hM.fut.stp.blk s1 (nF0 _ (by omega));have s2r:=hM.fut.stp.blk s2 (nF0 _ (by omega));have mkr:Marks wr [w5.heap.size]:=HMK.out.stp hM.fut.stp (fun D hD=>nF0 _ (by rcases List.mem_cons.1 hD with h|h;omega;cases h));have c1:wr.cell? ⟨w.heap.size+1,0,none⟩=some (.pointer none):=s1r.cell 0;have c2:wr.cell? ⟨w.heap.size+1+1,0,none⟩=some (.int .i64 0):=s2r.cell 0;have f1:=s1r.frozen 0;have f2:=s2r.frozen 0;have HOK:=Lib.hid (show plO (new x.val) 0 AL=.ok L1.val by rw[hM.pl,List.drop_of_length_le (Nat.le_of_eq HN.out),plO]);have HI:=Lib.hid hM.inv;have HFR:=Lib.hid hfr.at_;clear hfr hM;have HEC:=Lib.hid (end_cells (V:=wr) rfl s1r s2r mkr (show w.heap.size+2<w5.heap.size by omega) BWr (.pointer (some ⟨b,0,none⟩)) (.int .i64 0));go_wp2;generalize (wr.setCell ⟨w.heap.size+1,0,none⟩ (.pointer (some ⟨b,0,none⟩))).setCell ⟨w.heap.size+1+1,0,none⟩ (.int .i64 0)=wS at *;obtain⟨u1,u2,u3,u4,u5⟩:=HEC.out;refine leaves_marks (by simp) [w5.heap.size] wS (u3.stp (Stp.refl noB wS) (fun _ _ h=>h)) fun w' hw'=>?_;have hDw:∀z,z<w5.heap.size->¬z∈[w5.heap.size]:=fun z hz h=>by
     rcases List.mem_cons.1 h with h|h
     ·omega
     ·cases h
    have hz9:=hw'.size;have hz8:=u5.size;have hA1:=HFR.out.stp u5 (fun g hg hn=>by have:=hTT g hg.1;omega) (fun g hg hn=>nF g (by omega) hg);have hA2:=hA1.stp hw' (fun g hg hn=>by
     have:=hTT g hg.1;rcases List.mem_cons.1 hn with h|h
     ·omega
     ·cases h) (fun g hg hn=>nF g (by
     rcases List.mem_cons.1 hn with h|h
     ·omega
     ·cases h) hg)
    exact⟨_,res_cc rfl rfl (load_pf (hw'.blk u1 (hDw _ (by omega)))) rfl (load_er (hw'.blk u2 (hDw _ (by omega)))),HRes.out _ _ (u4.trans (hw'.toBelow (show w.heap.size<=wS.heap.size from u4.size) (fun z hz=>hDw z (by omega)))) (.inr ⟨AL,HRS.out,.inr ⟨L1.val,HOK.out,b,L1,_,rfl,hA2,rfl,HI.out,fun g hg=>⟨by have:=hTT g hg.1;omega,by have:=hg.2;omega⟩,fun g hg=>by have:=hff g hg;omega⟩⟩)⟩
end Go.Proofs.YtjkkfcghkeoedaaGreatDoor.Fi
