/- The parts of the proof, part 31. -/
import Derived.Test.YtjkkfcghkeoedaaGreatDoorR0
import Derived.Test.YtjkkfcghkeoedaaGreatDoorR18
import Derived.Test.YtjkkfcghkeoedaaGreatDoorR30
import Derived.Stop.RegionWithIn
set_option maxHeartbeats 16000000
set_option maxRecDepth 20000
set_option linter.unusedSimpArgs false
set_option linter.unusedVariables false
namespace Go.Proofs.YtjkkfcghkeoedaaGreatDoor.Fi
open Go.RowKit Go.Lib Go.Maps Tx
def rsM (w:Wl) (k x:Nat):Int:=if k<=x then rsA w x else 0
def rsI (w:Wl) (f j:Nat):Int:=((List.range j).map (fun i=>f+1+i)).foldl (rsS w (rsA w) f) (rs0 w f)
theorem rsI_zero (w:Wl) (f:Nat):rsI w f 0=rs0 w f:=rfl
theorem rsI_step (w:Wl) (f j:Nat):rsI w f (j+1)=rsS w (rsA w) f (rsI w f j) (f+1+j):=by
 unfold rsI;rw[List.range_succ,List.map_append,List.foldl_append];rfl
theorem rsI_bd (w:Wl) (f j:Nat):0<=rsI w f j∧rsI w f j<=w.d.length+1:=by
 unfold rsI;rw[rsS_fold];have h0:=rs0_01 w f;refine upF_bd _ _ _ (by omega) (by omega) fun m hm=>?_;obtain⟨x,hx,rfl⟩:=List.mem_map.1 hm;have:=(rsA_le w x).2;omega
def rsJ (w:Wl) (f:Nat) (a:Int) (x:Nat):Int:=if x=f then a else rsM w (f+1) x
theorem rsJ_put (w:Wl) (f:Nat) (a a':Int):(fun x=>if x=f then a' else rsJ w f a x)=rsJ w f a':=by funext x;unfold rsJ;split<;>simp_all
theorem rsM_all (w:Wl):rsM w 0=rsA w:=by funext x;unfold rsM;rw[if_pos (by omega)]
theorem rsM_none (w:Wl):rsM w w.d.length=fun _=>0:=by
 funext x;unfold rsM;split
 ·exact rsA_out (by omega)
 ·rfl
theorem rsM_start (w:Wl) (f:Nat):rsM w (f+1)=rsJ w f 0:=by
 funext x;unfold rsJ;split
 ·rename_i h;unfold rsM;rw[if_neg (by omega)]
 ·rfl
theorem rsM_done {w:Wl} {f:Nat} (h:f<w.d.length):rsJ w f (rsI w f (w.d.length-(f+1)))=rsM w f:=by
 funext x
 unfold rsJ;split
 ·rename_i h1;unfold rsM;rw[h1,if_pos (Nat.le_refl _),rsA_eq h];rfl
 ·rename_i h1;unfold rsM
  by_cases h2:f+1<=x
  ·rw[if_pos h2,if_pos (by omega)]
  ·rw[if_neg h2,if_neg (by omega)]
theorem w_rests (x:LWl) (W:World) (h:WlAt W x):
  Calls Tryz.prog 224 #[.agg x.A] W fun e w'=>∃b n,e=.returned (.map (some b))∧W.heap.size<=b∧n<=100000∧MpIs w' b n (rsA x.w)∧Below W.heap.size W w':=by
 have x0:=Blk.new W 273 x.A;have B0:=bl_alloc (below_refl W) (.cells x.A 273);have hmm:=@run_makeMap Tryz.prog;have hdl:=h.dl;have b0:=x0.cell 0;have b1:=x0.cell 1;have b2:=x0.cell 2;have b3:=x0.cell 3;have b4:=x0.cell 4;have b5:=x0.cell 5;have b6:=x0.cell 6;have b7:=x0.cell 7;simp only[GA] at b0 b1 b2 b3 b4 b5 b6 b7;go_enter Tryz.func224,Tryz.ntmps224
 go_upto_region 3 with fail
 have hm3:=mp_made (W.alloc (.cells x.A 273));rw[World.size_alloc] at hm3;have B3:=bl_alloc B0 (.map #[] 0);have x3:=x0.alloc (.map #[] 0);have hz3:W.heap.size+2<=((W.alloc (.cells x.A 273)).alloc (.map #[] 0)).heap.size:=by simp
 clear b0 b1 b2 b3 b4 b5 b6 b7 x0 B0 hmm;generalize (W.alloc (.cells x.A 273)).alloc (.map #[] 0)=w3 at *;have HBX:Hid (∀wr,Stp (fun y=>y=W.heap.size+1) w3 wr->Blk wr W.heap.size 273 x.A∧Below W.heap.size W wr∧WlAt wr x):=hid fun wr hs=>
  ⟨hs.blk x3 (by omega),B3.trans (hs.toBelow (by omega) (fun b hb=>by omega)),⟨h.jb,h.fi,h.ga,h.tp,h.le,h.la,h.st,h.din,h.dl,rd_keep h.rj B3 hs (by omega),rd_keep h.rd B3 hs (by omega)⟩⟩
 have hM0:=rsM_none x.w;have hwz:IntKind.i64.wrap ((x.w.d.length:Int)-1)=(x.w.d.length:Int)-1:=fits_wrap ⟨by omega,by omega⟩;clear x3 B3 h;go_wp2;go_loopw [4] (fun i wr=>∃k n:Nat,k<=x.w.d.length∧i=.int .i64 ((k:Int)-1)∧Stp (fun y=>y=W.heap.size+1) w3 wr∧MpIs wr (W.heap.size+1) n (rsM x.w k)∧n<=300*(x.w.d.length-k)) (fun i _=>(RowKit.intOf i+1).toNat)
 case atStart=>exact⟨x.w.d.length,0,by omega,rfl,Stp.refl _ _,by rw[hM0];exact hm3,by omega⟩
 case round=>
  obtain⟨k,n,hk,rfl,hst,hmp,hnk⟩:=hrel;rename World=>wr
  cases k with
  |zero=>
   obtain⟨hbx,hbw,hwl⟩:=HBX.out wr hst;rw[rsM_all] at hmp;clear hbx hwl;go_wp2;go_ret;exact⟨_,n,rfl,by omega,by omega,hmp,hbw⟩
  |succ f=>
   have k0:=nn f;have hf:f<x.w.d.length:=by omega
   have hff:((f+1:Nat):Int)-1=(f:Int):=by omega
   obtain⟨hbx,hbw,hwl⟩:=HBX.out wr hst;have b0:=hbx.cell 0;have b1:=hbx.cell 1;have b2:=hbx.cell 2;have b3:=hbx.cell 3;have b4:=hbx.cell 4;have b5:=hbx.cell 5;have b6:=hbx.cell 6;have b7:=hbx.cell 7;simp only[GA] at b0 b1 b2 b3 b4 b5 b6 b7;rw[hff];have HEN:=hid (fun v (hv:endB x.w f=v)=>w_endsV hv hwl hf);have hmp2:=mp_eq hmp (rsM_start x.w f);have hkey:keyOf Tryz.prog 3 (.int .i64 (f:Nat))=some (G.kyZ (f:Nat)):=G.keyZ (WalkArith.wf_i64 (by omega));have hRS:=rsI_zero x.w f;have h01:=rs0_01 x.w f;have hwf:IntKind.i64.wrap ((f:Int)+1)=(f:Int)+1:=fits_wrap ⟨by omega,by omega⟩;clear hmp hbx;have BD:∀V,Below wr.heap.size wr V->Stp (fun y=>y=W.heap.size+1) w3 V:=fun V hb=>hst.below hb hst.size;have HE:=hid (HEN.out _ rfl);go_upto_if 19 with (go_at_call 248;((with_reducible refine HE.out.mono ?_);rintro e w5 ⟨rfl,hb5⟩))
   go_cut [] (fun wx=>Stp (fun y=>y=W.heap.size+1) w3 wx∧∃n',n'<=n+1∧MpIs wx (W.heap.size+1) n' (rsJ x.w f (rs0 x.w f)))
   case first=>
    have hmp5:=mp_on hmp2 hb5;have hst5:=BD _ hb5;cases hL:endB x.w f
    ·go_wp2;go_meet
     exact⟨hst5,n,by omega,by unfold rs0;rw[hL,if_neg (by simp)];exact hmp5⟩
    ·obtain⟨D,hoz,htd,hfd⟩:=hmp5
     go_wp2_with (first
      |(at_mapUpdate;refine wpList_mapUpdate_own _ rfl _ _ _ 305 rfl 3 3 G.lawZ G.und_mapZ _ (W.heap.size+1) n _ rfl hoz (by unfold maxLen;omega) _ _ _ rfl rfl hkey _ [] (plainElem_int G.und_int (WalkArith.wf_i64 (by omega))) ?_;intro w6 hown6 hgrow6)
      |go_in)
     have hst6:=hst5.grown hgrow6 (fun r h=>by injection h with h;exact .inl h.symm);have hm6:=mp_eq (mp_put htd hfd (by decide) hown6) (rsJ_put _ _ _ _);clear hown6 hgrow6 hoz;go_wp2;go_meet
     exact⟨hst6,n+1,by omega,by unfold rs0;rw[hL,if_pos rfl];exact hm6⟩
   case rest=>
    obtain⟨hst5,n5,hn5,hm5⟩:=hcut;clear hmp2 BD HE HEN hst hbw hwl;clear b0 b1 b2 b3 b4 b5 b6 b7;generalize wc=w6 at *;go_wp2;go_loopw [5] (fun i wv=>∃j m:Nat,f+1+j<=x.w.d.length∧i=.int .i64 ((f+1+j:Nat):Int)∧Stp (fun y=>y=W.heap.size+1) w3 wv∧MpIs wv (W.heap.size+1) m (rsJ x.w f (rsI x.w f j))∧m<=n5+j) (fun i _=>x.w.d.length-(RowKit.intOf i).toNat)
    case atStart=>exact⟨0,n5,by omega,by congr 1,hst5,by rw[hRS];exact hm5,by omega⟩
    case round=>
     obtain⟨j,m,hj,rfl,hst6,hm6,hmj⟩:=hrel;rename World=>wv
     obtain⟨hbx,hbw,hwl⟩:=HBX.out wv hst6;have b0:=hbx.cell 0;have b1:=hbx.cell 1;have b2:=hbx.cell 2;have b3:=hbx.cell 3;have b4:=hbx.cell 4;have b5:=hbx.cell 5;have b6:=hbx.cell 6;have b7:=hbx.cell 7;simp only[GA] at b0 b1 b2 b3 b4 b5 b6 b7;clear hbx;have HSN0:=hid (rsI_step x.w f j);generalize hy:f+1+j=y at *;have HY:=hid hy;have hyj:j=y-(f+1)∧f+1<=y:=by omega
     have j0:=nn y;have BD6:∀V,Below wv.heap.size wv V->Stp (fun y=>y=W.heap.size+1) w3 V:=fun V h=>hst6.below h hst6.size;by_cases hjk:y<x.w.d.length
     ·have j1:(y:Int)<(x.w.d.length:Int):=by omega
      have hyf:y≠f:=by omega
      have hval:rsJ x.w f (rsI x.w f j) y=rsA x.w y:=by unfold rsJ;rw[if_neg hyf];unfold rsM;rw[if_pos (by omega)]
      have hself:rsJ x.w f (rsI x.w f j) f=rsI x.w f j:=by unfold rsJ;simp
      have hlo:=mp_look_ok hm6 y (by omega);rw[hval] at hlo;have HSN:=HSN0;clear HSN0;have hnb:=rsA_le x.w y;have hab2:=rsI_bd x.w f j;have HLK:Hid (∀V,Below wv.heap.size wv V->(Instr.lookup 305 (.map (some (W.heap.size+1))) (.int .i64 (f:Nat)) false).run Tryz.prog V=.ok (.int .i64 (rsI x.w f j)) V):=hid fun V h=>by
       have:=mp_look (mp_on hm6 h) f (by omega);rwa [hself] at this
      have HAF:=hid (fun v (h:aftB x.w (f:Int) y=v)=>w_afterV h hwl hjk (show(f:Int)<(x.w.d.length:Int) by omega));clear hy hval hself hwl;generalize rsI x.w f j=aj at *;unfold rsS at HSN;by_cases hN0:rsA x.w y=0
      ·rw[hN0] at hlo HSN;have hlo2:(Instr.lookup 305 (.map (some (W.heap.size+1))) (.int .i64 (y:Nat)) true).run Tryz.prog wv=.ok (.tuple #[.int .i64 0,.bool false]) wv:=hlo;have HS2:=hid (show rsI x.w f (j+1)=aj by
        rw[HSN.out];split
        ·exact upM_no (by omega)
        ·rfl)
       clear HSN hlo HAF HLK;go_wp2;go_roundw
       case rel=>exact⟨j+1,m,by omega,by rw[show f+1+(j+1)=y+1 by have:=HY.out;omega];go_num,hst6,by rw[HS2.out];exact hm6,by omega⟩
       case measure=>simp[RowKit.intOf];omega
      ·have hN1:0<rsA x.w y:=by omega
       have hlo2:(Instr.lookup 305 (.map (some (W.heap.size+1))) (.int .i64 (y:Nat)) true).run Tryz.prog wv=.ok (.tuple #[.int .i64 (rsA x.w y),.bool true]) wv:=by rw[hlo,decide_eq_true hN0]
       generalize rsA x.w y=N at *;clear hlo;cases hv:aftB x.w (f:Int) y
       ·have HF:=hid (HAF.out _ hv);have HS2:=hid (show rsI x.w f (j+1)=aj by rw[HSN.out,hv];rfl);clear HAF HSN;go_wp2_with (go_at_call 227;((with_reducible refine HF.out.mono ?_);rintro e w7 ⟨rfl,hb7⟩;have hl7:=HLK.out w7 hb7))
        go_roundw
        case rel=>exact⟨j+1,m,by omega,by rw[show f+1+(j+1)=y+1 by have:=HY.out;omega];go_num,BD6 _ hb7,by rw[HS2.out];exact mp_on hm6 hb7,by omega⟩
        case measure=>simp[RowKit.intOf];omega
       ·have HF:=hid (HAF.out _ hv);rw[hv,if_pos rfl] at HSN;have hwN:IntKind.i64.wrap (N+1)=N+1:=fits_wrap ⟨by omega,by omega⟩;clear HAF hv;by_cases hup:aj=0∨N+1<aj
        ·have HS2:=hid (show rsI x.w f (j+1)=N+1 by rw[HSN.out];unfold upM;rw[if_pos ⟨hN1,hup⟩]);clear HSN;rcases (by omega:aj=0∨(¬aj=0∧N+1<aj)) with h0|⟨h0,h1⟩
         ·subst h0;go_upto_region 12 with (go_at_call 227;((with_reducible refine HF.out.mono ?_);rintro e w7 ⟨rfl,hb7⟩;have hl7:=HLK.out w7 hb7))
          obtain⟨D,hoz,htd,hfd⟩:=mp_on hm6 hb7;have hst7:=BD6 _ hb7
          go_wp2_with (first
           |(at_mapUpdate;refine wpList_mapUpdate_own _ rfl _ _ _ 305 rfl 3 3 G.lawZ G.und_mapZ _ (W.heap.size+1) m _ rfl hoz (by unfold maxLen;omega) _ _ _ rfl rfl hkey _ [] (plainElem_int G.und_int (WalkArith.wf_i64 (by omega))) ?_;intro w8 hown8 hgrow8)
           |go_in)
          have hst8:=hst7.grown hgrow8 (fun r h=>by injection h with h;exact .inl h.symm);have hm8:=mp_eq (mp_put htd hfd (show N+1≠0 by omega) hown8) (rsJ_put _ _ _ _);clear hown8 hgrow8 hoz;go_wp2;go_roundw
          case rel=>exact⟨j+1,m+1,by omega,by rw[show f+1+(j+1)=y+1 by have:=HY.out;omega];go_num,hst8,by rw[HS2.out];exact hm8,by omega⟩
          case measure=>simp[RowKit.intOf];omega
         ·have g0:(aj==0)=false:=beq_eq_false_iff_ne.2 h0;go_upto_region 12 with (go_at_call 227;((with_reducible refine HF.out.mono ?_);rintro e w7 ⟨rfl,hb7⟩;have hl7:=HLK.out w7 hb7))
          obtain⟨D,hoz,htd,hfd⟩:=mp_on hm6 hb7;have hst7:=BD6 _ hb7
          go_wp2_with (first
           |(at_mapUpdate;refine wpList_mapUpdate_own _ rfl _ _ _ 305 rfl 3 3 G.lawZ G.und_mapZ _ (W.heap.size+1) m _ rfl hoz (by unfold maxLen;omega) _ _ _ rfl rfl hkey _ [] (plainElem_int G.und_int (WalkArith.wf_i64 (by omega))) ?_;intro w8 hown8 hgrow8)
           |go_in)
          have hst8:=hst7.grown hgrow8 (fun r h=>by injection h with h;exact .inl h.symm);have hm8:=mp_eq (mp_put htd hfd (show N+1≠0 by omega) hown8) (rsJ_put _ _ _ _);clear hown8 hgrow8 hoz;go_wp2;go_roundw
          case rel=>exact⟨j+1,m+1,by omega,by rw[show f+1+(j+1)=y+1 by have:=HY.out;omega];go_num,hst8,by rw[HS2.out];exact hm8,by omega⟩
          case measure=>simp[RowKit.intOf];omega
        ·have HS2:=hid (show rsI x.w f (j+1)=aj by rw[HSN.out];unfold upM;rw[if_neg (fun h=>hup h.2)]);have g0:(aj==0)=false:=beq_eq_false_iff_ne.2 (fun h=>hup (.inl h));have g1:¬N+1<aj:=fun h=>hup (.inr h);clear HSN hup;go_wp2_with (go_at_call 227;((with_reducible refine HF.out.mono ?_);rintro e w7 ⟨rfl,hb7⟩;have hl7:=HLK.out w7 hb7))
         go_roundw
         case rel=>exact⟨j+1,m,by omega,by rw[show f+1+(j+1)=y+1 by have:=HY.out;omega];go_num,BD6 _ hb7,by rw[HS2.out];exact mp_on hm6 hb7,by omega⟩
         case measure=>simp[RowKit.intOf];omega
     ·have hjj:j=x.w.d.length-(f+1):=by omega
      have j1:¬(y:Int)<(x.w.d.length:Int):=by omega
      have HE:=hid (show rsJ x.w f (rsI x.w f j)=rsM x.w f by rw[hjj];exact rsM_done hf);rw[HE.out] at hm6;have hw1:IntKind.i64.wrap ((f:Int)-1)=(f:Int)-1:=fits_wrap ⟨by omega,by omega⟩;clear hy hwl;go_wp2;go_roundw
      case rel=>exact⟨f,m,by omega,rfl,hst6,hm6,by omega⟩
      case measure=>simp[RowKit.intOf]
end Go.Proofs.YtjkkfcghkeoedaaGreatDoor.Fi
namespace Go.Proofs.YtjkkfcghkeoedaaGreatDoor
open Go.RowKit Go.Shelf
def SeqIsS {α:Type} (n:Nat) (P:Program) (g:Nat) (lb:Array Value) (E:α->Array Value->(Nat->Prop)->World->Nat->Prop) (xs:List α) (R:Nat->Prop) (w0:World):Prop:=
 ∀(l:Nat) (J Jx:List α->(Nat->Prop)->World->Prop) (W:World),Stp (fun b=>¬R b) w0 W->AbideIt W.heap.size J->AbideIt W.heap.size Jx->(∀s M W1,J s M W1->s=[]) ->
  (∀pre x rest M W1 vs,xs=pre++x::rest->J pre M W1->E x vs M W1 W.heap.size->YieldAt Fence.wide (n-1) P l vs W1 fun e W'=>
   (e=.returned (.bool true)∧J (pre++[x]) M W'∧Stp (fun b=>¬(M b∨R b)) W1 W')∨(e=.returned (.bool false)∧Jx (pre++[x]) M W')) ->
  J [] (fun _=>False) W ->
  CallsIn Fence.wide n P g (#[.func (.yield l) #[] #[]]++lb) W fun e W'=>(∃v,e=.returned v)∧((∃M,J xs M W')∨(∃pre rest M,xs=pre++rest∧Jx pre M W'))
theorem wp_rangeS {α:Type} {n:Nat} {P:Program} {g:Operand} {ps:Array Tmp} {assign body:Code} {Q:Exit->Act->World->Prop} {a:Act} {w:World}
  (h1:1<=n) {gf:Nat} {lb:Array Value} (hg:a.eval g=.func (.func gf) #[] lb) (eg:∀args w,(callFunc gf args).run P w=.ok (.enter gf args) w)
  {E:α->Array Value->(Nat->Prop)->World->Nat->Prop} {xs:List α} {R:Nat->Prop} {w0:World} (hseq:SeqIsS (n-1) P gf lb E xs R w0) (hb0:Stp (fun b=>¬R b) w0 w) (hps:∀x vs M W B,E x vs M W B->vs.size=ps.size) (hR:∀b,R b->b<w.heap.size)
  (I:List α->(Nat->Prop)->World->Prop) (Ix:Code->List α->(Nat->Prop)->World->Prop) (hI:Abide (w.heap.size+2) I) (hIx:∀c,Abide (w.heap.size+2) (Ix c)) (hI0:∀s M W,I s M W->s=[]) (h0:I [] (fun _=>False) w)
  (hround:∀(l:Nat) (pre:List α) (x:α) (rest:List α) (M:Nat->Prop) (W:World) (vs:Array Value),xs=pre++x::rest->E x vs M W (w.heap.size+2)->I pre M W->(∀b,M b->w.heap.size+2<=b∧b<W.heap.size)->w.heap.size+2<=W.heap.size ->
   assign.wpIn (Fence.wide.inRound l) (n-1-1) P (Exit.then (fun a₁ W1=>KeepN M R (w.heap.size+2) W W1∧∀W2,W2.heap.size=W1.heap.size->Stp (fun b=>b+1=w.heap.size+2) W1 W2 ->
    body.wpIn (Fence.wide.inRound l) (n-1-1) P (bPost I Ix (pre++[x]) M R (w.heap.size+2) W2) a₁ W2) (fun _ _ _=>False))
    {tmps:=setAll ps vs a.tmps,defers:=[]} W)
  (hdone:∀(M:Nat->Prop) (W:World),I xs M W->W.heap[w.heap.size]?=some (.deferred (some []))->Q .normal {a with defers:={target:=.collected w.heap.size,args:=#[]}::a.defers} W)
  (hstop:∀(c:Code) (pre rest:List α) (M:Nat->Prop) (W:World),xs=pre++rest->Ix c pre M W->W.heap[w.heap.size]?=some (.deferred (some []))->c.wpIn Fence.wide n P Q {a with defers:={target:=.collected w.heap.size,args:=#[]}::a.defers} W):
  (Code.rangeFunc g ps assign body).wpIn Fence.wide n P Q a w:=by
 refine wpIn_rangeFunc ?_;intro fn hfn;obtain⟨rec,hrec⟩:∃rec:LoopState->Option Code->Loop,rec=fun st pe=>{state:=st,pending:=pe,fn,tmps:=a.tmps,params:=ps,assign,body,defers:=w.heap.size}:=⟨_,rfl⟩;obtain⟨W1,hW1⟩:∃W1,(w.alloc (.deferred (some []))).alloc (.loop (rec .ready none))=W1:=⟨_,rfl⟩;have hL1:W1.heap[w.heap.size+1]?=some (.loop (rec .ready none)):=by
  rw[←hW1];have:=World.alloc_heap_new (w.alloc (.deferred (some []))) (.loop (rec .ready none));rwa [World.size_alloc] at this
 have hK1:W1.heap[w.heap.size]?=some (.deferred (some [])):=by
  rw[←hW1];exact(Below.heap_alloc _ _ _ (by simp)).trans (World.alloc_heap_new w _)
 have hs1:W1.heap.size=w.heap.size+2:=by rw[←hW1];simp
 have hst1:∀N,Stp N w W1:=fun N=>by rw[←hW1];exact((Stp.refl N w).alloc _).alloc _
 have hI1:I [] (fun _=>False) W1:=hI [] _ _ w W1 h0 (fun _ h=>h.elim) (fun _ h=>h) (fun _ h=>h.elim) (fun _ h=>h.elim) (hst1 _)
 refine⟨w.heap.size+1,[{target:=.collected w.heap.size,args:=#[]}],W1,{target:=.fn (.func gf) lb,args:=#[.func (.yield (w.heap.size+1)) #[] #[]]},W1,gf,
  #[.func (.yield (w.heap.size+1)) #[] #[]]++lb,W1,?_,?_,?_,?_,fun _=>h1,?_⟩
 ·rw[←hW1,hrec];exact run_enterLoop_outer _ _ _ _ _
 ·simp only[resolve,hg];simp[go_sem]
 ·intro f' _;trivial
 ·simp[invoke,go_sem,eg]
 ·refine(hseq (w.heap.size+1)
   (fun pre M W=>(I pre M W∧W.heap[w.heap.size+1]?=some (.loop (rec .ready none))∧W.heap[w.heap.size]?=some (.deferred (some [])))∧∀b,M b->w.heap.size+2<=b∧b<W.heap.size)
   (fun pre M W=>(∃c,Ix c pre M W∧W.heap[w.heap.size+1]?=some (.loop (rec .done (some c)))∧W.heap[w.heap.size]?=some (.deferred (some [])))∧∀b,M b->w.heap.size+2<=b∧b<W.heap.size)
   W1 (hb0.trans (hst1 _)) ?_ ?_ (fun s M W h=>hI0 s M W h.1.1) ?_ ⟨⟨hI1,hL1,hK1⟩,fun _ h=>h.elim⟩).mono ?_
  ·rintro s M M' A B ⟨⟨hi,hl,hk⟩,hm⟩ hM' hMM hnew hlt hstp;rw[hs1] at hM'
   exact⟨⟨hI s M M' A B hi hM' hMM hnew hlt (hstp.mono fun b _ h=>.inl h),
    (hstp.block _ (lt_of_block hl) (fun h=>by have:=(hm _ h).1;omega)).trans hl,(hstp.block _ (lt_of_block hk) (fun h=>by have:=(hm _ h).1;omega)).trans hk⟩,fun b h=>⟨hM' b h,hlt b h⟩⟩
  ·rintro s M M' A B ⟨⟨c,hi,hl,hk⟩,hm⟩ hM' hMM hnew hlt hstp;rw[hs1] at hM'
   exact⟨⟨c,hIx c s M M' A B hi hM' hMM hnew hlt (hstp.mono fun b _ h=>.inl h),
    (hstp.block _ (lt_of_block hl) (fun h=>by have:=(hm _ h).1;omega)).trans hl,(hstp.block _ (lt_of_block hk) (fun h=>by have:=(hm _ h).1;omega)).trans hk⟩,fun b h=>⟨hM' b h,hlt b h⟩⟩
  ·-- one round
   rintro pre x rest M W vs hxs ⟨⟨hi,hl,hk⟩,hm⟩ hE;rw[hs1] at hE;have hlt:w.heap.size+1<W.heap.size:=lt_of_block hl;have hy:=run_yield (P:=P) (args:=vs) hl (by rw[hrec];exact hps x vs M W _ hE);rw[hrec] at hy;refine⟨fn,_,assign,body,hy,roundIn_of_wpIn hfn (wpIn_mono (hround _ pre x rest M W vs hxs hE hi hm (by omega)) ?_)⟩;rintro e a2 W2 hp;cases e with
   |normal=>
    obtain⟨hk2,hbody⟩:=hp;have hl2:=(hk2.block _ (lt_of_block hl) (by simp)).trans hl;have hkk2:=(hk2.block _ (lt_of_block hk) (by simp)).trans hk;refine⟨_,run_beginRound hl2 (by rw[hrec]),?_⟩;obtain⟨W3,hW3⟩:∃W3,W2.putObj (w.heap.size+1) (.loop {rec .ready none with state:=.busy})=W3:=⟨_,rfl⟩;rw[hW3];have hst3:Stp (fun b=>b+1=w.heap.size+2) W2 W3:=by rw[←hW3];exact Stp.putObj (Stp.refl (fun b=>b+1=w.heap.size+2) W2) (.inl rfl) _
    have hl3:W3.heap[w.heap.size+1]?=some (.loop {rec .ready none with state:=.busy}):=by rw[←hW3];exact World.putObj_heap_same (lt_of_block hl2)
    have hkk3:W3.heap[w.heap.size]?=some (.deferred (some [])):=(hst3.block _ (lt_of_block hkk2) (by omega)).trans hkk2;have hsz3:W3.heap.size=W2.heap.size:=by rw[←hW3];simp
    refine wpIn_mono (hbody W3 hsz3 hst3) ?_
    have fin:∀(jump:Option Code) (W4:World),KeepN M R (w.heap.size+2) W3 W4->∃W5,
      (Instr.endRound (w.heap.size+1) jump).run P W4=.ok (.bool jump.isNone) W5∧Stp (fun b=>b+1=w.heap.size+2) W4 W5 ∧
      W5.heap[w.heap.size+1]?=some (.loop (rec (if jump.isNone then .ready else .done) jump))∧W5.heap[w.heap.size]?=some (.deferred (some [])):=fun jump W4 hk4=>by
     have hl4:=(hk4.block _ (lt_of_block hl3) (by simp)).trans hl3;have hkk4:=(hk4.block _ (lt_of_block hkk3) (by simp)).trans hkk3;have hr:=run_endRound (P:=P) jump hl4;rw[hrec] at hr;refine⟨_,hr,Stp.putObj (Stp.refl (fun b=>b+1=w.heap.size+2) W4) (.inl rfl) _,?_,?_⟩
     ·rw[World.putObj_heap_same (lt_of_block hl4),hrec]
     ·rw[World.putObj_heap_other (by omega)];exact hkk4
    have ab:∀{s:List α} {A B:World},I s M A->W.heap.size<=A.heap.size->Stp (fun b=>b+1=w.heap.size+2) A B->I s M B:=fun {s A B} ha hAW hab=>
     hI s M M A B ha (fun b h=>(hm b h).1) (fun _ h=>h) (fun _ h=>.inl h) (fun b h=>by have:=(hm b h).2;have:=hab.size;omega) (hab.mono fun b _ h=>.inr (.inr h))
    have abx:∀{c:Code} {s:List α} {A B:World},Ix c s M A->W.heap.size<=A.heap.size->Stp (fun b=>b+1=w.heap.size+2) A B->Ix c s M B:=fun {c s A B} ha hAW hab=>
     hIx c s M M A B ha (fun b h=>(hm b h).1) (fun _ h=>h) (fun _ h=>.inl h) (fun b h=>by have:=(hm b h).2;have:=hab.size;omega) (hab.mono fun b _ h=>.inr (.inr h))
    rintro e a3 W4 hp4;cases e with
    |normal=>
     obtain⟨hk4,hi4⟩:=hp4;obtain⟨W5,hr,h45,hl5,hkk5⟩:=fin none W4 hk4;have hAW:=Nat.le_trans (Nat.le_trans hk2.size hst3.size) hk4.size;refine⟨_,_,hr,.inl ⟨rfl,⟨⟨ab hi4 hAW h45,hl5,hkk5⟩,fun b h=>⟨(hm b h).1,by have:=(hm b h).2;have:=h45.size;omega⟩⟩,?_⟩⟩;have q:∀b,¬(M b∨R b∨b+2=w.heap.size+2∨b+1=w.heap.size+2)->¬(M b∨R b):=fun b h k=>h (by rcases k with k|k;exact .inl k;exact .inr (.inl k));have q2:∀b,b+1=w.heap.size+2->¬(M b∨R b):=fun b h k=>by rcases k with k|k;(have:=(hm b k).1;omega);(have:=hR b k;omega)
     exact(((hk2.mono fun b _=>q b).trans (hst3.mono fun b _=>q2 b)).trans (hk4.mono fun b _=>q b)).trans (h45.mono fun b _=>q2 b)
    |ret=>
     obtain⟨hk4,hi4⟩:=hp4;obtain⟨W5,hr,h45,hl5,hkk5⟩:=fin (some .ret) W4 hk4;have hAW:=Nat.le_trans (Nat.le_trans hk2.size hst3.size) hk4.size;exact⟨_,_,hr,.inr ⟨rfl,⟨.ret,abx hi4 hAW h45,hl5,hkk5⟩,fun b h=>⟨(hm b h).1,by have:=(hm b h).2;have:=h45.size;omega⟩⟩⟩
    |exit id=>
     obtain⟨hk4,hi4⟩:=hp4;obtain⟨W5,hr,h45,hl5,hkk5⟩:=fin (some (.exit id)) W4 hk4;have hAW:=Nat.le_trans (Nat.le_trans hk2.size hst3.size) hk4.size;exact⟨_,_,hr,.inr ⟨rfl,⟨.exit id,abx hi4 hAW h45,hl5,hkk5⟩,fun b h=>⟨(hm b h).1,by have:=(hm b h).2;have:=h45.size;omega⟩⟩⟩
    |goto t=>
     obtain⟨hk4,hi4⟩:=hp4;obtain⟨W5,hr,h45,hl5,hkk5⟩:=fin (some (.goto t)) W4 hk4;have hAW:=Nat.le_trans (Nat.le_trans hk2.size hst3.size) hk4.size;exact⟨_,_,hr,.inr ⟨rfl,⟨.goto t,abx hi4 hAW h45,hl5,hkk5⟩,fun b h=>⟨(hm b h).1,by have:=(hm b h).2;have:=h45.size;omega⟩⟩⟩
    |panic ch=>exact hp4.elim
    |outgrown=>exact hp4.elim
   |ret=>exact hp.elim
   |exit id=>exact hp.elim
   |goto t=>exact hp.elim
   |panic ch=>exact hp.elim
   |outgrown=>exact hp.elim
  ·-- behind the iterator
   rintro e W2 ⟨⟨v,rfl⟩,(⟨M,⟨hi,hl,hk⟩,hm⟩|⟨pre,rest,M,hx,⟨c,hi,hl,hk⟩,hm⟩)⟩
   ·refine⟨none,_,by have:=run_endLoop (P:=P) hl (by rw[hrec];simp);rw[hrec] at this;exact this,hdone M _ ?_ ((World.putObj_heap_other (by omega)).trans hk)⟩;exact hI xs M M W2 _ hi (fun b h=>(hm b h).1) (fun _ h=>h) (fun _ h=>.inl h) (fun b h=>by simpa using(hm b h).2) ((Stp.refl _ _).putObj (.inl (.inr (.inr rfl))) _)
   ·refine⟨some c,_,by have:=run_endLoop (P:=P) hl (by rw[hrec];simp);rw[hrec] at this;exact this,hstop c pre rest M _ hx ?_ ((World.putObj_heap_other (by omega)).trans hk)⟩;exact hIx c pre M M W2 _ hi (fun b h=>(hm b h).1) (fun _ h=>h) (fun _ h=>.inl h) (fun b h=>by simpa using(hm b h).2) ((Stp.refl _ _).putObj (.inl (.inr (.inr rfl))) _)
end Go.Proofs.YtjkkfcghkeoedaaGreatDoor
namespace Go.Proofs.YtjkkfcghkeoedaaGreatDoor.Fi
open Go.RowKit Go.Lib Go.Maps Tx
def Kz (B:Nat) (W w':World):Prop:=(∀b o,b<B->w'.cell? ⟨b,o,none⟩=W.cell? ⟨b,o,none⟩)∧(∀b o,b<B->w'.frozen? ⟨b,o,none⟩=W.frozen? ⟨b,o,none⟩)∧Below B W w'
section
variable {B:Nat} {W w' w'':World}
theorem kz_of (h:Below B W w'):Kz B W w':=⟨fun b o hb=>h.cell (p:=⟨b,o,none⟩) hb,fun b o hb=>h.frozen (p:=⟨b,o,none⟩) hb,h⟩
theorem kz_refl (B:Nat) (W:World):Kz B W W:=kz_of (Below.refl _ _)
theorem kz_step (h:Kz B W w') (hb:Below w'.heap.size w' w'') (hB:B<=W.heap.size):Kz B W w'':=kz_of (h.2.2.trans (hb.mono (Nat.le_trans hB h.2.2.size)))
theorem kz_draw (h:Kz B W w'):Kz B W w'.drew:=kz_of (h.2.2.trans ⟨rfl,rfl,rfl,Nat.le_refl _,fun _ _=>rfl⟩)
theorem kz_drewN {n:Nat} (h:Kz B W w'):Kz B W (w'.drewN n):=kz_of (h.2.2.trans ⟨rfl,rfl,rfl,Nat.le_refl _,fun _ _=>rfl⟩)
theorem kz_alloc {o:Obj} (h:Kz B W w') (hB:B<=W.heap.size):Kz B W (w'.alloc o):=kz_step h (bl_alloc (below_refl _) o) hB
theorem kz_grown {row:Option Nat} (h:Kz B W w') (k:w'.grownBy w'' row) (hr:∀r,row=some r->B<=r) (hB:B<=W.heap.size):Kz B W w'':=kz_of (h.2.2.grown k (Nat.le_trans hB h.2.2.size) hr)
end
abbrev capM (bn by_ bw bm bo:Nat):Array Value:=#[.pointer (some ⟨bn,0,none⟩),.pointer (some ⟨by_,0,none⟩),.pointer (some ⟨bw,0,none⟩),.pointer (some ⟨bm,0,none⟩),.pointer (some ⟨bo,0,none⟩)]
structure MoreAt (W:World) (x:LWl) (num l bn by_ bw bm mb bo:Nat):Prop where
 wl:WlAt W x
 hn:Blk W bn 3 #[.int .i64 (num:Nat)]
 hy:Blk W by_ 157 #[.func (.yield l) #[] #[]]
 hw:Blk W bw 273 x.A
 hm:Blk W bm 305 #[.map (some mb)]
 ho:Blk W bo 157 #[.func (.func 226) #[] (capM bn by_ bw bm bo)]
 mp:∃n,MpIs W mb n (rsA x.w)
theorem MoreAt.on {W W':World} {x:LWl} {num l bn by_ bw bm mb bo:Nat} (h:MoreAt W x num l bn by_ bw bm mb bo) (hb:Below W.heap.size W W'):MoreAt W' x num l bn by_ bw bm mb bo:=
 ⟨h.wl.on hb,h.hn.below hb h.hn.lt,h.hy.below hb h.hy.lt,h.hw.below hb h.hw.lt,h.hm.below hb h.hm.lt,h.ho.below hb h.ho.lt,by obtain⟨n,hn⟩:=h.mp;exact⟨n,mp_on hn hb⟩⟩
def lstF (l:List Nat):Int:=match l.getLast? with|none=>-1|some z=>(z:Int)
theorem lstF_snoc (l:List Nat) (x:Nat):lstF (l++[x])=(x:Int):=by unfold lstF;simp
section
variable {P:Program}
theorem step_append_at3 {ops:Array Oper} {o:Oper} {a:Act} {w:World} {K:Act->World->Prop} {Q:Exit->Act->World->Prop} {E:Prop} (hw:Region.wanted o (yielded ops a.tmps)=true) (s x:Operand) (t:TypeId)
  (ho:o.op=.call {callee:=.builtin .append,args:=#[s,x],argTypes:=#[t,t]})
  (base:Nat) (e:TypeId) (i:TypeInfo) (z:Value) (size bytes:Nat) (ht:P.underlying t=some (.slice e)) (hi:P.info? e=some i) (hz:i.zero=some z)
  (hsize:i.size=size) (hby:i.bytes=bytes) (hzs:z.cells.size=size) (hsz:0<size)
  (v:Value) (n:Nat) (xs:List Value) (hs:a.eval s=v) (hown:w.ownsRow base e size v n xs)
  (ad:Addr) (m c:Nat) (news:List Value) (hx:a.eval x=.slice (some ad) m c) (hl:news.length=m*size) (hnews:∀j u,news[j]?=some u->w.cell? (ad.add j)=some u) (h1:∀u∈news,u.oneCell'=true)
  (h63:n+m<=maxLen) (hbytes:(n+m)*bytes<=140737488355328) (hbase:base<=w.heap.size)
  (h:∀v' w',w'.ownsRow base e size v' (n+m) (xs++news)->w.grownBy w' v.ownBlock->(v'.ownBlock=v.ownBlock∨v'.ownBlock=some w.heap.size)->K (a.put o.dst v') w'):
  if Region.wanted o (yielded ops a.tmps)=true then Oper.wp P o a w K Q else E:=by
 rw[if_pos hw];obtain⟨v',w',hr,h2,h3,_,h5⟩:=Go.run_append_own_at (P:=P) w base t o.type e i z size bytes ht hi hz hsize hby hzs hsz v n xs hown ad m c news hl hnews h1 h63 hbytes hbase;unfold Oper.wp execOp;simp only[ho,resolve,invoke,builtin,Sem.run_bind,Sem.run_pure,Result.andThen_ok,List.map_toArray,List.map_cons,List.map_nil,hs,hx,hr];exact h v' w' h2 h3 h5
end
abbrev TookY (B l:Nat) (W0:World) (full:List Nat) (n:Nat) (Fin:World->Prop):Prop:=∀(W:World) (y:Sl Int),Below B W0 W->y.l=toZ full->W.ownsRow B 3 1 y.v y.l.length (fl zC y.l) ->
 YieldAt Fence.wide n Tryz.prog l #[y.v] W fun e W'=>e=.returned (.bool false)∧Fin W'
theorem yield_any {m m':Nat} {P:Program} {l:Nat} {args:Array Value} {W:World} {R:Ending->World->Prop} (h:YieldAt Fence.wide m P l args W R):YieldAt Fence.wide m' P l args W R:=by
 obtain⟨fn,tmps,assign,body,hy,hr⟩:=h;exact⟨fn,tmps,assign,body,hy,hr.1,fun c cs _=>hr.2 c cs (room_wide _)⟩
attribute [local go_sem] Oper.semAt_some
theorem more_zero {n:Nat} (x:LWl) (num l bn by_ bw bm mb bo:Nat) (W0:World) (hM:MoreAt W0 x num l bn by_ bw bm mb bo) (Fin:World->Prop) (full:List Nat) (hY:TookY W0.heap.size l W0 full n Fin)
  (A:Option Addr) (c:Nat) (W:World) (hb:Below W0.heap.size W0 W) (ho:W.ownsRow W0.heap.size 3 1 (.slice A full.length c) full.length (fl zC (toZ full))) (hn:full.length=num) (hl:num<=1000):
  CallsIn Fence.wide 1 Tryz.prog 226 (#[.slice A full.length c]++capM bn by_ bw bm bo) W fun e W'=>e=.returned (.bool false)∧Fin W':=by
 have hm:=hM.on hb;have cn:=hm.hn.cell 0;have cy:=hm.hy.cell 0;simp only[GA] at cn cy;have HC:=Lib.hid (fun W' (h:Below W.heap.size W W')=>(show Calls Tryz.prog 107 #[.slice A full.length c] W' (CloP zC 1 3 (toZ full) W') from by
  have hz:(toZ full).length=full.length:=by simp[toZ]
  have ho':W.ownsRow W0.heap.size 3 1 (.slice A (toZ full).length c) (toZ full).length (fl zC (toZ full)):=by rw[hz];exact ho
  have h3:=c_CloneInt ⟨A,toZ full,c⟩ W' (show(toZ full).length<=100000 by omega) ((own_rd' (enc:=zC) (fun _=>rfl) ho').on h);rw[←hz];exact h3))
 rw[hn] at HC;rw[hn];have hnn:((num:Int)==(num:Int))=true:=by simp
 refine callsIn_of_wp Tryz.func226 rfl trivial ?_;simp only[Tryz.ntmps226,List.size_toArray,List.length_cons,List.length_nil,Nat.reduceAdd,Nat.reduceSub,Array.replicate_succ,Array.replicate_zero,List.push_toArray,List.append_toArray,List.nil_append,List.cons_append];gi_wp2
 have lby:=hm.hy.lt;have hzb:=hb.size
 gi_region_with (first
  |(refine⟨trivial,?_⟩;refine(callsIn_wide.2 (HC.out _ bl)).mono ?_;rintro e w3 ⟨y,rfl,hyl,hyo,_,_,hb3⟩;have cy3:=((bcell hb3).1 by_ 0 lby).trans cy;obtain⟨fn',tmps,assign,body,hy,hRd⟩:=yield_any (m':=1-1) (hY w3 y (hb.trans ((show Below W.heap.size W w3 from below_tr (below_draw (below_refl W)) hb3).mono hzb)) hyl (own_mono hyo hzb)))
  |(refine hRd.mono ?_;rintro e W3 ⟨rfl,hfin⟩))
 all_goals gi_wp2
 all_goals go_ret
 all_goals exact⟨rfl,hfin⟩
end Go.Proofs.YtjkkfcghkeoedaaGreatDoor.Fi
