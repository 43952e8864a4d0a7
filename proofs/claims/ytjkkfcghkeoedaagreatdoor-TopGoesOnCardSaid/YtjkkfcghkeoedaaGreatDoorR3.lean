/- The parts of the proof, part 3. -/
import Derived.Test.YtjkkfcghkeoedaaGreatDoorR0
import Derived.Test.YtjkkfcghkeoedaaGreatDoorR1
import Derived.Test.YtjkkfcghkeoedaaGreatDoorR2
import Derived.Lib.AppendIntMem
import Derived.Lib.AtoiErrMem
import Derived.Test.YtjkkfcghkeoedaaGreatDoorRows
import Derived.Test.YtjkkfcghkeoedaaGreatDoorTie
import Derived.ProofKit
import Derived.LaidMore
import Derived.OpenShut
import Derived.Stop.Joined
import Derived.SevenTiedAt
import Derived.MakeChecks
import Derived.Lib.LaidTab
import Derived.Lay
import Derived.HandedShaped
import Derived.Shelf.Vars
import Derived.RangeFuncNested
import Derived.RangeFuncBound
import Derived.RangeFuncCalls
import Derived.RangeFuncLeaves
import Derived.Shelf.Abstract
import Derived.WalkKit
import Derived.OwnWalkIn
import Derived.TacticsInMore
import Derived.LoopNIn
import Derived.LoopIn
set_option maxHeartbeats 16000000
set_option maxRecDepth 20000
set_option linter.unusedSimpArgs false
set_option linter.unusedVariables false
namespace Go.Proofs.YtjkkfcghkeoedaaGreatDoor.Tx
open Go.RowKit Go.Lib
abbrev TabP (w:World):Prop:=Lib.TabIs Tryz.prog w "internal/strconv.uint64pow10" .u64 Lib.pow10Tab
theorem tab_on {P:Program} {w w':World} {name:String} {k:IntKind} {zs:List Int} (h:Lib.TabIs P w name k zs) (hb:Below w.heap.size w w'):Lib.TabIs P w' name k zs:=by
 unfold Lib.TabIs World.var? at *;cases hg:P.globalNamed name with
 |none=>simp[hg] at h
 |some g=>
  simp only[hg,Option.bind_some] at h ⊢;have hlt:g<w.heap.size:=by
   rcases Nat.lt_or_ge g w.heap.size with h'|h'
   ·exact h'
   ·rw[Array.getElem?_eq_none h'] at h;simp at h
  rw[hb.block g hlt];exact h
structure LdW (w:World):Prop where
 tab:TabP w
 mx:∃m,w.cell? ⟨1,0,none⟩=some (.int .i64 m)
 sy:∃ev,w.cell? ⟨5,0,none⟩=some ev∧(ev=.nilIface∨∃te pe,ev=.iface te pe)
 rg:∃ev,w.cell? ⟨6,0,none⟩=some ev∧(ev=.nilIface∨∃te pe,ev=.iface te pe)
theorem cell_on {w w':World} {g o:Nat} {v:Value} (h:w.cell? ⟨g,o,none⟩=some v) (hb:Below w.heap.size w w'):w'.cell? ⟨g,o,none⟩=some v:=by
 have hlt:g<w.heap.size:=World.block_lt_of_cell? w ⟨g,o,none⟩ h;exact((bcell hb).1 g o hlt).trans h
theorem LdW.on {w w':World} (h:LdW w) (hb:Below w.heap.size w w'):LdW w':=
 ⟨tab_on h.tab hb,h.mx.imp fun _ q=>cell_on q hb,h.sy.imp fun _ q=>⟨cell_on q.1 hb,q.2⟩,h.rg.imp fun _ q=>⟨cell_on q.1 hb,q.2⟩⟩
theorem c_AtoiB (s:ByteArray) (w:World) (hs:s.size<=100000) (hL:LdW w):
  Calls Tryz.prog 149 #[.string s] w fun e w'=>(∃er,e=.returned (.tuple #[.int .i64 (valA s.data.toList),er])∧(okA s.data.toList=true->er=.nilIface)∧(okA s.data.toList=false->∃te pe,er=.iface te pe))∧Below w.heap.size w w':=by
 cases h:atoiAll s.data.toList
 ·rename_i v
  refine(Tryz.strconv_Atoi_ok s (by omega) v h w).mono ?_;rintro e w' ⟨rfl,hw⟩;refine⟨⟨_,by unfold valA;rw[h],fun _=>rfl,fun q=>by unfold okA at q;rw[h] at q;cases q⟩,?_⟩;rcases hw with rfl|⟨t,rfl⟩
  ·exact below_refl _
  ·exact Lib.bytesWorld_below _ _ _
 ·obtain⟨ev,h1,h2⟩:=hL.sy;refine(Any.strconv_Atoi_syntax Tryz.laysC172 s (by omega) h ev w h1 h2).mono ?_;rintro e w' ⟨N,rfl,_,_,hb⟩;exact⟨⟨_,by unfold valA;rw[h],fun q=>(by unfold okA at q;rw[h] at q;cases q),fun _=>⟨_,_,rfl⟩⟩,hb⟩
 ·obtain⟨ev,h1,h2⟩:=hL.rg;refine(Tryz.strconv_Atoi_range s (by omega) h ev w h1 h2).mono ?_;rintro e w' ⟨N,rfl,_,_,hb⟩;exact⟨⟨_,by unfold valA;rw[h],fun q=>(by unfold okA at q;rw[h] at q;cases q),fun _=>⟨_,_,rfl⟩⟩,hb⟩
theorem c_ItoaV (n:Int) (w:World) (h0:-9223372036854775808<=n) (h1:n<=9223372036854775807) (hT:TabP w):
  Calls Tryz.prog 70 #[.int .i64 n] w fun e w'=>e=.returned (.string (bts (itoa n)))∧Below w.heap.size w w':=by
 refine(Tryz.strconv_Itoa n h0 h1 w hT).mono ?_;rintro e w' ⟨rfl,k,os,rfl⟩;exact⟨rfl,Lib.below_grow _ _ (Nat.le_refl _) _ _⟩
end Go.Proofs.YtjkkfcghkeoedaaGreatDoor.Tx
namespace Go.Proofs.YtjkkfcghkeoedaaGreatDoor
open Go.ChangeShapes Go.WideShapes Go.ChangeAt Go.RowKit Tx
def laidL:List (String×DataW Unit):=[("math/bits.deBruijn32tab",Rows.laid_math_bits_deBruijn32tab),("math/bits.deBruijn64tab",Rows.laid_math_bits_deBruijn64tab),("internal/strconv.uint64pow10",Rows.laid_internal_strconv_uint64pow10),("unicode/utf8.acceptRanges",Rows.laid_unicode_utf8_acceptRanges),("strconv.ErrRange",Rows.laid_strconv_ErrRange),("strconv.ErrSyntax",Rows.laid_strconv_ErrSyntax),("bytes.ErrTooLarge",Rows.laid_bytes_ErrTooLarge),("unicode/utf8.first",Rows.laid_unicode_utf8_first)]
set_option maxRecDepth 100000 in
theorem door_met (os:Os) (args:Array Value):laidMetH Tryz.prog laidL ((World.laidAll Tryz.prog os laidL).forCall (fun _ _=>0) ⟨#[],args,[]⟩).memory:=by
 rw[MakeChecks.laidMetH_plain _ _ _ (by kernel_rfl)];exact laidMet_laidAll _ (by kernel_rfl) (by kernel_rfl)
theorem pow_data:Rows.laid_internal_strconv_uint64pow10=(Lib.tabData .u64 Lib.pow10Tab:DataW Unit):=rfl
theorem of_laid {W:World} (h:laidMetH Tryz.prog laidL W):TabP W:=by
 rw[MakeChecks.laidMetH_plain _ _ _ (by kernel_rfl)] at h;obtain⟨_,⟨_,_,_,_,_,_,_,_,_,_,h2,_⟩,_⟩:=h;obtain⟨_,_,_,_,_,_,_,_,_,_,h3,_⟩:=h2;obtain⟨g',t',cs,fuel,p,q,hg',ht',hvar,hd,_,_⟩:=h3;obtain rfl:=Option.some.inj ((show Tryz.prog.globalNamed "internal/strconv.uint64pow10" = some 2 by kernel_rfl).symm.trans hg')
 obtain rfl:=Option.some.inj ((show(Tryz.prog.globals[2]?).map (·.type)=some 310 by kernel_rfl).symm.trans ht');unfold TabP Lib.TabIs;rw[pow_data] at hd;rw[hvar,←Lib.cells_of_tab (n:=20) (e:=60) (by kernel_rfl) (by kernel_rfl) (by kernel_rfl) (by kernel_rfl) hd]
theorem lv_tail {P:Program} {W:World} {n:String} {d:DataW Unit} {r:List (String×DataW Unit)} {ps:List MemPlace} (h:DataW.LaidVars P W ((n,d)::r) ps):∃q,DataW.LaidVars P W r q:=by
 obtain⟨_,_,_,_,_,q,_,_,_,_,hr,_⟩:=h;exact⟨q,hr⟩
theorem iface_var {W:World} {n nm:String} {g:Nat} {d:DataW Unit} {r:List (String×DataW Unit)} (hg:Tryz.prog.globalNamed n=some g) (hty:(Tryz.prog.globals[g]?).map (·.type)=some 129)
  {ps:List MemPlace} (h:DataW.LaidVars Tryz.prog W ((n,.iface nm d)::r) ps):∃ev,W.cell? ⟨g,0,none⟩=some ev∧(ev=.nilIface∨∃te pe,ev=.iface te pe):=by
 obtain⟨g',t',cs,fuel,p,q,hg',ht',hvar,hd,_,_⟩:=h;obtain rfl:=Option.some.inj (hg.symm.trans hg');obtain rfl:=Option.some.inj (hty.symm.trans ht');obtain⟨_,u,v,hcs,_,_⟩:=iface_of_trod Tryz.underlying129 hd;have h0:=World.var?_cell hg hvar 0;refine⟨.iface u v,?_,.inr ⟨u,v,rfl⟩⟩;rw[h0];have:cs[0]?=cs.toList[0]?:=by simp
 rw[this,hcs];rfl
theorem ld_of {W:World} (h:laidMetH Tryz.prog laidL W) (hs:W.ShapedOpen Tryz.prog):LdW W:=by
 have h1:=h;rw[MakeChecks.laidMetH_plain _ _ _ (by kernel_rfl)] at h1;unfold laidL at h1;obtain⟨_,h1,_⟩:=h1;obtain⟨_,h1⟩:=lv_tail h1;obtain⟨_,h1⟩:=lv_tail h1;obtain⟨_,h1⟩:=lv_tail h1;obtain⟨_,h1⟩:=lv_tail h1;obtain⟨_,h2⟩:=lv_tail h1
 exact⟨of_laid h,
  Go.Proofs.cell_of_shapedOpen_int (t:=3) (zero:=#[.int .i64 0]) hs (of_decide_eq_true (by kernel_rfl)) (by kernel_rfl) rfl (by kernel_rfl) (by kernel_rfl) (by kernel_rfl),
  iface_var (by kernel_rfl) (by kernel_rfl) h2,
  iface_var (by kernel_rfl) (by kernel_rfl) h1⟩
variable {H:Type} {enc:TypeId×Value->H}
set_option maxRecDepth 100000 in
theorem ret_ls {os:Os} {f:FuncId} {fn:Func} {s:ChangeSpec}
  (own:ownKnob Tryz.checked.prog.godebug=none) (started:os.Started) (noInit:Tryz.checked.prog.inits.idxOf? f=none) (hfn:Tryz.checked.prog.funcs[f]?=some fn)
  (witness:∃(w:World) (tape:Tape) (i:Input),w.os=os∧(w.forCall tape i).Shaped Tryz.checked.prog∧i.vars=[]∧Input.okWide Tryz.checked.prog (w.forCall tape i) .any w.heap.size f i ∧
   ((s.pre enc Tryz.checked.prog fn [] false (w.forCall tape i).memory i.args∧laidMetH Tryz.checked.prog laidL (w.forCall tape i).memory)∧sizedMet enc Tryz.checked.prog fn (OpenSpec.ofChange s) false (w.forCall tape i).memory i.args) ∧
   Assume.holds {} Tryz.checked.prog (lone (Frame.enter Tryz.checked.prog f i.args .normal) [] (w.forCall tape i)))
  (contract:∀(W:World) (base:Nat) (args:Array Value) (ds gs:List (DataW H)) (before:List MemPlace),
   (∀(j:Nat) t v,fn.params[j]?=some t->args[j]?=some v->Value.okWide Tryz.checked.prog W .any base t v) ->
   DataW.Whole enc Tryz.checked.prog fn.params.toList s.vars false W args.toList ds gs before->laidMetH Tryz.checked.prog laidL W->W.ShapedOpen Tryz.checked.prog ->
   Calls Tryz.checked.prog f args W fun e W'=>∃v,e=.returned v∧s.post enc Tryz.checked.prog fn false true false false W args v W'):
  ReturnsInHanded {} Tryz.checked os f .any (fun w args=>(s.pre enc Tryz.checked.prog fn [] false w args∧laidMetH Tryz.checked.prog laidL w)∧sizedMet enc Tryz.checked.prog fn (OpenSpec.ofChange s) false w args) (s.post enc Tryz.checked.prog fn false true false false):=by
 refine returnsInHanded_of_calls own started noInit witness ?_;intro w tape i _ hsh _ hok hpre _;obtain⟨_,_,_,fn',hfn',_,_,_,_,hval⟩:=hok;obtain rfl:fn'=fn:=Option.some.inj (hfn'.symm.trans hfn);obtain⟨⟨⟨ds,gs,before,hw,_⟩,hx⟩,_⟩:=hpre;refine(contract (w.forCall tape i) w.heap.size i.args ds gs before hval (DataW.Whole.of_heap (w':=w.forCall tape i) (by rfl) hw) (laidMetH.of_heap (w':=w.forCall tape i) (by rfl) hx) hsh).mono fun e W' hq=>?_;obtain⟨v,rfl,hp⟩:=hq;exact ChangeSpec.post_blind hp
end Go.Proofs.YtjkkfcghkeoedaaGreatDoor
namespace Go.Proofs.YtjkkfcghkeoedaaGreatDoor.T6
open Go.Lib Tx
def wn (n lo hi:Int):Bool:=decide (lo<=n)&&decide (n<=hi)
theorem wn_iff {n a b:Int}:wn n a b=true↔a<=n∧n<=b:=by simp[wn]
def bodyZ (s:List UInt8):List UInt8:=if s.head?=some 45 then s.tail else s
def numV (s:List UInt8):Int:=if s.head?=some 45 then -(valD 0 s.tail:Nat) else (valD 0 s:Nat)
def numB (s:List UInt8):Bool:=decide (s≠[])&&(decide (s.length<=17)&&((bodyZ s).all digB&&(decide (itoa (numV s)=s)&&(decide (-1000000000000000<=numV s)&&decide (numV s<=1000000000000000)))))
theorem itoa_head (m:Int):((itoa m).head?=some 45↔m<0)∧(m<0->(itoa m).tail=decDigits m.natAbs)∧(¬m<0->itoa m=decDigits m.toNat):=by
 unfold itoa;by_cases h:m<0
 ·rw[if_pos h];exact⟨by simp[h],fun _=>rfl,fun h'=>absurd h h'⟩
 ·rw[if_neg h];refine⟨⟨fun e=>?_,fun e=>absurd e h⟩,fun e=>absurd e h,fun _=>rfl⟩;obtain⟨c,r,hcr⟩:=List.exists_cons_of_ne_nil (decD_ne m.toNat);have hc:=decD_dig m.toNat c (by rw[hcr];exact List.mem_cons_self ..);rw[hcr] at e;injection e with e
  subst e;exact absurd hc (by decide)
theorem numV_itoa (m:Int):numV (itoa m)=m∧(bodyZ (itoa m)).all digB=true:=by
 obtain⟨h1,h2,h3⟩:=itoa_head m;unfold numV bodyZ;by_cases h:m<0
 ·rw[if_pos (h1.2 h),if_pos (h1.2 h),h2 h,valD_dec];exact⟨by omega,List.all_eq_true.2 (decD_dig _)⟩
 ·rw[if_neg (fun e=>h (h1.1 e)),if_neg (fun e=>h (h1.1 e)),h3 h,valD_dec];exact⟨by omega,List.all_eq_true.2 (decD_dig _)⟩
theorem num_iff (s:List UInt8):numB s=true↔itoa (numV s)=s ∧ -1000000000000000<=numV s∧numV s<=1000000000000000:=by
 unfold numB;simp only[Bool.and_eq_true,decide_eq_true_eq];constructor
 ·rintro⟨_,_,_,h1,h2,h3⟩;exact⟨h1,h2,h3⟩
 ·rintro⟨h1,h2,h3⟩;have h4:=(numV_itoa (numV s)).2;rw[h1] at h4;have h5:=itoa_ne (numV s);rw[h1] at h5;refine⟨h5,?_,h4,h1,h2,h3⟩;have h6:(itoa (numV s)).length<=17:=by
   obtain⟨_,a,b⟩:=itoa_head (numV s);by_cases hn:numV s<0
   ·have e:itoa (numV s)=45::decDigits (numV s).natAbs:=by unfold itoa;rw[if_pos hn]
    rw[e];have:=decD_le (u:=(numV s).natAbs) (k:=15) (by omega);simp;omega
   ·rw[b hn];have:=decD_le (u:=(numV s).toNat) (k:=15) (by omega);omega
  rwa [h1] at h6
theorem num_of {m:Int} (h0:-1000000000000000<=m) (h1:m<=1000000000000000):numB (itoa m)=true∧numV (itoa m)=m:=by
 have:=(numV_itoa m).1;exact⟨(num_iff _).2 (by rw[this];exact⟨rfl,h0,h1⟩),this⟩
theorem valD_lt:∀(l:List UInt8) (a:Nat),(∀c∈l,digB c=true)->valD a l<(a+1)*10^l.length
 |[],a,_=>by simp[valD]
 |c::r,a,h=>by
  have hc:=h c (List.mem_cons_self ..);unfold digB at hc;have hc':=of_decide_eq_true hc;have ih:=valD_lt r (a*10+(c.toNat-48)) fun x hx=>h x (List.mem_cons_of_mem _ hx);have e:valD a (c::r)=valD (a*10+(c.toNat-48)) r:=rfl;rw[e,List.length_cons,Nat.pow_succ];refine Nat.lt_of_lt_of_le ih ?_;rw[show(a+1)*(10^r.length*10)=((a+1)*10)*10^r.length by rw[Nat.mul_comm (10^r.length) 10,Nat.mul_assoc]];exact Nat.mul_le_mul_right _ (by omega)
end Go.Proofs.YtjkkfcghkeoedaaGreatDoor.T6
namespace Go.Proofs.YtjkkfcghkeoedaaGreatDoor
open Go.RowKit Go.Shelf
structure Stp (N:Nat->Prop) (W W':World):Prop where
 os:W'.os=W.os
 tape:W'.tape=W.tape
 output:W'.output=W.output
 size:W.heap.size<=W'.heap.size
 block:∀b,b<W.heap.size->¬N b->W'.heap[b]?=W.heap[b]?
section
variable {N N':Nat->Prop} {W W' W'':World}
theorem Stp.refl (N:Nat->Prop) (W:World):Stp N W W:=⟨rfl,rfl,rfl,Nat.le_refl _,fun _ _ _=>rfl⟩
theorem Stp.mono (h:Stp N W W') (hN:∀b,b<W.heap.size->N b->N' b):Stp N' W W':=⟨h.os,h.tape,h.output,h.size,fun b hb hn=>h.block b hb (fun k=>hn (hN b hb k))⟩
theorem Stp.trans (h:Stp N W W') (k:Stp N W' W''):Stp N W W'':=
 ⟨k.os.trans h.os,k.tape.trans h.tape,k.output.trans h.output,Nat.le_trans h.size k.size,fun b hb hn=>(k.block b (Nat.lt_of_lt_of_le hb h.size) hn).trans (h.block b hb hn)⟩
theorem Stp.alloc (h:Stp N W W') (o:Obj):Stp N W (W'.alloc o):=
 h.trans ⟨rfl,rfl,rfl,by simp,fun b hb _=>Below.heap_alloc _ _ _ hb⟩
theorem Stp.setCell (h:Stp N W W') {p:Addr} (hp:N p.block∨W.heap.size<=p.block) (u:Value):Stp N W (W'.setCell p u):=
 ⟨h.os,h.tape,h.output,by simpa[World.setCell] using h.size,fun b hb hn=>(Below.heap_setCell W' p u b (fun e=>by subst e;rcases hp with hp|hp;exact hn hp;omega)).trans (h.block b hb hn)⟩
theorem Stp.putObj (h:Stp N W W') {r:Nat} (hp:N r∨W.heap.size<=r) (o:Obj):Stp N W (W'.putObj r o):=
 ⟨h.os,h.tape,h.output,by simpa using h.size,fun b hb hn=>(World.putObj_heap_other (fun e=>by subst e;rcases hp with hp|hp;exact hn hp;omega)).trans (h.block b hb hn)⟩
theorem Stp.drew (h:Stp N W W'):Stp N W W'.drew:=⟨h.os,h.tape,h.output,h.size,h.block⟩
theorem Stp.drewN (h:Stp N W W') (n:Nat):Stp N W (W'.drewN n):=⟨h.os,h.tape,h.output,h.size,h.block⟩
theorem Stp.below (h:Stp N W W') {B:Nat} (k:Below B W' W'') (hB:W.heap.size<=B):Stp N W W'':=
 ⟨k.os.trans h.os,k.tape.trans h.tape,k.output.trans h.output,Nat.le_trans h.size k.size,fun b hb hn=>(k.block b (by omega)).trans (h.block b hb hn)⟩
theorem Stp.grown (h:Stp N W W') {row:Option Nat} (k:W'.grownBy W'' row) (hr:∀r,row=some r->N r∨W.heap.size<=r):Stp N W W'':=
 ⟨k.os.trans h.os,k.tape.trans h.tape,k.output.trans h.output,Nat.le_trans h.size k.size,fun b hb hn=>(k.block b (Nat.lt_of_lt_of_le hb h.size) (fun e=>by rcases hr b e.symm with h1|h1;exact hn h1;omega)).trans (h.block b hb hn)⟩
theorem Stp.toBelow (h:Stp N W W') {B:Nat} (hB:B<=W.heap.size) (hN:∀b,b<B->¬N b):Below B W W':=
 ⟨h.os,h.tape,h.output,h.size,fun b hb=>h.block b (by omega) (hN b hb)⟩
theorem Stp.blk (h:Stp N W W') {g:Nat} {t:TypeId} {cs:Array Value} (hb:Blk W g t cs) (hn:¬N g):Blk W' g t cs:=(h.block g hb.lt hn).trans hb
theorem Stp.cell (h:Stp N W W') {b o:Nat} {v:Value} (hc:W.cell? ⟨b,o,none⟩=some v) (hn:¬N b):W'.cell? ⟨b,o,none⟩=some v:=
 (World.cell?_of_block (w:=W) (w':=W') (a:=⟨b,o,none⟩) (h.block b (World.block_lt_of_cell? W _ hc) hn)).trans hc
theorem Rd.stp {α:Type} {enc:α->List Value} {sz:Nat} {A:Option Addr} {l:List α} (h:Rd enc sz W A l) (k:Stp N W W') (hn:∀ad,A=some ad->¬N ad.block):Rd enc sz W' A l:=fun hne=>by
 obtain⟨b,off,e,hlt,hc⟩:=h hne;exact⟨b,off,e,Nat.lt_of_lt_of_le hlt k.size,fun i x hx j v hv=>k.cell (hc i x hx j v hv) (hn _ e)⟩
end
def AbideIt {β:Type} (B:Nat) (J:β->(Nat->Prop)->World->Prop):Prop:=
 ∀s (M M':Nat->Prop) W W',J s M W->(∀b,M' b->B<=b)->(∀b,M b->M' b)->(∀b,M' b->M b∨W.heap.size<=b)->(∀b,M' b->b<W'.heap.size)->Stp M W W'->J s M' W'
def Abide {β:Type} (B:Nat) (I:β->(Nat->Prop)->World->Prop):Prop:=
 ∀s (M M':Nat->Prop) W W',I s M W->(∀b,M' b->B<=b)->(∀b,M b->M' b)->(∀b,M' b->M b∨W.heap.size<=b)->(∀b,M' b->b<W'.heap.size)->Stp (fun b=>M b∨b+2=B∨b+1=B) W W'->I s M' W'
def SeqIs {α:Type} (n:Nat) (P:Program) (g:Nat) (lb:Array Value) (encs:α->Array Value) (xs:List α) (R:Nat->Prop) (w0:World):Prop:=
 ∀(l:Nat) (J Jx:List α->(Nat->Prop)->World->Prop) (W:World),Stp (fun b=>¬R b) w0 W->AbideIt W.heap.size J->AbideIt W.heap.size Jx ->
  (∀pre x rest M W1,xs=pre++x::rest->J pre M W1->YieldAt Fence.wide (n-1) P l (encs x) W1 fun e W'=>
   (e=.returned (.bool true)∧J (pre++[x]) M W'∧Stp (fun b=>¬(M b∨R b)) W1 W')∨(e=.returned (.bool false)∧Jx (pre++[x]) M W')) ->
  J [] (fun _=>False) W ->
  CallsIn Fence.wide n P g (#[.func (.yield l) #[] #[]]++lb) W fun e W'=>(∃v,e=.returned v)∧((∃M,J xs M W')∨(∃pre rest M,xs=pre++rest∧Jx pre M W'))
abbrev KeepN (M R:Nat->Prop) (B:Nat) (W W':World):Prop:=Stp (fun b=>¬(M b∨R b∨b+2=B∨b+1=B)) W W'
def bPost {α:Type} (I:List α->(Nat->Prop)->World->Prop) (Ix:Code->List α->(Nat->Prop)->World->Prop) (s:List α) (M R:Nat->Prop) (B:Nat) (W:World):Exit->Act->World->Prop
 |.normal,_,W'=>KeepN M R B W W'∧I s M W'
 |.ret,_,W'=>KeepN M R B W W'∧Ix .ret s M W'
 |.exit id,_,W'=>KeepN M R B W W'∧Ix (.exit id) s M W'
 |.goto t,_,W'=>KeepN M R B W W'∧Ix (.goto t) s M W'
 |.panic _,_,_=>False
 |.outgrown,_,_=>False
def setAll (ps:Array Tmp) (vs:Array Value) (tm:Array Value):Array Value:=(ps.zip vs).foldl (fun t (p,v)=>t.setIfInBounds p v) tm
theorem setAll1 (p:Tmp) (u:Value) (tm:Array Value):setAll #[p] #[u] tm=tm.setIfInBounds p u:=by simp[setAll]
theorem setAll2 (p q:Tmp) (u v:Value) (tm:Array Value):setAll #[p,q] #[u,v] tm=(tm.setIfInBounds p u).setIfInBounds q v:=by simp[setAll]
theorem wp_range {α:Type} {n:Nat} {P:Program} {g:Operand} {ps:Array Tmp} {assign body:Code} {Q:Exit->Act->World->Prop} {a:Act} {w:World}
  (h1:1<=n) {gf:Nat} {lb:Array Value} (hg:a.eval g=.func (.func gf) #[] lb) (eg:∀args w,(callFunc gf args).run P w=.ok (.enter gf args) w)
  {encs:α->Array Value} {xs:List α} {R:Nat->Prop} {w0:World} (hseq:SeqIs (n-1) P gf lb encs xs R w0) (hb0:Stp (fun b=>¬R b) w0 w) (hps:∀x,(encs x).size=ps.size) (hR:∀b,R b->b<w.heap.size)
  (I:List α->(Nat->Prop)->World->Prop) (Ix:Code->List α->(Nat->Prop)->World->Prop) (hI:Abide (w.heap.size+2) I) (hIx:∀c,Abide (w.heap.size+2) (Ix c)) (h0:I [] (fun _=>False) w)
  (hround:∀(l:Nat) (pre:List α) (x:α) (rest:List α) (M:Nat->Prop) (W:World),xs=pre++x::rest->I pre M W->(∀b,M b->w.heap.size+2<=b∧b<W.heap.size)->w.heap.size+2<=W.heap.size ->
   assign.wpIn (Fence.wide.inRound l) (n-1-1) P (Exit.then (fun a₁ W1=>KeepN M R (w.heap.size+2) W W1∧∀W2,W2.heap.size=W1.heap.size->Stp (fun b=>b+1=w.heap.size+2) W1 W2 ->
    body.wpIn (Fence.wide.inRound l) (n-1-1) P (bPost I Ix (pre++[x]) M R (w.heap.size+2) W2) a₁ W2) (fun _ _ _=>False))
    {tmps:=setAll ps (encs x) a.tmps,defers:=[]} W)
  (hdone:∀(M:Nat->Prop) (W:World),I xs M W->W.heap[w.heap.size]?=some (.deferred (some []))->Q .normal {a with defers:={target:=.collected w.heap.size,args:=#[]}::a.defers} W)
  (hstop:∀(c:Code) (pre rest:List α) (M:Nat->Prop) (W:World),xs=pre++rest->Ix c pre M W->W.heap[w.heap.size]?=some (.deferred (some []))->c.wpIn Fence.wide n P Q {a with defers:={target:=.collected w.heap.size,args:=#[]}::a.defers} W):
  (Code.rangeFunc g ps assign body).wpIn Fence.wide n P Q a w:=by
 refine wpIn_rangeFunc ?_;intro fn hfn;obtain⟨rec,hrec⟩:∃rec:LoopState->Option Code->Loop,rec=fun st pe=>{state:=st,pending:=pe,fn,tmps:=a.tmps,params:=ps,assign,body,defers:=w.heap.size}:=⟨_,rfl⟩;obtain⟨W1,hW1⟩:∃W1,(w.alloc (.deferred (some []))).alloc (.loop (rec .ready none))=W1:=⟨_,rfl⟩;have hL1:W1.heap[w.heap.size+1]?=some (.loop (rec .ready none)):=by
  rw[←hW1];have:=World.alloc_heap_new (w.alloc (.deferred (some []))) (.loop (rec .ready none));rwa [World.size_alloc] at this
 have hK1:W1.heap[w.heap.size]?=some (.deferred (some [])):=by
  rw[←hW1];exact(Below.heap_alloc _ _ _ (by simp)).trans (World.alloc_heap_new w _)
 have hs1:W1.heap.size=w.heap.size+2:=by rw[←hW1];simp
 have hst1:∀N,Stp N w W1:=fun N=>by rw[←hW1];exact((Stp.refl N w).alloc _).alloc _
 have hI1:I [] (fun _=>False) W1:=hI [] _ _ w W1 h0 (fun _ h=>h.elim) (fun _ h=>h) (fun _ h=>h.elim) (fun _ h=>h.elim) (hst1 _)
 refine⟨w.heap.size+1,[{target:=.collected w.heap.size,args:=#[]}],W1,{target:=.fn (.func gf) lb,args:=#[.func (.yield (w.heap.size+1)) #[] #[]]},W1,gf,
  #[.func (.yield (w.heap.size+1)) #[] #[]]++lb,W1,?_,?_,?_,?_,fun _=>h1,?_⟩
 ·rw[←hW1,hrec];exact run_enterLoop_outer _ _ _ _ _
 ·simp only[resolve,hg];simp[go_sem]
 ·intro f' _;trivial
 ·simp[invoke,go_sem,eg]
 ·refine(hseq (w.heap.size+1)
   (fun pre M W=>(I pre M W∧W.heap[w.heap.size+1]?=some (.loop (rec .ready none))∧W.heap[w.heap.size]?=some (.deferred (some [])))∧∀b,M b->w.heap.size+2<=b∧b<W.heap.size)
   (fun pre M W=>(∃c,Ix c pre M W∧W.heap[w.heap.size+1]?=some (.loop (rec .done (some c)))∧W.heap[w.heap.size]?=some (.deferred (some [])))∧∀b,M b->w.heap.size+2<=b∧b<W.heap.size)
   W1 (hb0.trans (hst1 _)) ?_ ?_ ?_ ⟨⟨hI1,hL1,hK1⟩,fun _ h=>h.elim⟩).mono ?_
  ·rintro s M M' A B ⟨⟨hi,hl,hk⟩,hm⟩ hM' hMM hnew hlt hstp;rw[hs1] at hM'
   exact⟨⟨hI s M M' A B hi hM' hMM hnew hlt (hstp.mono fun b _ h=>.inl h),
    (hstp.block _ (lt_of_block hl) (fun h=>by have:=(hm _ h).1;omega)).trans hl,(hstp.block _ (lt_of_block hk) (fun h=>by have:=(hm _ h).1;omega)).trans hk⟩,fun b h=>⟨hM' b h,hlt b h⟩⟩
  ·rintro s M M' A B ⟨⟨c,hi,hl,hk⟩,hm⟩ hM' hMM hnew hlt hstp;rw[hs1] at hM'
   exact⟨⟨c,hIx c s M M' A B hi hM' hMM hnew hlt (hstp.mono fun b _ h=>.inl h),
    (hstp.block _ (lt_of_block hl) (fun h=>by have:=(hm _ h).1;omega)).trans hl,(hstp.block _ (lt_of_block hk) (fun h=>by have:=(hm _ h).1;omega)).trans hk⟩,fun b h=>⟨hM' b h,hlt b h⟩⟩
  ·-- one round
   rintro pre x rest M W hxs ⟨⟨hi,hl,hk⟩,hm⟩;have hlt:w.heap.size+1<W.heap.size:=lt_of_block hl;have hy:=run_yield (P:=P) (args:=encs x) hl (by rw[hrec];exact hps x);rw[hrec] at hy;refine⟨fn,_,assign,body,hy,roundIn_of_wpIn hfn (wpIn_mono (hround _ pre x rest M W hxs hi hm (by omega)) ?_)⟩;rintro e a2 W2 hp;cases e with
   |normal=>
    obtain⟨hk2,hbody⟩:=hp;have hl2:=(hk2.block _ (lt_of_block hl) (by simp)).trans hl;have hkk2:=(hk2.block _ (lt_of_block hk) (by simp)).trans hk;refine⟨_,run_beginRound hl2 (by rw[hrec]),?_⟩;obtain⟨W3,hW3⟩:∃W3,W2.putObj (w.heap.size+1) (.loop {rec .ready none with state:=.busy})=W3:=⟨_,rfl⟩;rw[hW3];have hst3:Stp (fun b=>b+1=w.heap.size+2) W2 W3:=by rw[←hW3];exact Stp.putObj (Stp.refl (fun b=>b+1=w.heap.size+2) W2) (.inl rfl) _
    have hl3:W3.heap[w.heap.size+1]?=some (.loop {rec .ready none with state:=.busy}):=by rw[←hW3];exact World.putObj_heap_same (lt_of_block hl2)
    have hkk3:W3.heap[w.heap.size]?=some (.deferred (some [])):=(hst3.block _ (lt_of_block hkk2) (by omega)).trans hkk2;have hsz3:W3.heap.size=W2.heap.size:=by rw[←hW3];simp
    refine wpIn_mono (hbody W3 hsz3 hst3) ?_
    have fin:∀(jump:Option Code) (W4:World),KeepN M R (w.heap.size+2) W3 W4->∃W5,
      (Instr.endRound (w.heap.size+1) jump).run P W4=.ok (.bool jump.isNone) W5∧Stp (fun b=>b+1=w.heap.size+2) W4 W5 ∧
      W5.heap[w.heap.size+1]?=some (.loop (rec (if jump.isNone then .ready else .done) jump))∧W5.heap[w.heap.size]?=some (.deferred (some [])):=fun jump W4 hk4=>by
     have hl4:=(hk4.block _ (lt_of_block hl3) (by simp)).trans hl3;have hkk4:=(hk4.block _ (lt_of_block hkk3) (by simp)).trans hkk3;have hr:=run_endRound (P:=P) jump hl4;rw[hrec] at hr;refine⟨_,hr,Stp.putObj (Stp.refl (fun b=>b+1=w.heap.size+2) W4) (.inl rfl) _,?_,?_⟩
     ·rw[World.putObj_heap_same (lt_of_block hl4),hrec]
     ·rw[World.putObj_heap_other (by omega)];exact hkk4
    have ab:∀{s:List α} {A B:World},I s M A->W.heap.size<=A.heap.size->Stp (fun b=>b+1=w.heap.size+2) A B->I s M B:=fun {s A B} ha hAW hab=>
     hI s M M A B ha (fun b h=>(hm b h).1) (fun _ h=>h) (fun _ h=>.inl h) (fun b h=>by have:=(hm b h).2;have:=hab.size;omega) (hab.mono fun b _ h=>.inr (.inr h))
    have abx:∀{c:Code} {s:List α} {A B:World},Ix c s M A->W.heap.size<=A.heap.size->Stp (fun b=>b+1=w.heap.size+2) A B->Ix c s M B:=fun {c s A B} ha hAW hab=>
     hIx c s M M A B ha (fun b h=>(hm b h).1) (fun _ h=>h) (fun _ h=>.inl h) (fun b h=>by have:=(hm b h).2;have:=hab.size;omega) (hab.mono fun b _ h=>.inr (.inr h))
    rintro e a3 W4 hp4;cases e with
    |normal=>
     obtain⟨hk4,hi4⟩:=hp4;obtain⟨W5,hr,h45,hl5,hkk5⟩:=fin none W4 hk4;have hAW:=Nat.le_trans (Nat.le_trans hk2.size hst3.size) hk4.size;refine⟨_,_,hr,.inl ⟨rfl,⟨⟨ab hi4 hAW h45,hl5,hkk5⟩,fun b h=>⟨(hm b h).1,by have:=(hm b h).2;have:=h45.size;omega⟩⟩,?_⟩⟩;have q:∀b,¬(M b∨R b∨b+2=w.heap.size+2∨b+1=w.heap.size+2)->¬(M b∨R b):=fun b h k=>h (by rcases k with k|k;exact .inl k;exact .inr (.inl k));have q2:∀b,b+1=w.heap.size+2->¬(M b∨R b):=fun b h k=>by rcases k with k|k;(have:=(hm b k).1;omega);(have:=hR b k;omega)
     exact(((hk2.mono fun b _=>q b).trans (hst3.mono fun b _=>q2 b)).trans (hk4.mono fun b _=>q b)).trans (h45.mono fun b _=>q2 b)
    |ret=>
     obtain⟨hk4,hi4⟩:=hp4;obtain⟨W5,hr,h45,hl5,hkk5⟩:=fin (some .ret) W4 hk4;have hAW:=Nat.le_trans (Nat.le_trans hk2.size hst3.size) hk4.size;exact⟨_,_,hr,.inr ⟨rfl,⟨.ret,abx hi4 hAW h45,hl5,hkk5⟩,fun b h=>⟨(hm b h).1,by have:=(hm b h).2;have:=h45.size;omega⟩⟩⟩
    |exit id=>
     obtain⟨hk4,hi4⟩:=hp4;obtain⟨W5,hr,h45,hl5,hkk5⟩:=fin (some (.exit id)) W4 hk4;have hAW:=Nat.le_trans (Nat.le_trans hk2.size hst3.size) hk4.size;exact⟨_,_,hr,.inr ⟨rfl,⟨.exit id,abx hi4 hAW h45,hl5,hkk5⟩,fun b h=>⟨(hm b h).1,by have:=(hm b h).2;have:=h45.size;omega⟩⟩⟩
    |goto t=>
     obtain⟨hk4,hi4⟩:=hp4;obtain⟨W5,hr,h45,hl5,hkk5⟩:=fin (some (.goto t)) W4 hk4;have hAW:=Nat.le_trans (Nat.le_trans hk2.size hst3.size) hk4.size;exact⟨_,_,hr,.inr ⟨rfl,⟨.goto t,abx hi4 hAW h45,hl5,hkk5⟩,fun b h=>⟨(hm b h).1,by have:=(hm b h).2;have:=h45.size;omega⟩⟩⟩
    |panic ch=>exact hp4.elim
    |outgrown=>exact hp4.elim
   |ret=>exact hp.elim
   |exit id=>exact hp.elim
   |goto t=>exact hp.elim
   |panic ch=>exact hp.elim
   |outgrown=>exact hp.elim
  ·-- behind the iterator
   rintro e W2 ⟨⟨v,rfl⟩,(⟨M,⟨hi,hl,hk⟩,hm⟩|⟨pre,rest,M,hx,⟨c,hi,hl,hk⟩,hm⟩)⟩
   ·refine⟨none,_,by have:=run_endLoop (P:=P) hl (by rw[hrec];simp);rw[hrec] at this;exact this,hdone M _ ?_ ((World.putObj_heap_other (by omega)).trans hk)⟩;exact hI xs M M W2 _ hi (fun b h=>(hm b h).1) (fun _ h=>h) (fun _ h=>.inl h) (fun b h=>by simpa using(hm b h).2) ((Stp.refl _ _).putObj (.inl (.inr (.inr rfl))) _)
   ·refine⟨some c,_,by have:=run_endLoop (P:=P) hl (by rw[hrec];simp);rw[hrec] at this;exact this,hstop c pre rest M _ hx ?_ ((World.putObj_heap_other (by omega)).trans hk)⟩;exact hIx c pre M M W2 _ hi (fun b h=>(hm b h).1) (fun _ h=>h) (fun _ h=>.inl h) (fun b h=>by simpa using(hm b h).2) ((Stp.refl _ _).putObj (.inl (.inr (.inr rfl))) _)
section
variable {β:Type} {B:Nat}
theorem Abide.and {I I':β->(Nat->Prop)->World->Prop} (h:Abide B I) (h':Abide B I'):Abide B (fun s M W=>I s M W∧I' s M W):=
 fun s M M' W W' hs a b c d e=>⟨h s M M' W W' hs.1 a b c d e,h' s M M' W W' hs.2 a b c d e⟩
theorem abide_pure (p:β->Prop):Abide B (fun s (_:Nat->Prop) (_:World)=>p s):=fun _ _ _ _ _ hs _ _ _ _ _=>hs
theorem Abide.ex {γ:Type} {I:γ->β->(Nat->Prop)->World->Prop} (h:∀x,Abide B (I x)):Abide B (fun s M W=>∃x,I x s M W):=
 fun s M M' W W' ⟨x,hs⟩ a b c d e=>⟨x,h x s M M' W W' hs a b c d e⟩
theorem abide_below {W0:World} {k:Nat} (hk:k+2<=B):Abide B (fun(_:β) (_:Nat->Prop) W=>Below k W0 W∧k<=W.heap.size):=fun _ M M' W W' hs hM hMM _ _ hst=>by
 obtain⟨h2,h3⟩:=hs;exact⟨h2.trans (hst.toBelow h3 (fun b hb hn=>by rcases hn with hn|hn|hn;(have:=hM b (hMM b hn);omega);omega;omega)),Nat.le_trans h3 hst.size⟩
theorem abide_blk {g:Nat} {t:TypeId} (f:β->Array Value) (hg:g+2<B):Abide B (fun s (_:Nat->Prop) W=>Blk W g t (f s)):=fun _ M M' W W' hs hM hMM _ _ hst=>
 hst.blk hs (fun hn=>by rcases hn with hn|hn|hn;(have:=hM _ (hMM _ hn);omega);omega;omega)
theorem abide_size {k:Nat}:Abide B (fun(_:β) (_:Nat->Prop) W=>k<=W.heap.size):=fun _ _ _ _ _ hs _ _ _ _ hst=>Nat.le_trans hs hst.size
end
end Go.Proofs.YtjkkfcghkeoedaaGreatDoor
