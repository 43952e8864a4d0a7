/- The parts of the proof, part 18. -/
import Derived.Test.YtjkkfcghkeoedaaGreatDoorR0
import Derived.Test.YtjkkfcghkeoedaaGreatDoorR16
import Derived.Deep.RegionHeld3
import Derived.Laws.Rows
import Derived.Laws.Tables
import Derived.Deep.WholeRow
import Derived.Test.YtjkkfcghkeoedaaGreatDoorProg
import Derived.Recover
import Derived.Defers
import Derived.Laws.Pointers
set_option maxHeartbeats 16000000
set_option maxRecDepth 20000
set_option linter.unusedSimpArgs false
set_option linter.unusedVariables false
namespace Go.Proofs.YtjkkfcghkeoedaaGreatDoor.Fi
open Go
section
variable {P:Program} {ops:Array Oper} {Q:Exit->Act->World->Prop} {md:Region.Mode} {S:World->Prop} {K:Nat}
def wpAnyL (P:Program) (md:Region.Mode) (ops:Array Oper) (Q:Exit->Act->World->Prop) (S:World->Prop) (K:Nat):Nat->Array Bool->Act->World->Prop
 |0,listed,a,w=>Region.ready md ops listed=[]∧Q .normal a w
 |fuel+1,listed,a,w=>
  (Region.ready md ops listed=[]->Q .normal a w) ∧
  ∀i∈Region.ready md ops listed,wpOp P ops Q i (fun a' w'=>(i≠K->S w')∧wpAnyL P md ops Q S K fuel (listed.setIfInBounds i true) a' w') a w
theorem wpAny_of_last:∀(fuel:Nat) (listed:Array Bool) (a:Act) (w:World),wpAnyL P md ops Q S K fuel listed a w->wpAny P md ops Q fuel listed a w
 |0,_,_,_,h=>h
 |fuel+1,_,_,_,h=>⟨h.1,fun i hi=>wpOp_mono (fun a' w' h'=>wpAny_of_last fuel _ a' w' h'.2) (h.2 i hi)⟩
def Clos (md:Region.Mode) (ops:Array Oper) (listed:Array Bool):Prop:=
 ∀j o,ops[j]?=some o->listed.getD j false=true->∀e∈o.after,Region.binds md e=true->listed.getD e.on false=true
def closB (md:Region.Mode) (ops:Array Oper) (listed:Array Bool):Bool:=
 (List.range ops.size).all fun j=>!(listed.getD j false)||((ops[j]?).map (·.after.all fun e=>!Region.binds md e||listed.getD e.on false)).getD true
theorem clos_of {listed:Array Bool} (h:closB md ops listed=true):Clos md ops listed:=by
 intro j o ho hj e he hb;have hjs:=(Array.getElem?_eq_some_iff.1 ho).1;have h1:=List.all_eq_true.1 h j (by simpa using hjs);simp only[hj,ho,Bool.not_true,Bool.false_or,Option.map_some,Option.getD_some] at h1;have h2:=Array.all_eq_true_iff_forall_mem.1 h1 e he;simpa[hb] using h2
def preB (md:Region.Mode) (ops:Array Oper):Nat->Nat->Nat->Bool
 |0,_,_=>false
 |f+1,i,j=>((ops[j]?).map (·.after.any fun e=>Region.binds md e&&(e.on==i||preB md ops f i e.on))).getD false
theorem pre_done {listed:Array Bool} (hc:Clos md ops listed) {i:Nat}:∀(f j:Nat) (o:Oper),ops[j]?=some o->(∀e∈o.after,Region.binds md e=true->listed.getD e.on false=true)->preB md ops f i j=true->listed.getD i false=true:=by
 intro f;induction f with
 |zero=>intro j o _ _ h;cases h
 |succ f ih=>
  intro j o ho hd h;unfold preB at h;simp only[ho,Option.map_some,Option.getD_some] at h;obtain⟨e,he,h⟩:=Array.any_eq_true'.1 h;obtain⟨h1,h2⟩:=Bool.and_eq_true_iff.1 h;have h3:=hd e he h1;rcases Bool.or_eq_true_iff.1 h2 with h4|h4
  ·rw[←beq_iff_eq.1 h4];exact h3
  ·cases ho2:ops[e.on]? with
   |none=>cases f<;>simp[preB,ho2] at h4
   |some o2=>exact ih e.on o2 ho2 (hc e.on o2 ho2 h3) h4
theorem clos_step {listed:Array Bool} (hc:Clos md ops listed) {j:Nat} (hj:j∈Region.ready md ops listed):Clos md ops (listed.setIfInBounds j true):=by
 intro k o ho hk e he hb;obtain⟨_,oj,hoj,hall⟩:=mem_ready.1 hj;refine getD_set_true ?_;by_cases hjk:j=k
 ·subst hjk;rw[hoj] at ho;cases ho;exact hall e he hb
 ·rw[getD_set_ne false hjk] at hk;exact hc k o ho hk e he hb
theorem wpAnyL_first {i:Nat} {oi:Oper} {v:Value} (hi:ops[i]?=some oi) (hsel:∀(j:Nat) (o:Oper) cs b,ops[j]?=some o->o.op≠.select cs b)
  (hQ:∀c a w,Q (.panic c) (a.put oi.dst v) w->Q (.panic c) a w) (hp:preB md ops ops.size i K=true) (hiK:i≠K):
  ∀(fuel:Nat) (listed:Array Bool) (a:Act) (w:World),Clos md ops listed ->
   (∀j oj,ops[j]?=some oj->j≠i->listed.getD j true=false->(∀e∈oj.after,Region.binds md e=true->e.on≠i)->oi.apart ops oj=true) ->
   i∈Region.ready md ops listed->YieldsIf P ops S oi v a->S w ->
   wpAnyL P md ops Q S K fuel (listed.setIfInBounds i true) (a.put oi.dst v) w->wpAnyL P md ops Q S K (fuel+1) listed a w:=by
 intro fuel;induction fuel with
 |zero=>
  intro listed a w _ _ hr hy hS H;refine⟨fun h=>(by rw[h] at hr;cases hr),fun j hj=>?_⟩;by_cases hji:j=i
  ·subst hji;exact hy.wpOp hi hS ⟨fun _=>hS,H⟩
  ·have:=ready_mono hj hji;rw[H.1] at this;cases this
 |succ fuel ih=>
  intro listed a w hcl hfree hr hy hS H;refine⟨fun h=>(by rw[h] at hr;cases hr),fun j hj=>?_⟩;by_cases hji:j=i
  ·subst hji;exact hy.wpOp hi hS ⟨fun _=>hS,H⟩
  ·have hjK:j≠K:=by
    intro e;subst e;obtain⟨_,oj,hoj,hall⟩:=mem_ready.1 hj;have h1:=pre_done hcl ops.size j oj hoj hall hp;have h0:=(mem_ready.1 hr).1;rcases Nat.lt_or_ge i listed.size with h'|h'
    ·simp[h'] at h0 h1;rw[h0] at h1;cases h1
    ·simp[Array.getElem?_eq_none h'] at h1
   have h1:=H.2 j (ready_mono hj hji);obtain⟨hjun,oj,hoj,hall⟩:=mem_ready.1 hj;have hnot:∀e∈oj.after,Region.binds md e=true->e.on≠i:=fun e he hb heq=>by
    have h1:=hall e he hb;have h0:=(mem_ready.1 hr).1;rw[heq] at h1;rcases Nat.lt_or_ge i listed.size with h'|h'
    ·simp[h'] at h0 h1;rw[h0] at h1;cases h1
    ·simp[Array.getElem?_eq_none h'] at h1
   have h2:=wpOp_putIf hoj (hfree j oj hoj hji hjun hnot) (fun cs b=>hsel i oi cs b hi) (fun cs b=>hsel j oj cs b hoj) hQ hy h1
   have hfree':∀k ok,ops[k]?=some ok->k≠i->(listed.setIfInBounds j true).getD k true=false ->
     (∀e∈ok.after,Region.binds md e=true->e.on≠i)->oi.apart ops ok=true:=fun k ok hk hki hun hno=>by
    refine hfree k ok hk hki ?_ hno;by_cases hjk:j=k
    ·subst hjk;exact hjun
    ·rw[getD_set_ne true hjk] at hun;exact hun
   refine wpOp_mono (fun a' w' h3=>⟨fun _=>h3.2.1 hjK,ih (listed.setIfInBounds j true) a' w' (clos_step hcl hj) hfree' (ready_mono hr (Ne.symm hji)) h3.1 (h3.2.1 hjK) ?_⟩) h2;rw[Array.setIfInBounds_comm _ _ hji];exact h3.2.2
theorem wpAnyL_take {i:Nat} {oi:Oper} {v:Value} {fuel:Nat} {listed:Array Bool} {a:Act} {w:World} (hi:ops[i]?=some oi)
  (hs:Region.noSelect ops=true) (hf:Region.free md ops listed i=true) (hr:(Region.ready md ops listed).contains i=true) (hp:preB md ops ops.size i K=true) (hc:closB md ops listed=true) (hiK:i≠K)
  (hQ:∀c a w,Q (.panic c) (a.put oi.dst v) w->Q (.panic c) a w) (hy:YieldsIf P ops S oi v a) (hS:S w)
  (h:wpAnyL P md ops Q S K fuel (listed.setIfInBounds i true) (a.put oi.dst v) w):wpAnyL P md ops Q S K (fuel+1) listed a w:=
 wpAnyL_first hi (Region.noSelect_spec hs) hQ hp hiK fuel listed a w (clos_of hc) (Region.free_spec hi hf) (by simpa using hr) hy hS h
theorem wpAnyL_tk (i d:Nat) (v:Value) {fuel:Nat} {listed:Array Bool} {a:Act} {w:World} {op:Op} {ty pos af g} (hi:ops[i]?=some {dst:=some d,op:=op,type:=ty,pos:=pos,after:=af,guard:=g})
 (h:wpAnyL P md ops Q S K fuel (listed.setIfInBounds i true) (a.put (some d) v) w)
 (hy:∀w,S w->(execOp a.eval {dst:=some d,op:=op,type:=ty,pos:=pos,after:=af,guard:=g}).run P w=.ok (.value v) w:=by(intro w' hSw;go_simp;try with_reducible rfl))
 (hw:Region.wanted {dst:=some d,op:=op,type:=ty,pos:=pos,after:=af,guard:=g} (yielded ops a.tmps)=true:=by rfl) (hs:Region.noSelect ops=true:=by kernel_rfl) (hf:Region.free md ops listed i=true:=by kernel_rfl)
 (hr:(Region.ready md ops listed).contains i=true:=by kernel_rfl) (hp:preB md ops ops.size i K=true:=by kernel_rfl) (hc:closB md ops listed=true:=by kernel_rfl) (hiK:i≠K:=by decide)
 (hQ:∀c a' w,Q (.panic c) (a'.put (some d) v) w->Q (.panic c) a' w:=by(intro c a w h;exact h)) (hS:S w:=by assumption):wpAnyL P md ops Q S K (fuel+1) listed a w:=
 wpAnyL_take hi hs hf hr hp hc hiK hQ (.inl ⟨hw,hy⟩) hS h
theorem wpAnyL_done {listed:Array Bool} {a:Act} {w:World} (hr:Region.ready md ops listed=[]) (h:Q .normal a w):
  ∀fuel,wpAnyL P md ops Q S K fuel listed a w
 |0=>⟨hr,h⟩
 |_+1=>⟨fun _=>h,by rw[hr];simp⟩
def AllReadyL (P:Program) (md:Region.Mode) (ops:Array Oper) (Q:Exit->Act->World->Prop) (S:World->Prop) (K fuel:Nat) (listed:Array Bool) (a:Act) (w:World) (rs:List Nat):Prop:=
 ∀i∈rs,wpOp P ops Q i (fun a' w'=>(i≠K->S w')∧wpAnyL P md ops Q S K fuel (listed.setIfInBounds i true) a' w') a w
theorem AllReadyL.nil {fuel:Nat} {listed:Array Bool} {a:Act} {w:World}:AllReadyL P md ops Q S K fuel listed a w []:=fun _ h=>by cases h
theorem AllReadyL.cons {fuel:Nat} {listed:Array Bool} {a:Act} {w:World} {i:Nat} {o:Oper} {rs:List Nat} (ho:ops[i]?=some o)
  (h:∀K':Act->World->Prop,Shut (∀a w,S w->(S w->wpAnyL P md ops Q S K fuel (listed.setIfInBounds i true) a w)->K' a w)->if Region.wanted o (yielded ops a.tmps)=true then Oper.wp P o a w K' Q else K' (a.put o.dst undef) w)
  (hs:AllReadyL P md ops Q S K fuel listed a w rs):AllReadyL P md ops Q S K fuel listed a w (i::rs):=fun j hj=>by
 rcases List.mem_cons.1 hj with rfl|hj
 ·exact wpOp_step ho (fun K' hK=>h K' (fun a w hS hW=>hK a w ⟨fun _=>hS,hW hS⟩))
 ·exact hs j hj
theorem wpAnyL_ready {rs:List Nat} {fuel:Nat} {listed:Array Bool} {a:Act} {w:World} (hr:Region.ready md ops listed=rs) (hne:rs≠[])
  (h:AllReadyL P md ops Q S K fuel listed a w rs):wpAnyL P md ops Q S K (fuel+1) listed a w:=⟨fun h0=>absurd (hr▸h0) hne,hr▸h⟩
theorem wpAnyL_last {fuel:Nat} {listed:Array Bool} {a:Act} {w:World} {o:Oper} (hr:Region.ready md ops listed=[K]) (ho:ops[K]?=some o)
  (h:∀K':Act->World->Prop,Shut (∀a w,wpAnyL P md ops Q S K fuel (listed.setIfInBounds K true) a w->K' a w)->if Region.wanted o (yielded ops a.tmps)=true then Oper.wp P o a w K' Q else K' (a.put o.dst undef) w):
  wpAnyL P md ops Q S K (fuel+1) listed a w:=by
 refine⟨fun h=>(by rw[hr] at h;cases h),fun j hj=>?_⟩;rw[hr] at hj;obtain rfl:=List.mem_singleton.1 hj;exact wpOp_step ho (fun K' hK=>h K' (fun a w hW=>hK a w ⟨fun e=>absurd rfl e,hW⟩))
theorem wp_region_last {id:Nat} {a:Act} {w:World} (K:Nat) (S:World->Prop) (hm:P.follows .mixedOrders=true) (hS:S w.drew)
  (h:S w.drew->wpAnyL P .any ops Q S K ops.size (Array.replicate ops.size false) a w.drew):(Code.region id ops true).wp P Q a w:=
 wp_region_any hm (wpAny_of_last _ _ _ _ (h hS))
end
end Go.Proofs.YtjkkfcghkeoedaaGreatDoor.Fi
namespace Go.Proofs.YtjkkfcghkeoedaaGreatDoor.Fi
open Go.RowKit Go.Lib Tx
def Km (W:World) (T:Nat) (w':World):Prop:=(∀b o,b<W.heap.size->b≠T->w'.cell? ⟨b,o,none⟩=W.cell? ⟨b,o,none⟩)∧(∀b o,b<W.heap.size->b≠T->w'.frozen? ⟨b,o,none⟩=W.frozen? ⟨b,o,none⟩)∧Stp (fun g=>g=T) W w'
section
variable {W w' w'':World} {N:Nat}
theorem km_stp (h:Stp (fun g=>g=N) W w'):Km W N w':=
 ⟨fun b o hb hn=>World.cell?_of_block (w:=W) (w':=w') (a:=⟨b,o,none⟩) (h.block b hb hn),fun b o hb hn=>World.frozen?_of_block (w:=W) (w':=w') (a:=⟨b,o,none⟩) (h.block b hb hn),h⟩
theorem km_refl:Km W N W:=km_stp (Stp.refl _ _)
theorem km_step (h:Km W N w') (hb:Below w'.heap.size w' w''):Km W N w'':=km_stp (h.2.2.below hb h.2.2.size)
theorem km_draw (h:Km W N w'):Km W N w'.drew:=km_stp h.2.2.drew
theorem km_drewN {n:Nat} (h:Km W N w'):Km W N (w'.drewN n):=km_stp (h.2.2.drewN n)
theorem km_alloc {o:Obj} (h:Km W N w'):Km W N (w'.alloc o):=km_stp (h.2.2.alloc o)
theorem km_grown {row:Option Nat} (h:Km W N w') (k:w'.grownBy w'' row) (hr:∀r,row=some r->r=N∨W.heap.size<=r):Km W N w'':=km_stp (h.2.2.grown k hr)
end
section
variable {P:Program}
theorem step_append_at2 {ops:Array Oper} {o:Oper} {a:Act} {w:World} {K:Act->World->Prop} {Q:Exit->Act->World->Prop} {E:Prop} (hgd:o.guard=none) (s x:Operand) (t:TypeId)
  (ho:o.op=.call {callee:=.builtin .append,args:=#[s,x],argTypes:=#[t,t]})
  (base:Nat) (e:TypeId) (i:TypeInfo) (z:Value) (size bytes:Nat) (ht:P.underlying t=some (.slice e)) (hi:P.info? e=some i) (hz:i.zero=some z)
  (hsize:i.size=size) (hby:i.bytes=bytes) (hzs:z.cells.size=size) (hsz:0<size)
  (v:Value) (n:Nat) (xs:List Value) (hs:a.eval s=v) (hown:w.ownsRow base e size v n xs)
  (ad:Addr) (m c:Nat) (news:List Value) (hx:a.eval x=.slice (some ad) m c) (hl:news.length=m*size) (hnews:∀j u,news[j]?=some u->w.cell? (ad.add j)=some u) (h1:∀u∈news,u.oneCell'=true)
  (h63:n+m<=maxLen) (hbytes:(n+m)*bytes<=140737488355328) (hbase:base<=w.heap.size)
  (h:∀v' w',w'.ownsRow base e size v' (n+m) (xs++news)->w.grownBy w' v.ownBlock->(v'.ownBlock=v.ownBlock∨v'.ownBlock=some w.heap.size)->K (a.put o.dst v') w'):
  if Region.wanted o (yielded ops a.tmps)=true then Oper.wp P o a w K Q else E:=by
 have hw:Region.wanted o (yielded ops a.tmps)=true:=by simp[Region.wanted,hgd]
 rw[if_pos hw];obtain⟨v',w',hr,h2,h3,_,h5⟩:=Go.run_append_own_at (P:=P) w base t o.type e i z size bytes ht hi hz hsize hby hzs hsz v n xs hown ad m c news hl hnews h1 h63 hbytes hbase;unfold Oper.wp execOp;simp only[ho,resolve,invoke,builtin,Sem.run_bind,Sem.run_pure,Result.andThen_ok,List.map_toArray,List.map_cons,List.map_nil,hs,hx,hr];exact h v' w' h2 h3 h5
end
section
variable {P:Program}
theorem wpList_store_newC {ops:Array Oper} {rest:List Oper} {o:Oper} {a:Act} {Q:Exit->Act->World->Prop} (hgd:o.guard=none) (t:TypeId) (x y:Operand) (ho:o.op=.store t x y)
  (w0:World) (c c':Array Value) (n:Nat) (hn:w0.heap.size=n) (hx:a.eval x=.pointer (some ⟨n,0,none⟩)) (hy:a.eval y=.agg c')
  (hi:(P.info? t).map (·.size)=some c'.size) (hc:c.size=c'.size) (h1:c'.all (·.oneCell')=true)
  (h:wpList P ops Q rest (a.put o.dst undef) (w0.alloc (.cells c' t))):wpList P ops Q (o::rest) a (w0.alloc (.cells c t)):=by
 subst hn;refine wpList_store_row hgd t x y ho w0.heap.size c' hx hy t c (Blk.new w0 t c) hi hc h1 ?_;rw[World.setRow_alloc_new];exact h
end
theorem heap_setRow_other (w:World) (g:Nat) (cs:Array Value) (b:Nat) (h:b≠g):(w.setRow g cs).heap[b]?=w.heap[b]?:=by
 have:¬g=b:=fun e=>h e.symm;simp[World.setRow,Array.getElem?_modify,this]
theorem size_setRow (w:World) (g:Nat) (cs:Array Value):(w.setRow g cs).heap.size=w.heap.size:=by simp[World.setRow]
theorem Blk.setRow {w:World} {g:Nat} {t:TypeId} {old:Array Value} (h:Blk w g t old) (cs:Array Value):Blk (w.setRow g cs) g t cs:=by
 unfold Blk at h ⊢;simp[World.setRow,Array.getElem?_modify,h]
theorem Stp.setRow {N:Nat->Prop} {W W':World} (h:Stp N W W') {g:Nat} (hp:N g∨W.heap.size<=g) (cs:Array Value):Stp N W (W'.setRow g cs):=
 ⟨h.os,h.tape,h.output,by rw[size_setRow];exact h.size,fun b hb hn=>(heap_setRow_other _ _ _ _ (fun e=>by subst e;rcases hp with hp|hp;exact hn hp;omega)).trans (h.block b hb hn)⟩
theorem own_stp {N:Nat->Prop} {W W':World} {base sz k:Nat} {e:TypeId} {v:Value} {xs:List Value} (h:W.ownsRow base e sz v k xs) (hs:Stp N W W') (hn:∀g,v.ownBlock=some g->¬N g):W'.ownsRow base e sz v k xs:=by
 refine⟨h.1,?_⟩;rcases h.2 with⟨h1,h0⟩|⟨g',cap,cur,h1,hB,hh,h2,h3,h4,h5⟩
 ·exact .inl ⟨h1,h0⟩
 ·exact .inr ⟨g',cap,cur,h1,hB,(hs.block g' (lt_of_block hh) (hn g' (by rw[h1];rfl))).trans hh,h2,h3,h4,h5⟩
theorem below_stp {n:Nat} {N:Nat->Prop} {w w1 w2:World} (h:Below n w w1) (hs:Stp N w1 w2) (hn:∀g,g<n->¬N g) (hz:n<=w1.heap.size):Below n w w2:=h.trans (hs.toBelow hz hn)
theorem cs_one (L:LS):L.cs.toArray.all (·.oneCell')=true:=by simp[LS.cs,Value.oneCell']
theorem cs_size (L:LS):(Tryz.prog.info? 73).map (·.size)=some L.cs.toArray.size:=by kernel_rfl
end Go.Proofs.YtjkkfcghkeoedaaGreatDoor.Fi
namespace Go.Proofs.YtjkkfcghkeoedaaGreatDoor.Fi
open Go.RowKit Go.Lib
abbrev failV (k:Int):Value:=.iface 209 (.agg #[.int .i64 k])
theorem do1_panicking (E:Nat) (k x:Int) (w:World) (hc:w.cell? ⟨E,0,none⟩=some (.int .i64 x)) (hz:w.frozen? ⟨E,0,none⟩=false):
  CallsD Tryz.prog 130 #[.pointer (some ⟨E,0,none⟩)] (.panicking [{v:=failV k,recovered:=false}]) w fun e u' w'=>
   e=.returned (.tuple #[])∧u'=.panicking [{v:=failV k,recovered:=true}]∧w'=(w.setCell ⟨E,0,none⟩ (.int .i64 k)).alloc (.cells #[.int .i64 k] 209):=by
 have hb:E<w.heap.size:=World.block_lt_of_cell? w ⟨E,0,none⟩ hc;have hc1:(w.alloc (.cells #[.int .i64 k] 209)).cell? ⟨E,0,none⟩=some (.int .i64 x):=(World.cell?_alloc_lt _ _ _ hb).trans hc;have hz1:(w.alloc (.cells #[.int .i64 k] 209)).frozen? ⟨E,0,none⟩=false:=(World.frozen?_alloc_past _ E 0 hb).trans hz;have ht:∀(xT:TypeId) (w:World),(Instr.typeAssert (failV k) xT 209 true).run Tryz.prog w=.ok (.tuple #[.agg #[.int .i64 k],.bool true]) w:=fun _ _=>by kernel_rfl
 refine callsD_of_wpS Tryz.func130 rfl fun c₀ cs hu=>?_;simp only[Tryz.ntmps130,List.size_toArray,List.length_cons,List.length_nil,Nat.reduceAdd,Nat.reduceSub,Array.replicate_succ,Array.replicate_zero,List.push_toArray,List.append_toArray,List.nil_append,List.cons_append];apply wpS_seq;apply wpS_region;simp[wpOpsS,go_sem,recoverD,hu,Exit.thenS];refine wpS_of_wp ?_;go_wp2;simp_all [bodyPostS,results,Tryz.results130]
theorem do1_idle (p:Addr) (w:World):
  CallsD Tryz.prog 130 #[.pointer (some p)] .returning w fun e u' w'=>e=.returned (.tuple #[])∧u'=.returning∧w'=w:=by
 refine callsD_of_wpS Tryz.func130 rfl fun c₀ cs hu=>?_;simp only[Tryz.ntmps130,List.size_toArray,List.length_cons,List.length_nil,Nat.reduceAdd,Nat.reduceSub,Array.replicate_succ,Array.replicate_zero,List.push_toArray,List.append_toArray,List.nil_append,List.cons_append];apply wpS_seq;apply wpS_region;simp[wpOpsS,go_sem,recoverD,hu,Exit.thenS];refine wpS_of_wp ?_;go_wp2;cases c₀;simp_all [bodyPostS,results,Tryz.results130]
end Go.Proofs.YtjkkfcghkeoedaaGreatDoor.Fi
