/- The parts of the proof, part 29. -/
import Derived.Test.YtjkkfcghkeoedaaGreatDoorR0
import Derived.Test.YtjkkfcghkeoedaaGreatDoorR28
set_option maxHeartbeats 16000000
set_option maxRecDepth 20000
set_option linter.unusedSimpArgs false
set_option linter.unusedVariables false
namespace Go.Proofs.YtjkkfcghkeoedaaGreatDoor.Fi
open Go
section
variable {P:Program} {ops:Array Oper} {Q:Exit->Act->World->Prop} {md:Region.Mode} {S:World->Prop} {K:List Nat}
def wpAnyM (P:Program) (md:Region.Mode) (ops:Array Oper) (Q:Exit->Act->World->Prop) (S:World->Prop) (K:List Nat):Nat->Array Bool->Act->World->Prop
 |0,listed,a,w=>Region.ready md ops listed=[]∧Q .normal a w
 |fuel+1,listed,a,w=>
  (Region.ready md ops listed=[]->Q .normal a w) ∧
  ∀i∈Region.ready md ops listed,wpOp P ops Q i (fun a' w'=>(K.contains i=false->S w')∧wpAnyM P md ops Q S K fuel (listed.setIfInBounds i true) a' w') a w
theorem wpAny_of_lasts:∀(fuel:Nat) (listed:Array Bool) (a:Act) (w:World),wpAnyM P md ops Q S K fuel listed a w->wpAny P md ops Q fuel listed a w
 |0,_,_,_,h=>h
 |fuel+1,_,_,_,h=>⟨h.1,fun i hi=>wpOp_mono (fun a' w' h'=>wpAny_of_lasts fuel _ a' w' h'.2) (h.2 i hi)⟩
theorem wpAnyM_first {i:Nat} {oi:Oper} {v:Value} (hi:ops[i]?=some oi) (hsel:∀(j:Nat) (o:Oper) cs b,ops[j]?=some o->o.op≠.select cs b)
  (hQ:∀c a w,Q (.panic c) (a.put oi.dst v) w->Q (.panic c) a w) (hp:(K.all fun q=>preB md ops ops.size i q)=true) (hiK:K.contains i=false):
  ∀(fuel:Nat) (listed:Array Bool) (a:Act) (w:World),Clos md ops listed ->
   (∀j oj,ops[j]?=some oj->j≠i->listed.getD j true=false->(∀e∈oj.after,Region.binds md e=true->e.on≠i)->oi.apart ops oj=true) ->
   i∈Region.ready md ops listed->YieldsIf P ops S oi v a->S w ->
   wpAnyM P md ops Q S K fuel (listed.setIfInBounds i true) (a.put oi.dst v) w->wpAnyM P md ops Q S K (fuel+1) listed a w:=by
 intro fuel;induction fuel with
 |zero=>
  intro listed a w _ _ hr hy hS H;refine⟨fun h=>(by rw[h] at hr;cases hr),fun j hj=>?_⟩;by_cases hji:j=i
  ·subst hji;exact hy.wpOp hi hS ⟨fun _=>hS,H⟩
  ·have:=ready_mono hj hji;rw[H.1] at this;cases this
 |succ fuel ih=>
  intro listed a w hcl hfree hr hy hS H;refine⟨fun h=>(by rw[h] at hr;cases hr),fun j hj=>?_⟩;by_cases hji:j=i
  ·subst hji;exact hy.wpOp hi hS ⟨fun _=>hS,H⟩
  ·have hjK:K.contains j=false:=by
    cases hcj:K.contains j with
    |false=>rfl
    |true=>
    exfalso;obtain⟨_,oj,hoj,hall⟩:=mem_ready.1 hj;have h1:=pre_done hcl ops.size j oj hoj hall (List.all_eq_true.1 hp j (List.contains_iff_mem.1 hcj));have h0:=(mem_ready.1 hr).1;rcases Nat.lt_or_ge i listed.size with h'|h'
    ·simp[h'] at h0 h1;rw[h0] at h1;cases h1
    ·simp[Array.getElem?_eq_none h'] at h1
   have h1:=H.2 j (ready_mono hj hji);obtain⟨hjun,oj,hoj,hall⟩:=mem_ready.1 hj;have hnot:∀e∈oj.after,Region.binds md e=true->e.on≠i:=fun e he hb heq=>by
    have h1:=hall e he hb;have h0:=(mem_ready.1 hr).1;rw[heq] at h1;rcases Nat.lt_or_ge i listed.size with h'|h'
    ·simp[h'] at h0 h1;rw[h0] at h1;cases h1
    ·simp[Array.getElem?_eq_none h'] at h1
   have h2:=wpOp_putIf hoj (hfree j oj hoj hji hjun hnot) (fun cs b=>hsel i oi cs b hi) (fun cs b=>hsel j oj cs b hoj) hQ hy h1
   have hfree':∀k ok,ops[k]?=some ok->k≠i->(listed.setIfInBounds j true).getD k true=false ->
     (∀e∈ok.after,Region.binds md e=true->e.on≠i)->oi.apart ops ok=true:=fun k ok hk hki hun hno=>by
    refine hfree k ok hk hki ?_ hno;by_cases hjk:j=k
    ·subst hjk;exact hjun
    ·rw[getD_set_ne true hjk] at hun;exact hun
   refine wpOp_mono (fun a' w' h3=>⟨fun _=>h3.2.1 hjK,ih (listed.setIfInBounds j true) a' w' (clos_step hcl hj) hfree' (ready_mono hr (Ne.symm hji)) h3.1 (h3.2.1 hjK) ?_⟩) h2;rw[Array.setIfInBounds_comm _ _ hji];exact h3.2.2
theorem wpAnyM_take {i:Nat} {oi:Oper} {v:Value} {fuel:Nat} {listed:Array Bool} {a:Act} {w:World} (hi:ops[i]?=some oi)
  (hs:Region.noSelect ops=true) (hf:Region.free md ops listed i=true) (hr:(Region.ready md ops listed).contains i=true) (hp:(K.all fun q=>preB md ops ops.size i q)=true) (hc:closB md ops listed=true) (hiK:K.contains i=false)
  (hQ:∀c a w,Q (.panic c) (a.put oi.dst v) w->Q (.panic c) a w) (hy:YieldsIf P ops S oi v a) (hS:S w)
  (h:wpAnyM P md ops Q S K fuel (listed.setIfInBounds i true) (a.put oi.dst v) w):wpAnyM P md ops Q S K (fuel+1) listed a w:=
 wpAnyM_first hi (Region.noSelect_spec hs) hQ hp hiK fuel listed a w (clos_of hc) (Region.free_spec hi hf) (by simpa using hr) hy hS h
theorem wpAnyM_tk (i d:Nat) (v:Value) {fuel:Nat} {listed:Array Bool} {a:Act} {w:World} {op:Op} {ty pos af g} (hi:ops[i]?=some {dst:=some d,op:=op,type:=ty,pos:=pos,after:=af,guard:=g})
 (h:wpAnyM P md ops Q S K fuel (listed.setIfInBounds i true) (a.put (some d) v) w)
 (hy:∀w,S w->(execOp a.eval {dst:=some d,op:=op,type:=ty,pos:=pos,after:=af,guard:=g}).run P w=.ok (.value v) w:=by(intro w' hSw;go_simp;try with_reducible rfl))
 (hw:Region.wanted {dst:=some d,op:=op,type:=ty,pos:=pos,after:=af,guard:=g} (yielded ops a.tmps)=true:=by rfl) (hs:Region.noSelect ops=true:=by kernel_rfl) (hf:Region.free md ops listed i=true:=by kernel_rfl)
 (hr:(Region.ready md ops listed).contains i=true:=by kernel_rfl) (hp:(K.all fun q=>preB md ops ops.size i q)=true:=by kernel_rfl) (hc:closB md ops listed=true:=by kernel_rfl) (hiK:K.contains i=false:=by decide)
 (hQ:∀c a' w,Q (.panic c) (a'.put (some d) v) w->Q (.panic c) a' w:=by(intro c a w h;exact h)) (hS:S w:=by assumption):wpAnyM P md ops Q S K (fuel+1) listed a w:=
 wpAnyM_take hi hs hf hr hp hc hiK hQ (.inl ⟨hw,hy⟩) hS h
theorem wpAnyM_done {listed:Array Bool} {a:Act} {w:World} (hr:Region.ready md ops listed=[]) (h:Q .normal a w):
  ∀fuel,wpAnyM P md ops Q S K fuel listed a w
 |0=>⟨hr,h⟩
 |_+1=>⟨fun _=>h,by rw[hr];simp⟩
def AllReadyM (P:Program) (md:Region.Mode) (ops:Array Oper) (Q:Exit->Act->World->Prop) (S:World->Prop) (K:List Nat) (fuel:Nat) (listed:Array Bool) (a:Act) (w:World) (rs:List Nat):Prop:=
 ∀i∈rs,wpOp P ops Q i (fun a' w'=>(K.contains i=false->S w')∧wpAnyM P md ops Q S K fuel (listed.setIfInBounds i true) a' w') a w
theorem AllReadyM.nil {fuel:Nat} {listed:Array Bool} {a:Act} {w:World}:AllReadyM P md ops Q S K fuel listed a w []:=fun _ h=>by cases h
theorem AllReadyM.cons {fuel:Nat} {listed:Array Bool} {a:Act} {w:World} {i:Nat} {o:Oper} {rs:List Nat} (ho:ops[i]?=some o)
  (h:∀K':Act->World->Prop,Shut (∀a w,S w->(S w->wpAnyM P md ops Q S K fuel (listed.setIfInBounds i true) a w)->K' a w)->if Region.wanted o (yielded ops a.tmps)=true then Oper.wp P o a w K' Q else K' (a.put o.dst undef) w)
  (hs:AllReadyM P md ops Q S K fuel listed a w rs):AllReadyM P md ops Q S K fuel listed a w (i::rs):=fun j hj=>by
 rcases List.mem_cons.1 hj with rfl|hj
 ·exact wpOp_step ho (fun K' hK=>h K' (fun a w hS hW=>hK a w ⟨fun _=>hS,hW hS⟩))
 ·exact hs j hj
theorem wpAnyM_ready {rs:List Nat} {fuel:Nat} {listed:Array Bool} {a:Act} {w:World} (hr:Region.ready md ops listed=rs) (hne:rs≠[])
  (h:AllReadyM P md ops Q S K fuel listed a w rs):wpAnyM P md ops Q S K (fuel+1) listed a w:=⟨fun h0=>absurd (hr▸h0) hne,hr▸h⟩
theorem wpAnyM_last {k:Nat} {fuel:Nat} {listed:Array Bool} {a:Act} {w:World} {o:Oper} (hk:K.contains k=true) (hr:Region.ready md ops listed=[k]) (ho:ops[k]?=some o)
  (h:∀K':Act->World->Prop,Shut (∀a w,wpAnyM P md ops Q S K fuel (listed.setIfInBounds k true) a w->K' a w)->if Region.wanted o (yielded ops a.tmps)=true then Oper.wp P o a w K' Q else K' (a.put o.dst undef) w):
  wpAnyM P md ops Q S K (fuel+1) listed a w:=by
 refine⟨fun h=>(by rw[hr] at h;cases h),fun j hj=>?_⟩;rw[hr] at hj;obtain rfl:=List.mem_singleton.1 hj;exact wpOp_step ho (fun K' hK=>h K' (fun a w hW=>hK a w ⟨fun e=>(by rw[hk] at e;cases e),hW⟩))
theorem wp_region_lasts {id:Nat} {a:Act} {w:World} (K:List Nat) (S:World->Prop) (hm:P.follows .mixedOrders=true) (hS:S w.drew)
  (h:S w.drew->wpAnyM P .any ops Q S K ops.size (Array.replicate ops.size false) a w.drew):(Code.region id ops true).wp P Q a w:=
 wp_region_any hm (wpAny_of_lasts _ _ _ _ (h hS))
end
end Go.Proofs.YtjkkfcghkeoedaaGreatDoor.Fi
namespace Go.Proofs.YtjkkfcghkeoedaaGreatDoor.Fi
open Go.RowKit Go.Lib Tx
theorem su_cs (L:LSu):(Tryz.prog.info? 32).map (·.size)=some L.cs.toArray.size:=by kernel_rfl
theorem su_one (L:LSu):L.cs.toArray.all (·.oneCell')=true:=by simp[LSu.cs,Value.oneCell']
def CpyP (x:LSu) (w:World) (e:Ending) (w':World):Prop:=∃y:LSu,e=.returned (.agg y.cs.toArray)∧y.val=x.val∧SuOk (fun b=>w.heap.size<=b) w' y∧Below w.heap.size w w'
set_option maxRecDepth 40000 in
theorem f_copied {T:Nat->Prop} (x:LSu) (w:World) (hS:SuOk T w x) (hW:SuW x):Calls Tryz.prog 22 #[.agg x.cs.toArray] w (CpyP x w):=by
 have hbN:=(Blk.new w 32 x.cs.toArray).alloc (.cells #[.slice none 0 0,.slice none 0 0,.int .i64 0,.int .i64 0,.int .i64 0,.int .i64 0,.int .i64 0,.int .i64 0,.slice none 0 0,.int .i64 0,.int .i64 0,.int .i64 0,.int .i64 0,.int .i64 0,.int .i64 0,.int .i64 0,.int .i64 0] 32);have hbR:=Blk.new (w.alloc (.cells x.cs.toArray 32)) 32 #[.slice none 0 0,.slice none 0 0,.int .i64 0,.int .i64 0,.int .i64 0,.int .i64 0,.int .i64 0,.int .i64 0,.slice none 0 0,.int .i64 0,.int .i64 0,.int .i64 0,.int .i64 0,.int .i64 0,.int .i64 0,.int .i64 0,.int .i64 0];have B1:=bl_alloc (bl_alloc (below_refl w) (.cells x.cs.toArray 32)) (.cells #[.slice none 0 0,.slice none 0 0,.int .i64 0,.int .i64 0,.int .i64 0,.int .i64 0,.int .i64 0,.int .i64 0,.slice none 0 0,.int .i64 0,.int .i64 0,.int .i64 0,.int .i64 0,.int .i64 0,.int .i64 0,.int .i64 0,.int .i64 0] 32);have hS1:=hS.on B1;rw[World.size_alloc] at hbR;have n0:((w.alloc (.cells x.cs.toArray 32)).alloc (.cells #[.slice none 0 0,.slice none 0 0,.int .i64 0,.int .i64 0,.int .i64 0,.int .i64 0,.int .i64 0,.int .i64 0,.slice none 0 0,.int .i64 0,.int .i64 0,.int .i64 0,.int .i64 0,.int .i64 0,.int .i64 0,.int .i64 0,.int .i64 0] 32)).cell? ⟨w.heap.size,0,none⟩=some (.slice x.stk.a x.stk.l.length x.stk.c):=(hbN.cell 0).trans rfl;have n1:((w.alloc (.cells x.cs.toArray 32)).alloc (.cells #[.slice none 0 0,.slice none 0 0,.int .i64 0,.int .i64 0,.int .i64 0,.int .i64 0,.int .i64 0,.int .i64 0,.slice none 0 0,.int .i64 0,.int .i64 0,.int .i64 0,.int .i64 0,.int .i64 0,.int .i64 0,.int .i64 0,.int .i64 0] 32)).cell? ⟨w.heap.size,1,none⟩=some (.slice x.jnt.a x.jnt.l.length x.jnt.c):=(hbN.cell 1).trans rfl;have n8:((w.alloc (.cells x.cs.toArray 32)).alloc (.cells #[.slice none 0 0,.slice none 0 0,.int .i64 0,.int .i64 0,.int .i64 0,.int .i64 0,.int .i64 0,.int .i64 0,.slice none 0 0,.int .i64 0,.int .i64 0,.int .i64 0,.int .i64 0,.int .i64 0,.int .i64 0,.int .i64 0,.int .i64 0] 32)).cell? ⟨w.heap.size,8,none⟩=some (.slice x.gear.a x.gear.l.length x.gear.c):=(hbN.cell 8).trans rfl;have nf0:=hbN.frozen 0;have nf1:=hbN.frozen 1;have nf8:=hbN.frozen 8;have hsl:=hW.sl;have hjl:=hW.jl;have hgl:=hW.gl;have HW:=hid hW;have lw:w.heap.size+1<((w.alloc (.cells x.cs.toArray 32)).alloc (.cells #[.slice none 0 0,.slice none 0 0,.int .i64 0,.int .i64 0,.int .i64 0,.int .i64 0,.int .i64 0,.int .i64 0,.slice none 0 0,.int .i64 0,.int .i64 0,.int .i64 0,.int .i64 0,.int .i64 0,.int .i64 0,.int .i64 0,.int .i64 0] 32)).heap.size:=by simp
 clear hW hS;go_enter Tryz.func22,Tryz.ntmps22
 go_upto_region 1 with fail
 obtain⟨w1,hw1⟩:∃w1,w1=(w.alloc (.cells x.cs.toArray 32)).alloc (.cells #[.slice none 0 0,.slice none 0 0,.int .i64 0,.int .i64 0,.int .i64 0,.int .i64 0,.int .i64 0,.int .i64 0,.slice none 0 0,.int .i64 0,.int .i64 0,.int .i64 0,.int .i64 0,.int .i64 0,.int .i64 0,.int .i64 0,.int .i64 0] 32):=⟨_,rfl⟩;have hsz1:w1.heap.size=w.heap.size+1+1:=by rw[hw1];simp
 rw[←hw1] at hbN hbR B1 hS1 n0 n1 n8 nf0 nf1 nf8 lw ⊢;clear hw1;obtain⟨N,hN⟩:∃N,w.heap.size=N:=⟨_,rfl⟩;rw[hN] at hbN hbR n0 n1 n8 nf0 nf1 nf8 lw hsz1 ⊢;have lN:N<w1.heap.size:=by omega
 have HC3:=hid (fun w' (h:Below w1.heap.size w1 w')=>(show Calls Tryz.prog 79 #[.slice x.stk.a x.stk.l.length x.stk.c] w' (ClsP S.Course.cs 6 64 x.stk.l w') from f_clonesC x.stk w' hsl (hS1.on h).stk.rd (fun y hy=>⟨HW.out.sc y hy,(hS1.on h).stks y hy⟩)));have HC4:=hid (fun w' (h:Below w1.heap.size w1 w')=>(show Calls Tryz.prog 80 #[.slice x.jnt.a x.jnt.l.length x.jnt.c] w' (ClsP Jt.cs 2 65 x.jnt.l w') from f_clonesJ x.jnt w' hjl (hS1.on h).jnt.rd (fun y hy=>⟨HW.out.jc y hy,(hS1.on h).jnts y hy⟩)));have HC5:=hid (fun w' (h:Below w1.heap.size w1 w')=>(show Calls Tryz.prog 23 #[.slice x.gear.a x.gear.l.length x.gear.c] w' (CloP G.It.cs 4 67 x.gear.l w') from c_CloneItem x.gear w' hgl (hS1.on h).gear.rd));clear hS1;refine wp_region_noPanic ?_;refine wp_region_lasts [10,11,12,13,14] (fun w'=>(∀b o,b<w1.heap.size->w'.cell? ⟨b,o,none⟩=w1.cell? ⟨b,o,none⟩)∧(∀b o,b<w1.heap.size->w'.frozen? ⟨b,o,none⟩=w1.frozen? ⟨b,o,none⟩)∧Below w1.heap.size w1 w') (by kernel_rfl) (kq_draw kq_refl) (fun hS0=>?_);refine wpAnyM_tk 0 3 ?gv1 rfl ?_;try simp only[AP]
 refine wpAnyM_tk 1 4 ?gv2 rfl ?_;try simp only[AP]
 refine wpAnyM_tk 3 6 ?gv3 rfl ?_;try simp only[AP]
 refine wpAnyM_tk 4 7 ?gv4 rfl ?_;try simp only[AP]
 refine wpAnyM_tk 6 9 ?gv5 rfl ?_;try simp only[AP]
 refine wpAnyM_tk 7 10 ?gv6 rfl ?_;try simp only[AP]
 refine wpAnyM_ready (rs:=[2]) (by kernel_rfl) (by simp) ?_;refine AllReadyM.cons rfl (fun K hK=>?_) AllReadyM.nil;go_simp
 (go_at_call 79;((with_reducible refine(HC3.out _ bl).mono ?_);rintro e w3 ⟨⟨A3,l3,c3⟩,rfl,hm3,ho3,hg3,hb3⟩;dsimp only[Sl.v] at *;obtain⟨hc3,hf3,hz3⟩:=qz hb3;have lN3:N<w3.heap.size:=(by omega);have p31:=(hc3 N 1 lN).trans n1;have p38:=(hc3 N 8 lN).trans n8))
 refine hK.out _ _ kq (fun hS1=>?_);clear hK K;try simp only[AP]
 refine wpAnyM_tk 9 12 ?gv7 rfl ?_;try simp only[AP]
 refine wpAnyM_ready (rs:=[5]) (by kernel_rfl) (by simp) ?_;refine AllReadyM.cons rfl (fun K hK=>?_) AllReadyM.nil;go_simp
 (go_at_call 80;((with_reducible refine(HC4.out _ bl).mono ?_);rintro e w4 ⟨⟨A4,l4,c4⟩,rfl,hm4,ho4,hg4,hb4⟩;dsimp only[Sl.v] at *;obtain⟨hc4,hf4,hz4⟩:=qz hb4;have lN4:N<w4.heap.size:=(by omega);have p48:=(hc4 N 8 lN3).trans ((hc3 N 8 lN).trans n8)))
 refine hK.out _ _ kq (fun hS2=>?_);clear hK K;try simp only[AP]
 refine wpAnyM_ready (rs:=[8]) (by kernel_rfl) (by simp) ?_;refine AllReadyM.cons rfl (fun K hK=>?_) AllReadyM.nil;go_simp
 (go_at_call 23;((with_reducible refine(HC5.out _ bl).mono ?_);rintro e w5 ⟨⟨A5,l5,c5⟩,rfl,hm5,ho5,hle5,hcm5,hb5⟩;dsimp only at hm5;subst hm5;dsimp only[Sl.v] at *;obtain⟨hc5,hf5,hz5⟩:=qz hb5;have lN5:N<w5.heap.size:=(by omega);have m0:=(hc5 N 0 lN4).trans ((hc4 N 0 lN3).trans ((hc3 N 0 lN).trans n0));have mf0:=(hf5 N 0 lN4).trans ((hf4 N 0 lN3).trans ((hf3 N 0 lN).trans nf0));have m1:=(hc5 N 1 lN4).trans ((hc4 N 1 lN3).trans ((hc3 N 1 lN).trans n1));have mf1:=(hf5 N 1 lN4).trans ((hf4 N 1 lN3).trans ((hf3 N 1 lN).trans nf1));have m8:=(hc5 N 8 lN4).trans ((hc4 N 8 lN3).trans ((hc3 N 8 lN).trans n8));have mf8:=(hf5 N 8 lN4).trans ((hf4 N 8 lN3).trans ((hf3 N 8 lN).trans nf8))))
 refine hK.out _ _ kq (fun hS3=>?_);clear hK K;try simp only[AP]
 refine wpAnyM_last (k:=10) (by decide) (by kernel_rfl) rfl (fun K hK=>?_);go_simp
 refine hK.out _ _ ?_;clear hK K;try simp only[AP]
 refine wpAnyM_last (k:=11) (by decide) (by kernel_rfl) rfl (fun K hK=>?_);go_simp
 refine hK.out _ _ ?_;clear hK K;try simp only[AP]
 refine wpAnyM_last (k:=12) (by decide) (by kernel_rfl) rfl (fun K hK=>?_);go_simp
 refine hK.out _ _ ?_;clear hK K;try simp only[AP]
 refine wpAnyM_last (k:=13) (by decide) (by kernel_rfl) rfl (fun K hK=>?_);go_simp
 refine hK.out _ _ ?_;clear hK K;try simp only[AP]
 refine wpAnyM_last (k:=14) (by decide) (by kernel_rfl) rfl (fun K hK=>?_);go_simp
 refine hK.out _ _ ?_;clear hK K;try simp only[AP]
 refine wpAnyM_done (by kernel_rfl) (NoPanic.normal ?_) _;(try simp only[SZ] at ho3 hg3 ho4 hg4 ho5)
 have B5:Below w1.heap.size w1 w5:=bl;have lN5:N<w5.heap.size:=by omega
 have st6:Stp (fun g=>g=N) w5 (((w5.setCell ⟨N,0,none⟩ (.slice A3 l3.length c3)).setCell ⟨N,1,none⟩ (.slice A4 l4.length c4)).setCell ⟨N,8,none⟩ (.slice A5 x.gear.l.length c5)):=Stp.setCell (N:=fun g=>g=N) (p:=⟨N,8,none⟩) (Stp.setCell (N:=fun g=>g=N) (p:=⟨N,1,none⟩) (Stp.setCell (N:=fun g=>g=N) (p:=⟨N,0,none⟩) (Stp.refl _ _) (.inl rfl) _) (.inl rfl) _) (.inl rfl) _;have blk6:=(((hbN.below B5 lN).set_ 0 (.slice A3 l3.length c3)).set_ 1 (.slice A4 l4.length c4)).set_ 8 (.slice A5 x.gear.l.length c5);have blkR:=st6.blk (hbR.below B5 lw) (by omega);obtain⟨y,hy⟩:∃y:LSu,y=⟨⟨A3,l3,c3⟩,⟨A4,l4,c4⟩,x.cl,⟨A5,x.gear.l,c5⟩,x.ru,x.rt,x.men⟩:=⟨_,rfl⟩;have hCB:(((x.cs.toArray.setIfInBounds 0 (.slice A3 l3.length c3)).setIfInBounds 1 (.slice A4 l4.length c4)).setIfInBounds 8 (.slice A5 x.gear.l.length c5))=y.cs.toArray:=by rw[hy];rfl
 rw[hCB] at blk6;have hCs:=su_cs y;have hC1:=hid (su_one y);have hCz:(#[.slice none 0 0,.slice none 0 0,.int .i64 0,.int .i64 0,.int .i64 0,.int .i64 0,.int .i64 0,.int .i64 0,.slice none 0 0,.int .i64 0,.int .i64 0,.int .i64 0,.int .i64 0,.int .i64 0,.int .i64 0,.int .i64 0,.int .i64 0]:Array Value).size=y.cs.toArray.size:=rfl;have hval:y.val=x.val:=by
  rw[hy];unfold LSu.val;dsimp only at hm3 hm4 ⊢;rw[hm3,hm4]
 have hown6:SuOk (fun b=>w1.heap.size<=b) (((w5.setCell ⟨N,0,none⟩ (.slice A3 l3.length c3)).setCell ⟨N,1,none⟩ (.slice A4 l4.length c4)).setCell ⟨N,8,none⟩ (.slice A5 x.gear.l.length c5)) y:=by
  have q:∀b,w1.heap.size<=b->¬b=N:=fun b h=>by omega
  have g3:Got (fun b=>w1.heap.size<=b) w3 Sl.cs 1 (⟨A3,l3,c3⟩:Sl (Sl S.Course)):=got_own (fun _=>rfl) ho3 fun b h _=>h;have g4:Got (fun b=>w1.heap.size<=b) w4 Sl.cs 1 (⟨A4,l4,c4⟩:Sl (Sl Jt)):=got_own (fun _=>rfl) ho4 fun b h _=>by omega
  have g5:Got (fun b=>w1.heap.size<=b) w5 G.It.cs 4 (⟨A5,x.gear.l,c5⟩:Sl G.It):=got_own (fun _=>rfl) ho5 fun b h _=>by omega
  rw[hy];exact⟨((g3.on hb4).on hb5).stp st6 q,fun z hz=>((((hg3 z hz).on hb4).on hb5).stp st6 (fun b h=>q b h)),(g4.on hb5).stp st6 q,fun z hz=>(((hg4 z hz).mono (fun b _ h=>by omega)).on hb5).stp st6 q,g5.stp st6 q⟩
 have B6:Below w.heap.size w (((w5.setCell ⟨N,0,none⟩ (.slice A3 l3.length c3)).setCell ⟨N,1,none⟩ (.slice A4 l4.length c4)).setCell ⟨N,8,none⟩ (.slice A5 x.gear.l.length c5)):=below_stp (below_tr B1 B5) st6 (fun g hg e=>by omega) (by have:=(below_tr B1 B5).size;omega);have hN6:N+1+1<=(((w5.setCell ⟨N,0,none⟩ (.slice A3 l3.length c3)).setCell ⟨N,1,none⟩ (.slice A4 l4.length c4)).setCell ⟨N,8,none⟩ (.slice A5 x.gear.l.length c5)).heap.size:=by have:=st6.size;omega
 generalize (((w5.setCell ⟨N,0,none⟩ (.slice A3 l3.length c3)).setCell ⟨N,1,none⟩ (.slice A4 l4.length c4)).setCell ⟨N,8,none⟩ (.slice A5 x.gear.l.length c5))=w6 at *;clear hS0 hS1 hS2 hS3 hc3 hc4 hc5 hf3 hf4 hf5 m0 m1 m8 mf0 mf1 mf8 hb3 hb4 hb5 ho3 ho4 ho5 hg3 hg4 hy hCB st6 HC3 HC4 HC5 hm3 hm4 hz3 hz4 hz5;have HVAL:=hid hval;have HOWN:=hid hown6;obtain⟨CB,hCB⟩:∃CB,y.cs.toArray=CB:=⟨_,rfl⟩;rw[hCB] at blk6 hCs hC1 hCz;have HCB:=hid hCB;clear hCB hval hown6 n0 n1 n8 nf0 nf1 nf8;go_wp2_with (first|(refine wpList_load_row rfl 32 _ rfl N rfl 32 CB (0,0) _ blk6 Tryz.underlying32 rfl hCs ?_)|(refine wpList_store_row rfl 32 _ _ rfl (N+1) CB rfl rfl 32 #[.slice none 0 0,.slice none 0 0,.int .i64 0,.int .i64 0,.int .i64 0,.int .i64 0,.int .i64 0,.int .i64 0,.slice none 0 0,.int .i64 0,.int .i64 0,.int .i64 0,.int .i64 0,.int .i64 0,.int .i64 0,.int .i64 0,.int .i64 0] blkR hCs hCz hC1.out ?_))
 have stR:Stp (fun g=>g=N+1) w6 (w6.setRow (N+1) CB):=Stp.setRow (N:=fun g=>g=N+1) (Stp.refl _ _) (g:=N+1) (.inl rfl) CB;refine bodyPost_ret (v:=.agg CB) (results_cell_row rfl _ _ (N+1) 32 CB (0,0) _ rfl (Blk.setRow blkR CB) Tryz.underlying32 rfl hCs) rfl (show CpyP x w (.returned (.agg CB)) (w6.setRow (N+1) CB) from⟨y,by rw[HCB.out],HVAL.out,?_,?_⟩)
 ·exact((HOWN.out.stp stR (fun b h e=>by omega)).mono fun b _ h=>by omega)
 ·exact below_stp B6 stR (fun g hg e=>by omega) (by omega)
def NewP (x:LSu) (w:World) (e:Ending) (w':World):Prop:=Below w.heap.size w w'∧match vSu x.val with
 |false=>e=.returned (.tuple #[.pointer none,.int .i64 1])
 |true=>∃b L T,e=.returned (.tuple #[.pointer (some ⟨b,0,none⟩),.int .i64 0])∧FirmAt w' b L T∧L.val=new x.val∧(∀g,T g->w.heap.size<=g)∧∀g,Foot b L g->w.heap.size<=g
section
variable {P:Program}
theorem step_make {ops:Array Oper} {o:Oper} {a:Act} {w:World} {K:Act->World->Prop} {Q:Exit->Act->World->Prop} {E:Prop} (hgd:o.guard=none) (l c:Operand) (t:TypeId) (hop:o.op=Op.makeSlice t l c)
  (base:Nat) (e:TypeId) (i:TypeInfo) (z:Value) (size:Nat) (h1:P.underlying t=some (.slice e)) (h2:P.info? e=some i) (h3:i.zero=some z) (h4:i.size=size)
  (kl kc:IntKind) (L C:Int) (n:Nat) (hl:a.eval l=.int kl L) (hc:a.eval c=.int kc C) (hL:L=(n:Int)) (hC:C=(n:Int)) (b2:i.bytes*n<=281474976710656) (b3:n<=maxLen) (b4:base<=w.heap.size)
  (hK:∀w',w'.ownsRow base e size (.slice (some ⟨w.heap.size,0,none⟩) n n) n (madeCells z.cells (n*size)).toList->w.grownBy w' none->K (a.put o.dst (.slice (some ⟨w.heap.size,0,none⟩) n n)) w'):
  if Region.wanted o (yielded ops a.tmps)=true then Oper.wp P o a w K Q else E:=by
 have hw:Region.wanted o (yielded ops a.tmps)=true:=by simp[Region.wanted,hgd]
 rw[if_pos hw];obtain⟨w',hrun,r1,r2⟩:=run_make_full (P:=P) w base t e i z size h1 h2 h3 h4 kl kc n b2 b3 b4;subst hL;subst hC;unfold Oper.wp;simp[execOp,hop,hl,hc,hrun,Result.andThen];exact hK _ r1 r2
end
def zSi:LSi:=⟨⟨none,[],0⟩,false,0⟩
theorem made_sites:∀n:Nat,(madeCells (Value.agg #[.slice none 0 0,.bool false,.int .i64 0]).cells (n*3)).toList=fl LSi.cs (List.replicate n zSi)
 |0=>by simp[madeCells,fl]
 |n+1=>by
  have ih:=made_sites n;have e:(madeCells (Value.agg #[.slice none 0 0,.bool false,.int .i64 0]).cells ((n+1)*3)).toList=(madeCells (Value.agg #[.slice none 0 0,.bool false,.int .i64 0]).cells (n*3)).toList++[.slice none 0 0,.bool false,.int .i64 0]:=by
   have h0:n*3%3=0:=by omega
   have h1:(n*3+1)%3=1:=by omega
   have h2:(n*3+1+1)%3=2:=by omega
   unfold madeCells;rw[show(n+1)*3=n*3+1+1+1 by omega,Array.toList_map,Array.toList_map,Array.toList_range,Array.toList_range,List.range_succ,List.range_succ,List.range_succ];simp only[List.map_append,List.map_cons,List.map_nil,List.append_assoc,List.cons_append,List.nil_append];congr 1;show [_,_,_]=_;rw[show(Value.agg #[.slice none 0 0,.bool false,.int .i64 0]).cells=#[.slice none 0 0,.bool false,.int .i64 0] from rfl];simp[h0,h1,h2]
  rw[e,ih,List.replicate_succ',fl,fl,List.flatMap_append];rfl
theorem got_sites {W:World} {base b0 n:Nat} {A:Option Addr} (h:W.ownsRow base 108 3 (.slice A n n) n (madeCells (Value.agg #[.slice none 0 0,.bool false,.int .i64 0]).cells (n*3)).toList) (hb:b0<=base):Got (fun b=>b0<=b) W LSi.cs 3 (⟨A,List.replicate n zSi,n⟩:Sl LSi):=by
 rw[made_sites] at h;refine got_own (base:=base) (e:=108) (fun _=>rfl) ?_ fun b h1 _=>Nat.le_trans hb h1;unfold Sl.v;dsimp only;rw[List.length_replicate];exact h
theorem got_items {W:World} {base b0:Nat} {A:Option Addr} {l:List G.It} {c:Nat} (h:W.ownsRow base 67 4 (.slice A l.length c) l.length (fl G.It.cs l)) (hb:b0<=base):Got (fun b=>b0<=b) W G.It.cs 4 (⟨A,l,c⟩:Sl G.It):=
 got_own (base:=base) (e:=67) (fun _=>rfl) h fun b h1 _=>Nat.le_trans hb h1
abbrev newL (y:LSu) (si:Sl LSi) (it:Sl G.It):LS:=⟨y,0,⟨none,[],0⟩,⟨none,[],0⟩,si,it,⟨none,[],0⟩,0,⟨none,[],0⟩⟩
theorem new_fin {x y:LSu} {w W:World} {A5 A6:Option Addr} {n c5 c6:Nat} (hv:vSu x.val=true) (hy:y.val=x.val) (hS:SuOk (fun b=>w.heap.size<=b) W y) (B:Below w.heap.size w W) (hn:y.stk.l.length=n)
  (hsi:Got (fun b=>w.heap.size<=b) W LSi.cs 3 (⟨A5,List.replicate n zSi,c5⟩:Sl LSi)) (hit:Got (fun b=>w.heap.size<=b) W G.It.cs 4 (⟨A6,y.gear.l,c6⟩:Sl G.It)) {CC:Array Value} (hCC:(newL y ⟨A5,List.replicate n zSi,c5⟩ ⟨A6,y.gear.l,c6⟩).cs.toArray=CC):
  NewP x w (.returned (.tuple #[.pointer (some ⟨W.heap.size,0,none⟩),.int .i64 0])) (W.alloc (.cells CC 75)):=by
 subst hCC;have hz:=B.size;have B1:=bl_alloc (below_refl W) (.cells (newL y ⟨A5,List.replicate n zSi,c5⟩ ⟨A6,y.gear.l,c6⟩).cs.toArray 75);have hq:∀b,b<W.heap.size->w.heap.size<=b->w.heap.size<=b∧b<W.heap.size:=fun b h1 h2=>⟨h2,h1⟩;refine⟨bl_alloc B _,?_⟩;rw[hv];refine⟨W.heap.size,newL y ⟨A5,List.replicate n zSi,c5⟩ ⟨A6,y.gear.l,c6⟩,fun b=>w.heap.size<=b∧b<W.heap.size,rfl,⟨Blk.new W _ _,⟨(hS.mono hq).on B1,got_nil _ _ _ _,got_nil _ _ _ _,fun r hr=>(by cases hr),(hsi.mono hq).on B1,?_,(hit.mono hq).on B1,got_nil _ _ _ _⟩,World.ownsRow_nil _ _ _ _,?_,?_⟩,?_,fun g hg=>hg.1,?_⟩
 ·intro s hs;have:s=zSi:=(List.mem_replicate.1 hs).2;subst this;exact got_nil _ _ _ _
 ·rintro g ⟨h1,h2⟩ (h|h)
  ·omega
  ·simp[Value.ownBlock] at h
 ·simp[Value.ownBlock]
 ·unfold LS.val new;dsimp only;rw[←hy];unfold LSu.val;dsimp only;congr 1;rw[List.map_replicate,List.map_map];refine List.ext_getElem (by simp[hn]) fun i h1 h2=>?_;simp[zSi,LSi.val]
 ·rintro g (h|h)
  ·omega
  ·simp[Value.ownBlock] at h
set_option maxRecDepth 40000 in
theorem f_New {T:Nat->Prop} (x:LSu) (w:World) (hS:SuOk T w x) (hW:SuW x):Calls Tryz.prog 7 #[.agg x.cs.toArray] w (NewP x w):=by
 have hbN:=Blk.new w 32 x.cs.toArray;have B0:=bl_alloc (below_refl w) (.cells x.cs.toArray 32);have HVS:=Lib.hid (f_ValidSetup x (w.alloc (.cells x.cs.toArray 32)) (hS.on B0) hW);have HCP:=Lib.hid (fun W (h:Below w.heap.size w W)=>f_copied x W (hS.on h) hW);have hCs:=su_cs x;have HC1:=Lib.hid (su_one x);have HGE:=Lib.hid hW.gl;have HSL:=Lib.hid hW.sl;have lN:w.heap.size<(w.alloc (.cells x.cs.toArray 32)).heap.size:=hbN.lt;clear hS hW;obtain⟨CA,hCA⟩:∃CA,x.cs.toArray=CA:=⟨_,rfl⟩;rw[hCA] at hbN B0 HVS HCP hCs HC1 lN ⊢;have HCA:=Lib.hid hCA;clear hCA;cases hv:vSu x.val
 ·have HV:=Lib.hid hv;rw[hv] at HVS;go_enter Tryz.func7,Tryz.ntmps7
  go_wp2_with (first|(refine wpList_load_row rfl 32 _ rfl w.heap.size rfl 32 CA (0,0) _ hbN Tryz.underlying32 rfl hCs ?_)|(go_at_call 10;((with_reducible refine HVS.out.mono ?_);rintro e w2 ⟨rfl,hb2⟩)))
  go_ret2;exact⟨below_tr B0 hb2,by rw[HV.out];rfl⟩
 have HV:=Lib.hid hv;rw[hv] at HVS;clear hv;go_enter Tryz.func7,Tryz.ntmps7
 go_upto_region 3 with (first|(refine wpList_load_row rfl 32 _ rfl w.heap.size rfl 32 CA (0,0) _ hbN Tryz.underlying32 rfl hCs ?_)|(go_at_call 10;((with_reducible refine HVS.out.mono ?_);rintro e w2 ⟨rfl,hb2⟩)))
 have hb02:=below_tr B0 hb2;have hbN2:=hbN.below hb2 lN;clear hbN HVS;have hz2:w.heap.size<w2.heap.size:=Nat.lt_of_lt_of_le lN hb2.size;go_upto_region 4 with (first|(refine wpList_load_row rfl 32 _ rfl w.heap.size rfl 32 CA (0,0) _ hbN2 Tryz.underlying32 rfl hCs ?_)|(go_at_call 22;((with_reducible refine(HCP.out w2 hb02).mono ?_);rintro e w3 ⟨y,rfl,hy1,hy2,hb3⟩;have hbN3:=hbN2.below hb3 hz2;have hysz:CA.size=y.cs.toArray.size:=(by rw[←HCA.out];rfl)))|(refine wpList_store_row rfl 32 _ _ rfl w.heap.size y.cs.toArray rfl rfl 32 CA hbN3 (su_cs y) hysz (su_one y) ?_))
 have B3:=below_tr hb02 hb3;have lN3:w.heap.size<w3.heap.size:=Nat.lt_of_lt_of_le hz2 hb3.size;have st4:Stp (fun g=>g=w.heap.size) w3 (w3.setRow w.heap.size y.cs.toArray):=Stp.setRow (N:=fun g=>g=w.heap.size) (Stp.refl _ _) (g:=w.heap.size) (.inl rfl) y.cs.toArray;have blk4:=Blk.setRow hbN3 y.cs.toArray;have hS4:=(hy2.stp st4 (fun b h e=>by omega)).mono (T':=fun b=>w.heap.size<=b) fun b _ h=>by omega
 have B4:=below_stp B3 st4 (fun g hg e=>by omega) B3.size;have lN4:w.heap.size<(w3.setRow w.heap.size y.cs.toArray).heap.size:=by rw[size_setRow];exact lN3
 generalize w3.setRow w.heap.size y.cs.toArray=w4 at *;clear st4 hbN3 hbN2 hb3 hb2 hy2 HCP;obtain⟨N,hN⟩:∃N,w.heap.size=N:=⟨_,rfl⟩;rw[hN] at lN4 blk4 ⊢;have n0:w4.cell? ⟨N,0,none⟩=some (.slice y.stk.a y.stk.l.length y.stk.c):=(blk4.cell 0).trans rfl;have n1:w4.cell? ⟨N,1,none⟩=some (.slice y.jnt.a y.jnt.l.length y.jnt.c):=(blk4.cell 1).trans rfl;have n2:w4.cell? ⟨N,2,none⟩=some (.int .i64 y.cl.fi):=(blk4.cell 2).trans rfl;have n3:w4.cell? ⟨N,3,none⟩=some (.int .i64 y.cl.ga):=(blk4.cell 3).trans rfl;have n4:w4.cell? ⟨N,4,none⟩=some (.int .i64 y.cl.tp):=(blk4.cell 4).trans rfl;have n5:w4.cell? ⟨N,5,none⟩=some (.int .i64 y.cl.le):=(blk4.cell 5).trans rfl;have n6:w4.cell? ⟨N,6,none⟩=some (.int .i64 y.cl.la):=(blk4.cell 6).trans rfl;have n7:w4.cell? ⟨N,7,none⟩=some (.int .i64 y.cl.st):=(blk4.cell 7).trans rfl;have n8:w4.cell? ⟨N,8,none⟩=some (.slice y.gear.a y.gear.l.length y.gear.c):=(blk4.cell 8).trans rfl;have n9:w4.cell? ⟨N,9,none⟩=some (.int .i64 y.ru.s):=(blk4.cell 9).trans rfl;have n10:w4.cell? ⟨N,10,none⟩=some (.int .i64 y.ru.g):=(blk4.cell 10).trans rfl;have n11:w4.cell? ⟨N,11,none⟩=some (.int .i64 y.ru.c):=(blk4.cell 11).trans rfl;have n12:w4.cell? ⟨N,12,none⟩=some (.int .i64 y.rt.lo):=(blk4.cell 12).trans rfl;have n13:w4.cell? ⟨N,13,none⟩=some (.int .i64 y.rt.hi):=(blk4.cell 13).trans rfl;have n14:w4.cell? ⟨N,14,none⟩=some (.int .i64 y.rt.ab):=(blk4.cell 14).trans rfl;have n15:w4.cell? ⟨N,15,none⟩=some (.int .i64 y.rt.co):=(blk4.cell 15).trans rfl;have n16:w4.cell? ⟨N,16,none⟩=some (.int .i64 y.men):=(blk4.cell 16).trans rfl;obtain⟨n,hn⟩:∃n,y.stk.l.length=n:=⟨_,rfl⟩;rw[hn] at n0;have hnl:n<=100000:=by
  have h1:=congrArg (fun q=>q.stk.length) hy1;unfold LSu.val at h1;dsimp only at h1;rw[List.length_map,List.length_map] at h1;have:=HSL.out;omega
 have hgl:y.gear.l.length<=100000:=by
  have h1:=congrArg (fun q=>q.gear.length) hy1;unfold LSu.val at h1;dsimp only at h1;have:=HGE.out;omega
 have HCI:=Lib.hid (fun w' (h:Below w4.heap.size w4 w')=>(show Calls Tryz.prog 23 #[.slice y.gear.a y.gear.l.length y.gear.c] w' (CloP G.It.cs 4 67 y.gear.l w') from c_CloneItem y.gear w' hgl (hS4.on h).gear.rd));have HY1:=Lib.hid hy1;have HS4:=Lib.hid hS4;have HB4:=Lib.hid B4;have HNN:=Lib.hid hN;have HNY:=Lib.hid hn;clear hy1 hS4 hb02 hCs lN hn hgl hysz hz2 lN3 blk4 B3 B4 B0 hN;obtain⟨i0,hi,hi1,hi2,hi3⟩:=info_Site;refine wp_region_noPanic ?_;refine th w4 fun hS0=>?_;refine tq 0 ?_;refine tq 1 ?_;refine tq 2 ?_;refine tq 3 ?_;refine tq 5 ?_;refine tq 6 ?_;refine wpAnyH_ready (rs:=[4,7]) (by kernel_rfl) (by simp) ?_;refine AllReadyH.cons rfl (fun K hK=>?_) (AllReadyH.cons rfl (fun K hK=>?_) AllReadyH.nil);(refine step_make (by rfl) _ _ 69 (by rfl) w4.heap.size 108 i0 _ 3 Tryz.underlying69 hi hi1 hi2 _ _ _ _ n (by rfl) (by rfl) rfl rfl (by rw[hi3];omega) (by unfold maxLen;omega) (by first|exact Nat.le_refl _|omega|(simp;done)|(simp;omega)) ?_;intro w5 ho5 hg5;have hb5:=(below_refl _).grown hg5 (Nat.le_refl _) (fun j hj=>by cases hj);obtain⟨hc5,hf5,hz5⟩:=qz hb5)
 refine hK.out _ _ kq (fun hS1=>?_);clear hK K;try simp only[AP]
 refine tr 7 fun K hK=>?_;go_simp
 (go_at_call 23;((with_reducible refine(HCI.out _ bl).mono ?_);rintro e w6 ⟨⟨A6,l6,c6⟩,rfl,hl6,ho6,hle6,hcm6,hb6⟩;dsimp only at hl6;subst hl6;dsimp only[Sl.v] at *;obtain⟨hc6,hf6,hz6⟩:=qz hb6))
 refine hK.out _ _ kq (fun hS2=>?_);clear hK K;try simp only[AP]
 refine tq 8 ?_;refine tq 9 ?_;refine tr 10 fun K hK=>?_;go_simp
 refine hK.out _ _ kq (fun hS3=>?_);clear hK K;try simp only[AP]
 refine tq 11 ?_;refine tq 12 ?_;refine wpAnyH_done (by kernel_rfl) (NoPanic.normal ?_) _;rotate_left
 go_simp
 (go_at_call 23;((with_reducible refine(HCI.out _ bl).mono ?_);rintro e w6 ⟨⟨A6,l6,c6⟩,rfl,hl6,ho6,hle6,hcm6,hb6⟩;dsimp only at hl6;subst hl6;dsimp only[Sl.v] at *;obtain⟨hc6,hf6,hz6⟩:=qz hb6))
 refine hK.out _ _ kq (fun hS1=>?_);clear hK K;try simp only[AP]
 refine tr 4 fun K hK=>?_;(refine step_make (by rfl) _ _ 69 (by rfl) w4.heap.size 108 i0 _ 3 Tryz.underlying69 hi hi1 hi2 _ _ _ _ n (by rfl) (by rfl) rfl rfl (by rw[hi3];omega) (by unfold maxLen;omega) (by first|exact Nat.le_refl _|omega|(simp;done)|(simp;omega)) ?_;intro w5 ho5 hg5;have hb5:=(below_refl _).grown hg5 (Nat.le_refl _) (fun j hj=>by cases hj);obtain⟨hc5,hf5,hz5⟩:=qz hb5)
 refine hK.out _ _ kq (fun hS2=>?_);clear hK K;try simp only[AP]
 refine tq 8 ?_;refine tq 9 ?_;refine tr 10 fun K hK=>?_;go_simp
 refine hK.out _ _ kq (fun hS3=>?_);clear hK K;try simp only[AP]
 refine tq 11 ?_;refine tq 12 ?_;refine wpAnyH_done (by kernel_rfl) (NoPanic.normal ?_) _;rotate_left
 all_goals
  go_wp2;go_ret2;have hn:=HNY.out;subst hn;have hN:=HNN.out;subst hN;(try simp only[SZ] at ho5 ho6)
  have hz4:=HB4.out.size
  first
   |(have B46:Below w4.heap.size w4 w6:=bl
     exact new_fin (W:=w6) HV.out HY1.out (HS4.out.on B46) (below_tr HB4.out B46) rfl ((got_sites ho5 (by omega)).on hb6) (got_items ho6 (by omega)) (by simp[newL,LS.cs,Sl.v]))
   |(have B45:Below w4.heap.size w4 w5:=bl
     exact new_fin (W:=w5) HV.out HY1.out (HS4.out.on B45) (below_tr HB4.out B45) rfl (got_sites ho5 (by omega)) ((got_items ho6 (by omega)).on hb5) (by simp[newL,LS.cs,Sl.v]))
structure NwQ (x:LSu) (w:World) (b:Nat) (L:LS) (T:Nat->Prop) (w':World):Prop where
 bel:Below w.heap.size w w'
 at_:FirmAt w' b L T
 val:L.val=new x.val
 inv:Inv L.val
 tt:∀g,T g->w.heap.size<=g∧g<w'.heap.size
 ft:∀g,Foot b L g->w.heap.size<=g
theorem f_NewT {T:Nat->Prop} (x:LSu) (w:World) (hS:SuOk T w x) (hW:SuW x) (hv:vSu x.val=true):Calls Tryz.prog 7 #[.agg x.cs.toArray] w fun e w'=>∃b L T,e=.returned (.tuple #[.pointer (some ⟨b,0,none⟩),.int .i64 0])∧Hid (NwQ x w b L T w'):=by
 refine(f_New x w hS hW).mono ?_;rintro e w' ⟨hb,hn⟩;rw[hv] at hn;obtain⟨b,L,T,rfl,hF,hval,hT,hft⟩:=hn;exact⟨b,L,_,rfl,Lib.hid ⟨hb,hF.cut,hval,by rw[hval];exact inv_new hv,fun g hg=>⟨hT g hg.1,hg.2⟩,hft⟩⟩
end Go.Proofs.YtjkkfcghkeoedaaGreatDoor.Fi
