/- The parts of the proof, part 5. -/
import Derived.Test.YtjkkfcghkeoedaaGreatDoorR0
import Derived.Test.YtjkkfcghkeoedaaGreatDoorR3
import Derived.Deep.RegionHeld3
set_option maxHeartbeats 16000000
set_option maxRecDepth 20000
namespace Go.Proofs.YtjkkfcghkeoedaaGreatDoor
open Go.RowKit Go.Shelf
def noDefer (ops:Array Oper):Bool:=ops.all fun o=>match o.op with|.defer _=>false|_=>true
theorem noDefer_spec {ops:Array Oper} (h:noDefer ops=true):∀(i:Nat) (o:Oper),ops[i]?=some o->∀c,o.op≠.defer c:=fun i o ho c hc=>by
 obtain⟨hi,he⟩:=Array.getElem?_eq_some_iff.1 ho;have:=(Array.all_eq_true.1 h) i hi;rw[he,hc] at this;cases this
theorem rowsIn_round {l n:Nat} {P:Program} {row:String} {args:Array Value} {w:World} {R:Value->World->Prop} (h:Rows P row args w R):RowsIn (Fence.wide.inRound l) n P row args w R:=fun c cs _=>
 let ⟨v,w',r,s⟩:=h c cs;⟨v,w',r,stepsIn_wide.2 s⟩
theorem wpOpsIn_round {n l:Nat} {P:Program} {ops:Array Oper} {Q:Exit->Act->World->Prop} (h1:1<=n) (hL:¬LetsOut Q) (hd:∀(i:Nat) (o:Oper),ops[i]?=some o->∀c,o.op≠.defer c):
  ∀(s:List Nat) (a:Act) (w:World),wpOps P ops Q s a w->wpOpsIn (Fence.wide.inRound l) n P ops Q s a w
 |[],_,_,h=>h
 |i::rest,a,w,h=>by
  have ih:=wpOpsIn_round (P:=P) (l:=l) h1 hL hd rest;unfold wpOps at h;unfold wpOpsIn;cases ho:ops[i]? with
  |none=>simp only[ho] at h ⊢;exact ih _ _ h
  |some o=>
   simp only[ho] at h ⊢;by_cases hw:Region.wanted o (yielded ops a.tmps)=true
   ·simp only[hw,if_true] at h ⊢;rcases h with h|⟨_,h⟩
    case inr=>exact absurd h hL
    refine⟨fun _ _=>trivial,?_⟩;rw[Oper.semAt_plain _ _ _ (hd i o ho)];unfold Oper.wp at h;generalize (execOp a.eval o).run P w=r at *;cases r with
    |ok x w'=>
     cases x<;>simp only[Oper.upon,Oper.uponIn] at h ⊢
     case value u=>exact ih _ _ h
     case skip=>exact ih _ _ h
     case defer d=>exact ih _ _ h
     case enter f args=>
      refine⟨fun _=>h1,CallsIn.inRound l (callsIn_wide.2 (Calls.mono h fun e w'' he=>?_))⟩;cases e with
      |returned u=>exact ih _ _ he
      |panicked c=>exact he
      |outgrown=>exact he
     case row row args=>exact⟨fun _=>h1,RowsIn.mono (rowsIn_round h) fun u w'' he=>ih _ _ he⟩
    |halt x w'=>cases x<;>simp only[Oper.upon,Oper.uponIn] at h ⊢ <;> exact h
   ·simp only[hw] at h ⊢;exact⟨fun _ _=>trivial,ih _ _ h⟩
theorem wpIn_round_held {id n l:Nat} {P:Program} {ops:Array Oper} {Q:Exit->Act->World->Prop} {a:Act} {w:World} (S:World->Prop) (hm:P.follows .mixedOrders=true) (h1:1<=n) (hL:¬LetsOut Q) (hd:noDefer ops=true) (hS:S w.drew)
  (h:S w.drew->wpAnyH P .any ops Q S ops.size (Array.replicate ops.size false) a w.drew):(Code.region id ops true).wpIn (Fence.wide.inRound l) n P Q a w:=
 wpIn_region_draw fun t=>by
  refine wpOpsIn_round h1 hL (noDefer_spec hd) _ _ _ ?_;simp only[Region.schedule,hm,Bool.true_or,if_true];exact wpAny_sound ops.size t _ a _ (wpAny_of_held _ _ _ _ (h hS))
end Go.Proofs.YtjkkfcghkeoedaaGreatDoor
