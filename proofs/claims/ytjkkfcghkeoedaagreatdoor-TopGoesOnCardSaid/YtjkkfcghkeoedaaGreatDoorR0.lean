/- The parts of the proof, part 0. -/
import Derived.WalkKit
import Derived.Lib.Hide
import Derived.BigQuiet
import Derived.Deep.QuietTactic
import Derived.IntWalk
import Derived.OrdersHeld
import Derived.WalkLawsBesides
import Derived.Deep.RegionHeld3
import Derived.Deep.RegionHeld
namespace Go.Proofs.YtjkkfcghkeoedaaGreatDoor
/-- what an act's slots are behind a value put -/
theorem AP:(∀(a:Act) (d:Nat) (v:Value),a.put (some d) v={a with tmps:=a.tmps.setIfInBounds d v})∧(∀(a:Act) (v:Value),a.put none v=a)∧(∀(l:List Value) (i:Nat) (a:Value),l.toArray.setIfInBounds i a=(l.set i a).toArray) ∧
    (∀(x a:Value) (l:List Value),(x::l).set 0 a=a::l)∧(∀(x a:Value) (l:List Value) (n:Nat),(x::l).set (n+1) a=x::l.set n a):=⟨fun _ _ _=>rfl,fun _ _=>rfl,fun _ _ _=>List.setIfInBounds_toArray ..,fun _ _ _=>rfl,fun _ _ _ _=>rfl⟩
section
variable {P:Program} {ops:Array Oper} {Q:Exit→Act→World→Prop} {md:Region.Mode} {S:World→Prop} {fuel:Nat} {listed:Array Bool} {a:Act} {w:World}
theorem tk (i d:Nat) (v:Value) {op:Op} {ty pos af} (hi:ops[i]?=some {dst:=some d,op:=op,type:=ty,pos:=pos,after:=af,guard:=none}) (h:wpAnyH P md ops Q S fuel (listed.setIfInBounds i true) (a.put (some d) v) w)
    (hy:∀w,S w→(execOp a.eval {dst:=some d,op:=op,type:=ty,pos:=pos,after:=af,guard:=none}).run P w=.ok (.value v) w:=by(intro w' hSw;go_simp;try with_reducible rfl))
    (hb:(Region.noSelect ops&&(Region.free md ops listed i&&(Region.ready md ops listed).contains i))=true:=by kernel_rfl) (hQ:∀c a' w,Q (.panic c) (a'.put (some d) v) w→Q (.panic c) a' w:=by(intro c a w h;exact h)) (hS:S w:=by assumption):wpAnyH P md ops Q S (fuel+1) listed a w:=by
  rw[Bool.and_eq_true,Bool.and_eq_true] at hb;exact wpAnyH_take hi hb.1 hb.2.1 hb.2.2 hQ (.inl ⟨rfl,hy⟩) hS h
theorem tg (i d k:Nat) (b:Bool) (v:Value) {op:Op} {ty pos af} (hi:ops[i]?=some {dst:=some d,op:=op,type:=ty,pos:=pos,after:=af,guard:=some (k,b)}) (h:wpAnyH P md ops Q S fuel (listed.setIfInBounds i true) (a.put (some d) v) w)
    (hy:∀w,S w→(execOp a.eval {dst:=some d,op:=op,type:=ty,pos:=pos,after:=af,guard:=some (k,b)}).run P w=.ok (.value v) w:=by(intro w' hSw;go_simp;try with_reducible rfl))
    (hb:(Region.noSelect ops&&(Region.free md ops listed i&&(Region.ready md ops listed).contains i))=true:=by kernel_rfl) (hQ:∀c a' w,Q (.panic c) (a'.put (some d) v) w→Q (.panic c) a' w:=by(intro c a w h;exact h))
    (hw:Region.wanted {dst:=some d,op:=op,type:=ty,pos:=pos,after:=af,guard:=some (k,b)} (yielded ops a.tmps)=true:=by rfl) (hS:S w:=by assumption):wpAnyH P md ops Q S (fuel+1) listed a w:=by
  rw[Bool.and_eq_true,Bool.and_eq_true] at hb;exact wpAnyH_take hi hb.1 hb.2.1 hb.2.2 hQ (.inl ⟨hw,hy⟩) hS h
theorem tu (i d k:Nat) (b:Bool) {op:Op} {ty pos af} (hi:ops[i]?=some {dst:=some d,op:=op,type:=ty,pos:=pos,after:=af,guard:=some (k,b)})
    (h:wpAnyH P md ops Q S fuel (listed.setIfInBounds i true) (a.put (some d) undef) w)
    (hb:(Region.noSelect ops&&(Region.free md ops listed i&&(Region.ready md ops listed).contains i))=true:=by kernel_rfl) (hQ:∀c a' w,Q (.panic c) (a'.put (some d) undef) w→Q (.panic c) a' w:=by(intro c a w h;exact h))
    (hw:Region.wanted {dst:=some d,op:=op,type:=ty,pos:=pos,after:=af,guard:=some (k,b)} (yielded ops a.tmps)=false:=by rfl) (hS:S w:=by assumption):wpAnyH P md ops Q S (fuel+1) listed a w:=by
  rw[Bool.and_eq_true,Bool.and_eq_true] at hb;exact wpAnyH_take hi hb.1 hb.2.1 hb.2.2 hQ (.inr ⟨hw,rfl⟩) hS h
end
theorem GA:(∀(l:List Value) (i:Nat),l.toArray[i]?=l[i]?)∧(∀(a:Value) (l:List Value),(a::l)[0]?=some a)∧(∀(a:Value) (l:List Value) (i:Nat),(a::l)[i+1]?=l[i]?):=⟨fun _ _=>List.getElem?_toArray ..,fun _ _=>rfl,fun _ _ _=>rfl⟩
theorem SZ:(∀w:World,w.drew.heap.size=w.heap.size)∧(∀(w:World) (n:Nat),(w.drewN n).heap.size=w.heap.size):=⟨fun _=>rfl,fun _ _=>rfl⟩
section
open Go.RowKit
theorem zr (w:World):Below w.heap.size w w:=Below.refl _ w
theorem za {w W:World} (h:Below w.heap.size w W) (o:Obj):Below w.heap.size w (W.alloc o):=h.alloc h.size o
theorem zd {B:Nat} {a w:World} (h:Below B a w):Below B a w.drew:=h.drew
theorem zn {B:Nat} {a w:World} (h:Below B a w) (n:Nat):Below B a (w.drewN n):=⟨h.os,h.tape,h.output,h.size,h.block⟩
theorem zt {w w1 w2:World} (h:Below w.heap.size w w1) (k:Below w1.heap.size w1 w2):Below w.heap.size w w2:=h.trans (k.mono h.size)
theorem bl {n:Nat} {a b:World} (h:Below n a b:=by((repeat'(first|assumption|exact zr _|refine za ?_ _|refine Below.setCell ?_ ?_ _|refine zd ?_|refine zn ?_ _|refine zt ?_ (by assumption)))<;>(first|omega|(simp;done)|(simp;omega)))):Below n a b:=h
theorem kq {W w':World} (h:Below W.heap.size W w':=by((repeat'(first|assumption|exact zr _|refine za ?_ _|refine Below.setCell ?_ ?_ _|refine zd ?_|refine zn ?_ _|refine zt ?_ (by assumption)))<;>(first|omega|(simp;done)|(simp;omega)))):
    (∀b o,b<W.heap.size→w'.cell? ⟨b,o,none⟩=W.cell? ⟨b,o,none⟩)∧(∀b o,b<W.heap.size→w'.frozen? ⟨b,o,none⟩=W.frozen? ⟨b,o,none⟩)∧Below W.heap.size W w':=
  ⟨fun b o k=>h.cell (p:=⟨b,o,none⟩) k,fun b o k=>h.frozen (p:=⟨b,o,none⟩) k,h⟩
end
section
variable {P:Program} {ops:Array Oper} {Q:Exit→Act→World→Prop} {md:Region.Mode} {S:World→Prop} {fuel:Nat} {listed:Array Bool} {a:Act} {w:World}
theorem tq (i:Nat) {d:Nat} {v:Value} {op:Op} {ty pos af g} {p:Prop} (h:p) (hi:ops[i]?=some {dst:=some d,op:=op,type:=ty,pos:=pos,after:=af,guard:=g}:=by rfl)
    (hw:Region.wanted {dst:=some d,op:=op,type:=ty,pos:=pos,after:=af,guard:=g} (yielded ops a.tmps)=true:=by rfl)
    (hy:∀w,S w→(execOp a.eval {dst:=some d,op:=op,type:=ty,pos:=pos,after:=af,guard:=g}).run P w=.ok (.value v) w:=by(intro w' hSw;go_simp;try with_reducible rfl))
    (hb:(Region.noSelect ops&&(Region.free md ops listed i&&(Region.ready md ops listed).contains i))=true:=by kernel_rfl) (hQ:∀c a' w,Q (.panic c) (a'.put (some d) v) w→Q (.panic c) a' w:=by(intro c a w h;exact h)) (hS:S w:=by assumption)
    (e:wpAnyH P md ops Q S fuel (listed.setIfInBounds i true) (a.put (some d) v) w=p:=by(first|(simp only[AP];done)|(simp only[AP];rfl)|rfl)):wpAnyH P md ops Q S (fuel+1) listed a w:=by
  rw[Bool.and_eq_true,Bool.and_eq_true] at hb;subst e;exact wpAnyH_take hi hb.1 hb.2.1 hb.2.2 hQ (.inl ⟨hw,hy⟩) hS h
theorem tv (i:Nat) {d:Nat} {op:Op} {ty pos af g} {p:Prop} (h:p) (hi:ops[i]?=some {dst:=some d,op:=op,type:=ty,pos:=pos,after:=af,guard:=g}:=by rfl)
    (hw:Region.wanted {dst:=some d,op:=op,type:=ty,pos:=pos,after:=af,guard:=g} (yielded ops a.tmps)=false:=by rfl)
    (hb:(Region.noSelect ops&&(Region.free md ops listed i&&(Region.ready md ops listed).contains i))=true:=by kernel_rfl) (hQ:∀c a' w,Q (.panic c) (a'.put (some d) undef) w→Q (.panic c) a' w:=by(intro c a w h;exact h)) (hS:S w:=by assumption)
    (e:wpAnyH P md ops Q S fuel (listed.setIfInBounds i true) (a.put (some d) undef) w=p:=by(first|(simp only[AP];done)|(simp only[AP];rfl)|rfl)):wpAnyH P md ops Q S (fuel+1) listed a w:=by
  rw[Bool.and_eq_true,Bool.and_eq_true] at hb;subst e;exact wpAnyH_take hi hb.1 hb.2.1 hb.2.2 hQ (.inr ⟨hw,rfl⟩) hS h
theorem tr (i:Nat) {o:Oper}
    (h:∀K:Act→World→Prop,Shut (∀a w,S w→(S w→wpAnyH P md ops Q S fuel (listed.setIfInBounds i true) a w)→K a w)→if Region.wanted o (yielded ops a.tmps)=true then Oper.wp P o a w K Q else K (a.put o.dst undef) w) (hr:Region.ready md ops listed=[i]:=by kernel_rfl) (hi:ops[i]?=some o:=by rfl):wpAnyH P md ops Q S (fuel+1) listed a w:=
  wpAnyH_ready hr (by simp) (AllReadyH.cons hi h AllReadyH.nil)
end
theorem th {P:Program} {ops:Array Oper} {Q:Exit→Act→World→Prop} {id:Nat} {a:Act} {w:World} (W:World)
    (h:((∀b o,b<W.heap.size→w.drew.cell? ⟨b,o,none⟩=W.cell? ⟨b,o,none⟩)∧(∀b o,b<W.heap.size→w.drew.frozen? ⟨b,o,none⟩=W.frozen? ⟨b,o,none⟩)∧Go.RowKit.Below W.heap.size W w.drew) →
      wpAnyH P .any ops Q (fun w'=>(∀b o,b<W.heap.size→w'.cell? ⟨b,o,none⟩=W.cell? ⟨b,o,none⟩)∧(∀b o,b<W.heap.size→w'.frozen? ⟨b,o,none⟩=W.frozen? ⟨b,o,none⟩)∧Go.RowKit.Below W.heap.size W w') ops.size (Array.replicate ops.size false) a w.drew) (hm:P.follows .mixedOrders=true:=by kernel_rfl) (e:W=w:=by rfl):(Code.region id ops true).wp P Q a w:=by
  subst e;exact wp_region_held_drew (S:=fun w'=>(∀b o,b<W.heap.size→w'.cell? ⟨b,o,none⟩=W.cell? ⟨b,o,none⟩)∧(∀b o,b<W.heap.size→w'.frozen? ⟨b,o,none⟩=W.frozen? ⟨b,o,none⟩)∧Go.RowKit.Below W.heap.size W w') hm ⟨fun _ _ _=>rfl,fun _ _ _=>rfl,(Go.RowKit.Below.refl _ W).drew⟩ h
open Go.RowKit in
theorem qz {W w1:World} (hb:Below W.heap.size W w1) {p q:Prop} {n:Nat} (e1:(∀b o,b<W.heap.size→w1.cell? ⟨b,o,none⟩=W.cell? ⟨b,o,none⟩)=p:=by(first|(simp only[SZ];done)|(simp only[SZ];rfl)|rfl))
    (e2:(∀b o,b<W.heap.size→w1.frozen? ⟨b,o,none⟩=W.frozen? ⟨b,o,none⟩)=q:=by(first|(simp only[SZ];done)|(simp only[SZ];rfl)|rfl)) (e3:W.heap.size=n:=by(first|(simp only[SZ,World.size_alloc];done)|(simp only[SZ,World.size_alloc];rfl)|rfl)):p∧q∧n ≤ w1.heap.size:=by
  subst e1 e2 e3;exact⟨fun b o h=>hb.cell (p:=⟨b,o,none⟩) h,fun b o h=>hb.frozen (p:=⟨b,o,none⟩) h,hb.size⟩
theorem nn (k:Nat):(0:Int) ≤ (k:Int):=Int.natCast_nonneg _
end Go.Proofs.YtjkkfcghkeoedaaGreatDoor
