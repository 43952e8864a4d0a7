/- The parts of the proof, part 27. -/
import Derived.Test.YtjkkfcghkeoedaaGreatDoorR0
import Derived.Test.YtjkkfcghkeoedaaGreatDoorR26
import Derived.Lib.Builder
import Derived.Lib.AppendStr
import Derived.Shelf.RegionOpenPlain
import Derived.Lib.UnsafeStr
set_option maxHeartbeats 16000000
set_option maxRecDepth 20000
set_option linter.unusedSimpArgs false
set_option linter.unusedVariables false
namespace Go.Proofs.YtjkkfcghkeoedaaGreatDoor.Tx
open Go.RowKit
theorem info_byte:∃i:TypeInfo,Tryz.prog.info? 5=some i∧i.zero=some (.int .u8 0)∧i.size=1∧i.bytes=1:=info_parts (by kernel_rfl)
theorem info_bld:∃i:TypeInfo,Tryz.prog.info? 120=some i∧i.size=2:=by
 have h:(Tryz.prog.info? 120).map (·.size)=some 2:=by kernel_rfl
 obtain⟨i,h1,h2⟩:=Option.map_eq_some_iff.1 h;exact⟨i,h1,h2⟩
set_option maxRecDepth 100000 in
theorem p_copyOld (b:Nat) (w:World) (h0:w.cell? ⟨b,0,none⟩=some (.pointer (some ⟨b,0,none⟩))):
  Calls Tryz.prog 121 #[.pointer (some ⟨b,0,none⟩)] w fun e w'=>e=.returned (.tuple #[])∧w'=w:=by
 obtain⟨j,hj,_⟩:=info_bld;go_enter Tryz.func121,Tryz.ntmps121
 go_wp2;rw[Lib.run_neq_ptr_same w _ Tryz.underlying118 hj];go_wp2;go_end0
 exact⟨rfl,rfl⟩
set_option maxRecDepth 100000 in
theorem p_copyNew (b:Nat) (w:World) (h0:w.cell? ⟨b,0,none⟩=some (.pointer none)) (hsh:w.shape? b=some (120,2)) (hfz:w.frozen? ⟨b,0,none⟩=false):
  Calls Tryz.prog 121 #[.pointer (some ⟨b,0,none⟩)] w fun e w'=>e=.returned (.tuple #[])∧w'=w.setCell ⟨b,0,none⟩ (.pointer (some ⟨b,0,none⟩)):=by
 obtain⟨j,hj,hjs⟩:=info_bld;have h1:=Lib.run_to_unsafe (P:=Tryz.prog) w (src:=118) (dst:=244) ⟨b,0,none⟩ Tryz.underlying118 Tryz.underlying244 hj (by rw[hjs];decide) hsh (Nat.zero_lt_succ 1);have h2:=Lib.run_from_unsafe (P:=Tryz.prog) w (src:=244) (dst:=118) ⟨b,0,none⟩ Tryz.underlying244 Tryz.underlying118 hj hsh (by kernel_rfl);go_enter Tryz.func121,Tryz.ntmps121
 go_wp2;rw[run_callFunc_extern Tryz.func162 (by kernel_rfl) (by kernel_rfl) (by kernel_rfl) (e:=Extern.AbiNoEscape.same) (by kernel_rfl)];rw[Lib.run_noEscape];simp only[Result.andThen];rw[Oper.upon_value];go_wp2;go_end0
 exact⟨rfl,rfl⟩
end Go.Proofs.YtjkkfcghkeoedaaGreatDoor.Tx
namespace Go.Proofs.YtjkkfcghkeoedaaGreatDoor.Fi
open Go.RowKit Go.Lib Tx
section
variable {P:Program} (w:World)
theorem run_append_str_at (base:Nat) (t u ty e:TypeId) (i:TypeInfo) (ht:P.underlying t=some (.slice e)) (hu:P.underlying u=some .string) (hi:P.info? e=some i) (hz:i.zero=some (.int .u8 0))
  (hsize:i.size=1) (hby:i.bytes=1)
  (v:Value) (n:Nat) (xs:List Value) (hown:w.ownsRow base e 1 v n xs) (s:ByteArray)
  (h63:n+s.size<=maxLen) (hbytes:n+s.size<=140737488355328) (hbase:base<=w.heap.size):
  ∃v' w',(Builtin.append_ #[t,u] ty #[v,.string s]).run P w=.ok v' w'∧w'.ownsRow base e 1 v' (n+s.size) (xs++strCells s)∧w.grownBy w' v.ownBlock ∧
   (∀g,v'.ownBlock=some g->v.ownBlock=some g∨w.heap.size<=g):=by
 obtain⟨v',w',hr,h1,h2,_⟩:=run_append_own_string (P:=P) w base t u ty e i ht hu hi hz hsize hby v n xs hown s h63 hbytes hbase;refine⟨v',w',hr,h1,h2,fun g' hg'=>?_⟩;have hxl:xs.length=n:=by simpa using hown.1
 rcases hown.2 with⟨rfl,rfl⟩|⟨g,cap,cur,rfl,hbg,hg,hnc,hcm,hcs,htake⟩
 ·have hx:xs=[]:=List.eq_nil_of_length_eq_zero hxl;subst hx;obtain⟨v2,w2,hr2,k1,_,_⟩:=run_append_own_string (P:=P) w w.heap.size t u ty e i ht hu hi hz hsize hby (.slice none 0 0) 0 [] (World.ownsRow_nil w _ e 1) s h63 hbytes (Nat.le_refl _);rw[hr2] at hr;cases hr;exact .inr (own_ge k1 g' hg').1
 ·by_cases hroom:n+s.size<=cap
  ·have hcs':cur.size=cap:=by simpa using hcs
   have hr2:=run_append_room_string (P:=P) w t u ty e i ht hu hi hsize g n cap cur hg s hroom (by omega);rw[hr2] at hr;cases hr;exact .inl hg'
  ·have holds:∀j u,xs[j]?=some u->w.cell? ((⟨g,0,none⟩:Addr).add j)=some u:=hown.cells (g:=g) rfl;have hr2:=run_append_grow_string (P:=P) w t u ty e i (.int .u8 0) ht hu hi hz ⟨g,0,none⟩ n cap xs (by rw[hsize];simpa using hxl) holds s (by omega) (by simp only[maxLen] at h63;omega) (by rw[hby];exact growslice_fits (by omega) (by omega));rw[hr2] at hr;cases hr;have:w.heap.size=g':=by simpa[Value.ownBlock] using hg'
   exact .inr (by omega)
theorem wpList_append_str_at {ops:Array Oper} {rest:List Oper} {o:Oper} {a:Act} {Q:Exit->Act->World->Prop} (hgd:o.guard=none) (sl x:Operand) (t u:TypeId)
  (ho:o.op=.call {callee:=.builtin .append,args:=#[sl,x],argTypes:=#[t,u]})
  (base:Nat) (e:TypeId) (i:TypeInfo) (ht:P.underlying t=some (.slice e)) (hu:P.underlying u=some .string) (hi:P.info? e=some i) (hz:i.zero=some (.int .u8 0))
  (hsize:i.size=1) (hby:i.bytes=1)
  (v:Value) (n:Nat) (xs:List Value) (hs:a.eval sl=v) (hown:w.ownsRow base e 1 v n xs) (s:ByteArray) (hx:a.eval x=.string s)
  (h63:n+s.size<=maxLen) (hbytes:n+s.size<=140737488355328) (hbase:base<=w.heap.size)
  (h:∀v' w',w'.ownsRow base e 1 v' (n+s.size) (xs++strCells s)->w.grownBy w' v.ownBlock->(∀g,v'.ownBlock=some g->v.ownBlock=some g∨w.heap.size<=g)->wpList P ops Q rest (a.put o.dst v') w'):wpList P ops Q (o::rest) a w:=by
 refine wpList_plain hgd fun K hK=>?_;obtain⟨v',w',hr,h2,h3,h4⟩:=run_append_str_at (P:=P) w base t u o.type e i ht hu hi hz hsize hby v n xs hown s h63 hbytes hbase;unfold Oper.wp execOp;simp only[ho,resolve,invoke,builtin,Sem.run_bind,Sem.run_pure,Result.andThen_ok,List.map_toArray,List.map_cons,List.map_nil,hs,hx,hr];exact hK _ _ (h v' w' h2 h3 h4)
end
structure Bd (b:Nat) (v:Value) (bs:List Value) (w:World):Prop where
 blk:w.heap[b]?=some (.cells #[.pointer none,v] 120 (0,0))∨w.heap[b]?=some (.cells #[.pointer (some ⟨b,0,none⟩),v] 120 (0,0))
 row:w.ownsRow 0 5 1 v bs.length bs
 ne:v.ownBlock≠some b
def BdF (b:Nat) (v:Value):Nat->Prop:=fun g=>g=b∨v.ownBlock=some g
theorem Bd.lt {b:Nat} {v:Value} {bs:List Value} {w:World} (h:Bd b v bs w):b<w.heap.size:=h.blk.elim (fun x=>lt_of_block x) (fun x=>lt_of_block x)
theorem Bd.stp {b:Nat} {v:Value} {bs:List Value} {w w':World} {N:Nat->Prop} (h:Bd b v bs w) (hs:Stp N w w') (hn:∀g,BdF b v g->¬N g):Bd b v bs w':=
 ⟨h.blk.imp (fun x=>(hs.block b (lt_of_block x) (hn b (.inl rfl))).trans x) (fun x=>(hs.block b (lt_of_block x) (hn b (.inl rfl))).trans x),own_stp h.row hs fun g hg=>hn g (.inr hg),h.ne⟩
theorem Bd.flt {b:Nat} {v:Value} {bs:List Value} {w:World} (h:Bd b v bs w):∀g,BdF b v g->g<w.heap.size:=by
 rintro g (rfl|hg)
 ·exact h.lt
 ·exact(own_ge h.row g hg).2
theorem Bd.new (w:World):Bd w.heap.size (.slice none 0 0) [] (w.alloc (.cells #[.pointer none,.slice none 0 0] 120)):=
 ⟨.inl (heap_alloc_new w _),World.ownsRow_nil _ _ _ _,by simp[Value.ownBlock]⟩
def BdP (b:Nat) (v:Value) (bs:List Value) (s:ByteArray) (w:World) (e:Ending) (w':World):Prop:=
 e=.returned (.tuple #[.int .i64 s.size,.nilIface])∧∃v',Bd b v' (bs++Lib.strCells s) w'∧Stp (BdF b v) w w'∧∀g,BdF b v' g->BdF b v g∨w.heap.size<=g
set_option maxRecDepth 100000 in
theorem c_copy (b:Nat) (v:Value) (bs:List Value) (w:World) (h:Bd b v bs w):
  Calls Tryz.prog 121 #[.pointer (some ⟨b,0,none⟩)] w fun e w'=>e=.returned (.tuple #[])∧w'.heap[b]?=some (.cells #[.pointer (some ⟨b,0,none⟩),v] 120 (0,0))∧Stp (fun g=>g=b) w w':=by
 rcases h.blk with hb|hb
 ·have hB:Lib.BuilderAt 120 5 0 b (.pointer none) bs w:=⟨Nat.zero_le _,v,hb,h.row,h.ne⟩;refine(p_copyNew b w hB.cell0 hB.shape hB.frozen0).mono ?_;rintro e w' ⟨rfl,rfl⟩;refine⟨rfl,by simp[World.setCell,Array.getElem?_modify,hb],(Stp.refl (fun g=>g=b) w).setCell (p:=⟨b,0,none⟩) (.inl rfl) _⟩
 ·have hB:Lib.BuilderAt 120 5 0 b (.pointer (some ⟨b,0,none⟩)) bs w:=⟨Nat.zero_le _,v,hb,h.row,h.ne⟩;refine(p_copyOld b w hB.cell0).mono ?_;rintro e w' ⟨rfl,rfl⟩;exact⟨rfl,hb,Stp.refl _ _⟩
set_option maxRecDepth 100000 in
theorem f_Write (b:Nat) (v:Value) (bs:List Value) (s:ByteArray) (w:World) (h:Bd b v bs w) (hlen:bs.length+s.size<=140737488355328):
  Calls Tryz.prog 67 #[.pointer (some ⟨b,0,none⟩),.string s] w (BdP b v bs s w):=by
 obtain⟨i0,hi,hi1,hi2,hi3⟩:=info_byte;have HC:=Lib.hid (c_copy b v bs w h);go_enter Tryz.func67,Tryz.ntmps67
 go_wp2_with (go_at_call 121;refine HC.out.mono ?_)
 rintro e w1 ⟨rfl,hbk,hs1⟩;have hown:=own_stp h.row hs1 (fun g hg e=>h.ne (by rw[hg,e]));have hz1:=hs1.size;have c0:w1.cell? ⟨b,0,none⟩=some (.pointer (some ⟨b,0,none⟩)):=by rw[Lib.cell_of_heap hbk];rfl
 have c1:w1.cell? ⟨b,1,none⟩=some v:=by rw[Lib.cell_of_heap hbk];rfl
 have hlt:b<w1.heap.size:=lt_of_block hbk;have HNE:=Lib.hid h.ne;have HS1:=Lib.hid (hs1.mono (N':=BdF b v) (fun g _ h=>.inl h));clear hs1 h;go_wp2_with (at_builtin;refine wpList_append_str_at _ rfl _ _ 54 9 rfl 0 5 i0 Tryz.underlying54 Tryz.underlying9 hi hi1 hi2 hi3 _ _ _ rfl hown s rfl (by unfold maxLen;omega) (by omega) (by omega) ?_)
 intro v' w2 hown2 hgrow hat;have hb2:w2.heap[b]?=some (.cells #[.pointer (some ⟨b,0,none⟩),v] 120 (0,0)):=(hgrow.block b hlt (fun e=>HNE.out e.symm)).trans hbk;have d0:w2.cell? ⟨b,0,none⟩=some (.pointer (some ⟨b,0,none⟩)):=by rw[Lib.cell_of_heap hb2];rfl
 have d1:w2.cell? ⟨b,1,none⟩=some v:=by rw[Lib.cell_of_heap hb2];rfl
 have f1:w2.frozen? ⟨b,1,none⟩=false:=Lib.frozen_of_heap hb2 1;obtain⟨ao,cap,rfl⟩:=own_slice hown2;go_wp2;go_ret2;have hne2:(Value.slice ao (bs.length+s.size) cap).ownBlock≠some b:=fun e=>by
  rcases hat b e with h|h
  ·exact HNE.out h
  ·omega
 have hS3:Stp (BdF b v) w (w2.setCell ⟨b,1,none⟩ (.slice ao (bs.length+s.size) cap)):=((HS1.out.grown hgrow (fun r hr=>.inl (.inr hr))).setCell (p:=⟨b,1,none⟩) (.inl (.inl rfl)) _);refine⟨rfl,_,⟨.inr ?_,?_,hne2⟩,hS3,?_⟩
 ·simp[World.setCell,Array.getElem?_modify,hb2]
 ·have:=own_stp hown2 ((Stp.refl (fun g=>g=b) w2).setCell (p:=⟨b,1,none⟩) (.inl rfl) (.slice ao (bs.length+s.size) cap)) (fun g hg e=>hne2 (by rw[hg,e]));simpa[Lib.strCells_length] using this
 ·rintro g (rfl|hg)
  ·exact .inl (.inl rfl)
  ·rcases hat g hg with h|h
   ·exact .inl (.inr h)
   ·exact .inr (by omega)
theorem Stp.freeze {N:Nat->Prop} {W W':World} (h:Stp N W W') {p:Addr} (hp:N p.block∨W.heap.size<=p.block) (n:Nat):Stp N W (W'.freeze p n):=by
 have hb:∀k,k≠p.block->(W'.freeze p n).heap[k]?=W'.heap[k]?:=by
  intro k hk;unfold World.freeze;split
  ·rfl
  ·simp[Array.getElem?_modify,Ne.symm hk]
 have hz:(W'.freeze p n).heap.size=W'.heap.size:=by
  unfold World.freeze;split
  ·rfl
  ·simp
 have ho:(W'.freeze p n).os=W'.os∧(W'.freeze p n).tape=W'.tape∧(W'.freeze p n).output=W'.output:=by
  unfold World.freeze;split<;>exact⟨rfl,rfl,rfl⟩
 refine⟨ho.1.trans h.os,ho.2.1.trans h.tape,ho.2.2.trans h.output,by rw[hz];exact h.size,fun b hlt hn=>(hb b (fun e=>?_)).trans (h.block b hlt hn)⟩;subst e;rcases hp with hp|hp
 ·exact hn hp
 ·omega
set_option maxRecDepth 100000 in
theorem c_String0 (b:Nat) (w:World) (h:Bd b (.slice none 0 0) [] w):
  Calls Tryz.prog 68 #[.pointer (some ⟨b,0,none⟩)] w fun e w'=>e=.returned (.string ⟨#[]⟩)∧Stp (BdF b (.slice none 0 0)) w w':=by
 have hUS:=fun(W:World) (q:Option Addr)=>Lib.run_unsafeString_none (P:=Tryz.prog) W 197 3 9 q;have c1:w.drew.cell? ⟨b,1,none⟩=some (.slice none 0 0):=by
  rcases h.blk with hb|hb
  ·have:w.drew.heap[b]?=some (.cells #[.pointer none,.slice none 0 0] 120 (0,0)):=hb;rw[Lib.cell_of_heap this];rfl
  ·have:w.drew.heap[b]?=some (.cells #[.pointer (some ⟨b,0,none⟩),.slice none 0 0] 120 (0,0)):=hb;rw[Lib.cell_of_heap this];rfl
 have hSD:(Builtin.unsafeSliceData_ #[54] 197 #[.slice none 0 0]).run Tryz.prog w.drew=.ok (.pointer none) w.drew:=rfl;clear h;have mixed:Tryz.prog.follows .mixedOrders=true:=by kernel_rfl
 go_enter Tryz.func68,Tryz.ntmps68
 go_wp2;go_region_o
 all_goals(go_wp2;go_ret;exact⟨rfl,(Stp.refl _ _).drew⟩)
set_option maxRecDepth 100000 in
theorem c_String1 (b:Nat) (v:Value) (l:List UInt8) (w:World) (h:Bd b v (Lib.byteCells l) w) (h0:l≠[]):
  Calls Tryz.prog 68 #[.pointer (some ⟨b,0,none⟩)] w fun e w'=>e=.returned (.string (bts l))∧Stp (BdF b v) w w':=by
 have hl0:l.length≠0:=by simpa using h0
 have hown:=h.row;rw[Lib.byteCells_length] at hown;obtain⟨g,cap,cur,rfl,hg,hnc,hcm,hcs,htake⟩:∃g cap cur,v=.slice (some ⟨g,0,none⟩) l.length cap∧w.heap[g]?=some (.cells cur 5 (0,0))∧l.length<=cap∧cap<=maxLen∧cur.size=cap*1∧cur.toList.take (l.length*1)=Lib.byteCells l:=by
  rcases hown.2 with⟨_,hz⟩|⟨g,cap,cur,hv,_,r⟩
  ·exact absurd hz hl0
  ·exact⟨g,cap,cur,hv,r⟩
 have c1:w.drew.cell? ⟨b,1,none⟩=some (.slice (some ⟨g,0,none⟩) l.length cap):=by
  rcases h.blk with hb|hb
  ·have:w.drew.heap[b]?=some (.cells #[.pointer none,.slice (some ⟨g,0,none⟩) l.length cap] 120 (0,0)):=hb;rw[Lib.cell_of_heap this];rfl
  ·have:w.drew.heap[b]?=some (.cells #[.pointer (some ⟨b,0,none⟩),.slice (some ⟨g,0,none⟩) l.length cap] 120 (0,0)):=hb;rw[Lib.cell_of_heap this];rfl
 have hSD:(Builtin.unsafeSliceData_ #[54] 197 #[.slice (some ⟨g,0,none⟩) l.length cap]).run Tryz.prog w.drew=.ok (.pointer (some ⟨g,0,none⟩)) w.drew:=
  Lib.run_unsafeSliceData_row _ _ _ _ _ _ (by omega)
 have hUS:(Builtin.unsafeString_ #[197,3] 9 #[.pointer (some ⟨g,0,none⟩),.int .i64 l.length]).run Tryz.prog w.drew=.ok (.string ⟨l.toArray⟩) (w.drew.freeze ⟨g,0,none⟩ l.length):=by
  refine Lib.run_unsafeString_row w.drew 197 3 9 5 Tryz.underlying197 Tryz.Builder_Extra_169.cellsByte g cur.size (by have hg':w.drew.heap[g]?=some (.cells cur 5 (0,0)):=hg;simp[World.shape?,hg']) l h0 (by omega) (by unfold maxLen at hcm;omega) ?_;intro j x hx;have:=hown.cells (g:=g) rfl j (.int .u8 x.toNat) (by simp[Lib.byteCells,hx]);exact this
 clear h hown htake hcs hg;have mixed:Tryz.prog.follows .mixedOrders=true:=by kernel_rfl
 go_enter Tryz.func68,Tryz.ntmps68
 go_wp2;go_region_o
 all_goals(go_wp2;go_ret;exact⟨rfl,Stp.freeze (Stp.refl _ _).drew (p:=⟨g,0,none⟩) (.inl (.inr rfl)) _⟩)
theorem c_String (b:Nat) (v:Value) (l:List UInt8) (w:World) (h:Bd b v (Lib.byteCells l) w) (h0:l=[]->v=.slice none 0 0):
  Calls Tryz.prog 68 #[.pointer (some ⟨b,0,none⟩)] w fun e w'=>e=.returned (.string (bts l))∧Stp (BdF b v) w w':=by
 by_cases hl:l=[]
 ·obtain rfl:=h0 hl;subst hl;exact c_String0 b w h
 ·exact c_String1 b v l w h hl
def ScrP (br:St->Int->List UInt8) (b:Nat) (L:LS) (T:Nat->Prop) (s:List UInt8) (w:World) (e:Ending) (w':World):Prop:=
 e=.returned (.string (bts (doR br L.val s).1))∧∃L' T',L'.val=(doR br L.val s).2∧Inv L'.val∧(doR br L.val s).1.length<=70000000000∧Fut w b L T w' L' T'
structure Mid (br:St->Int->List UInt8) (b:Nat) (L:LS) (T:Nat->Prop) (w:World) (bB bS:Nat) (P:List (List UInt8)) (k:Nat) (W:World) (L':LS) (T':Nat->Prop) (v:Value):Prop where
 val:L'.val=(stN br L.val P k).2
 inv:Inv L'.val
 fut:Fut w b L T W L' T'
 bd:Bd bB v (Lib.byteCells (stN br L.val P k).1) W
 nil:(stN br L.val P k).1=[]->v=.slice none 0 0
 len:(stN br L.val P k).1.length<=k*1000001
 sep:∀g,BdF bB v g->¬T' g∧¬Foot b L' g∧w.heap.size<=g∧g≠bS
 rd:Rd stG 1 W (some ⟨bS,0,none⟩) P
 lt:bS<W.heap.size
 fs:¬Foot b L' bS
theorem Mid.wl {br:St->Int->List UInt8} {b:Nat} {L:LS} {T:Nat->Prop} {w:World} {bB bS:Nat} {P:List (List UInt8)} {k:Nat} {W:World} {L':LS} {T':Nat->Prop} {v:Value} (h:Mid br b L T w bB bS P k W L' T' v):w.heap.size<=W.heap.size:=h.fut.stp.size
theorem FirmAt.cut {w:World} {b:Nat} {L:LS} {T:Nat->Prop} (h:FirmAt w b L T):FirmAt w b L (fun g=>T g∧g<w.heap.size):=⟨h.blk,h.ok.mono (fun g hg ht=>⟨ht,hg⟩),h.row,fun g hg=>h.ft g hg.1,h.bl⟩
theorem Fut.cut {w w':World} {b:Nat} {L L':LS} {T T':Nat->Prop} (h:Fut w b L T w' L' T'):Fut w b L T w' L' (fun g=>T' g∧g<w'.heap.size):=⟨h.at_.cut,h.stp,fun g hg=>h.tt g hg.1,h.ff⟩
theorem Mid.step {br:St->Int->List UInt8} {b:Nat} {L:LS} {T:Nat->Prop} {w:World} {bB bS:Nat} {P:List (List UInt8)} {k:Nat} {W:World} {L':LS} {T':Nat->Prop} {v:Value} (h:Mid br b L T w bB bS P k W L' T' v)
  {p t:List UInt8} {W1 W2:World} {L1:LS} {T1:Nat->Prop} {v2:Value} (hp:P[k]?=some p) (hl:linR br L'.val p=(t,L1.val)) (hi:Inv L1.val) (ht:t.length<=1000001) (ht0:t≠[]) (hf:Fut W b L' T' W1 L1 T1)
  (hbd:Bd bB v2 (Lib.byteCells (stN br L.val P k).1++Lib.byteCells t) W2) (hs:Stp (BdF bB v) W1 W2) (hv:∀g,BdF bB v2 g->BdF bB v g∨W1.heap.size<=g):Mid br b L T w bB bS P (k+1) W2 L1 (fun g=>T1 g∧g<W1.heap.size) v2:=by
 replace hf:=hf.cut
 have hst:=stN_step (br:=br) (x:=L.val) hp;rw[←h.val,hl] at hst;have e1:(stN br L.val P (k+1)).1=(stN br L.val P k).1++t:=by rw[hst]
 have e2:(stN br L.val P (k+1)).2=L1.val:=by rw[hst]
 have z1:=hf.stp.size;have z2:=hs.size;have hlt:=h.bd.flt;have q1:∀g,T1 g∧g<W1.heap.size->¬BdF bB v g:=fun g hg hb=>by
  rcases hf.tt g hg with h1|h1
  ·exact(h.sep g hb).1 h1
  ·have:=hlt g hb;omega
 have q2:∀g,Foot b L1 g->¬BdF bB v g:=fun g hg hb=>by
  rcases hf.ff g hg with h1|h1
  ·exact(h.sep g hb).2.1 h1
  ·have:=hlt g hb;omega
 have F1:=h.fut.trans hf;have A2:=hf.at_.stp hs q1 q2;have F2:Fut w b L T W2 L1 (fun g=>T1 g∧g<W1.heap.size):=⟨A2,stp_tr F1.stp hs (fun g hg=>.inr (h.sep g hg).2.2.1),F1.tt,F1.ff⟩;have hS0:¬BdF bB v bS:=fun hb=>(h.sep bS hb).2.2.2 rfl;have hl1:∀g,Foot b L1 g->g<W1.heap.size:=by
  rintro g (rfl|hg)
  ·exact hf.at_.blk.lt
  ·exact(own_ge hf.at_.row g hg).2
 refine⟨e2.symm,hi,F2,?_,?_,?_,?_,?_,by have:=h.lt;omega,?_⟩
 ·rw[e1,Lib.byteCells_append];exact hbd
 ·rw[e1];intro hn;exact absurd (List.append_eq_nil_iff.1 hn).2 ht0
 ·rw[e1,List.length_append];have:=h.len;rw[Nat.add_mul];omega
 ·intro g hg;rcases hv g hg with h1|h1
  ·exact⟨fun ht=>q1 g ht h1,fun ht=>q2 g ht h1,(h.sep g h1).2.2.1,(h.sep g h1).2.2.2⟩
  ·refine⟨fun ht=>?_,fun ht=>?_,?_,?_⟩
   ·have:=ht.2;omega
   ·have:=hl1 g ht;omega
   ·have:=h.wl;omega
   ·have:=h.lt;omega
 ·exact(h.rd.stp hf.stp (fun ad e=>by cases e;exact h.fs)).stp hs (fun ad e=>by cases e;exact hS0)
 ·intro hg;rcases hf.ff bS hg with h1|h1
  ·exact h.fs h1
  ·have:=h.lt;omega
theorem Mid.skip {br:St->Int->List UInt8} {b:Nat} {L:LS} {T:Nat->Prop} {w:World} {bB bS:Nat} {P:List (List UInt8)} {k:Nat} {W:World} {L':LS} {T':Nat->Prop} {v:Value} (h:Mid br b L T w bB bS P k W L' T' v)
  (hp:P[k]?=some []):Mid br b L T w bB bS P (k+1) W L' T' v:=by
 have hst:=stN_step (br:=br) (x:=L.val) hp;rw[lin_emp] at hst;have e:stN br L.val P (k+1)=stN br L.val P k:=by rw[hst];simp
 have hl:=h.len;have e2:=congrArg (fun q=>q.1.length) e;have hl2:(stN br L.val P (k+1)).1.length<=(k+1)*1000001:=by omega
 exact⟨by rw[e];exact h.val,h.inv,h.fut,by rw[e];exact h.bd,by rw[e];exact h.nil,hl2,h.sep,h.rd,h.lt,h.fs⟩
theorem bts_nl (t:List UInt8):bts t++(⟨#[10]⟩:ByteArray)=bts (t++[10]):=by
 rw[show(⟨#[10]⟩:ByteArray)=bts [10] from rfl,ba_app]
theorem str_byte (t:List UInt8):Lib.strCells (bts t)=Lib.byteCells t:=by
 unfold Lib.strCells Lib.byteCells;rw[bts_list]
theorem f_Do {br:St->Int->List UInt8} {b:Nat} {L:LS} {T:Nat->Prop} {w:World} (s:List UInt8) (hF:FirmAt w b L T) (hI:Inv L.val) (hE:Env w b L) (hbr:∀x k,(br x k).length<=1000000)
  (hB:(∃t∈cutZ 10 s,(cut t [32]).1=[98,101,97,114,115])->∀L' T' W,FirmAt W b L' T'->Inv L'.val->Env W b L'->BrP br b L' W):
  Calls Tryz.prog 16 #[.pointer (some ⟨b,0,none⟩),.string (bts s)] w (ScrP br b L T s w):=by
 have hsz:(bts s).size=s.length:=bts_size s;have HSZ:=Lib.hid hsz;by_cases hlong:65536<s.length
 ·have HR:=Lib.hid (show doR br L.val s=(errT 3++[10],L.val) by unfold doR;rw[if_pos hlong]);have HFA:=Lib.hid (f_failed 3 w (by decide) hE.ld);have hel:=errT_len (e:=3) (by decide);have z1:¬9223372036854775807<(bts (errT 3)).size+1:=by rw[bts_size];omega
  have HN:=Lib.hid (bts_nl (errT 3));have z2:(65536:Int)<((bts s).size:Int):=by omega
  generalize bts (errT 3)=SE at *;generalize bts s=SS at *;clear hel hlong hsz HSZ;go_enter Tryz.func16,Tryz.ntmps16
  go_wp2_with (go_at_call 62;((with_reducible refine HFA.out.mono ?_);rintro e w1 ⟨rfl,hb1⟩))
  go_ret;refine⟨by rw[HN.out,HR.out];rfl,L,T,by rw[HR.out],hI,by rw[HR.out];simp only[List.length_append,List.length_cons,List.length_nil];have:=errT_len (e:=3) (by decide);omega,Fut.of_below hF hb1⟩
 have z2:¬(65536:Int)<((bts s).size:Int):=by omega
 have HR:=Lib.hid (show doR br L.val s=linsR br L.val (cutZ 10 s) by unfold doR;rw[if_neg hlong]);have HB0:=Bd.new w;have BA0:=bl_alloc (below_refl w) (.cells #[.pointer none,.slice none 0 0] 120);have HSP:=Lib.hid (c_SplitAt 10 s (w.alloc (.cells #[.pointer none,.slice none 0 0] 120)) (by omega) (hE.ld.on BA0));have HPL:=Lib.hid (cutZ_len 10 s);have HPS:=Lib.hid (fun p hp=>Nat.le_trans (cut_szZ 10 s p hp) (show s.length<=65536 by omega));have HBB:=Lib.hid hB;have HF:=Lib.hid hF;have HI:=Lib.hid hI;have HE:=Lib.hid hE;clear hB hF hI hE;generalize hPP:cutZ 10 s=P at *;clear hPP;obtain⟨n,hn⟩:∃n,P.length=n:=⟨_,rfl⟩;rw[hn] at HSP HPL;have hnl:n<=65537:=by have:=HPL.out;omega
 have HN:=Lib.hid hn;clear hn hsz;generalize bts s=SS at *;go_enter Tryz.func16,Tryz.ntmps16
 go_wp2_with (go_at_call 63;((with_reducible refine HSP.out.mono ?_);rintro e w1 ⟨bS,rfl,hb1,RP,lg,lS⟩))
 have hb01:=below_tr BA0 hb1;have hz1:=hb1.size;have hw0:w.heap.size<w1.heap.size:=by simp at hz1;omega
 have hlS0:w.heap.size+1<=bS:=by simpa using lg
 have M0:Mid br b L T w w.heap.size bS P 0 w1 L (fun g=>T g∧g<w.heap.size) (.slice none 0 0):=by
  refine⟨by simp[stN,linsR],HI.out,(Fut.cut (Fut.refl HF.out)).below hb01,?_,fun _=>rfl,by simp[stN,linsR],?_,RP,lS,?_⟩
  ·have:=HB0.stp (N:=fun _=>False) ((Stp.refl _ _).below hb1 (Nat.le_refl _)) (fun _ _ h=>h);simpa[stN,linsR,Lib.byteCells] using this
  ·rintro g (rfl|hg)
   ·refine⟨fun h=>by have:=h.2;omega,?_,Nat.le_refl _,by omega⟩;rintro (h|h)
    ·have:=HF.out.blk.lt;omega
    ·have:=(own_ge HF.out.row _ h).2;omega
   ·simp[Value.ownBlock] at hg
  ·rintro (h|h)
   ·have:=HF.out.blk.lt;omega
   ·have:=(own_ge HF.out.row _ h).2;omega
 clear HB0 hb1 RP;go_loopw [25] (fun i wr=>∃k:Nat,k<=n∧i=.int .i64 k∧∃L' T' v,Mid br b L T w w.heap.size bS P k wr L' T' v) (fun i _=>n-(RowKit.intOf i).toNat)
 case atStart=>exact⟨0,Nat.zero_le _,rfl,_,_,_,M0⟩
 case round=>
  obtain⟨k,hk,rfl,L1,T1,v,hM⟩:=hrel;have HM:=Lib.hid hM;have hbd:=hM.bd;have hz3:=hM.wl;have k0:=nn k;by_cases hlt:k<n
  ·have k1:(k:Int)<(n:Int):=by omega
   obtain⟨p,hp⟩:=get_lt (l:=P) (k:=k) (by rw[HN.out];omega);have HP:=Lib.hid hp;have c0:wr.cell? ⟨bS,k,none⟩=some (.string (bts p)):=by have:=rdc hM.rd hp;rwa [Nat.zero_add] at this
   have lbS:=hM.lt;clear hM hbd;by_cases hp0:p=[]
   ·subst hp0;rw[show bts []=(⟨#[]⟩:ByteArray) from rfl] at c0;go_wp2;go_roundw
    case rel=>exact⟨k+1,by omega,by go_num,L1,T1,v,HM.out.skip HP.out⟩
    case measure=>simp[RowKit.intOf];omega
   have HP0:=Lib.hid hp0;have q0:((bts p).toList==[])=false:=by rw[bts_emp];exact beq_eq_false_iff_ne.2 hp0
   have hps:=HPS.out p (List.mem_of_getElem? hp);have hF1:=HM.out.fut.at_;have hI1:=HM.out.inv;have hE1:=HE.out.fut HM.out.fut;have HAN:=Lib.hid (f_answer (br:=br) p hF1 hI1 hE1 (by omega) (fun h=>HBB.out ⟨p,List.mem_of_getElem? hp,h⟩ L1 T1 wr hF1 hI1 hE1));have HFA:=Lib.hid (fun W (h:Below wr.heap.size wr W)=>f_failed 14 W (by decide) (hE1.ld.on h));have HCO:=Lib.hid (fun W (h:Below wr.heap.size wr W)=>f_commandOf p W (by omega) (hE1.ld.on h));have hol:=HM.out.len;have HWR:=Lib.hid (fun W (h:Below wr.heap.size wr W) (t:ByteArray) (ht:t.size<=1000001)=>f_Write w.heap.size v (Lib.byteCells (stN br L.val P k).1) t W (HM.out.bd.stp (N:=fun _=>False) ((Stp.refl _ _).below h (Nat.le_refl _)) (fun _ _ h=>h)) (by rw[Lib.byteCells_length];omega));have HRE:=Lib.hid (fun W (h:Below wr.heap.size wr W) (c:Cm) (u:Value) (hc:CmV W c u)=>f_reply (hF1.on h) hI1 (hE1.on h) hc);have HBR:=Lib.hid (hbr L1.val);have HI1:=Lib.hid hI1;have HF1:=Lib.hid hF1;clear hp hF1 hI1 hE1;cases ha:ansO br L1.val p with
   |some t=>
    have HA:=Lib.hid ha;have htl:=ans_len HI1.out HBR.out ha;have HL:=Lib.hid (lin_ans HP0.out ha);have HNL:=Lib.hid (bts_nl t);have hts:(bts t).size<=1000000:=by rw[bts_size];exact htl
    have z1:¬9223372036854775807<(bts t).size+1:=by omega
    have z3:(bts t++(⟨#[10]⟩:ByteArray)).size<=1000001:=by rw[ByteArray.size_append];exact Nat.add_le_add_right hts 1
    clear ha;generalize bts p=Sx at *;generalize hSt:bts t=St at *;have HST:=Lib.hid hSt;clear hSt;go_wp2_with (first|(go_at_call 64;go_loud ((with_reducible refine HAN.out.mono ?_);intro e w2 ha;obtain⟨rfl,hb2⟩:=ansP_some HA.out ha;rw[HST.out]))|(go_at_call 67;go_loud ((with_reducible refine(HWR.out _ hb2 _ z3).mono ?_);rintro e w9 ⟨rfl,v9,hbd9,hs9,hv9⟩)))
    go_roundw
    case rel=>
     rw[HNL.out,str_byte] at hbd9;exact⟨k+1,by omega,by go_num,L1,_,v9,HM.out.step HP.out HL.out HI1.out (by simp;omega) (by simp) ((Fut.refl HF1.out).below hb2) hbd9 hs9 hv9⟩
    case measure=>simp[RowKit.intOf];omega
   |none=>
    have HA:=Lib.hid ha;have HNL:=Lib.hid (bts_nl (errT 14));have hel:=errT_len (e:=14) (by decide);have hts:(bts (errT 14)).size<=1000000:=by rw[bts_size];omega
    have z1:¬9223372036854775807<(bts (errT 14)).size+1:=by omega
    have z3:(bts (errT 14)++(⟨#[10]⟩:ByteArray)).size<=1000001:=by rw[ByteArray.size_append];exact Nat.add_le_add_right hts 1
    cases hc:cmdO p with
    |none=>
     have HCN:=Lib.hid hc;have HL:=Lib.hid (lin_no HP0.out ha hc);clear ha hc;generalize bts p=Sx at *;generalize bts (errT 14)=St at *;go_wp2_with (first|(go_at_call 64;go_loud ((with_reducible refine HAN.out.mono ?_);intro e w2 ha;obtain⟨rfl,hb2⟩:=ansP_none HA.out ha))|(go_at_call 62;((with_reducible refine(HFA.out _ hb2).mono ?_);rintro e w3 ⟨rfl,hb3⟩;have hb23:=below_tr hb2 hb3))|(go_at_call 65;((with_reducible refine(HCO.out _ hb23).mono ?_);intro e w4 hq;obtain⟨hb4,hq2⟩:=hq;rw[HCN.out] at hq2;obtain rfl:=hq2;have hb24:=below_tr hb23 hb4))|(go_at_call 67;go_loud ((with_reducible refine(HWR.out _ hb24 _ z3).mono ?_);rintro e w9 ⟨rfl,v9,hbd9,hs9,hv9⟩)))
     go_roundw
     case rel=>
      rw[HNL.out,str_byte] at hbd9;exact⟨k+1,by omega,by go_num,L1,_,v9,HM.out.step HP.out HL.out HI1.out (by simp;omega) (by simp) ((Fut.refl HF1.out).below hb24) hbd9 hs9 hv9⟩
     case measure=>simp[RowKit.intOf];omega
    |some c=>
     have HCN:=Lib.hid hc;have HL:=Lib.hid (lin_cmd HP0.out ha hc);clear ha hc;have HRT:=Lib.hid (rfl:bts (repT c L1.val)=bts (repT c L1.val));have HW2:=Lib.hid (fun W L5 T5 (hf:Fut wr b L1 T1 W L5 T5) (t:ByteArray) (ht:t.size<=1000001)=>f_Write w.heap.size v (Lib.byteCells (stN br L.val P k).1) t W (HM.out.bd.stp hf.stp (fun g hg hq=>(HM.out.sep g hg).2.1 hq)) (by rw[Lib.byteCells_length];omega));obtain⟨St,hSt⟩:∃St,bts (repT c L1.val)=St:=⟨_,rfl⟩;have HST:=Lib.hid hSt;have HNR:=Lib.hid (bts_nl (repT c L1.val));rw[hSt] at HNR;clear hSt;generalize bts p=Sx at *;generalize bts (errT 14)=Su at *;go_wp2_with (first|(go_at_call 64;go_loud ((with_reducible refine HAN.out.mono ?_);intro e w2 ha;obtain⟨rfl,hb2⟩:=ansP_none HA.out ha))|(go_at_call 62;((with_reducible refine(HFA.out _ hb2).mono ?_);rintro e w3 ⟨rfl,hb3⟩;have hb23:=below_tr hb2 hb3))|(go_at_call 65;go_loud ((with_reducible refine(HCO.out _ hb23).mono ?_);intro e w4 hq;obtain⟨hb4,hq2⟩:=hq;rw[HCN.out] at hq2;obtain⟨u,rfl,hcv⟩:=hq2;have hok:=hcv.ok;obtain⟨ty,V,rfl⟩:=hcv.ifc;have hb24:=below_tr hb23 hb4;have hrl:=rep_len HI1.out hok;have z1:¬9223372036854775807<St.size+1:=(by rw[←HST.out,bts_size];omega);have z3:(St++(⟨#[10]⟩:ByteArray)).size<=1000001:=(by rw[ByteArray.size_append,←HST.out,bts_size];exact Nat.le_trans (Nat.add_le_add_right hrl 1) (by decide))))|(go_at_call 66;go_loud ((with_reducible refine(HRE.out _ hb24 c _ hcv).mono ?_);rintro e w5 ⟨rfl,L5,T5,hv5,hf5⟩;have hf05:=((Fut.refl HF1.out).below hb24).trans hf5;rw[HST.out]))|(go_at_call 67;go_loud ((with_reducible refine(HW2.out _ _ _ hf05 _ z3).mono ?_);rintro e w9 ⟨rfl,v9,hbd9,hs9,hv9⟩)))
     go_roundw
     case rel=>
      rw[HNR.out,str_byte] at hbd9;exact⟨k+1,by omega,by go_num,L5,_,v9,HM.out.step HP.out (by rw[HL.out,hv5]) (by rw[hv5];exact inv_doC HI1.out hok) (by simp;omega) (by simp) hf05 hbd9 hs9 hv9⟩
     case measure=>simp[RowKit.intOf];omega
  ·obtain rfl:k=n:=by omega
   clear k0;have HS:=Lib.hid (c_String w.heap.size v (stN br L.val P k).1 wr hbd hM.nil);have HX:=Lib.hid (show doR br L.val s=stN br L.val P k by rw[HR.out];unfold stN;rw[List.take_of_length_le (by rw[HN.out];omega)]);have HQ:=Lib.hid hM;clear hM hbd;go_wp2_with (go_at_call 68;((with_reducible refine HS.out.mono ?_);rintro e w3 ⟨rfl,hs3⟩))
   go_ret;refine⟨by rw[HX.out];rfl,L1,T1,by rw[HX.out];exact HQ.out.val,HQ.out.inv,by rw[HX.out];have:=HQ.out.len;omega,?_⟩;have hf:=HQ.out.fut;exact⟨hf.at_.stp hs3 (fun g hg hb=>(HQ.out.sep g hb).1 hg) (fun g hg hb=>(HQ.out.sep g hb).2.1 hg),stp_tr hf.stp hs3 (fun g hg=>.inr (HQ.out.sep g hg).2.2.1),hf.tt,hf.ff⟩
end Go.Proofs.YtjkkfcghkeoedaaGreatDoor.Fi
