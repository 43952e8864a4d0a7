/- The parts of the proof, part 12. -/
import Derived.Test.YtjkkfcghkeoedaaGreatDoorR0
import Derived.Test.YtjkkfcghkeoedaaGreatDoorR11
import Derived.Deep.AppendLies
set_option maxHeartbeats 16000000
set_option maxRecDepth 20000
set_option linter.unusedSimpArgs false
set_option linter.unusedVariables false
namespace Go.Proofs.YtjkkfcghkeoedaaGreatDoor.Fi
open Go.RowKit Go.Lib Tx
structure Sl (α:Type) where
 a:Option Addr
 l:List α
 c:Nat
abbrev Sl.v {α:Type} (x:Sl α):Value:=.slice x.a x.l.length x.c
def Sl.cs {α:Type} (x:Sl α):List Value:=[x.v]
theorem Sl.cs_len {α:Type} (x:Sl α):x.cs.length=1:=rfl
def Jt.cs (j:Jt):List Value:=[.int .i64 j.h,.bool j.s]
theorem Jt.cs_len (j:Jt):j.cs.length=2:=rfl
def En.cs (e:En):List Value:=[.int .i64 e.n,.int .i64 e.d,.string e.t,.int .u64 (e.s:Nat)]
theorem En.cs_len (e:En):e.cs.length=4:=rfl
structure LSu where
 stk:Sl (Sl S.Course)
 jnt:Sl (Sl Jt)
 cl:Cl
 gear:Sl G.It
 ru:V.Ru
 rt:Rt
 men:Int
structure LRg where
 st:Int
 lk:Sl G.Lk
structure LSi where
 dogs:Sl Int
 fel:Bool
 men:Int
structure LS where
 x:LSu
 day:Int
 gusts:Sl Int
 rigs:Sl LRg
 sites:Sl LSi
 items:Sl G.It
 back:Sl ByteArray
 money:Int
 lines:Sl En
def LRg.cs (r:LRg):List Value:=[.int .i64 r.st,r.lk.v]
theorem LRg.cs_len (r:LRg):r.cs.length=2:=rfl
def LSi.cs (s:LSi):List Value:=[s.dogs.v,.bool s.fel,.int .i64 s.men]
theorem LSi.cs_len (s:LSi):s.cs.length=3:=rfl
abbrev LSu.cs (x:LSu):List Value:=[x.stk.v,x.jnt.v,.int .i64 x.cl.fi,.int .i64 x.cl.ga,.int .i64 x.cl.tp,.int .i64 x.cl.le,.int .i64 x.cl.la,.int .i64 x.cl.st,x.gear.v,.int .i64 x.ru.s,.int .i64 x.ru.g,.int .i64 x.ru.c,.int .i64 x.rt.lo,.int .i64 x.rt.hi,.int .i64 x.rt.ab,.int .i64 x.rt.co,.int .i64 x.men]
abbrev LS.cs (x:LS):List Value:=[x.x.stk.v,x.x.jnt.v,.int .i64 x.x.cl.fi,.int .i64 x.x.cl.ga,.int .i64 x.x.cl.tp,.int .i64 x.x.cl.le,.int .i64 x.x.cl.la,.int .i64 x.x.cl.st,x.x.gear.v,.int .i64 x.x.ru.s,.int .i64 x.x.ru.g,.int .i64 x.x.ru.c,.int .i64 x.x.rt.lo,.int .i64 x.x.rt.hi,.int .i64 x.x.rt.ab,.int .i64 x.x.rt.co,.int .i64 x.x.men,.int .i64 x.day,x.gusts.v,x.rigs.v,x.sites.v,x.items.v,x.back.v,.int .i64 x.money,x.lines.v]
def LSu.val (x:LSu):Su:=⟨x.stk.l.map (·.l),x.jnt.l.map (·.l),x.cl,x.gear.l,x.ru,x.rt,x.men⟩
def LRg.val (r:LRg):Rig:=⟨r.st,r.lk.l⟩
def LSi.val (s:LSi):Sit:=⟨s.dogs.l,s.fel,s.men⟩
def LS.val (x:LS):St:=⟨x.x.val,x.day,x.gusts.l,x.rigs.l.map LRg.val,x.sites.l.map LSi.val,x.items.l,x.back.l,x.money,x.lines.l⟩
structure Got (T:Nat->Prop) (w:World) {α:Type} (enc:α->List Value) (sz:Nat) (x:Sl α):Prop where
 rd:Rd enc sz w x.a x.l
 tt:x.l≠[]->∀a,x.a=some a->T a.block
 lc:x.l.length<=x.c
 cm:x.c<=maxLen
section
variable {T T':Nat->Prop} {w w':World} {α:Type} {enc:α->List Value} {sz:Nat} {x:Sl α}
theorem Got.len (h:Got T w enc sz x):x.l.length<=maxLen:=Nat.le_trans h.lc h.cm
theorem Got.stp {N:Nat->Prop} (h:Got T w enc sz x) (hs:Stp N w w') (hn:∀b,T b->¬N b):Got T w' enc sz x:=by
 refine⟨fun hne=>?_,h.tt,h.lc,h.cm⟩;obtain⟨b,off,e,hb,hc⟩:=h.rd hne;exact⟨b,off,e,Nat.lt_of_lt_of_le hb hs.size,fun k y hy j v hv=>hs.cell (hc k y hy j v hv) (hn b (h.tt hne _ e))⟩
theorem Got.on (h:Got T w enc sz x) (hb:Below w.heap.size w w'):Got T w' enc sz x:=⟨h.rd.on hb,h.tt,h.lc,h.cm⟩
theorem Got.mono (h:Got T w enc sz x) (ht:∀b,b<w.heap.size->T b->T' b):Got T' w enc sz x:=by
 refine⟨h.rd,fun hne a ha=>?_,h.lc,h.cm⟩;obtain⟨b,off,e,hb,_⟩:=h.rd hne;have:=h.tt hne _ ha;rw[e] at ha;cases ha;exact ht b hb this
theorem got_nil (T:Nat->Prop) (w:World) (enc:α->List Value) (sz:Nat):Got T w enc sz ⟨none,[],0⟩:=⟨Rd.nil_,fun h=>absurd rfl h,by simp,by simp⟩
end
theorem own_caps {W:World} {base sz k:Nat} {e:TypeId} {A:Option Addr} {c:Nat} {xs:List Value} (h:W.ownsRow base e sz (.slice A k c) k xs):k<=c∧c<=maxLen:=by
 rcases h.2 with⟨h1,h0⟩|⟨g',cap,cur,h1,hB,hh,h2,h3,h4,h5⟩
 ·cases h1;exact⟨Nat.le_refl _,by simp⟩
 ·cases h1;exact⟨h2,h3⟩
structure SuOk (T:Nat->Prop) (w:World) (x:LSu):Prop where
 stk:Got T w Sl.cs 1 x.stk
 stks:∀y∈x.stk.l,Got T w S.Course.cs 6 y
 jnt:Got T w Sl.cs 1 x.jnt
 jnts:∀y∈x.jnt.l,Got T w Jt.cs 2 y
 gear:Got T w G.It.cs 4 x.gear
structure StOk (T:Nat->Prop) (w:World) (x:LS):Prop where
 su:SuOk T w x.x
 gusts:Got T w zC 1 x.gusts
 rigs:Got T w LRg.cs 2 x.rigs
 rk:∀r∈x.rigs.l,Got T w G.Lk.cs 2 r.lk
 sites:Got T w LSi.cs 3 x.sites
 sk:∀s∈x.sites.l,Got T w zC 1 s.dogs
 items:Got T w G.It.cs 4 x.items
 back:Got T w G.sC 1 x.back
section
variable {T T' N:Nat->Prop} {w w':World}
theorem SuOk.stp {x:LSu} (h:SuOk T w x) (hs:Stp N w w') (hn:∀b,T b->¬N b):SuOk T w' x:=⟨h.stk.stp hs hn,fun y hy=>(h.stks y hy).stp hs hn,h.jnt.stp hs hn,fun y hy=>(h.jnts y hy).stp hs hn,h.gear.stp hs hn⟩
theorem SuOk.on {x:LSu} (h:SuOk T w x) (hb:Below w.heap.size w w'):SuOk T w' x:=⟨h.stk.on hb,fun y hy=>(h.stks y hy).on hb,h.jnt.on hb,fun y hy=>(h.jnts y hy).on hb,h.gear.on hb⟩
theorem SuOk.mono {x:LSu} (h:SuOk T w x) (ht:∀b,b<w.heap.size->T b->T' b):SuOk T' w x:=⟨h.stk.mono ht,fun y hy=>(h.stks y hy).mono ht,h.jnt.mono ht,fun y hy=>(h.jnts y hy).mono ht,h.gear.mono ht⟩
theorem StOk.stp {x:LS} (h:StOk T w x) (hs:Stp N w w') (hn:∀b,T b->¬N b):StOk T w' x:=
 ⟨h.su.stp hs hn,h.gusts.stp hs hn,h.rigs.stp hs hn,fun y hy=>(h.rk y hy).stp hs hn,h.sites.stp hs hn,fun y hy=>(h.sk y hy).stp hs hn,h.items.stp hs hn,h.back.stp hs hn⟩
theorem StOk.on {x:LS} (h:StOk T w x) (hb:Below w.heap.size w w'):StOk T w' x:=
 ⟨h.su.on hb,h.gusts.on hb,h.rigs.on hb,fun y hy=>(h.rk y hy).on hb,h.sites.on hb,fun y hy=>(h.sk y hy).on hb,h.items.on hb,h.back.on hb⟩
theorem StOk.mono {x:LS} (h:StOk T w x) (ht:∀b,b<w.heap.size->T b->T' b):StOk T' w x:=
 ⟨h.su.mono ht,h.gusts.mono ht,h.rigs.mono ht,fun y hy=>(h.rk y hy).mono ht,h.sites.mono ht,fun y hy=>(h.sk y hy).mono ht,h.items.mono ht,h.back.mono ht⟩
end
def Foot (b:Nat) (L:LS):Nat->Prop:=fun g=>g=b∨L.lines.v.ownBlock=some g
structure FirmAt (w:World) (b:Nat) (L:LS) (T:Nat->Prop):Prop where
 blk:Blk w b 75 L.cs.toArray
 ok:StOk T w L
 row:w.ownsRow 0 62 4 L.lines.v L.lines.l.length (fl En.cs L.lines.l)
 ft:∀g,T g->¬Foot b L g
 bl:L.lines.v.ownBlock≠some b
theorem FirmAt.stp {w w':World} {b:Nat} {L:LS} {T N:Nat->Prop} (h:FirmAt w b L T) (hs:Stp N w w') (hT:∀g,T g->¬N g) (hF:∀g,Foot b L g->¬N g):FirmAt w' b L T:=by
 refine⟨hs.blk h.blk (hF b (.inl rfl)),h.ok.stp hs hT,?_,h.ft,h.bl⟩;refine⟨h.row.1,?_⟩;rcases h.row.2 with⟨h1,h0⟩|⟨g',cap,cur,h1,hB,hh,h2,h3,h4,h5⟩
 ·exact .inl ⟨h1,h0⟩
 ·exact .inr ⟨g',cap,cur,h1,hB,(hs.block g' (lt_of_block hh) (hF g' (.inr (by rw[h1];rfl)))).trans hh,h2,h3,h4,h5⟩
theorem FirmAt.on {w w':World} {b:Nat} {L:LS} {T:Nat->Prop} (h:FirmAt w b L T) (hb:Below w.heap.size w w'):FirmAt w' b L T:=
 ⟨h.blk.below hb h.blk.lt,h.ok.on hb,own_on h.row hb,h.ft,h.bl⟩
structure Fut (w:World) (b:Nat) (L:LS) (T:Nat->Prop) (w':World) (L':LS) (T':Nat->Prop):Prop where
 at_:FirmAt w' b L' T'
 stp:Stp (Foot b L) w w'
 tt:∀g,T' g->T g∨w.heap.size<=g
 ff:∀g,Foot b L' g->Foot b L g∨w.heap.size<=g
theorem Fut.refl {w:World} {b:Nat} {L:LS} {T:Nat->Prop} (h:FirmAt w b L T):Fut w b L T w L T:=⟨h,Stp.refl _ _,fun _ h=>.inl h,fun _ h=>.inl h⟩
theorem Fut.of_below {w w':World} {b:Nat} {L:LS} {T:Nat->Prop} (h:FirmAt w b L T) (hb:Below w.heap.size w w'):Fut w b L T w' L T:=
 ⟨h.on hb,(Stp.refl _ _).below hb (Nat.le_refl _),fun _ h=>.inl h,fun _ h=>.inl h⟩
theorem stp_tr {N N':Nat->Prop} {w w1 w2:World} (h:Stp N w w1) (k:Stp N' w1 w2) (hn:∀g,N' g->N g∨w.heap.size<=g):Stp N w w2:=
 ⟨k.os.trans h.os,k.tape.trans h.tape,k.output.trans h.output,Nat.le_trans h.size k.size,fun g hg hng=>(k.block g (Nat.lt_of_lt_of_le hg h.size) (fun q=>by rcases hn g q with q|q;exact hng q;omega)).trans (h.block g hg hng)⟩
theorem Fut.trans {w w1 w2:World} {b:Nat} {L L1 L2:LS} {T T1 T2:Nat->Prop} (h:Fut w b L T w1 L1 T1) (k:Fut w1 b L1 T1 w2 L2 T2):Fut w b L T w2 L2 T2:=by
 have hs:=h.stp.size;refine⟨k.at_,stp_tr h.stp k.stp h.ff,fun g hg=>?_,fun g hg=>?_⟩
 ·rcases k.tt g hg with h1|h1
  ·exact h.tt g h1
  ·exact .inr (Nat.le_trans hs h1)
 ·rcases k.ff g hg with h1|h1
  ·exact h.ff g h1
  ·exact .inr (Nat.le_trans hs h1)
theorem wn_iff {n a b:Int}:wn n a b=true↔a<=n∧n<=b:=by simp[wn]
abbrev clV (c:Cl):Value:=.agg #[.int .i64 c.fi,.int .i64 c.ga,.int .i64 c.tp,.int .i64 c.le,.int .i64 c.la,.int .i64 c.st]
abbrev clA (c:Cl):Array Value:=#[.int .i64 c.fi,.int .i64 c.ga,.int .i64 c.tp,.int .i64 c.le,.int .i64 c.la,.int .i64 c.st]
theorem l_within (n lo hi:Int) (w:World):
  Calls Tryz.prog 85 #[.int .i64 n,.int .i64 lo,.int .i64 hi] w fun e w'=>e=.returned (.bool (wn n lo hi))∧w=w':=by
 by_cases h1:lo<=n
 ·have t1:decide (lo<=n)=true:=by simpa using h1
  go_enter Tryz.func85,Tryz.ntmps85
  go_wp2;go_ret;exact⟨ret_bool (by simp[wn,h1]),rfl⟩
 ·have t1:decide (lo<=n)=false:=by simpa using h1
  go_enter Tryz.func85,Tryz.ntmps85
  go_wp2;go_ret;exact⟨ret_bool (by unfold wn;rw[t1];rfl),rfl⟩
theorem l_withinV {n lo hi:Int} {b:Bool} (h:wn n lo hi=b) (w:World):
  Calls Tryz.prog 85 #[.int .i64 n,.int .i64 lo,.int .i64 hi] w fun e w'=>e=.returned (.bool b)∧w=w':=h▸l_within n lo hi w
theorem rdJ {w:World} {A:Option Addr} {l:List Jt} (h:Rd Jt.cs 2 w A l) {k:Nat} (hk:k<l.length):
  ∃x b off,l[k]?=some x∧A=some ⟨b,off,none⟩∧b<w.heap.size∧w.cell? ⟨b,off+k*2,none⟩=some (.int .i64 x.h)∧w.cell? ⟨b,off+k*2+1,none⟩=some (.bool x.s):=by
 obtain⟨x,hx⟩:=get_lt hk;obtain⟨b,off,e,hb,hc⟩:=h.get hx;exact⟨x,b,off,hx,e,hb,hc 0 _ rfl,hc 1 _ rfl⟩
theorem jAt_of {l:List Jt} {i:Nat} {x:Jt} (h:l[i]?=some x):jAt l i=x:=by simp[jAt,h]
theorem vJ_no {l:List Jt} {k:Nat} (hk:k<l.length) (h:okJ l k=false):vJ l=false:=by
 unfold vJ;rw[Bool.and_eq_false_iff];left;rw[List.all_eq_false];exact⟨k,by simpa using hk,by simp[h]⟩
theorem vJ_yes {l:List Jt} (h:(List.range l.length).all (okJ l)=true):vJ l=decide (l.length<=200):=by unfold vJ;rw[h,Bool.true_and]
theorem all_stepJ {p:Nat->Bool} {k:Nat} (h:(List.range k).all p=true) (hk:p k=true):(List.range (k+1)).all p=true:=by
 rw[List.range_succ,List.all_append,h];simp[hk]
theorem l_ValidJoints (A:Option Addr) (l:List Jt) (c:Nat) (w:World) (hl:l.length<=100000) (hR:Rd Jt.cs 2 w A l):
  Calls Tryz.prog 26 #[.slice A l.length c] w fun e w'=>e=.returned (.bool (vJ l))∧Below w.heap.size w w':=by
 go_enter Tryz.func26,Tryz.ntmps26
 go_wp2;go_loopw [7] (fun i wr=>∃k:Nat,k<=l.length∧i=.int .i64 k∧Below w.heap.size w wr∧Hid ((List.range k).all (okJ l)=true)) (fun i _=>l.length-(RowKit.intOf i).toNat)
 case atStart=>exact⟨0,by omega,rfl,below_refl _,Lib.hid rfl⟩
 case round=>
  obtain⟨k,hk,rfl,hbw,HI⟩:=hrel;have k0:=nn k;by_cases hlt:k<l.length
  ·have k1:(k:Int)<(l.length:Int):=by omega
   obtain⟨x,b,off,hx,rfl,hb,c0,c1⟩:=rdJ (hR.on hbw) hlt;have HX:=Lib.hid (jAt_of hx);cases h1:wn x.h 1 200000
   ·have HE:=Lib.hid (vJ_no hlt (by unfold okJ;rw[HX.out,h1];rfl));obtain⟨XH,XS⟩:=x;dsimp only at *;clear hx;go_wp2;go_quiet ((go_at_call 85;with_reducible exact quiet_left (l_withinV h1 _)))
    go_wp2;go_ret;exact⟨ret_bool HE.out.symm,below_drewN (bl_alloc hbw _) _⟩
   by_cases hk0:0<k
   ·obtain⟨y,b',off',hy,e',hb',d0,d1⟩:=rdJ (hR.on hbw) (show k-1<l.length by omega);cases e';have hw1:IntKind.i64.wrap ((k:Int)-1)=((k-1:Nat):Int):=by rw[fits_wrap ⟨by omega,by omega⟩];omega
    have q0:(0:Int)<=((k-1:Nat):Int):=Int.natCast_nonneg _;have q1:((k-1:Nat):Int)<(l.length:Int):=by omega
    have HY:=Lib.hid (jAt_of hy);by_cases h2:x.h<=y.h
    ·have HE:=Lib.hid (vJ_no hlt (by unfold okJ;rw[HX.out,HY.out,h1,decide_eq_false (show ¬k=0 by omega),decide_eq_false (show ¬y.h<x.h by omega)];rfl));obtain⟨XH,XS⟩:=x;dsimp only at *;clear hx hy;go_wp2;go_quiet ((go_at_call 85;with_reducible exact quiet_left (l_withinV h1 _)))
     go_wp2;go_ret;exact⟨ret_bool HE.out.symm,below_drewN (bl_alloc hbw _) _⟩
    ·have HO:=Lib.hid (all_stepJ HI.out (show okJ l k=true by unfold okJ;rw[HX.out,HY.out,h1,decide_eq_true (show y.h<x.h by omega),Bool.or_true];rfl));have n2:decide (x.h<=y.h)=false:=decide_eq_false h2;obtain⟨XH,XS⟩:=x;dsimp only at *;clear hx hy;go_wp2;go_quiet ((go_at_call 85;with_reducible exact quiet_left (l_withinV h1 _)))
     go_wp2;go_roundw
     case rel=>exact⟨k+1,by omega,by go_num,below_drewN (bl_alloc hbw _) _,HO⟩
     case measure=>simp[RowKit.intOf];omega
   ·have hk00:k=0:=by omega
    have n8:decide (0<k)=false:=decide_eq_false hk0;have HO:=Lib.hid (all_stepJ HI.out (show okJ l k=true by unfold okJ;rw[HX.out,h1,decide_eq_true hk00];rfl));obtain⟨XH,XS⟩:=x;dsimp only at *;clear hx hk00;go_wp2;go_quiet ((go_at_call 85;with_reducible exact quiet_left (l_withinV h1 _)))
    go_wp2;go_roundw
    case rel=>exact⟨k+1,by omega,by go_num,below_drewN (bl_alloc hbw _) _,HO⟩
    case measure=>simp[RowKit.intOf];omega
  ·obtain rfl:k=l.length:=by omega
   have HE:=Lib.hid (vJ_yes HI.out);go_wp2;go_ret;exact⟨ret_bool (by rw[HE.out];simp;omega),hbw⟩
theorem l_ValidJointsV {A:Option Addr} {l:List Jt} {c:Nat} {w:World} {b:Bool} (h:vJ l=b) (hl:l.length<=100000) (hR:Rd Jt.cs 2 w A l):
  Calls Tryz.prog 26 #[.slice A l.length c] w fun e w'=>e=.returned (.bool b)∧Below w.heap.size w w':=h▸l_ValidJoints A l c w hl hR
def clN (c:Cl):List Int:=[c.fi,c.ga,c.tp,c.le]
theorem vCl_no {c:Cl} {k:Nat} {x:Int} (hx:(clN c)[k]?=some x) (h:wn x 1 200000=false):vCl c=false:=by
 unfold vCl;match k,hx with
 |0,hx=>cases hx;rw[h];rfl
 |1,hx=>cases hx;rw[h];simp
 |2,hx=>cases hx;rw[h];simp
 |3,hx=>cases hx;rw[h];simp
 |k+4,hx=>simp[clN] at hx
theorem vCl_yes {c:Cl} (h:(clN c).all (fun x=>wn x 1 200000)=true):vCl c=(wn c.la 0 (c.le-1)&&wn c.st 1 1000000):=by
 rw[List.all_eq_true] at h;unfold vCl;rw[h c.fi (by simp[clN]),h c.ga (by simp[clN]),h c.tp (by simp[clN]),h c.le (by simp[clN])];rfl
theorem all_take_step {α:Type} {p:α->Bool} {l:List α} {k:Nat} {x:α} (h:(l.take k).all p=true) (hx:l[k]?=some x) (hp:p x=true):(l.take (k+1)).all p=true:=by
 rw[List.take_add_one,hx,List.all_append,h];simp[hp]
theorem l_ValidClimb0 (c:Cl) (w:World) (hle:-9223372036854775808<=c.le∧c.le<=9223372036854775807):
  Calls Tryz.prog 27 #[clV c] w fun e w'=>e=.returned (.bool (vCl c))∧Below w.heap.size w w':=by
 have x0:=Blk.new w 25 (clA c);have B0:=bl_alloc (below_refl w) (.cells (clA c) 25);have HE:=Lib.hid (fun h=>vCl_yes (c:=c) h);have q3:=x0.cell 3;have q4:=x0.cell 4;have q5:=x0.cell 5;simp only[GA] at q3 q4 q5;go_enter Tryz.func27,Tryz.ntmps27
 go_upto_region 2 with fail
 have B1:=bl_alloc B0 (.cells #[.int .i64 c.fi,.int .i64 c.ga,.int .i64 c.tp,.int .i64 c.le] 3);have r0:Rd zC 1 ((w.alloc (.cells (clA c) 25)).alloc (.cells #[.int .i64 c.fi,.int .i64 c.ga,.int .i64 c.tp,.int .i64 c.le] 3)) (some ⟨w.heap.size+1,0,none⟩) (clN c):=by
  intro hne;have hb:=Blk.new (w.alloc (.cells (clA c) 25)) 3 #[.int .i64 c.fi,.int .i64 c.ga,.int .i64 c.tp,.int .i64 c.le];rw[World.size_alloc] at hb;refine⟨w.heap.size+1,0,rfl,hb.lt,fun k x hx j v hv=>?_⟩;have hj:j=0:=by
   rcases Nat.lt_or_ge j 1 with h|h
   ·omega
   ·rw[List.getElem?_eq_none (by simpa[zC] using h)] at hv;cases hv
  subst hj;cases hv;rw[show 0+k*1+0=k by omega,hb.cell k];match k,hx with
  |0,hx=>cases hx;rfl
  |1,hx=>cases hx;rfl
  |2,hx=>cases hx;rfl
  |3,hx=>cases hx;rfl
  |k+4,hx=>simp[clN] at hx
 have x1:=x0.alloc (.cells #[.int .i64 c.fi,.int .i64 c.ga,.int .i64 c.tp,.int .i64 c.le] 3);clear q3 q4 q5 x0 B0;generalize (w.alloc (.cells (clA c) 25)).alloc (.cells #[.int .i64 c.fi,.int .i64 c.ga,.int .i64 c.tp,.int .i64 c.le] 3)=w2 at *;go_loopw [15] (fun i wr=>∃k:Nat,k<=4∧i=.int .i64 k∧wr=w2∧Hid (((clN c).take k).all (fun x=>wn x 1 200000)=true)) (fun i _=>4-(RowKit.intOf i).toNat)
 case atStart=>exact⟨0,by omega,rfl,rfl,Lib.hid rfl⟩
 case round=>
  obtain⟨k,hk,rfl,rfl,HI⟩:=hrel;have k0:=nn k;by_cases hlt:k<4
  ·have k1:(k:Int)<4:=by omega
   obtain⟨x,b,off,hx,e,hb,c0⟩:=rd_int r0 (show k<(clN c).length from hlt);cases e;have HX:=Lib.hid hx;rw[Nat.zero_add] at c0;clear hx;cases h1:wn x 1 200000
   ·have HN:=Lib.hid (vCl_no HX.out h1);go_wp2_with (go_at_call 85;((with_reducible refine(l_withinV h1 _).mono ?_);rintro e w' ⟨rfl,rfl⟩))
    go_ret;exact⟨ret_bool HN.out.symm,B1⟩
   ·have HS:=Lib.hid (all_take_step HI.out HX.out h1);go_wp2_with (go_at_call 85;((with_reducible refine(l_withinV h1 _).mono ?_);rintro e w' ⟨rfl,rfl⟩))
    go_roundw
    case rel=>exact⟨k+1,by omega,by go_num,trivial,HS⟩
    case measure=>simp[RowKit.intOf];omega
  ·obtain rfl:k=4:=by omega
   have HV:=Lib.hid (HE.out HI.out);have hw1:IntKind.i64.wrap (c.le-1)=c.le-1:=by
    have h1:=HI.out;rw[List.all_eq_true] at h1;have h2:=h1 c.le (by simp[clN]);unfold wn at h2;simp only[Bool.and_eq_true,decide_eq_true_eq] at h2;exact fits_wrap ⟨by omega,by omega⟩
   have p3:=x1.cell 3;have p4:=x1.cell 4;have p5:=x1.cell 5;simp only[GA] at p3 p4 p5;clear HI;cases h1:wn c.la 0 (c.le-1)
   ·rw[h1] at HV;go_wp2_with (go_at_call 85;((with_reducible refine(l_withinV h1 _).mono ?_);rintro e w' ⟨rfl,rfl⟩))
    go_ret;exact⟨ret_bool (by rw[HV.out];rfl),B1⟩
   ·cases h2:wn c.st 1 1000000
    all_goals
     rw[h1,h2] at HV;go_wp2_with (first|(go_at_call 85;((with_reducible refine(l_withinV h1 _).mono ?_);rintro e w' ⟨rfl,rfl⟩))|(go_at_call 85;((with_reducible refine(l_withinV h2 _).mono ?_);rintro e w' ⟨rfl,rfl⟩)))
     go_ret;exact⟨ret_bool (by rw[HV.out];rfl),B1⟩
theorem l_ValidClimb (c:Cl) (w:World) (hle:-9223372036854775808<c.le∧c.le<=9223372036854775807):
  Calls Tryz.prog 27 #[clV c] w fun e w'=>e=.returned (.bool (vCl c))∧Below w.heap.size w w':=l_ValidClimb0 c w ⟨by omega,hle.2⟩
theorem l_ValidClimbW {c:Cl} {v:Bool} (h:vCl c=v) (w:World) (hle:-9223372036854775808<=c.le∧c.le<=9223372036854775807):
  Calls Tryz.prog 27 #[clV c] w fun e w'=>e=.returned (.bool v)∧Below w.heap.size w w':=h▸l_ValidClimb0 c w hle
theorem l_ValidClimbV {c:Cl} {v:Bool} (h:vCl c=v) (w:World) (hle:-9223372036854775808<c.le∧c.le<=9223372036854775807):
  Calls Tryz.prog 27 #[clV c] w fun e w'=>e=.returned (.bool v)∧Below w.heap.size w w':=h▸l_ValidClimb c w hle
theorem l_last (c:Cl) (j:Jt) (w:World) (h0:-1000000000000<=j.h∧j.h<=1000000000000) (h1:-1000000000000<=c.ga∧c.ga<=1000000000000):
  Calls Tryz.prog 223 #[clV c,.agg #[.int .i64 j.h,.bool j.s]] w fun e w'=>e=.returned (.bool (lastB c j))∧Below w.heap.size w w':=by
 have hw1:IntKind.i64.wrap (j.h+c.ga)=j.h+c.ga:=fits_wrap ⟨by omega,by omega⟩;by_cases h:c.tp<=j.h+c.ga
 ·have hd:decide (c.tp<=j.h+c.ga)=true:=decide_eq_true h;go_enter Tryz.func223,Tryz.ntmps223
  go_wp2;go_ret;exact⟨ret_bool (by unfold lastB;rw[hd]),bl⟩
 ·have hd:decide (c.tp<=j.h+c.ga)=false:=decide_eq_false h;go_enter Tryz.func223,Tryz.ntmps223
  go_wp2;go_ret;exact⟨ret_bool (by unfold lastB;rw[hd]),bl⟩
abbrev FailE (e:Int):Ending:=.panicked [{v:=.iface 209 (.agg #[.int .i64 e]),recovered:=false}]
abbrev DoneE:Ending:=.returned (.tuple #[])
theorem f_must_ok (e:Int) (w:World):Calls Tryz.prog 131 #[.bool true,.int .i64 e] w fun e' w'=>e'=DoneE∧w=w':=by
 go_enter Tryz.func131,Tryz.ntmps131
 go_wp2;go_end0
 exact⟨rfl,rfl⟩
theorem f_must_no (e:Int) (w:World):Calls Tryz.prog 131 #[.bool false,.int .i64 e] w fun e' w'=>e'=FailE e∧w=w':=by
 go_enter Tryz.func131,Tryz.ntmps131
 go_wp2;exact⟨rfl,rfl,rfl⟩
theorem f_passed_ok (w:World):Calls Tryz.prog 281 #[.int .i64 0] w fun e' w'=>e'=DoneE∧w=w':=by
 go_enter Tryz.func281,Tryz.ntmps281
 go_wp2_with (go_at_call 131;((with_reducible refine(f_must_ok _ _).mono ?_);rintro e w' ⟨rfl,rfl⟩))
 go_end0
 exact⟨rfl,rfl⟩
theorem f_passed_no (e:Int) (h:e≠0) (w:World):Calls Tryz.prog 281 #[.int .i64 e] w fun e' w'=>e'=FailE e∧w=w':=by
 have h1:(e==0)=false:=beq_eq_false_iff_ne.2 h;go_enter Tryz.func281,Tryz.ntmps281
 go_wp2_with (go_at_call 131;((with_reducible refine(f_must_no _ _).mono ?_);rintro e w' ⟨rfl,rfl⟩))
 exact⟨rfl,rfl,rfl⟩
theorem f_within (n lo hi:Int) (w:World):
  Calls Tryz.prog 24 #[.int .i64 n,.int .i64 lo,.int .i64 hi] w fun e w'=>e=.returned (.bool (wn n lo hi))∧w=w':=by
 by_cases h1:lo<=n
 ·have t1:decide (lo<=n)=true:=by simpa using h1
  go_enter Tryz.func24,Tryz.ntmps24
  go_wp2;go_ret;exact⟨ret_bool (by simp[wn,h1]),rfl⟩
 ·have t1:decide (lo<=n)=false:=by simpa using h1
  go_enter Tryz.func24,Tryz.ntmps24
  go_wp2;go_ret;exact⟨ret_bool (by unfold wn;rw[t1];rfl),rfl⟩
theorem f_withinV {n lo hi:Int} {b:Bool} (h:wn n lo hi=b) (w:World):
  Calls Tryz.prog 24 #[.int .i64 n,.int .i64 lo,.int .i64 hi] w fun e w'=>e=.returned (.bool b)∧w=w':=h▸f_within n lo hi w
def Cel (w:World) (b:Nat) (L:LS):Prop:=∀(i:Nat) (v:Value),L.cs[i]?=some v->w.cell? ⟨b,i,none⟩=some v
theorem cel_of {w:World} {b:Nat} {t:TypeId} {L:LS} (h:Blk w b t L.cs.toArray):Cel w b L:=fun i v hv=>by rw[h.cell i];simpa using hv
theorem Cel.lt {w:World} {b:Nat} {L:LS} (h:Cel w b L):b<w.heap.size:=World.block_lt_of_cell? w ⟨b,0,none⟩ (h 0 _ rfl)
theorem Cel.on {w w':World} {b:Nat} {L:LS} (h:Cel w b L) (hb:Below w.heap.size w w'):Cel w' b L:=fun i v hv=>((bcell hb).1 b i h.lt).trans (h i v hv)
theorem rdSi {w:World} {A:Option Addr} {l:List LSi} (h:Rd LSi.cs 3 w A l) {k:Nat} (hk:k<l.length):
  ∃x b off,l[k]?=some x∧A=some ⟨b,off,none⟩∧b<w.heap.size∧w.cell? ⟨b,off+k*3,none⟩=some x.dogs.v∧w.cell? ⟨b,off+k*3+1,none⟩=some (.bool x.fel)∧w.cell? ⟨b,off+k*3+2,none⟩=some (.int .i64 x.men):=by
 obtain⟨x,hx⟩:=get_lt hk;obtain⟨b,off,e,hb,hc⟩:=h.get hx;exact⟨x,b,off,hx,e,hb,hc 0 _ rfl,hc 1 _ rfl,hc 2 _ rfl⟩
def upK (l:List LSi) (k:Nat):Int:=(l.take k).foldl (fun a s=>a+s.men) 0
theorem upK_step {l:List LSi} {k:Nat} {x:LSi} (h:l[k]?=some x):upK l (k+1)=upK l k+x.men:=by unfold upK;rw[List.take_add_one,h,List.foldl_append];rfl
theorem upK_all (L:LS):upK L.sites.l L.sites.l.length=upN L.val:=by
 unfold upK upN LS.val;rw[List.take_length,List.foldl_map];rfl
theorem upK_bd {l:List LSi} (h:∀s∈l,0<=s.men∧s.men<=1000) (hl:l.length<=1000) (k:Nat):0<=upK l k∧upK l k<=1000000:=by
 have go:∀(q:List LSi) (a:Int),(∀s∈q,0<=s.men∧s.men<=1000)->a<=q.foldl (fun a s=>a+s.men) a∧q.foldl (fun a s=>a+s.men) a<=a+1000*q.length:=fun q=>by
  induction q with
  |nil=>intro a _;simp
  |cons s q ih=>
   intro a hq;have h1:=hq s (List.mem_cons_self ..);have h2:=ih (a+s.men) fun x hx=>hq x (List.mem_cons_of_mem _ hx);simp only[List.foldl_cons,List.length_cons];omega
 have h1:=go (l.take k) 0 fun s hs=>h s (List.mem_of_mem_take hs);unfold upK;rw[List.length_take] at h1;omega
theorem f_aloft (b:Nat) (L:LS) (w:World) (hC:Cel w b L) (hR:Rd LSi.cs 3 w L.sites.a L.sites.l) (hl:L.sites.l.length<=1000) (hm:∀s∈L.sites.l,0<=s.men∧s.men<=1000):
  Calls Tryz.prog 268 #[.pointer (some ⟨b,0,none⟩)] w fun e w'=>e=.returned (.int .i64 (upN L.val))∧Below w.heap.size w w':=by
 have c20:w.cell? ⟨b,20,none⟩=some (.slice L.sites.a L.sites.l.length L.sites.c):=hC 20 _ rfl;have HU:=Lib.hid (upK_all L);have HB:=Lib.hid (upK_bd hm hl);rw[←HU.out];generalize L.sites.l=l at *;generalize L.sites.a=A at *;generalize L.sites.c=cc at *;go_enter Tryz.func268,Tryz.ntmps268
 go_wp2;go_loopw [3,11] (fun n i wr=>∃k:Nat,k<=l.length∧i=.int .i64 k∧n=.int .i64 (upK l k)∧Below w.heap.size w wr) (fun _ i _=>l.length-(RowKit.intOf i).toNat)
 case atStart=>exact⟨0,by omega,rfl,rfl,below_refl _⟩
 case round=>
  obtain⟨k,hk,rfl,rfl,hbw⟩:=hrel;have k0:=nn k;by_cases hlt:k<l.length
  ·have k1:(k:Int)<(l.length:Int):=by omega
   obtain⟨x,bb,off,hx,rfl,hb,d0,d1,d2⟩:=rdSi (hR.on hbw) hlt;have hst:=upK_step hx;obtain⟨u1,u2⟩:=HB.out k;obtain⟨u3,u4⟩:=HB.out (k+1);have hw1:IntKind.i64.wrap (upK l k+x.men)=upK l k+x.men:=fits_wrap ⟨by omega,by omega⟩;have HST:=Lib.hid hst;obtain⟨XD,XF,XM⟩:=x;dsimp only at *;clear hx hst;go_wp2;go_roundw
   case rel=>exact⟨k+1,by omega,by go_num,by rw[HST.out],bl_alloc hbw _⟩
   case measure=>simp[RowKit.intOf];omega
  ·obtain rfl:k=l.length:=by omega
   go_wp2;go_ret;exact⟨rfl,hbw⟩
theorem f_goes (b:Nat) (L:LS) (A:Option Addr) (g:List Int) (c:Nat) (w:World) (hC:Cel w b L) (hg:g.length<=100000) (hR:Rd zC 1 w A g):
  Calls Tryz.prog 102 #[.pointer (some ⟨b,0,none⟩),.slice A g.length c] w fun e w'=>e=.returned (.bool (decide (V.rsE L.x.ru g=10)))∧Below w.heap.size w w':=by
 have c9:w.cell? ⟨b,9,none⟩=some (.int .i64 L.x.ru.s):=hC 9 _ rfl;have c10:w.cell? ⟨b,10,none⟩=some (.int .i64 L.x.ru.g):=hC 10 _ rfl;have c11:w.cell? ⟨b,11,none⟩=some (.int .i64 L.x.ru.c):=hC 11 _ rfl;have HR:=Lib.hid (V.p_Resumes A L.x.ru g c w hg hR);generalize V.rsN L.x.ru g=N at *;generalize V.rsE L.x.ru g=E at *;by_cases h:E=10
 ·subst h;go_enter Tryz.func102,Tryz.ntmps102
  go_wp2_with (go_at_call 139;((with_reducible refine HR.out.mono ?_);rintro e w1 ⟨rfl,hb1⟩))
  go_ret;exact⟨rfl,hb1⟩
 ·have h1:(E==10)=false:=beq_eq_false_iff_ne.2 h;rw[decide_eq_false h];go_enter Tryz.func102,Tryz.ntmps102
  go_wp2_with (go_at_call 139;((with_reducible refine HR.out.mono ?_);rintro e w1 ⟨rfl,hb1⟩))
  go_ret;exact⟨rfl,hb1⟩
theorem f_goesV {b:Nat} {L:LS} {A:Option Addr} {g:List Int} {c:Nat} {w:World} {v:Bool} (h:goB L.val g=v) (hC:Cel w b L) (hg:g.length<=100000) (hR:Rd zC 1 w A g):
  Calls Tryz.prog 102 #[.pointer (some ⟨b,0,none⟩),.slice A g.length c] w fun e w'=>e=.returned (.bool v)∧Below w.heap.size w w':=by
 have:=f_goes b L A g c w hC hg hR;unfold goB at h;rw[←h];exact this
theorem f_at_no (b:Nat) (L:LS) (i:Int) (w:World) (hC:Cel w b L) (hl:L.sites.l.length<=1000) (h:thB L.val i=false):
  Calls Tryz.prog 274 #[.pointer (some ⟨b,0,none⟩),.int .i64 i] w fun e w'=>e=FailE 5∧w=w':=by
 have c20:w.cell? ⟨b,20,none⟩=some (.slice L.sites.a L.sites.l.length L.sites.c):=hC 20 _ rfl;have h2:wn i 0 ((L.sites.l.length:Int)-1)=false:=by unfold thB LS.val at h;simpa using h
 have hw1:IntKind.i64.wrap ((L.sites.l.length:Int)-1)=(L.sites.l.length:Int)-1:=fits_wrap ⟨by omega,by omega⟩;clear h;generalize L.sites.l.length=n at *;go_enter Tryz.func274,Tryz.ntmps274
 go_wp2_with (first|(go_at_call 24;((with_reducible refine(f_withinV h2 _).mono ?_);rintro e w' ⟨rfl,rfl⟩))|(go_at_call 131;((with_reducible refine(f_must_no _ _).mono ?_);rintro e w' ⟨rfl,rfl⟩)))
 exact⟨rfl,rfl,rfl⟩
theorem f_at (b:Nat) (L:LS) (i:Nat) (w:World) (sb so:Nat) (hC:Cel w b L) (hl:L.sites.l.length<=1000) (h:i<L.sites.l.length) (ha:L.sites.a=some ⟨sb,so,none⟩):
  Calls Tryz.prog 274 #[.pointer (some ⟨b,0,none⟩),.int .i64 (i:Nat)] w fun e w'=>e=.returned (.pointer (some ⟨sb,so+i*3,none⟩))∧w=w':=by
 have c20:w.cell? ⟨b,20,none⟩=some (.slice L.sites.a L.sites.l.length L.sites.c):=hC 20 _ rfl;rw[ha] at c20;have h2:wn (i:Nat) 0 ((L.sites.l.length:Int)-1)=true:=wn_iff.2 ⟨by omega,by omega⟩;have hw1:IntKind.i64.wrap ((L.sites.l.length:Int)-1)=(L.sites.l.length:Int)-1:=fits_wrap ⟨by omega,by omega⟩;have i0:=nn i;have i1:(i:Int)<(L.sites.l.length:Int):=by omega
 generalize L.sites.l.length=n at *;go_enter Tryz.func274,Tryz.ntmps274
 go_wp2_with (first|(go_at_call 24;((with_reducible refine(f_withinV h2 _).mono ?_);rintro e w' ⟨rfl,rfl⟩))|(go_at_call 131;((with_reducible refine(f_must_ok _ _).mono ?_);rintro e w' ⟨rfl,rfl⟩)))
 go_ret;exact⟨rfl,rfl⟩
theorem f_rigAt_no (b:Nat) (L:LS) (i:Int) (w:World) (hC:Cel w b L) (hl:L.rigs.l.length<=1000) (h:rtB L.val i=false):
  Calls Tryz.prog 293 #[.pointer (some ⟨b,0,none⟩),.int .i64 i] w fun e w'=>e=FailE 5∧w=w':=by
 have c19:w.cell? ⟨b,19,none⟩=some (.slice L.rigs.a L.rigs.l.length L.rigs.c):=hC 19 _ rfl;have h2:wn i 0 ((L.rigs.l.length:Int)-1)=false:=by unfold rtB LS.val at h;simpa using h
 have hw1:IntKind.i64.wrap ((L.rigs.l.length:Int)-1)=(L.rigs.l.length:Int)-1:=fits_wrap ⟨by omega,by omega⟩;clear h;generalize L.rigs.l.length=n at *;go_enter Tryz.func293,Tryz.ntmps293
 go_wp2_with (first|(go_at_call 24;((with_reducible refine(f_withinV h2 _).mono ?_);rintro e w' ⟨rfl,rfl⟩))|(go_at_call 131;((with_reducible refine(f_must_no _ _).mono ?_);rintro e w' ⟨rfl,rfl⟩)))
 exact⟨rfl,rfl,rfl⟩
theorem f_rigAt (b:Nat) (L:LS) (i:Nat) (w:World) (sb so:Nat) (hC:Cel w b L) (hl:L.rigs.l.length<=1000) (h:i<L.rigs.l.length) (ha:L.rigs.a=some ⟨sb,so,none⟩):
  Calls Tryz.prog 293 #[.pointer (some ⟨b,0,none⟩),.int .i64 (i:Nat)] w fun e w'=>e=.returned (.pointer (some ⟨sb,so+i*2,none⟩))∧w=w':=by
 have c19:w.cell? ⟨b,19,none⟩=some (.slice L.rigs.a L.rigs.l.length L.rigs.c):=hC 19 _ rfl;rw[ha] at c19;have h2:wn (i:Nat) 0 ((L.rigs.l.length:Int)-1)=true:=wn_iff.2 ⟨by omega,by omega⟩;have hw1:IntKind.i64.wrap ((L.rigs.l.length:Int)-1)=(L.rigs.l.length:Int)-1:=fits_wrap ⟨by omega,by omega⟩;have i0:=nn i;have i1:(i:Int)<(L.rigs.l.length:Int):=by omega
 generalize L.rigs.l.length=n at *;go_enter Tryz.func293,Tryz.ntmps293
 go_wp2_with (first|(go_at_call 24;((with_reducible refine(f_withinV h2 _).mono ?_);rintro e w' ⟨rfl,rfl⟩))|(go_at_call 131;((with_reducible refine(f_must_ok _ _).mono ?_);rintro e w' ⟨rfl,rfl⟩)))
 go_ret;exact⟨rfl,rfl⟩
end Go.Proofs.YtjkkfcghkeoedaaGreatDoor.Fi
