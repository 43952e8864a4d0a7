/- The parts of the proof, part 30. -/
import Derived.Test.YtjkkfcghkeoedaaGreatDoorR0
import Derived.Test.YtjkkfcghkeoedaaGreatDoorR15
set_option maxHeartbeats 16000000
set_option maxRecDepth 20000
set_option linter.unusedSimpArgs false
set_option linter.unusedVariables false
namespace Go.Proofs.YtjkkfcghkeoedaaGreatDoor.Fi
open Go.Lib Tx
def zA (l:List Int) (i:Nat):Int:=l.getD i 0
def okA (n:Nat) (l:List Int) (i:Nat):Bool:=wn (zA l i) 0 ((n:Int)-1)&&(decide (i=0)||decide (zA l (i-1)<zA l i))
def ascB (n:Nat) (l:List Int):Bool:=(List.range l.length).all (okA n l)
def befA (l:List Int) (i:Nat):Int:=if i=0 then -1 else zA l (i-1)
def stpB (c:Cl) (l:List Jt) (d:List Int) (i:Nat):Bool:=(jAt l (zA d i).toNat).s&&folB c l (befA d i) (zA d i).toNat
def rgtB (c:Cl) (l:List Jt) (d:List Int):Bool:=
 (vCl c&&vJ l)&&(decide (0<d.length)&&(ascB l.length d&&((List.range d.length).all (stpB c l d)&&lastB c (jAt l (zA d (d.length-1)).toNat))))
structure Wl where
 c:Cl
 l:List Jt
 d:List Int
def hgt (w:Wl) (i:Nat):Int:=(jAt w.l (zA w.d i).toNat).h
def onN (w:Wl) (f:Nat):Nat:=(((List.range (w.d.length-f)).takeWhile fun i=>decide (hgt w (f+i)<=hgt w f+w.c.le))).length
def endB (w:Wl) (f:Nat):Bool:=decide (w.c.tp<=hgt w f+w.c.le)
def aftB (w:Wl) (b:Int) (f:Nat):Bool:=decide (2<=onN w f)&&(if b<0 then decide (hgt w f<=w.c.fi) else decide (b<(f:Int))&&decide (hgt w f-hgt w b.toNat<=w.c.le-w.c.la))
def rsS (w:Wl) (g:Nat->Int) (f:Nat) (a:Int) (x:Nat):Int:=if aftB w (f:Int) x=true then upM a (g x) else a
def rs0 (w:Wl) (f:Nat):Int:=if endB w f=true then 1 else 0
def rsF (w:Wl):Nat->Nat->Int
 |0,_=>0
 |k+1,f=>if f<w.d.length then ((List.range (w.d.length-(f+1))).map (fun i=>f+1+i)).foldl (rsS w (rsF w k) f) (rs0 w f) else 0
def rsA (w:Wl) (f:Nat):Int:=rsF w (w.d.length-f) f
def nxtP (w:Wl) (b m:Int) (x:Nat):Bool:=decide (b<(x:Int))&&(decide (rsA w x=m)&&aftB w b x)
def nxtO (w:Wl) (b m:Int):Option Nat:=(List.range w.d.length).find? (nxtP w b m)
def grdF (w:Wl):Nat->Int->List Nat
 |0,_=>[]
 |m+1,b=>match nxtO w b ((m+1:Nat):Int) with
  |none=>[]
  |some x=>x::grdF w m (x:Nat)
def ladT (w:Wl) (n:Nat):Option (List Nat):=if (nxtO w (-1) ((n+1:Nat):Int)).isSome=true then some (grdF w (n+1) (-1)) else none
def ladN (w:Wl):Option (List Nat):=(List.range w.d.length).findSome? (ladT w)
def ladL (w:Wl):List Int:=if rgtB w.c w.l w.d=true then (match ladN w with|some x=>toZ x|none=>[]) else []
def ladE (w:Wl):Int:=if (vCl w.c&&vJ w.l)=true then (if rgtB w.c w.l w.d=true then (match ladN w with|some _=>0|none=>8) else 10) else 1
def setB (w:Wl) (s:List Int):Bool:=
 rgtB w.c w.l w.d&&(decide (0<s.length)&&(ascB w.d.length s&&((List.range s.length).all (fun i=>aftB w (befA s i) (zA s i).toNat)&&endB w (zA s (s.length-1)).toNat)))
def brgE (w:Wl) (s:List Int):Int:=if (vCl w.c&&vJ w.l)=true then (if setB w s=true then 0 else 10) else 1
def brgS (w:Wl) (a f:Int):Int:=min a (w.c.st*((onN w f.toNat:Nat)-1:Int))
def brgV (w:Wl) (s:List Int):Int:=if brgE w s=0 then s.foldl (brgS w) 1000000000 else 0
def walA (x:St) (i:Int):Wl:=⟨x.x.cl,jntA x i,(siteA x i).dogs⟩
def bearsT (x:St) (i:Int):List UInt8:=
 if ladE (walA x i)≠0 then errT (ladE (walA x i)) else tldT (brgE (walA x i) (ladL (walA x i))) [brgV (walA x i) (ladL (walA x i))]
theorem upF_mem:∀(L:List Int) (a r:Int),0<=a->L.foldl upM a=r->r=a∨(0<r-1∧r-1∈L)
 |[],a,r,_,h=>.inl h.symm
 |m::L,a,r,ha,h=>by
  rw[List.foldl_cons] at h;have h0:0<=upM a m:=by unfold upM;split<;>omega
  rcases upF_mem L _ r h0 h with h1|⟨h1,h2⟩
  ·by_cases hc:0<m∧(a=0∨m+1<a)
   ·right;have:upM a m=m+1:=by unfold upM;rw[if_pos hc]
    rw[this] at h1;exact⟨by omega,by rw[show r-1=m by omega];exact List.mem_cons_self ..⟩
   ·left;have:upM a m=a:=by unfold upM;rw[if_neg hc]
    rw[this] at h1;exact h1
  ·exact .inr ⟨h1,List.mem_cons_of_mem _ h2⟩
theorem rsS_fold (w:Wl) (g:Nat->Int) (f:Nat) (a:Int) (q:List Nat):q.foldl (rsS w g f) a=((q.filter fun x=>aftB w (f:Int) x).map g).foldl upM a:=by
 rw[List.foldl_map,List.foldl_filter];rfl
theorem rsS_congr {w:Wl} {g g':Nat->Int} {f:Nat} {q:List Nat} (h:∀x∈q,g x=g' x) (a:Int):q.foldl (rsS w g f) a=q.foldl (rsS w g' f) a:=by
 rw[rsS_fold,rsS_fold];congr 1;apply List.map_congr_left;intro x hx;exact h x (List.mem_filter.1 hx).1
theorem rsF_same (w:Wl):∀(k k' f:Nat),w.d.length<=k+f->w.d.length<=k'+f->rsF w k f=rsF w k' f:=by
 intro k;induction k with
 |zero=>
  intro k' f h h';cases k' with
  |zero=>rfl
  |succ k'=>rw[rsF,rsF,if_neg (by omega)]
 |succ k ih=>
  intro k' f h h';cases k' with
  |zero=>rw[rsF,rsF,if_neg (by omega)]
  |succ k'=>
   rw[rsF,rsF];by_cases hf:f<w.d.length
   ·rw[if_pos hf,if_pos hf];apply rsS_congr;intro x hx;obtain⟨i,hi,rfl⟩:=List.mem_map.1 hx;exact ih k' _ (by omega) (by omega)
   ·rw[if_neg hf,if_neg hf]
theorem rsA_eq {w:Wl} {f:Nat} (h:f<w.d.length):rsA w f=((List.range (w.d.length-(f+1))).map (fun i=>f+1+i)).foldl (rsS w (rsA w) f) (rs0 w f):=by
 unfold rsA;rw[show w.d.length-f=(w.d.length-(f+1))+1 by omega,rsF,if_pos h];apply rsS_congr;intro x hx;obtain⟨i,hi,rfl⟩:=List.mem_map.1 hx;exact rsF_same w _ _ _ (by omega) (by omega)
theorem rsA_out {w:Wl} {f:Nat} (h:¬f<w.d.length):rsA w f=0:=by
 unfold rsA;rw[show w.d.length-f=0 by omega];rfl
theorem rs0_01 (w:Wl) (f:Nat):rs0 w f=0∨rs0 w f=1:=by unfold rs0;split<;>simp
theorem rsA_bd (w:Wl):∀(n f:Nat),w.d.length-f=n->0<=rsA w f∧rsA w f<=(n:Int):=by
 intro n;induction n using Nat.strongRecOn with
 |ind n ih=>
  intro f hf;by_cases hl:f<w.d.length
  ·rw[rsA_eq hl,rsS_fold];have h0:=rs0_01 w f;refine upF_bd _ _ _ (by omega) (by omega) fun m hm=>?_;obtain⟨x,hx,rfl⟩:=List.mem_map.1 hm;obtain⟨i,hi,rfl⟩:=List.mem_map.1 (List.mem_filter.1 hx).1;rw[List.mem_range] at hi;have:=(ih (w.d.length-(f+1+i)) (by omega) _ rfl).2;omega
  ·rw[rsA_out hl];omega
theorem rsA_le (w:Wl) (f:Nat):0<=rsA w f∧rsA w f<=(w.d.length:Int):=by
 have:=rsA_bd w _ f rfl;omega
theorem rsA_next {w:Wl} {f:Nat} {m:Nat} (h:rsA w f=((m+2:Nat):Int)):∃x,nxtO w (f:Nat) ((m+1:Nat):Int)=some x:=by
 by_cases hl:f<w.d.length
 ·rw[rsA_eq hl,rsS_fold] at h;have h0:=rs0_01 w f;rcases upF_mem _ _ _ (by omega) h with h1|⟨h1,h2⟩
  ·exfalso;omega
  obtain⟨x,hx,hxm⟩:=List.mem_map.1 h2;obtain⟨hx1,hx2⟩:=List.mem_filter.1 hx;obtain⟨i,hi,rfl⟩:=List.mem_map.1 hx1;rw[List.mem_range] at hi;cases hn:nxtO w (f:Nat) ((m+1:Nat):Int) with
  |some y=>exact⟨y,rfl⟩
  |none=>
   have:=(List.find?_eq_none.1 hn) (f+1+i) (by rw[List.mem_range];omega);exfalso;apply this;unfold nxtP;simp only[Bool.and_eq_true,decide_eq_true_eq];exact⟨by omega,by omega,hx2⟩
 ·rw[rsA_out hl] at h;exfalso;omega
theorem nxtO_some {w:Wl} {b m:Int} {x:Nat} (h:nxtO w b m=some x):x<w.d.length∧b<(x:Int)∧rsA w x=m∧aftB w b x=true∧∀y,y<x->nxtP w b m y=false:=by
 have h1:=List.find?_some h;unfold nxtP at h1;simp only[Bool.and_eq_true,decide_eq_true_eq] at h1;have h2:=List.mem_of_find?_eq_some h;rw[List.mem_range] at h2;refine⟨h2,h1.1,h1.2.1,h1.2.2,fun y hy=>?_⟩;obtain⟨_,qs,bs,he,ha⟩:=List.find?_eq_some_iff_append.1 h;have hlen:qs.length=x:=by
  have h3:(List.range w.d.length)[qs.length]?=some x:=by rw[he];simp
  rw[List.getElem?_range (by have:=congrArg List.length he;simp at this;omega)] at h3;exact Option.some.inj h3
 have h4:y∈qs:=by
  have h5:(List.range w.d.length)[y]?=some y:=List.getElem?_range (by omega);rw[he,List.getElem?_append_left (by omega)] at h5;exact List.mem_of_getElem? h5
 have:=ha y h4;simpa using this
theorem nxtO_none {w:Wl} {b m:Int} (h:nxtO w b m=none):∀y,y<w.d.length->nxtP w b m y=false:=fun y hy=>by
 have:=(List.find?_eq_none.1 h) y (by rw[List.mem_range];exact hy);simpa using this
theorem grd_len {w:Wl}:∀(m:Nat) (b:Int),(nxtO w b ((m+1:Nat):Int)).isSome=true->(grdF w (m+1) b).length=m+1
 |0,b,h=>by
  obtain⟨x,hx⟩:=Option.isSome_iff_exists.1 h;rw[grdF,hx];rfl
 |m+1,b,h=>by
  obtain⟨x,hx⟩:=Option.isSome_iff_exists.1 h;rw[grdF,hx];obtain⟨y,hy⟩:=rsA_next (m:=m) (nxtO_some hx).2.2.1;have:=grd_len m (x:Nat) (by rw[hy];rfl);rw[List.length_cons,this]
end Go.Proofs.YtjkkfcghkeoedaaGreatDoor.Fi
namespace Go.Proofs.YtjkkfcghkeoedaaGreatDoor.Fi
open Go.RowKit Go.Lib Go.Maps Tx
theorem rdZ {w:World} {A:Option Addr} {l:List Int} (h:Rd zC 1 w A l) {k:Nat} (hk:k<l.length):
  ∃b off,A=some ⟨b,off,none⟩∧b<w.heap.size∧w.cell? ⟨b,off+k,none⟩=some (.int .i64 (zA l k)):=by
 obtain⟨x,hx⟩:=get_lt hk;obtain⟨b,off,e,hb,hc⟩:=h.get hx;have:=hc 0 (.int .i64 x) rfl;rw[Nat.mul_one,Nat.add_zero] at this;refine⟨b,off,e,hb,?_⟩;rw[this];unfold zA;rw[List.getD_eq_getElem?_getD,hx];rfl
theorem all_noA {p:Nat->Bool} {n k:Nat} (hk:k<n) (h:p k=false):(List.range n).all p=false:=by
 rw[List.all_eq_false];exact⟨k,by simpa using hk,by simp[h]⟩
theorem l_ascending (A:Option Addr) (l:List Int) (c n:Nat) (w:World) (hn:n<=100000) (hl:l.length<=maxLen) (hR:Rd zC 1 w A l):
  Calls Tryz.prog 221 #[.slice A l.length c,.int .i64 (n:Nat)] w fun e w'=>e=.returned (.bool (ascB n l))∧w=w':=by
 have hl':=hl;unfold maxLen at hl';have hw:IntKind.i64.wrap ((n:Int)-1)=(n:Int)-1:=fits_wrap ⟨by omega,by omega⟩;obtain⟨R,hR0⟩:∃R,R=ascB n l:=⟨_,rfl⟩;rw[←hR0];have HR:=hid hR0;clear hR0;go_enter Tryz.func221,Tryz.ntmps221
 go_wp2;go_loop [9] (fun i=>∃k:Nat,k<=l.length∧i=.int .i64 k∧Hid ((List.range k).all (okA n l)=true)) (fun i=>l.length-(RowKit.intOf i).toNat)
 case atStart=>exact⟨0,by omega,rfl,hid rfl⟩
 case round=>
  obtain⟨k,hk,rfl,HI⟩:=hrel;have k0:=nn k;by_cases hlt:k<l.length
  ·have k1:(k:Int)<(l.length:Int):=by omega
   obtain⟨b,off,rfl,hb,c0⟩:=rdZ hR hlt;cases h1:wn (zA l k) 0 ((n:Int)-1)
   ·have HE:=hid (show ascB n l=false from all_noA hlt (by unfold okA;rw[h1];rfl));generalize zA l k=Z at *;go_wp2_with (go_at_call 85;((with_reducible refine(l_withinV h1 _).mono ?_);rintro e w' ⟨rfl,rfl⟩))
    go_ret;exact⟨ret_bool (by rw[HR.out,HE.out]),rfl⟩
   ·by_cases hk0:k=0
    ·have HI1:=hid (all_stepJ HI.out (show okA n l k=true by unfold okA;rw[h1,hk0];rfl));generalize zA l k=Z at *;have hkz:¬0<k:=by omega
     have HK0:=hid hk0;clear hk0;go_wp2_with (go_at_call 85;((with_reducible refine(l_withinV h1 _).mono ?_);rintro e w' ⟨rfl,rfl⟩))
     go_round
     case rel=>exact⟨k+1,by omega,by go_num,HI1⟩
     case measure=>simp[RowKit.intOf];omega
    ·obtain⟨j,hj⟩:∃j,k=j+1:=⟨k-1,by omega⟩;have c1:w.cell? ⟨b,off+j,none⟩=some (.int .i64 (zA l j)):=by
      obtain⟨b',off',e,_,c1⟩:=rdZ hR (show j<l.length by omega);cases e;exact c1
     have hwj:IntKind.i64.wrap ((k:Int)-1)=(j:Int):=by rw[fits_wrap ⟨by omega,by omega⟩];omega
     have j0:=nn j;have j1:(j:Int)<(l.length:Int):=by omega
     have hp:0<k:=by omega
     have HEQ:=hid (show okA n l k=decide (zA l j<zA l k) by unfold okA;rw[h1,hj];simp);by_cases h2:zA l j<zA l k
     ·have HI1:=hid (all_stepJ HI.out (show okA n l k=true by rw[HEQ.out,decide_eq_true h2]));have h3:¬zA l k<=zA l j:=by omega
      clear HEQ hj hk0;generalize zA l k=Z at *;generalize zA l j=Y at *;go_wp2_with (go_at_call 85;((with_reducible refine(l_withinV h1 _).mono ?_);rintro e w' ⟨rfl,rfl⟩))
      go_round
      case rel=>exact⟨k+1,by omega,by go_num,HI1⟩
      case measure=>simp[RowKit.intOf];omega
     ·have HE:=hid (show ascB n l=false from all_noA hlt (by rw[HEQ.out,decide_eq_false h2]));have h3:zA l k<=zA l j:=by omega
      clear HEQ hj hk0;generalize zA l k=Z at *;generalize zA l j=Y at *;go_wp2_with (go_at_call 85;((with_reducible refine(l_withinV h1 _).mono ?_);rintro e w' ⟨rfl,rfl⟩))
      go_ret;exact⟨ret_bool (by rw[HR.out,HE.out]),rfl⟩
  ·obtain rfl:k=l.length:=by omega
   have HE:=hid (show ascB n l=true from HI.out);go_wp2;go_ret;exact⟨ret_bool (by rw[HR.out,HE.out]),rfl⟩
theorem l_ascendingV {A:Option Addr} {l:List Int} {c n:Nat} {w:World} {v:Bool} (h:ascB n l=v) (hn:n<=100000) (hl:l.length<=maxLen) (hR:Rd zC 1 w A l):
  Calls Tryz.prog 221 #[.slice A l.length c,.int .i64 (n:Nat)] w fun e w'=>e=.returned (.bool v)∧w=w':=h▸l_ascending A l c n w hn hl hR
theorem asc_in {n:Nat} {l:List Int} (h:ascB n l=true) {k:Nat} (hk:k<l.length):0<=zA l k∧zA l k<(n:Int):=by
 have:=List.all_eq_true.1 h k (by simpa using hk);unfold okA at this;rw[Bool.and_eq_true,wn_iff] at this;omega
theorem asc_le {n:Nat} {l:List Int} (h:ascB n l=true):∀k,k<l.length->(k:Int)<=zA l k:=by
 intro k;induction k with
 |zero=>intro hk;have:=asc_in h hk;omega
 |succ k ih=>
  intro hk;have h1:=ih (by omega);have:=List.all_eq_true.1 h (k+1) (by simpa using hk);unfold okA at this;simp only[Bool.and_eq_true,Bool.or_eq_true,decide_eq_true_eq,Nat.add_sub_cancel] at this;omega
theorem asc_len {n:Nat} {l:List Int} (h:ascB n l=true):l.length<=n:=by
 rcases Nat.eq_zero_or_pos l.length with h0|h0
 ·omega
 ·have h1:=asc_le h (l.length-1) (by omega);have h2:=asc_in h (k:=l.length-1) (by omega);omega
theorem l_Right (c:Cl) (A:Option Addr) (l:List Jt) (cc:Nat) (D:Option Addr) (d:List Int) (dc:Nat) (w:World) (hle:-9223372036854775808<c.le∧c.le<=9223372036854775807) (hl:l.length<=100000) (hdl:d.length<=maxLen) (hR:Rd Jt.cs 2 w A l) (hD:Rd zC 1 w D d):
  Calls Tryz.prog 187 #[clV c,.slice A l.length cc,.slice D d.length dc] w fun e w'=>e=.returned (.bool (rgtB c l d))∧Below w.heap.size w w':=by
 have x0:=Blk.new w 25 (clA c);have B0:=bl_alloc (below_refl w) (.cells (clA c) 25);have HV:=hid (fun W (h:Below w.heap.size w W)=>l_valid c A l cc W hle hl (hR.on h));have HX:=hid (fun W (h:Below (w.alloc (.cells (clA c) 25)).heap.size (w.alloc (.cells (clA c) 25)) W)=>x0.below h x0.lt);obtain⟨R,hR0⟩:∃R,R=rgtB c l d:=⟨_,rfl⟩;rw[←hR0];have HR:=hid hR0;clear hR0;have HAS:=hid (fun v (h:ascB l.length d=v) W (hb:Below w.heap.size w W)=>l_ascendingV (c:=dc) h hl hdl (hD.on hb));have hdl':=hdl;unfold maxLen at hdl';cases hvv:(vCl c&&vJ l)
 ·have HE:=hid (show rgtB c l d=false by unfold rgtB;rw[hvv];rfl);rw[hvv] at HV;have b0:=x0.cell 0;have b1:=x0.cell 1;have b2:=x0.cell 2;have b3:=x0.cell 3;have b4:=x0.cell 4;have b5:=x0.cell 5;simp only[GA] at b0 b1 b2 b3 b4 b5;go_enter Tryz.func187,Tryz.ntmps187
  go_wp2_with (go_at_call 186;((with_reducible refine(HV.out _ B0).mono ?_);rintro e w3 ⟨rfl,hb3⟩))
  go_ret;exact⟨ret_bool (by rw[HR.out,HE.out]),below_tr B0 hb3⟩
 rw[hvv] at HV;obtain⟨hv1,hv2⟩:=Bool.and_eq_true_iff.1 hvv;have hJ:=jb_of hv2;have HE1:=hid (show rgtB c l d=(decide (0<d.length)&&(ascB l.length d&&((List.range d.length).all (stpB c l d)&&lastB c (jAt l (zA d (d.length-1)).toNat)))) by unfold rgtB;rw[hvv];rfl);have hcb:1<=c.ga∧c.ga<=200000:=by
  unfold vCl at hv1;simp only[Bool.and_eq_true,decide_eq_true_eq] at hv1;exact hv1.2.1
 have HCB:=hid hcb;clear hvv hv1 hv2;have b0:=x0.cell 0;have b1:=x0.cell 1;have b2:=x0.cell 2;have b3:=x0.cell 3;have b4:=x0.cell 4;have b5:=x0.cell 5;simp only[GA] at b0 b1 b2 b3 b4 b5;by_cases hd0:d.length=0
 ·have HE:=hid (show rgtB c l d=false by rw[HE1.out,hd0];rfl);have hd1:(d.length:Int)=0:=by omega
  clear HE1;go_enter Tryz.func187,Tryz.ntmps187
  go_wp2_with (go_at_call 186;((with_reducible refine(HV.out _ B0).mono ?_);rintro e w3 ⟨rfl,hb3⟩))
  go_ret;exact⟨ret_bool (by rw[HR.out,HE.out]),below_tr B0 hb3⟩
 have hd1:¬(d.length:Int)=0:=by omega
 have hd2:(d.length==0)=false:=beq_eq_false_iff_ne.2 hd0;have hd3:((d.length:Int)==0)=false:=beq_eq_false_iff_ne.2 hd1;cases has:ascB l.length d
 ·have HE:=hid (show rgtB c l d=false by rw[HE1.out,has];simp);have HA:=hid (fun W hb=>HAS.out _ has W hb);clear HE1 HAS;go_enter Tryz.func187,Tryz.ntmps187
  go_wp2_with (first
   |(go_at_call 186;((with_reducible refine(HV.out _ B0).mono ?_);rintro e w3 ⟨rfl,hb3⟩))
   |(go_at_call 221;((with_reducible refine(HA.out _ (below_tr B0 hb3)).mono ?_);rintro e w' ⟨rfl,rfl⟩)))
  go_ret;exact⟨ret_bool (by rw[HR.out,HE.out]),below_tr B0 hb3⟩
 have HA:=hid (fun W hb=>HAS.out _ has W hb);have HIN:=hid (fun k hk=>asc_in has (k:=k) hk);have HE2:=hid (show rgtB c l d=((List.range d.length).all (stpB c l d)&&lastB c (jAt l (zA d (d.length-1)).toNat)) by rw[HE1.out,has,decide_eq_true (show 0<d.length by omega)];rfl);clear HE1 HAS has;go_enter Tryz.func187,Tryz.ntmps187
 go_upto_region 3 with (first
   |(go_at_call 186;((with_reducible refine(HV.out _ B0).mono ?_);rintro e w3 ⟨rfl,hb3⟩))
   |(go_at_call 221;((with_reducible refine(HA.out _ (below_tr B0 hb3)).mono ?_);rintro e w' ⟨rfl,rfl⟩)))
 replace HX:=hid (fun W (h:Below w3.heap.size w3 W)=>HX.out W (below_tr hb3 h))
 replace hR:=hR.on (below_tr B0 hb3)
 replace hD:=hD.on (below_tr B0 hb3)
 have BW:=below_tr B0 hb3;clear b0 b1 b2 b3 b4 b5 x0 B0 HV HA hb3;go_wp2;go_loopw [7,28] (fun b i wr=>∃k:Nat,k<=d.length∧i=.int .i64 k∧b=.int .i64 (befA d k)∧Below w3.heap.size w3 wr∧Hid ((List.range k).all (stpB c l d)=true)) (fun _ i _=>d.length-(RowKit.intOf i).toNat)
 case atStart=>exact⟨0,by omega,rfl,rfl,below_refl _,hid rfl⟩
 case round=>
  obtain⟨k,hk,rfl,rfl,hbw,HI⟩:=hrel;have k0:=nn k;have hx:=HX.out wr hbw;have b0:=hx.cell 0;have b1:=hx.cell 1;have b2:=hx.cell 2;have b3:=hx.cell 3;have b4:=hx.cell 4;have b5:=hx.cell 5;have lx:=hx.lt;clear hx;simp only[GA] at b0 b1 b2 b3 b4 b5;have hbf:befA d k<(l.length:Int):=by
   unfold befA;split
   ·omega
   ·exact(HIN.out (k-1) (by omega)).2
  by_cases hlt:k<d.length
  ·have k1:(k:Int)<(d.length:Int):=by omega
   obtain⟨db,doff,rfl,hdb,d0⟩:=rdZ (hD.on hbw) hlt;obtain⟨z0,z1⟩:=HIN.out k hlt;obtain⟨m,hm⟩:=Int.eq_ofNat_of_zero_le z0;have HST:=hid (show stpB c l d k=((jAt l m).s&&folB c l (befA d k) m) by unfold stpB;rw[hm];rfl);rw[hm] at d0 z1;have hml:m<l.length:=by omega
   have m0:=nn m;obtain⟨x,jb,jo,hx,rfl,hjb,c0,c1⟩:=rdJ (hR.on hbw) hml;have HFO:=hid (fun v (h:folB c l (befA d k) m=v) W (hb:Below wr.heap.size wr W)=>l_followsV (cc:=cc) h hJ hml hbf ((hR.on hbw).on hb));have HNX:=hid (show befA d (k+1)=(m:Int) by unfold befA;rw[if_neg (by omega),Nat.add_sub_cancel,hm]);rw[jAt_of hx] at HST;generalize befA d k=B at *;clear hm z0 hx;obtain⟨XH,XS⟩:=x;dsimp only at *;cases XS
   ·have HE:=hid (show rgtB c l d=false by rw[HE2.out,all_noA hlt (by rw[HST.out];rfl)];rfl);clear HE2 HI HX HIN hJ HNX HST;go_wp2;go_ret;exact⟨ret_bool (by rw[HR.out,HE.out]),below_tr BW hbw⟩
   ·cases hf:folB c l B m
    ·have HE:=hid (show rgtB c l d=false by rw[HE2.out,all_noA hlt (by rw[HST.out,hf];rfl)];rfl);have HF:=hid (fun W hb=>HFO.out _ hf W hb);clear HE2 HI HX HIN HNX HST HFO;go_wp2_with (go_at_call 222;((with_reducible refine(HF.out _ (below_refl _)).mono ?_);rintro e w5 ⟨rfl,hb5⟩))
     go_ret;exact⟨ret_bool (by rw[HR.out,HE.out]),below_tr BW (below_tr hbw hb5)⟩
    ·have HI1:=hid (all_stepJ HI.out (show stpB c l d k=true by rw[HST.out,hf];rfl));have HF:=hid (fun W hb=>HFO.out _ hf W hb);clear HE2 HI HX HIN HST HFO;go_wp2_with (go_at_call 222;((with_reducible refine(HF.out _ (below_refl _)).mono ?_);rintro e w5 ⟨rfl,hb5⟩))
     go_roundw
     case rel=>exact⟨k+1,by omega,by go_num,by rw[HNX.out],below_tr hbw hb5,HI1⟩
     case measure=>simp[RowKit.intOf];omega
  ·obtain rfl:k=d.length:=by omega
   obtain⟨z0,z1⟩:=HIN.out (d.length-1) (by omega);obtain⟨m,hm⟩:=Int.eq_ofNat_of_zero_le z0;have hbm:befA d d.length=(m:Int):=by unfold befA;rw[if_neg hd0,hm]
   have HE:=hid (show rgtB c l d=lastB c (jAt l m) by rw[HE2.out,HI.out,hm];rfl);rw[hbm];rw[hm] at z1;have hml:m<l.length:=by omega
   have m0:=nn m;obtain⟨x,jb,jo,hx,rfl,hjb,c0,c1⟩:=rdJ (hR.on hbw) hml;rw[jAt_of hx] at HE;have hJd:=hJ.h m x hx;have hc:=HCB.out;have HLS:=hid (fun W=>l_last c x W (by omega) (by omega));have BX:=below_tr BW hbw;obtain⟨XH,XS⟩:=x;dsimp only at *;clear HE2 HI HX HIN hm z0 hx hR hD hbw BW hbm hbf;go_upto_region 11 with fail
   refine wp_region_noPanic ?_;refine th wr fun hS0=>?_;refine tq 0 ?_;refine tq 1 ?_;refine tq 2 ?_;refine tq 3 ?_;refine tq 4 ?_;refine tr 5 fun K hK=>?_;go_simp
   (go_at_call 223;((with_reducible refine(HLS.out _).mono ?_);rintro e w3 ⟨rfl,hb3⟩;obtain⟨hc3,hf3,hz3⟩:=qz hb3))
   refine hK.out _ _ kq (fun hS1=>?_);clear hK K;try simp only[AP]
   refine tq 6 ?_;refine wpAnyH_done (by kernel_rfl) (NoPanic.normal ?_) _;go_wp2;go_ret;exact⟨ret_bool (by rw[HR.out,HE.out]),below_tr BX bl⟩
structure LWl where
 w:Wl
 ja:Option Addr
 jc:Nat
 da:Option Addr
 dc:Nat
abbrev LWl.A (x:LWl):Array Value:=#[.int .i64 x.w.c.fi,.int .i64 x.w.c.ga,.int .i64 x.w.c.tp,.int .i64 x.w.c.le,.int .i64 x.w.c.la,.int .i64 x.w.c.st,.slice x.ja x.w.l.length x.jc,.slice x.da x.w.d.length x.dc]
structure WlAt (W:World) (x:LWl):Prop where
 jb:JB x.w.l
 fi:1<=x.w.c.fi∧x.w.c.fi<=200000
 ga:1<=x.w.c.ga∧x.w.c.ga<=200000
 tp:1<=x.w.c.tp∧x.w.c.tp<=200000
 le:1<=x.w.c.le∧x.w.c.le<=200000
 la:0<=x.w.c.la∧x.w.c.la<=200000
 st:1<=x.w.c.st∧x.w.c.st<=1000000
 din:∀k,k<x.w.d.length->0<=zA x.w.d k∧zA x.w.d k<(x.w.l.length:Int)
 dl:x.w.d.length<=200
 rj:Rd Jt.cs 2 W x.ja x.w.l
 rd:Rd zC 1 W x.da x.w.d
theorem WlAt.on {W W':World} {x:LWl} (h:WlAt W x) (hb:Below W.heap.size W W'):WlAt W' x:=⟨h.jb,h.fi,h.ga,h.tp,h.le,h.la,h.st,h.din,h.dl,h.rj.on hb,h.rd.on hb⟩
theorem WlAt.hb {W:World} {x:LWl} (h:WlAt W x) {i:Nat} (hi:i<x.w.d.length):1<=hgt x.w i∧hgt x.w i<=200000:=by
 obtain⟨z0,z1⟩:=h.din i hi;obtain⟨y,hy⟩:=get_lt (show(zA x.w.d i).toNat<x.w.l.length by omega);unfold hgt;rw[jAt_of hy];exact h.jb.h _ _ hy
theorem wl_of {W:World} {x:LWl} (h:rgtB x.w.c x.w.l x.w.d=true) (hj:Rd Jt.cs 2 W x.ja x.w.l) (hd:Rd zC 1 W x.da x.w.d):WlAt W x:=by
 unfold rgtB at h;simp only[Bool.and_eq_true] at h;obtain⟨⟨hc,hl⟩,_,ha,_⟩:=h;have hJ:=jb_of hl;unfold vCl at hc;simp only[Bool.and_eq_true,decide_eq_true_eq] at hc;obtain⟨h1,h2,h3,h4,h5,h6⟩:=hc;exact⟨hJ,h1,h2,h3,h4,⟨h5.1,by omega⟩,h6,fun k hk=>asc_in ha hk,Nat.le_trans (asc_len ha) hJ.n,hj,hd⟩
theorem w_height (x:LWl) (i:Nat) (W:World) (h:WlAt W x) (hi:i<x.w.d.length):
  Calls Tryz.prog 249 #[.agg x.A,.int .i64 (i:Nat)] W fun e w'=>e=.returned (.int .i64 (hgt x.w i))∧Below W.heap.size W w':=by
 have x0:=Blk.new W 273 x.A;have B0:=bl_alloc (below_refl W) (.cells x.A 273);have b6:=x0.cell 6;have b7:=x0.cell 7;simp only[GA] at b6 b7;obtain⟨db,doff,hda,hdb,d0⟩:=rdZ (h.rd.on B0) hi;obtain⟨z0,z1⟩:=h.din i hi;obtain⟨m,hm⟩:=Int.eq_ofNat_of_zero_le z0;rw[hm] at d0 z1;have hml:m<x.w.l.length:=by omega
 have m0:=nn m;have i0:=nn i;have i1:(i:Int)<(x.w.d.length:Int):=by omega
 obtain⟨y,jb,jo,hy,hja,hjb,c0,c1⟩:=rdJ (h.rj.on B0) hml;have HE:=hid (show hgt x.w i=y.h by unfold hgt;rw[hm];show(jAt x.w.l m).h=y.h;rw[jAt_of hy]);rw[HE.out];rw[hda] at b7;rw[hja] at b6;clear hy HE hm z0 h hda hja;go_enter Tryz.func249,Tryz.ntmps249
 go_wp2_with fail
 go_quiet (fail)
 go_wp2;go_ret;exact⟨rfl,bl⟩
theorem w_ends (x:LWl) (f:Nat) (W:World) (h:WlAt W x) (hf:f<x.w.d.length):
  Calls Tryz.prog 248 #[.agg x.A,.int .i64 (f:Nat)] W fun e w'=>e=.returned (.bool (endB x.w f))∧Below W.heap.size W w':=by
 have x0:=Blk.new W 273 x.A;have B0:=bl_alloc (below_refl W) (.cells x.A 273);have b0:=x0.cell 0;have b1:=x0.cell 1;have b2:=x0.cell 2;have b3:=x0.cell 3;have b4:=x0.cell 4;have b5:=x0.cell 5;have b6:=x0.cell 6;have b7:=x0.cell 7;simp only[GA] at b0 b1 b2 b3 b4 b5 b6 b7;have lx:=x0.lt;have HH1:=hid (fun W' (hb:Below (W.alloc (.cells x.A 273)).heap.size (W.alloc (.cells x.A 273)) W')=>w_height x f W' (h.on (below_tr B0 hb)) hf);have hb1:=h.hb hf;have hle:=h.le;obtain⟨R,hR0⟩:∃R,R=endB x.w f:=⟨_,rfl⟩;rw[←hR0];have HR:=hid hR0;have HA:=hid (show endB x.w f=decide (x.w.c.tp<=hgt x.w f+x.w.c.le) from rfl);clear hR0;clear h x0;go_enter Tryz.func248,Tryz.ntmps248
 go_upto_region 1 with fail
 generalize W.alloc (.cells x.A 273)=w1 at *;generalize hgt x.w f=H at *;have hw:IntKind.i64.wrap (H+x.w.c.le)=H+x.w.c.le:=fits_wrap ⟨by omega,by omega⟩;refine wp_region_noPanic ?_;refine th w1 fun hS0=>?_;refine tq 0 ?_;refine tq 1 ?_;refine tq 3 ?_;refine tq 4 ?_;refine tq 5 ?_;refine tq 7 ?_;refine tq 8 ?_;refine tq 9 ?_;refine tr 2 fun K hK=>?_;go_simp
 (go_at_call 249;((with_reducible refine(HH1.out _ bl).mono ?_);rintro e w3 ⟨rfl,hb3⟩;obtain⟨hc3,hf3,hz3⟩:=qz hb3))
 refine hK.out _ _ kq (fun hS1=>?_);clear hK K;try simp only[AP]
 refine tq 6 ?_;refine tq 10 ?_;refine tq 11 ?_;refine wpAnyH_done (by kernel_rfl) (NoPanic.normal ?_) _;go_wp2;go_ret;exact⟨ret_bool (by rw[HR.out,HA.out]),bl⟩
theorem tk_len {p:Nat->Bool} {n j:Nat} (h1:∀i,i<j->p i=true) (h2:j<=n) (h3:j=n∨p j=false):((List.range n).takeWhile p).length=j:=by
 have e:List.range n=List.range j++(List.range (n-j)).map (fun i=>j+i):=by
  conv=>lhs;rw[show n=j+(n-j) by omega,List.range_add]
 rw[e,List.takeWhile_append_of_pos (fun i hi=>h1 i (List.mem_range.1 hi))];rcases h3 with h3|h3
 ·subst h3;simp
 ·by_cases hjn:j=n
  ·subst hjn;simp
  ·rw[show n-j=(n-j-1)+1 by omega,List.range_succ_eq_map,List.map_cons,List.takeWhile_cons_of_neg (by simp[h3])];simp
theorem on_len (w:Wl) (f:Nat):onN w f<=w.d.length:=by
 unfold onN;have h1:=List.takeWhile_sublist (fun i=>decide (hgt w (f+i)<=hgt w f+w.c.le)) (l:=List.range (w.d.length-f));have h2:=h1.length_le;rw[List.length_range] at h2;omega
theorem w_on (x:LWl) (f:Nat) (W:World) (h:WlAt W x) (hf:f<x.w.d.length):
  Calls Tryz.prog 229 #[.agg x.A,.int .i64 (f:Nat)] W fun e w'=>(∃A c,e=.returned (.slice A (onN x.w f) c))∧Below W.heap.size W w':=by
 obtain⟨i0,hi,hi1,hi2,hi3⟩:=info_intF;obtain⟨N,hN0⟩:∃N,N=onN x.w f:=⟨_,rfl⟩;rw[←hN0];have HN:=hid hN0;clear hN0;have x0:=Blk.new W 273 x.A;have B0:=bl_alloc (below_refl W) (.cells x.A 273);have f0:=nn f;have hdl:=h.dl;go_enter Tryz.func229,Tryz.ntmps229
 go_upto_region 3 with fail
 have h1:=h.on B0;have lx:=x0.lt;generalize W.alloc (.cells x.A 273)=w1 at *;have hz1:=B0.size;go_loopw [5,6] (fun v i wr=>∃j:Nat,f+j<=x.w.d.length∧i=.int .i64 ((f+j:Nat):Int)∧Below w1.heap.size w1 wr∧(∃cs,wr.ownsRow w1.heap.size 3 1 v j cs)∧Hid (∀i,i<j->hgt x.w (f+i)<=hgt x.w f+x.w.c.le)) (fun _ i _=>x.w.d.length-(RowKit.intOf i).toNat)
 case atStart=>exact⟨0,by omega,rfl,below_refl _,⟨[],World.ownsRow_nil w1 _ _ _⟩,hid (fun i hi=>absurd hi (by omega))⟩
 case round=>
  obtain⟨j,hj,rfl,hbw,⟨cs,hown⟩,HI⟩:=hrel;obtain⟨ad,cp,rfl⟩:=own_slice hown;have hx:=x0.below hbw lx;have hzw:=hbw.size;have lxr:=hx.lt;have b0:=hx.cell 0;have b1:=hx.cell 1;have b2:=hx.cell 2;have b3:=hx.cell 3;have b4:=hx.cell 4;have b5:=hx.cell 5;have b6:=hx.cell 6;have b7:=hx.cell 7;simp only[GA] at b0 b1 b2 b3 b4 b5 b6 b7;clear hx;have hr:=h1.on hbw;have BW:=below_tr B0 hbw;generalize hm:f+j=m at *;have HM:=hid hm;clear hm;have m0:=nn m;by_cases hlt:m<x.w.d.length
  ·have k1:(m:Int)<(x.w.d.length:Int):=by omega
   have hb1:=hr.hb hlt;have hb2:=hr.hb hf;have hle:=hr.le;have HH1:=hid (fun W' (hb:Below wr.heap.size wr W')=>w_height x m W' (hr.on hb) hlt);have HH2:=hid (fun W' (hb:Below wr.heap.size wr W')=>w_height x f W' (hr.on hb) hf);have HEX:=hid (fun hg:¬hgt x.w m<=hgt x.w f+x.w.c.le=>(show onN x.w f=j from tk_len (fun i hi=>decide_eq_true (HI.out i hi)) (by have:=HM.out;omega) (.inr (decide_eq_false (by rw[HM.out];exact hg)))));have HIN:=hid (fun hg:hgt x.w m<=hgt x.w f+x.w.c.le=>(show ∀i,i<j+1->hgt x.w (f+i)<=hgt x.w f+x.w.c.le from fun i hi=>by
    rcases Nat.lt_succ_iff_lt_or_eq.1 hi with h|h
    ·exact HI.out i h
    ·rw[h,HM.out];exact hg))
   generalize hgt x.w m=H at *;generalize hgt x.w f=F at *;have hw:IntKind.i64.wrap (F+x.w.c.le)=F+x.w.c.le:=fits_wrap ⟨by omega,by omega⟩;by_cases hg:H<=F+x.w.c.le
   ·have HI1:=hid (HIN.out hg);clear HIN HEX HI;go_upto_region 3 with fail
    refine wp_region_noPanic ?_;refine th wr fun hS0=>?_;refine tq 0 ?_;refine tq 1 ?_;refine tq 2 ?_;refine tq 3 ?_;refine tq 4 ?_;refine tq 5 ?_;refine tq 6 ?_;refine tq 7 ?_;refine tq 9 ?_;refine tq 10 ?_;refine tq 12 ?_;refine tq 13 ?_;refine tq 14 ?_;refine tr 8 fun K hK=>?_;go_simp
    (go_at_call 249;((with_reducible refine(HH1.out _ bl).mono ?_);rintro e w3 ⟨rfl,hb3⟩;obtain⟨hc3,hf3,hz3⟩:=qz hb3))
    refine hK.out _ _ kq (fun hS1=>?_);clear hK K;try simp only[AP]
    refine tr 11 fun K hK=>?_;go_simp
    (go_at_call 249;((with_reducible refine(HH2.out _ bl).mono ?_);rintro e w4 ⟨rfl,hb4⟩;obtain⟨hc4,hf4,hz4⟩:=qz hb4))
    refine hK.out _ _ kq (fun hS2=>?_);clear hK K;try simp only[AP]
    refine tq 15 ?_;refine tq 16 ?_;refine tq 17 ?_;refine wpAnyH_done (by kernel_rfl) (NoPanic.normal ?_) _;have B4:Below wr.heap.size wr w4:=bl;have bj:=below_tr hbw B4;have oj:=own_on hown B4;have sj:=bj.size;have hjn:j<=200:=by have:=HM.out;omega
    clear hown;go_wp2_with (at_builtin;(refine wpList_append_own _ rfl _ _ 40 rfl w1.heap.size 3 i0 (.int .i64 0) 1 8 (by kernel_rfl) hi hi1 hi2 hi3 rfl (by omega) _ _ _ rfl (oj.alloc _) ⟨w4.heap.size,0,none⟩ 1 1 [.int .i64 (m:Nat)] rfl rfl (cells_new w4 [.int .i64 (m:Nat)] 3) (fun u hu=>by simp at hu;subst hu;rfl) (by unfold maxLen;omega) (by omega) (by simp;omega) ?_;intro v5 w5 hown5 hgrow5 _))
    have B5:Below w1.heap.size w1 w5:=bl_app bj oj hgrow5 (Nat.le_refl _) sj;clear hgrow5 oj;go_wp2;go_roundw
    case rel=>exact⟨j+1,by have:=HM.out;omega,by rw[show f+(j+1)=m+1 by have:=HM.out;omega];go_num,B5,⟨_,hown5⟩,HI1⟩
    case measure=>simp[RowKit.intOf];omega
   ·have HE:=hid (HEX.out hg);obtain rfl:N=j:=HN.out.trans HE.out;clear HIN HEX HI;go_upto_region 3 with fail
    refine wp_region_noPanic ?_;refine th wr fun hS0=>?_;refine tq 0 ?_;refine tq 1 ?_;refine tq 2 ?_;refine tq 3 ?_;refine tq 4 ?_;refine tq 5 ?_;refine tq 6 ?_;refine tq 7 ?_;refine tq 9 ?_;refine tq 10 ?_;refine tq 12 ?_;refine tq 13 ?_;refine tq 14 ?_;refine tr 8 fun K hK=>?_;go_simp
    (go_at_call 249;((with_reducible refine(HH1.out _ bl).mono ?_);rintro e w3 ⟨rfl,hb3⟩;obtain⟨hc3,hf3,hz3⟩:=qz hb3))
    refine hK.out _ _ kq (fun hS1=>?_);clear hK K;try simp only[AP]
    refine tr 11 fun K hK=>?_;go_simp
    (go_at_call 249;((with_reducible refine(HH2.out _ bl).mono ?_);rintro e w4 ⟨rfl,hb4⟩;obtain⟨hc4,hf4,hz4⟩:=qz hb4))
    refine hK.out _ _ kq (fun hS2=>?_);clear hK K;try simp only[AP]
    refine tq 15 ?_;refine tq 16 ?_;refine tq 17 ?_;refine wpAnyH_done (by kernel_rfl) (NoPanic.normal ?_) _;go_wp2;go_ret;exact⟨⟨_,_,rfl⟩,below_tr BW bl⟩
  ·have k1:¬(m:Int)<(x.w.d.length:Int):=by omega
   have HE:=hid (show onN x.w f=j from tk_len (fun i hi=>decide_eq_true (HI.out i hi)) (by have:=HM.out;omega) (.inl (by have:=HM.out;omega)));obtain rfl:N=j:=HN.out.trans HE.out;clear HI;go_upto_region 3 with fail
   refine wp_region_noPanic ?_;refine th wr fun hS0=>?_;refine tq 0 ?_;refine tq 1 ?_;refine tq 2 ?_;refine tq 3 ?_;refine tq 4 ?_;refine tq 5 ?_;refine tv 6 ?_;refine tv 7 ?_;refine tv 8 ?_;refine tv 9 ?_;refine tv 10 ?_;refine tv 11 ?_;refine tv 12 ?_;refine tv 13 ?_;refine tv 14 ?_;refine tv 15 ?_;refine tv 16 ?_;refine tq 17 ?_;refine wpAnyH_done (by kernel_rfl) (NoPanic.normal ?_) _;go_wp2;go_ret;exact⟨⟨_,_,rfl⟩,below_tr BW bl⟩
theorem w_after (x:LWl) (b:Int) (f:Nat) (W:World) (h:WlAt W x) (hf:f<x.w.d.length) (hbl:b<(x.w.d.length:Int)):
  Calls Tryz.prog 227 #[.agg x.A,.int .i64 b,.int .i64 (f:Nat)] W fun e w'=>e=.returned (.bool (aftB x.w b f))∧Below W.heap.size W w':=by
 have x0:=Blk.new W 273 x.A;have B0:=bl_alloc (below_refl W) (.cells x.A 273);have f0:=nn f;have hdl:=h.dl;have hol:=on_len x.w f;obtain⟨R,hR0⟩:∃R,R=aftB x.w b f:=⟨_,rfl⟩;rw[←hR0];have HR:=hid hR0;clear hR0;have HON:=hid (fun W' (hb:Below W.heap.size W W')=>w_on x f W' (h.on hb) hf);have HA:=hid (show aftB x.w b f=(decide (2<=onN x.w f)&&(if b<0 then decide (hgt x.w f<=x.w.c.fi) else decide (b<(f:Int))&&decide (hgt x.w f-hgt x.w b.toNat<=x.w.c.le-x.w.c.la))) from rfl);have lx:=x0.lt;have b0:=x0.cell 0;have b1:=x0.cell 1;have b2:=x0.cell 2;have b3:=x0.cell 3;have b4:=x0.cell 4;have b5:=x0.cell 5;have b6:=x0.cell 6;have b7:=x0.cell 7;simp only[GA] at b0 b1 b2 b3 b4 b5 b6 b7;go_enter Tryz.func227,Tryz.ntmps227
 go_upto_region 1 with fail
 have h1:=h.on B0;generalize W.alloc (.cells x.A 273)=w1 at *;have hz1:=B0.size;by_cases h2:2<=onN x.w f
 ·have g2:¬((onN x.w f:Nat):Int)<2:=by omega
  rw[decide_eq_true h2,Bool.true_and] at HA;by_cases hbn:b<0
  ·rw[if_pos hbn] at HA;generalize onN x.w f=N at *;go_upto_region 4 with (go_at_call 229;((with_reducible refine(HON.out _ B0).mono ?_);rintro e w2 ⟨⟨oA,oc,rfl⟩,hb2⟩))
   have hr:=h1.on hb2;have hx:=x0.below hb2 lx;have b0:=hx.cell 0;have b1:=hx.cell 1;have b2:=hx.cell 2;have b3:=hx.cell 3;have b4:=hx.cell 4;have b5:=hx.cell 5;have b6:=hx.cell 6;have b7:=hx.cell 7;simp only[GA] at b0 b1 b2 b3 b4 b5 b6 b7;have BW:=below_tr B0 hb2;have lx2:=hx.lt;have HH1:=hid (fun W' (hb:Below w2.heap.size w2 W')=>w_height x f W' (hr.on hb) hf);clear hx hr h1 x0 HON;generalize hgt x.w f=H at *;refine wp_region_noPanic ?_;refine th w2 fun hS0=>?_;refine tq 0 ?_;refine tq 1 ?_;refine tq 3 ?_;refine tq 4 ?_;refine tq 5 ?_;refine tr 2 fun K hK=>?_;go_simp
   (go_at_call 249;((with_reducible refine(HH1.out _ bl).mono ?_);rintro e w3 ⟨rfl,hb3⟩;obtain⟨hc3,hf3,hz3⟩:=qz hb3))
   refine hK.out _ _ kq (fun hS1=>?_);clear hK K;try simp only[AP]
   refine tq 6 ?_;refine tq 7 ?_;refine wpAnyH_done (by kernel_rfl) (NoPanic.normal ?_) _;go_wp2;go_ret;exact⟨ret_bool (by rw[HR.out,HA.out]),below_tr BW bl⟩
  ·rw[if_neg hbn] at HA;obtain⟨m,rfl⟩:=Int.eq_ofNat_of_zero_le (show 0<=b by omega);have hm:m<x.w.d.length:=by omega
   have m0:=nn m;rw[Int.toNat_natCast] at HA;have hbf:=h.hb hf;have hbm:=h.hb hm;have hle:=h.le;have hla:=h.la;have hw2:IntKind.i64.wrap (x.w.c.le-x.w.c.la)=x.w.c.le-x.w.c.la:=fits_wrap ⟨by omega,by omega⟩;by_cases hmf:(m:Int)<(f:Int)
   ·rw[decide_eq_true hmf,Bool.true_and] at HA;generalize onN x.w f=N at *;have hmf2:m<f:=by omega
    go_upto_region 5 with (go_at_call 229;((with_reducible refine(HON.out _ B0).mono ?_);rintro e w2 ⟨⟨oA,oc,rfl⟩,hb2⟩))
    have hr:=h1.on hb2;have hx:=x0.below hb2 lx;have b0:=hx.cell 0;have b1:=hx.cell 1;have b2:=hx.cell 2;have b3:=hx.cell 3;have b4:=hx.cell 4;have b5:=hx.cell 5;have b6:=hx.cell 6;have b7:=hx.cell 7;simp only[GA] at b0 b1 b2 b3 b4 b5 b6 b7;have BW:=below_tr B0 hb2;have lx2:=hx.lt;have HH1:=hid (fun W' (hb:Below w2.heap.size w2 W')=>w_height x f W' (hr.on hb) hf);have HH2:=hid (fun W' (hb:Below w2.heap.size w2 W')=>w_height x m W' (hr.on hb) hm);clear hx hr h1 x0 HON;generalize hgt x.w f=H at *;generalize hgt x.w m=F at *;have hw1:IntKind.i64.wrap (H-F)=H-F:=fits_wrap ⟨by omega,by omega⟩;refine wp_region_noPanic ?_;refine th w2 fun hS0=>?_;refine tq 0 ?_;refine tq 1 ?_;refine tq 2 ?_;refine tq 3 ?_;refine tq 4 ?_;refine tq 5 ?_;refine tq 7 ?_;refine tq 8 ?_;refine tq 11 ?_;refine tq 12 ?_;refine tq 13 ?_;refine tq 14 ?_;refine tq 15 ?_;refine tq 16 ?_;refine tq 17 ?_;refine tr 6 fun K hK=>?_;go_simp
    (go_at_call 249;((with_reducible refine(HH1.out _ bl).mono ?_);rintro e w3 ⟨rfl,hb3⟩;obtain⟨hc3,hf3,hz3⟩:=qz hb3))
    refine hK.out _ _ kq (fun hS1=>?_);clear hK K;try simp only[AP]
    refine tr 9 fun K hK=>?_;go_simp
    (go_at_call 249;((with_reducible refine(HH2.out _ bl).mono ?_);rintro e w4 ⟨rfl,hb4⟩;obtain⟨hc4,hf4,hz4⟩:=qz hb4))
    refine hK.out _ _ kq (fun hS2=>?_);clear hK K;try simp only[AP]
    refine tq 10 ?_;refine tq 18 ?_;refine tq 19 ?_;refine tq 20 ?_;refine wpAnyH_done (by kernel_rfl) (NoPanic.normal ?_) _;go_wp2;go_ret;exact⟨ret_bool (by rw[HR.out,HA.out]),below_tr BW bl⟩
   ·rw[decide_eq_false hmf,Bool.false_and] at HA;generalize onN x.w f=N at *;have hmf2:¬m<f:=by omega
    have hmf3:decide (m<f)=false:=decide_eq_false hmf2;have hmf4:decide ((m:Int)<(f:Int))=false:=decide_eq_false hmf;go_upto_region 5 with (go_at_call 229;((with_reducible refine(HON.out _ B0).mono ?_);rintro e w2 ⟨⟨oA,oc,rfl⟩,hb2⟩))
    have hr:=h1.on hb2;have hx:=x0.below hb2 lx;have b0:=hx.cell 0;have b1:=hx.cell 1;have b2:=hx.cell 2;have b3:=hx.cell 3;have b4:=hx.cell 4;have b5:=hx.cell 5;have b6:=hx.cell 6;have b7:=hx.cell 7;simp only[GA] at b0 b1 b2 b3 b4 b5 b6 b7;have BW:=below_tr B0 hb2;have lx2:=hx.lt;clear hx hr h1 x0 HON;refine wp_region_noPanic ?_;refine th w2 fun hS0=>?_;refine tq 0 ?_;refine tq 1 ?_;refine tq 2 ?_;refine tq 3 ?_;refine tv 4 ?_;refine tv 5 ?_;refine tv 6 ?_;refine tv 7 ?_;refine tv 8 ?_;refine tv 9 ?_;refine tv 10 ?_;refine tv 11 ?_;refine tv 12 ?_;refine tv 13 ?_;refine tv 14 ?_;refine tv 15 ?_;refine tv 16 ?_;refine tv 17 ?_;refine tv 18 ?_;refine tq 19 ?_;refine tq 20 ?_;refine wpAnyH_done (by kernel_rfl) (NoPanic.normal ?_) _;go_wp2;go_ret;exact⟨ret_bool (by rw[HR.out,HA.out]),below_tr BW bl⟩
 ·have g2:((onN x.w f:Nat):Int)<2:=by omega
  rw[decide_eq_false h2,Bool.false_and] at HA;generalize onN x.w f=N at *;go_wp2_with (go_at_call 229;((with_reducible refine(HON.out _ B0).mono ?_);rintro e w2 ⟨⟨oA,oc,rfl⟩,hb2⟩))
  go_ret;exact⟨ret_bool (by rw[HR.out,HA.out]),below_tr B0 hb2⟩
theorem w_afterV {x:LWl} {b:Int} {f:Nat} {W:World} {v:Bool} (hv:aftB x.w b f=v) (h:WlAt W x) (hf:f<x.w.d.length) (hbl:b<(x.w.d.length:Int)):
  Calls Tryz.prog 227 #[.agg x.A,.int .i64 b,.int .i64 (f:Nat)] W fun e w'=>e=.returned (.bool v)∧Below W.heap.size W w':=hv▸w_after x b f W h hf hbl
theorem w_endsV {x:LWl} {f:Nat} {W:World} {v:Bool} (hv:endB x.w f=v) (h:WlAt W x) (hf:f<x.w.d.length):
  Calls Tryz.prog 248 #[.agg x.A,.int .i64 (f:Nat)] W fun e w'=>e=.returned (.bool v)∧Below W.heap.size W w':=hv▸w_ends x f W h hf
end Go.Proofs.YtjkkfcghkeoedaaGreatDoor.Fi
