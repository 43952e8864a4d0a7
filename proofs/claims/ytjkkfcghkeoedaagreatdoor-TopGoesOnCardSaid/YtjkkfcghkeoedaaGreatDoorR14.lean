/- The parts of the proof, part 14. -/
import Derived.Test.YtjkkfcghkeoedaaGreatDoorR0
import Derived.Test.YtjkkfcghkeoedaaGreatDoorR12
import Derived.Deep.AppendLies
set_option maxHeartbeats 16000000
set_option maxRecDepth 20000
set_option linter.unusedSimpArgs false
set_option linter.unusedVariables false
namespace Go.Proofs.YtjkkfcghkeoedaaGreatDoor.Fi
open Go.RowKit Go.Lib Go.Maps Tx
theorem upM_comm (a m n:Int):upM (upM a m) n=upM (upM a n) m:=by unfold upM;grind
theorem upM_no {a m:Int} (h:¬0<m):upM a m=a:=by unfold upM;rw[if_neg (fun q=>h q.1)]
theorem upF_filter (a:Int) (l:List Int):l.foldl upM a=(l.filter fun m=>decide (0<m)).foldl upM a:=by
 induction l generalizing a with
 |nil=>rfl
 |cons m l ih=>
  by_cases h:0<m
  ·rw[List.filter_cons_of_pos (by simpa using h),List.foldl_cons,List.foldl_cons,ih]
  ·rw[List.filter_cons_of_neg (by simpa using h),List.foldl_cons,upM_no h,ih]
theorem upF_perm {l m:List Int} (h:l.Perm m) (a:Int):l.foldl upM a=m.foldl upM a:=by
 induction h generalizing a with
 |nil=>rfl
 |cons x _ ih=>simp only[List.foldl_cons];exact ih _
 |swap x y l=>simp only[List.foldl_cons];rw[upM_comm]
 |trans _ _ h1 h2=>rw[h1,h2]
theorem upF_one (l:List Int):l.foldl upM 1=1:=by
 induction l with
 |nil=>rfl
 |cons m l ih=>
  have:upM 1 m=1:=by unfold upM;rw[if_neg (by omega)]
  rw[List.foldl_cons,this,ih]
theorem upF_bd (l:List Int) (a B:Int) (h0:0<=a) (ha:a<=B) (hl:∀m∈l,m+1<=B):0<=l.foldl upM a∧l.foldl upM a<=B:=by
 induction l generalizing a with
 |nil=>exact⟨h0,ha⟩
 |cons m l ih=>
  rw[List.foldl_cons];have h1:=hl m (List.mem_cons_self ..);refine ih _ ?_ ?_ fun x hx=>hl x (List.mem_cons_of_mem _ hx)
  ·unfold upM;split<;>omega
  ·unfold upM;split<;>omega
theorem nds_len (c:Cl):∀l,(nds c l).length=l.length
 |[]=>rfl
 |j::r=>by simp[nds,nds_len c r]
theorem nds_drop (c:Cl):∀(l:List Jt) (k:Nat),(nds c l).drop k=nds c (l.drop k)
 |[],k=>by simp[nds]
 |j::r,0=>rfl
 |j::r,k+1=>by simp only[nds,List.drop_succ_cons];exact nds_drop c r k
theorem ndA_head {c:Cl} {l:List Jt} {k:Nat} {j:Jt} (h:l[k]?=some j):ndA c l k=if j.s=true then (if lastB c j=true then 1 else (((l.drop (k+1)).zip (nds c (l.drop (k+1)))).filter fun q=>decide (q.1.h-j.h<=c.ga)).foldl (fun a q=>upM a q.2) 0) else 0:=by
 have hk:=(List.getElem?_eq_some_iff.1 h).1;have e:l.drop k=j::l.drop (k+1):=by
  rw[List.drop_eq_getElem_cons hk];congr 1;rw[List.getElem?_eq_getElem hk] at h;exact Option.some.inj h
 have h1:=nds_drop c l k;rw[e] at h1;have h2:(nds c l).getD k 0=((nds c l).drop k).getD 0 0:=by simp[List.getD_eq_getElem?_getD]
 unfold ndA;rw[h2,h1];rfl
theorem ndA_bd (c:Cl) (l:List Jt):∀k,0<=ndA c l k∧ndA c l k<=l.length:=by
 have go:∀l,∀m∈nds c l,0<=m∧m<=(l.length:Int):=fun l=>by
  induction l with
  |nil=>intro m hm;cases hm
  |cons j r ih=>
   intro m hm;rw[nds] at hm;rcases List.mem_cons.1 hm with rfl|hm
   ·split
    ·split
     ·simp;omega
     ·rw[show(((r.zip (nds c r)).filter fun q=>decide (q.1.h-j.h<=c.ga)).foldl (fun a q=>upM a q.2) 0)=(((r.zip (nds c r)).filter fun q=>decide (q.1.h-j.h<=c.ga)).map (·.2)).foldl upM 0 by rw[List.foldl_map]];have:=upF_bd (((r.zip (nds c r)).filter fun q=>decide (q.1.h-j.h<=c.ga)).map (·.2)) 0 ((r.length:Int)+1) (by omega) (by omega) fun m hm=>by
       obtain⟨q,hq,rfl⟩:=List.mem_map.1 hm;have:=ih q.2 (List.of_mem_zip (show(q.1,q.2)∈_ from(List.mem_filter.1 hq).1)).2;omega
      simp only[List.length_cons];omega
    ·simp;omega
   ·have:=ih m hm;simp only[List.length_cons];omega
 intro k;unfold ndA;rw[List.getD_eq_getElem?_getD];cases h:(nds c l)[k]? with
 |none=>simp
 |some m=>exact go l m (List.mem_of_getElem? h)
theorem ndA_sound {c:Cl} {l:List Jt} {k:Nat} (h:(jAt l k).s=false):ndA c l k=0:=by
 unfold jAt at h;cases hk:l[k]? with
 |none=>
  unfold ndA;rw[List.getD_eq_getElem?_getD,List.getElem?_eq_none];· rfl
  rw[nds_len];exact List.getElem?_eq_none_iff.1 hk
 |some j=>
  rw[ndA_head hk,if_neg];rw[hk] at h;simpa using h
def MpIs (w:World) (b n:Nat) (f:Nat->Int):Prop:=∃D,G.OZ w b n D∧Tidy D∧∀k:Nat,D.atKey (G.kyZ (k:Nat)) (G.i64d 0)=G.i64d (f k)∧Maps.has D (G.kyZ (k:Nat))=decide (f k≠0)
theorem mp_made (w:World):MpIs (w.alloc (.map #[] 0)) w.heap.size 0 fun _=>0:=⟨.map [],World.ownsMap_made w _ _ _,tidy_empty,fun _=>⟨rfl,rfl⟩⟩
theorem mp_stp {N:Nat->Prop} {w w':World} {b n:Nat} {f:Nat->Int} (h:MpIs w b n f) (k:Stp N w w') (hn:¬N b):MpIs w' b n f:=by
 obtain⟨D,h1,h2⟩:=h;exact⟨D,G.oz_stp h1 k hn,h2⟩
theorem mp_lt {w:World} {b n:Nat} {f:Nat->Int} (h:MpIs w b n f):b<w.heap.size:=by
 obtain⟨D,⟨es,clock,hb,_⟩,_⟩:=h;exact lt_of_block hb
theorem mp_on {w w':World} {b n:Nat} {f:Nat->Int} (h:MpIs w b n f) (hb:Below w.heap.size w w'):MpIs w' b n f:=
 mp_stp h ((Stp.refl (fun _=>False) w).below hb (Nat.le_refl _)) (fun q=>q)
set_option maxRecDepth 100000 in
theorem mp_look {w:World} {b n:Nat} {f:Nat->Int} (h:MpIs w b n f) (k:Nat) (hk:k<=9223372036854775807):
  (Instr.lookup 305 (.map (some b)) (.int .i64 (k:Nat)) false).run Tryz.prog w=.ok (.int .i64 (f k)) w:=by
 obtain⟨D,h1,h2,h3⟩:=h;obtain⟨c,hr,hc,_⟩:=h1.lookup_int G.lawZ G.und_mapZ G.und_int (G.zeroN _) (G.keyZ (WalkArith.wf_i64 (n:=((k:Nat):Int)) (by omega)));have:=(h3 k).1;have e:=hc.symm.trans this;injection e with e
 injection e with _ e
 rw[hr,e]
set_option maxRecDepth 100000 in
theorem mp_look_ok {w:World} {b n:Nat} {f:Nat->Int} (h:MpIs w b n f) (k:Nat) (hk:k<=9223372036854775807):
  (Instr.lookup 305 (.map (some b)) (.int .i64 (k:Nat)) true).run Tryz.prog w=.ok (.tuple #[.int .i64 (f k),.bool (decide (f k≠0))]) w:=by
 obtain⟨D,h1,h2,h3⟩:=h;obtain⟨v,ps,hr,hv⟩:=h1.look_ok G.lawZ G.und_mapZ (G.zeroN _) (plainElem_int (P:=Tryz.prog) G.und_int (by decide:(Lit.int .i64 0).wf=true)) (G.keyZ (WalkArith.wf_i64 (n:=((k:Nat):Int)) (by omega)));obtain⟨c,rfl,hc,_⟩:=plainElem_int_inv G.und_int hv;have e1:=congrArg Prod.fst hc;have e:=e1.symm.trans ((h3 k).1);injection e with e
 injection e with _ e
 rw[hr,(h3 k).2,e]
theorem mp_put {w':World} {b n:Nat} {f:Nat->Int} {D:DataW Unit} {k:Nat} {v:Int} (h2:Tidy D) (h3:∀k:Nat,D.atKey (G.kyZ (k:Nat)) (G.i64d 0)=G.i64d (f k)∧Maps.has D (G.kyZ (k:Nat))=decide (f k≠0)) (hv:v≠0)
  (hw:G.OZ w' b n (D.put (G.kyZ (k:Nat)) (G.i64d v))):MpIs w' b n fun x=>if x=k then v else f x:=by
 refine⟨_,hw,h2.put (G.kyZL _) _,fun x=>?_⟩;dsimp only;by_cases h:x=k
 ·subst h;simp only[↓reduceIte];exact⟨atKey_put_same h2.isMap (G.kyZL _) _ _,by rw[has_put_same h2.isMap (G.kyZL _),decide_eq_true hv]⟩
 ·simp only[h,↓reduceIte];have hne:G.kyZ ((x:Nat):Int)≠G.kyZ ((k:Nat):Int):=fun e=>h (by unfold G.kyZ at e;injection e with _ e;omega);exact⟨by rw[atKey_put_other hne];exact(h3 x).1,by rw[has_put_other hne];exact(h3 x).2⟩
theorem sdN_yes {l:List Jt} {k:Nat} (h:(jAt l k).s=true):sdN l (k+1)=sdN l k++[k]:=by unfold sdN;rw[List.range_succ,List.filter_append];simp[h]
theorem sdN_no {l:List Jt} {k:Nat} (h:(jAt l k).s=false):sdN l (k+1)=sdN l k:=by unfold sdN;rw[List.range_succ,List.filter_append];simp[h]
theorem sdN_len (l:List Jt) (k:Nat):(sdN l k).length<=k:=by have:=List.length_filter_le (fun i=>(jAt l i).s) (List.range k);simpa[sdN] using this
theorem sdN_mem {l:List Jt} {k n:Nat} (h:n∈sdN l k):n<k∧(jAt l n).s=true:=by unfold sdN at h;rw[List.mem_filter,List.mem_range] at h;exact h
structure JB (l:List Jt):Prop where
 h:∀(k:Nat) (x:Jt),l[k]?=some x->1<=x.h∧x.h<=200000
 n:l.length<=200
theorem jb_of {l:List Jt} (h:vJ l=true):JB l:=by
 unfold vJ at h;rw[Bool.and_eq_true,List.all_eq_true,decide_eq_true_eq] at h;refine⟨fun k x hx=>?_,h.2⟩;have h1:=h.1 k (by rw[List.mem_range];exact(List.getElem?_eq_some_iff.1 hx).1);unfold okJ at h1;rw[jAt_of hx,Bool.and_eq_true,wn_iff] at h1;exact h1.1
theorem info_intF:∃i:TypeInfo,Tryz.prog.info? 3=some i∧i.zero=some (.int .i64 0)∧i.size=1∧i.bytes=8:=info_parts (by kernel_rfl)
theorem l_sound (A:Option Addr) (l:List Jt) (c:Nat) (w:World) (hl:l.length<=100000) (hR:Rd Jt.cs 2 w A l):
  Calls Tryz.prog 323 #[.slice A l.length c] w fun e w'=>∃v,e=.returned v∧w'.ownsRow w.heap.size 3 1 v (sdN l l.length).length (S.natV (sdN l l.length))∧Below w.heap.size w w':=by
 obtain⟨i0,hi,hi1,hi2,hi3⟩:=info_intF;have HN:=hid (fun k h=>sdN_no (l:=l) (k:=k) h);have HY:=hid (fun k h=>sdN_yes (l:=l) (k:=k) h);have HLn:=hid (fun k=>sdN_len l k);go_enter Tryz.func323,Tryz.ntmps323
 go_wp2;go_loopw [3,8] (fun v i wr=>∃k:Nat,k<=l.length∧i=.int .i64 k∧Below w.heap.size w wr∧wr.ownsRow w.heap.size 3 1 v (sdN l k).length (S.natV (sdN l k))) (fun _ i _=>l.length-(RowKit.intOf i).toNat)
 case atStart=>exact⟨0,by omega,rfl,below_refl _,World.ownsRow_nil w _ _ _⟩
 case round=>
  obtain⟨k,hk,rfl,hbw,hown⟩:=hrel;obtain⟨ad,cp,rfl⟩:=own_slice hown;have hbvs:=hbw.size;have k0:=nn k;by_cases hlt:k<l.length
  ·have k1:(k:Int)<(l.length:Int):=by omega
   obtain⟨x,b,off,hx,rfl,hb,c0,c1⟩:=rdJ (hR.on hbw) hlt;have hj:=jAt_of hx;obtain⟨XH,XS⟩:=x;dsimp only at *;clear hx;have hkl:=HLn.out k;cases XS
   ·have hq:=HN.out k (by rw[hj]);clear hj;go_wp2;go_roundw
    case rel=>exact⟨k+1,by omega,by go_num,bl_alloc hbw _,by rw[hq];exact hown.alloc _⟩
    case measure=>simp[RowKit.intOf];omega
   ·have hq:=HY.out k (by rw[hj]);clear hj;go_upto_region 6 with fail
    have bj:=bl_alloc hbw (.cells #[.int .i64 XH,.bool true] 144);have oj:=hown.alloc (.cells #[.int .i64 XH,.bool true] 144);have sj:=bj.size;generalize wr.alloc (.cells #[.int .i64 XH,.bool true] 144)=wj at *;go_wp2_with (at_builtin;(refine wpList_append_own _ rfl _ _ 40 rfl w.heap.size 3 i0 (.int .i64 0) 1 8 (by kernel_rfl) hi hi1 hi2 hi3 rfl (by omega) _ _ _ rfl (oj.alloc _) ⟨wj.heap.size,0,none⟩ 1 1 [.int .i64 (k:Nat)] rfl rfl (cells_new wj [.int .i64 (k:Nat)] 3) (fun u hu=>by simp at hu;subst hu;rfl) (by unfold maxLen;omega) (by omega) (by simp;omega) ?_;intro v4 w4 hown4 hgrow4 _))
    have B4:Below w.heap.size w w4:=bl_app bj oj hgrow4 (Nat.le_refl _) sj;have e4:(sdN l (k+1)).length=(sdN l k).length+1:=by rw[hq];simp
    have hown5:w4.ownsRow w.heap.size 3 1 v4 (sdN l (k+1)).length (S.natV (sdN l (k+1))):=by rw[e4,hq];simpa[S.natV] using hown4
    clear hown4 hgrow4 hown;go_wp2;go_roundw
    case rel=>exact⟨k+1,by omega,by go_num,B4,hown5⟩
    case measure=>simp[RowKit.intOf];omega
  ·obtain rfl:k=l.length:=by omega
   go_wp2;go_ret;exact⟨_,rfl,hown,hbw⟩
theorem l_follows (c:Cl) (A:Option Addr) (l:List Jt) (cc:Nat) (b:Int) (n:Nat) (w:World) (hJ:JB l) (hn:n<l.length) (hb:b<(l.length:Int)) (hR:Rd Jt.cs 2 w A l):
  Calls Tryz.prog 222 #[clV c,.slice A l.length cc,.int .i64 b,.int .i64 (n:Nat)] w fun e w'=>e=.returned (.bool (folB c l b n))∧Below w.heap.size w w':=by
 have x0:=Blk.new w 25 (clA c);have B0:=bl_alloc (below_refl w) (.cells (clA c) 25);have hn2:=hJ.n;have n0:=nn n;have n1:(n:Int)<(l.length:Int):=by omega
 obtain⟨x,bb,off,hx,rfl,hbl,c0,c1⟩:=rdJ (hR.on B0) hn;obtain⟨x1,x2⟩:=hJ.h n x hx;have HX:=hid (jAt_of hx);have q0:=x0.cell 0;have q1:=x0.cell 1;simp only[GA] at q0 q1;by_cases hbn:b<0
 ·have HE:=hid (show folB c l b n=decide (x.h<=c.fi) by unfold folB;rw[if_pos hbn,HX.out]);rw[HE.out];clear hx hR HE HX;cases h3:decide (x.h<=c.fi)
  all_goals
   go_enter Tryz.func222,Tryz.ntmps222
   go_wp2_with fail
   go_quiet (fail)
   go_wp2;go_ret;exact⟨rfl,bl⟩
 ·obtain⟨m,rfl⟩:=Int.eq_ofNat_of_zero_le (show 0<=b by omega);have hm:m<l.length:=by omega
  obtain⟨y,b',off',hy,e',hb',d0,d1⟩:=rdJ (hR.on B0) hm;cases e';obtain⟨y1,y2⟩:=hJ.h m y hy;have HY:=hid (jAt_of hy);have hw1:IntKind.i64.wrap (x.h-y.h)=x.h-y.h:=fits_wrap ⟨by omega,by omega⟩;have m0:=nn m;have m1:(m:Int)<(l.length:Int):=by omega
  have HE:=hid (show folB c l (m:Int) n=(decide ((m:Int)<(n:Int))&&decide (x.h-y.h<=c.ga)) by unfold folB;rw[if_neg hbn,HX.out,Int.toNat_natCast,HY.out]);rw[HE.out];clear hx hy hR HE HX HY;by_cases h2:(m:Int)<(n:Int)
  ·rw[decide_eq_true h2,Bool.true_and];have g2:m<n:=by omega
   cases h3:decide (x.h-y.h<=c.ga)
   all_goals
    go_enter Tryz.func222,Tryz.ntmps222
    go_wp2_with fail
    go_quiet (fail)
    go_wp2;go_ret;exact⟨rfl,bl⟩
  ·have g1:decide ((m:Int)<(n:Int))=false:=decide_eq_false h2;have g2:decide (m<n)=false:=decide_eq_false (by omega);rw[g1,Bool.false_and];go_enter Tryz.func222,Tryz.ntmps222
   go_wp2_with fail
   go_quiet (fail)
   go_wp2;go_ret;exact⟨rfl,bl⟩
theorem l_followsV {c:Cl} {A:Option Addr} {l:List Jt} {cc:Nat} {b:Int} {n:Nat} {w:World} {v:Bool} (h:folB c l b n=v) (hJ:JB l) (hn:n<l.length) (hb:b<(l.length:Int)) (hR:Rd Jt.cs 2 w A l):
  Calls Tryz.prog 222 #[clV c,.slice A l.length cc,.int .i64 b,.int .i64 (n:Nat)] w fun e w'=>e=.returned (.bool v)∧Below w.heap.size w w':=h▸l_follows c A l cc b n w hJ hn hb hR
def accN (c:Cl) (l:List Jt) (d:Nat) (a0:Int) (q:List Nat):Int:=q.foldl (fun a x=>if folB c l (d:Int) x=true then upM a (ndA c l x) else a) a0
theorem accN_snoc (c:Cl) (l:List Jt) (d:Nat) (a0:Int) (q:List Nat) (x:Nat):accN c l d a0 (q++[x])=if folB c l (d:Int) x=true then upM (accN c l d a0 q) (ndA c l x) else accN c l d a0 q:=by unfold accN;rw[List.foldl_append];rfl
theorem accN_fold (c:Cl) (l:List Jt) (d:Nat) (a0:Int) (q:List Nat):accN c l d a0 q=((q.filter fun x=>folB c l (d:Int) x).map (ndA c l)).foldl upM a0:=by
 unfold accN;rw[List.foldl_map,List.foldl_filter]
theorem accN_bd {c:Cl} {l:List Jt} {d:Nat} {a0:Int} {q:List Nat} (h:a0=0∨a0=1):0<=accN c l d a0 q∧accN c l d a0 q<=l.length+1:=by
 rw[accN_fold];refine upF_bd _ _ _ (by omega) (by omega) fun m hm=>?_;obtain⟨x,_,rfl⟩:=List.mem_map.1 hm;have:=ndA_bd c l x;omega
theorem acc_nd {c:Cl} {l:List Jt} {d:Nat} {j:Jt} {q:List Nat} (hj:l[d]?=some j) (hs:j.s=true) (hq:q.Perm ((sdN l l.length).filter fun x=>decide (d<x))):
  accN c l d (if lastB c j=true then 1 else 0) q=ndA c l d:=by
 rw[accN_fold,ndA_head hj,if_pos hs];by_cases hl:lastB c j=true
 ·rw[if_pos hl,if_pos hl,upF_one]
 rw[if_neg hl,if_neg hl];have e1:((((l.drop (d+1)).zip (nds c (l.drop (d+1)))).filter fun q=>decide (q.1.h-j.h<=c.ga)).foldl (fun a q=>upM a q.2) 0)=((((l.drop (d+1)).zip (nds c (l.drop (d+1)))).filter fun q=>decide (q.1.h-j.h<=c.ga)).map (·.2)).foldl upM 0:=by rw[List.foldl_map]
 have hd:=(List.getElem?_eq_some_iff.1 hj).1;have e3:((List.range l.length).filter fun x=>decide (d<x))=(List.range (l.length-(d+1))).map (fun x=>x+(d+1)):=by
  have:List.range l.length=List.range (d+1)++(List.range (l.length-(d+1))).map (fun x=>x+(d+1)):=by
   conv=>lhs;rw[show l.length=(d+1)+(l.length-(d+1)) by omega,List.range_add]
   congr 1;apply List.map_congr_left;intro x _;omega
  rw[this,List.filter_append,List.filter_eq_nil_iff.2 (fun x hx=>by rw[List.mem_range] at hx;simp;omega),List.nil_append,List.filter_eq_self.2];intro x hx;obtain⟨y,_,rfl⟩:=List.mem_map.1 hx;simp;omega
 have e2:((l.drop (d+1)).zip (nds c (l.drop (d+1))))=((List.range l.length).filter fun x=>decide (d<x)).map fun x=>(jAt l x,ndA c l x):=by
  rw[←nds_drop];apply List.ext_getElem?;intro i;rw[e3,List.map_map,List.getElem?_map];rcases Nat.lt_or_ge i (l.length-(d+1)) with hi|hi
  ·have h1:(l.drop (d+1))[i]?=some (l[i+(d+1)]'(by omega)):=by rw[List.getElem?_drop,show d+1+i=i+(d+1) by omega,List.getElem?_eq_getElem (by omega)]
   have h2:((nds c l).drop (d+1))[i]?=some ((nds c l)[i+(d+1)]'(by rw[nds_len];omega)):=by rw[List.getElem?_drop,show d+1+i=i+(d+1) by omega,List.getElem?_eq_getElem]
   have h3:((l.drop (d+1)).zip ((nds c l).drop (d+1)))[i]?=some (l[i+(d+1)]'(by omega),(nds c l)[i+(d+1)]'(by rw[nds_len];omega)):=List.getElem?_zip_eq_some.2 ⟨h1,h2⟩;rw[h3,List.getElem?_eq_getElem (by simpa using hi)];simp only[List.getElem_range,Option.map_some,Function.comp];congr 1;unfold jAt ndA;rw[List.getElem?_eq_getElem (by omega),List.getD_eq_getElem?_getD,List.getElem?_eq_getElem];rfl
  ·rw[List.getElem?_eq_none (by simp;omega),List.getElem?_eq_none (by simpa using hi)];rfl
 have e6:(((l.drop (d+1)).zip (nds c (l.drop (d+1)))).filter fun q=>decide (q.1.h-j.h<=c.ga)).map (·.2)=(((List.range l.length).filter fun x=>decide (d<x)).filter fun x=>decide ((jAt l x).h-j.h<=c.ga)).map (ndA c l):=by
  rw[e2,List.filter_map,List.map_map];rfl
 have e4:∀(L:List Nat),(L.map (ndA c l)).filter (fun m=>decide (0<m))=(L.filter fun x=>decide (0<ndA c l x)).map (ndA c l):=fun L=>by
  rw[List.filter_map];rfl
 rw[e1,e6,upF_filter 0 (List.map (ndA c l) ((q.filter _))),e4,upF_filter 0 (List.map (ndA c l) (List.filter (fun x=>decide ((jAt l x).h-j.h<=c.ga)) _)),e4];refine upF_perm ?_ 0;refine List.Perm.map _ ?_;have p1:=(hq.filter fun x=>folB c l (d:Int) x).filter fun x=>decide (0<ndA c l x);refine p1.trans (List.Perm.of_eq ?_);unfold sdN;rw[List.filter_filter,List.filter_filter,List.filter_filter,List.filter_filter,List.filter_filter];apply List.filter_congr;intro x hx;have hxs:(jAt l x).s=false->¬0<ndA c l x:=fun h=>by rw[ndA_sound h];omega
 by_cases h1:0<ndA c l x
 ·have h2:(jAt l x).s=true:=by cases h:(jAt l x).s;exact absurd h1 (hxs h);rfl
  rw[decide_eq_true h1,h2];by_cases h3:d<x
  ·have h4:folB c l (d:Int) x=decide ((jAt l x).h-j.h<=c.ga):=by
    unfold folB;rw[if_neg (by omega),decide_eq_true (show(d:Int)<(x:Int) by omega),Bool.true_and,Int.toNat_natCast,jAt_of hj]
   rw[h4,decide_eq_true h3];simp
  ·rw[decide_eq_false h3];simp
 ·rw[decide_eq_false h1];simp
theorem sdN_nodup (l:List Jt) (k:Nat):(sdN l k).Nodup:=List.Nodup.sublist List.filter_sublist List.nodup_range
theorem sdN_asc (l:List Jt) (k:Nat):(sdN l k).Pairwise (· < ·):=List.Pairwise.sublist List.filter_sublist List.pairwise_lt_range
theorem rev_take {l:List Jt} {k d:Nat} (h:(sdN l l.length).reverse[k]?=some d):((sdN l l.length).reverse.take k).Perm ((sdN l l.length).filter fun x=>decide (d<x)):=by
 obtain⟨s,hs⟩:∃s,s=sdN l l.length:=⟨_,rfl⟩;have ha:=sdN_asc l l.length;rw[←hs] at h ha ⊢;have e:∀s:List Nat,s.Pairwise (· < ·)->∀k d,s.reverse[k]?=some d->(s.reverse.take k)=(s.filter fun x=>decide (d<x)).reverse:=fun s=>by
  induction s with
  |nil=>intro _ k d h;simp at h
  |cons x r ih=>
   intro ha k d h;obtain⟨h1,h2⟩:=List.pairwise_cons.1 ha;rw[List.reverse_cons] at h ⊢;rcases Nat.lt_trichotomy k r.length with hk|hk|hk
   ·rw[List.getElem?_append_left (by simpa using hk)] at h;rw[List.take_append_of_le_length (by simp;omega),ih h2 k d h,List.filter_cons_of_neg];have:d∈r:=by have:=List.mem_of_getElem? h;simpa using this
    have:=h1 d this;simp;omega
   ·subst hk;rw[List.getElem?_append_right (by simp)] at h;simp at h;subst h;rw[List.take_append_of_le_length (by simp),List.take_of_length_le (by simp),List.filter_cons_of_neg (by simp),List.filter_eq_self.2];intro y hy;simpa using h1 y hy
   ·rw[List.getElem?_eq_none (by simp;omega)] at h;cases h
 rw[e s ha k d h];exact(List.reverse_perm _)
theorem natV_fl (q:List Nat):S.natV q=fl nC q:=by
 unfold S.natV fl nC;induction q with
 |nil=>rfl
 |cons x q ih=>rw[List.map_cons,ih];rfl
theorem natV_rd {w:World} {base:Nat} {A:Option Addr} {c:Nat} {q:List Nat} (h:w.ownsRow base 3 1 (.slice A q.length c) q.length (S.natV q)):Rd nC 1 w A q:=own_rd' nC_len (by rw[natV_fl] at h;exact h)
theorem rd_keep {α:Type} {enc:α->List Value} {sz mb:Nat} {w w3 wr:World} {A:Option Addr} {l:List α} (h:Rd enc sz w A l) (hb:Below w.heap.size w w3) (hs:Stp (fun x=>x=mb) w3 wr) (hm:w.heap.size<=mb):Rd enc sz wr A l:=fun hne=>by
 obtain⟨b,off,e,hlt,hc⟩:=h hne;have h1:=hb.size;exact⟨b,off,e,by have:=hs.size;omega,fun k x hx j v hv=>hs.cell (((bcell hb).1 b _ hlt).trans (hc k x hx j v hv)) (by omega)⟩
theorem rd_nat {w:World} {A:Option Addr} {q:List Nat} (h:Rd nC 1 w A q) {k:Nat} (hk:k<q.length):
  ∃x b off,q[k]?=some x∧A=some ⟨b,off,none⟩∧b<w.heap.size∧w.cell? ⟨b,off+k,none⟩=some (.int .i64 (x:Nat)):=by
 obtain⟨x,hx⟩:=get_lt hk;obtain⟨b,off,e,hb,hc⟩:=h.get hx;have:=hc 0 _ rfl;rw[Nat.mul_one,Nat.add_zero] at this;exact⟨x,b,off,hx,e,hb,this⟩
def ctF (c:Cl) (l:List Jt) (q:List Nat) (k:Nat) (x:Nat):Int:=if x∈q.take k then ndA c l x else 0
theorem ct_zero (c:Cl) (l:List Jt) (q:List Nat):ctF c l q 0=fun _=>0:=by funext x;unfold ctF;rw[List.take_zero,if_neg (List.not_mem_nil)]
theorem ct_step {c:Cl} {l:List Jt} {q:List Nat} {k d:Nat} (h:q[k]?=some d):ctF c l q (k+1)=fun x=>if x=d then ndA c l d else ctF c l q k x:=by
 funext x
 unfold ctF;rw[List.take_add_one,h];by_cases hx:x=d
 ·subst hx;rw[if_pos (by simp),if_pos rfl]
 ·rw[if_neg hx];by_cases hm:x∈q.take k
  ·rw[if_pos hm,if_pos (by simp[hm])]
  ·rw[if_neg hm,if_neg (by simp[hm,hx])]
theorem ct_self {c:Cl} {l:List Jt} {q:List Nat} {k d:Nat} (hn:q.Nodup) (h:q[k]?=some d):ctF c l q k d=0:=by
 unfold ctF;rw[if_neg];intro hm;obtain⟨j,hj,e⟩:=List.getElem_of_mem hm;rw[List.getElem_take] at e;rw[List.length_take] at hj;have h1:q[j]?=some d:=by rw[List.getElem?_eq_getElem (by omega),e]
 have:j=k:=by first|exact List.getElem?_inj (by omega) hn (h1.trans h.symm)|exact(List.getElem?_inj (by omega) hn).1 (h1.trans h.symm)
 omega
theorem ct_at {c:Cl} {l:List Jt} {q:List Nat} {k j x:Nat} (hj:j<k) (h:q[j]?=some x):ctF c l q k x=ndA c l x:=by
 unfold ctF;rw[if_pos];refine List.mem_of_getElem? (i:=j) ?_;rw[List.getElem?_take,if_pos hj,h]
def ctI (f:Nat->Int) (d:Nat) (a:Int) (x:Nat):Int:=if x=d then a else f x
theorem mp_eq {w:World} {b n:Nat} {f g:Nat->Int} (h:MpIs w b n f) (e:f=g):MpIs w b n g:=e▸h
theorem ctI_put (f:Nat->Int) (d:Nat) (a a':Int):(fun x=>if x=d then a' else ctI f d a x)=ctI f d a':=by funext x;unfold ctI;split<;>simp_all
theorem l_counts (c:Cl) (A:Option Addr) (l:List Jt) (cc:Nat) (w:World) (hJ:JB l) (hga:1<=c.ga∧c.ga<=200000) (hR:Rd Jt.cs 2 w A l):
  Calls Tryz.prog 322 #[clV c,.slice A l.length cc] w fun e w'=>∃b n,e=.returned (.map (some b))∧w.heap.size<=b∧MpIs w' b n (ctF c l (sdN l l.length).reverse (sdN l l.length).reverse.length)∧Below w.heap.size w w':=by
 have x0:=Blk.new w 25 (clA c);have B0:=bl_alloc (below_refl w) (.cells (clA c) 25);have hn2:=hJ.n;have HS:=hid (fun W (h:Below w.heap.size w W)=>l_sound A l cc W (by omega) (hR.on h));have hmm:=@run_makeMap Tryz.prog;have hq:=sdN_nodup l l.length;have hqm:∀x∈(sdN l l.length).reverse,x<l.length∧(jAt l x).s=true:=fun x hx=>sdN_mem (List.mem_reverse.1 hx);have hql:(sdN l l.length).reverse.length<=l.length:=by rw[List.length_reverse];exact sdN_len l l.length
 have hrt:=hid (fun k d h=>rev_take (l:=l) (k:=k) (d:=d) h);have hqn:(sdN l l.length).reverse.Nodup:=(List.reverse_perm _).nodup_iff.2 hq;have hsl:(sdN l l.length).length<=100000:=by have:=sdN_len l l.length;omega
 obtain⟨q,hqq⟩:∃q,q=(sdN l l.length).reverse:=⟨_,rfl⟩;rw[←hqq] at hqm hql hrt hqn ⊢;go_enter Tryz.func322,Tryz.ntmps322
 go_upto_region 4 with (first
  |(go_at_call 323;((with_reducible refine(HS.out _ (bl_alloc B0 _)).mono ?_);rintro e w1 ⟨v1,rfl,hv1,hb1⟩;obtain⟨A1,c1,rfl⟩:=own_slice hv1))
  |(go_at_call 324;((with_reducible refine(S.s_reverse _ _ _ _ hv1 hsl).mono ?_);rintro e w3 ⟨rfl,hv3,hb3⟩)))
 have hz1:=hb1.size;rw[World.size_alloc,World.size_alloc] at hz1 hv1 hb3;rw[World.size_alloc,World.size_alloc] at hv3;have b3:Below (w.heap.size+1+1) ((w.alloc (.cells (clA c) 25)).alloc (.map #[] 0)) w3:=(hb1.mono (by simp)).trans hb3;have hm3:MpIs w3 (w.heap.size+1) 0 (fun _=>0):=by
  have h:=mp_made (w.alloc (.cells (clA c) 25));rw[World.size_alloc] at h;exact mp_on h (b3.mono (by simp))
 have hx3:Blk w3 w.heap.size 25 (clA c):=(x0.alloc (.map #[] 0)).below b3 (by omega);have B3:Below w.heap.size w w3:=(bl_alloc (bl_alloc (below_refl w) (.cells (clA c) 25)) (.map #[] 0)).trans (b3.mono (by omega));have hz3:w.heap.size+2<=w3.heap.size:=by have:=b3.size;simp at this;omega
 have hge:=own_ge hv3;have hl2:(sdN l l.length).length=q.length:=by rw[hqq,List.length_reverse]
 rw[←hqq] at hv3;rw[hl2] at hv3 hge ⊢;have hrq:Rd nC 1 w3 A1 q:=natV_rd hv3;have hc1:=(own_caps hv3).1;have HQK:Hid (∀wr,Stp (fun x=>x=w.heap.size+1) w3 wr->Rd nC 1 wr A1 q):=hid fun wr hs hne=>by
  obtain⟨b,off,e,hlt,hc⟩:=hrq hne;have:=hge b (by rw[e];rfl);exact⟨b,off,e,by have:=hs.size;omega,fun k x hx j v hv=>hs.cell (hc k x hx j v hv) (by omega)⟩
 have HRK:Hid (∀wr,Stp (fun x=>x=w.heap.size+1) w3 wr->Rd Jt.cs 2 wr A l):=hid fun wr hs=>rd_keep hR B3 hs (by omega);have hct0:=ct_zero c l q;have HBX:Hid (∀wr,Stp (fun x=>x=w.heap.size+1) w3 wr->Blk wr w.heap.size 25 (clA c)∧Below w.heap.size w wr):=hid fun wr hs=>⟨hs.blk hx3 (by omega),B3.trans (hs.toBelow (by omega) (fun b hb=>by omega))⟩;clear hv1 hb1 hb3 b3 hv3 hge hrq hR x0 B0 HS hmm hl2;clear hqq hq hsl hz1;go_wp2;go_loopw [20] (fun i wr=>∃k n:Nat,k<=q.length∧i=.int .i64 k∧Stp (fun x=>x=w.heap.size+1) w3 wr∧MpIs wr (w.heap.size+1) n (ctF c l q k)∧n<=300*k) (fun i _=>q.length-(RowKit.intOf i).toNat)
 case atStart=>exact⟨0,0,by omega,rfl,Stp.refl _ _,by rw[hct0];exact hm3,by omega⟩
 case round=>
  obtain⟨k,n,hk,rfl,hst,hmp,hnk⟩:=hrel;rename World=>wr
  have k0:=nn k;by_cases hlt:k<q.length
  ·have k1:(k:Int)<(q.length:Int):=by omega
   obtain⟨d,ab,ao,hd,rfl,hab,d0⟩:=rd_nat (HQK.out wr hst) hlt;obtain⟨hdl,hds⟩:=hqm d (List.mem_of_getElem? hd);have dd0:=nn d;have dd1:(d:Int)<(l.length:Int):=by omega
   obtain⟨jd,jb,jo,hjd,rfl,hjb,e0,e1⟩:=rdJ (HRK.out wr hst) hdl;obtain⟨hbx,hbw⟩:=HBX.out wr hst;have b0:=hbx.cell 0;have b1:=hbx.cell 1;have b2:=hbx.cell 2;have b3:=hbx.cell 3;have b4:=hbx.cell 4;have b5:=hbx.cell 5;simp only[GA] at b0 b1 b2 b3 b4 b5;have hJd:=hJ.h d jd hjd;have HLS:=hid (fun W=>l_last c jd W (by omega) (by omega));have HJD:=hid hjd;have HD:=hid hd;obtain⟨JH,JS⟩:=jd;dsimp only at *;clear hjd hd;go_upto_region 7 with fail
   refine wp_region_still_tail 5 (by kernel_rfl) (by kernel_rfl) ?_;change wpStill _ _ wr.drew _ _ _
   simp only[List.take_succ_cons,List.take_zero,List.drop_succ_cons,List.drop_zero];repeat still_step
   refine wpStill_nil ?_;change wpList _ _ _ _ _ wr.drew
   have hst1:=hst.drew;have hmp1:MpIs wr.drew (w.heap.size+1) n (ctF c l q k):=mp_on hmp (below_draw (below_refl wr));have hself:=ct_self (c:=c) (l:=l) hqn HD.out
   have hmp2:MpIs wr.drew (w.heap.size+1) n (ctI (ctF c l q k) d 0):=mp_eq hmp1 (by funext x;unfold ctI;split;· rename_i h;rw[h,hself]
                                                                                    ·rfl)
   have hszd:wr.drew.heap.size=wr.heap.size:=rfl;have hlm:=mp_lt hmp1;clear hst hmp hmp1 b0 b1 b2 b3 b4 b5 e0 e1 d0 hbx hbw hself;generalize wr.drew=wd at *;have BD:∀W,Below wd.heap.size wd W->Stp (fun x=>x=w.heap.size+1) w3 W:=fun W h=>hst1.below h hst1.size;have hkey:keyOf Tryz.prog 3 (.int .i64 (d:Nat))=some (G.kyZ (d:Nat)):=G.keyZ (WalkArith.wf_i64 (by omega));go_upto_if 30 with (go_at_call 223;((with_reducible refine(HLS.out _).mono ?_);rintro e w5 ⟨rfl,hb5⟩))
   go_cut [] (fun wx=>Stp (fun x=>x=w.heap.size+1) w3 wx∧∃n',n'<=300*k+1∧MpIs wx (w.heap.size+1) n' (ctI (ctF c l q k) d (if lastB c ⟨JH,JS⟩=true then 1 else 0)))
   case first=>
    have hmp5:=mp_on hmp2 hb5;have hst5:=BD _ hb5;cases hL:lastB c ⟨JH,JS⟩
    ·go_wp2;go_meet
     exact⟨hst5,n,by omega,by rw[hL,if_neg (by simp)];exact hmp5⟩
    ·obtain⟨D,hoz,htd,hfd⟩:=hmp5
     go_wp2_with (first
      |(at_mapUpdate;refine wpList_mapUpdate_own _ rfl _ _ _ 305 rfl 3 3 G.lawZ G.und_mapZ _ (w.heap.size+1) n _ rfl hoz (by unfold maxLen;omega) _ _ _ rfl rfl hkey _ [] (plainElem_int G.und_int (WalkArith.wf_i64 (by omega))) ?_;intro w6 hown6 hgrow6)
      |go_in)
     have hst6:=hst5.grown hgrow6 (fun r h=>by injection h with h;exact .inl h.symm);have hm6:=mp_eq (mp_put htd hfd (by decide) hown6) (ctI_put _ _ _ _);clear hown6 hgrow6 hoz;go_wp2;go_meet
     exact⟨hst6,n+1,by omega,by rw[hL,if_pos rfl];exact hm6⟩
   case rest=>
    obtain⟨hst5,n5,hn5,hm5⟩:=hcut;clear hst1 hmp2 hb5 BD HLS;generalize wc=w6 at *;have kc1:(k:Int)<=(c1:Int):=by omega
    have hjs:(⟨JH,JS⟩:Jt).s=true:=by rw[←hds,jAt_of HJD.out]
    have HACC:=hid (acc_nd (c:=c) HJD.out hjs (hrt.out k d HD.out));have ha01:(if lastB c ⟨JH,JS⟩=true then (1:Int) else 0)=0∨(if lastB c ⟨JH,JS⟩=true then (1:Int) else 0)=1:=by split<;>simp
    generalize (if lastB c ⟨JH,JS⟩=true then (1:Int) else 0)=a0 at *;have hw5:=hst5.size;clear hjs;go_wp2;go_loopw [37] (fun i wv=>∃j m:Nat,j<=k∧i=.int .i64 j∧Stp (fun x=>x=w.heap.size+1) w3 wv∧MpIs wv (w.heap.size+1) m (ctI (ctF c l q k) d (accN c l d a0 (q.take j)))∧m<=300*k+1+j) (fun i _=>k-(RowKit.intOf i).toNat)
    case atStart=>exact⟨0,n5,by omega,rfl,hst5,hm5,by omega⟩
    case round=>
     obtain⟨j,m,hj,rfl,hst6,hm6,hmj⟩:=hrel;rename World=>wv
     have j0:=nn j;by_cases hjk:j<k
     ·have j1:(j:Int)<(k:Int):=by omega
      obtain⟨x,ab',ao',hx,e',hab',x0⟩:=rd_nat (HQK.out wv hst6) (show j<q.length by omega);cases e';obtain⟨hxl,_⟩:=hqm x (List.mem_of_getElem? hx);obtain⟨hbx,hbw⟩:=HBX.out wv hst6;have b0:=hbx.cell 0;have b1:=hbx.cell 1;have b2:=hbx.cell 2;have b3:=hbx.cell 3;have b4:=hbx.cell 4;have b5:=hbx.cell 5;simp only[GA] at b0 b1 b2 b3 b4 b5;have hxd:x≠d:=fun e=>by
       subst e;have:j=k:=by first|exact List.getElem?_inj (by omega) hqn (hx.trans HD.out.symm)|exact(List.getElem?_inj (by omega) hqn).1 (hx.trans HD.out.symm)
       omega
      have hval:ctI (ctF c l q k) d (accN c l d a0 (q.take j)) x=ndA c l x:=by unfold ctI;rw[if_neg hxd];exact ct_at hjk hx
      have hself:ctI (ctF c l q k) d (accN c l d a0 (q.take j)) d=accN c l d a0 (q.take j):=by unfold ctI;simp
      have hlo:=mp_look_ok hm6 x (by omega);rw[hval] at hlo;have hsn:q.take (j+1)=q.take j++[x]:=by rw[List.take_add_one,hx];rfl
      have HSN:=hid ((congrArg (accN c l d a0) hsn).trans (accN_snoc c l d a0 (q.take j) x));have hnb:=ndA_bd c l x;have hab2:=accN_bd (c:=c) (l:=l) (d:=d) (q:=q.take j) ha01;have HLK:Hid (∀W,Below wv.heap.size wv W->(Instr.lookup 305 (.map (some (w.heap.size+1))) (.int .i64 (d:Nat)) false).run Tryz.prog W=.ok (.int .i64 (accN c l d a0 (q.take j))) W):=hid fun W h=>by
       have:=mp_look (mp_on hm6 h) d (by omega);rwa [hself] at this
      have HFO:=hid (fun v (h:folB c l (d:Int) x=v)=>l_followsV (cc:=cc) h hJ hxl (show(d:Int)<(l.length:Int) by omega) (HRK.out wv hst6));have BD6:∀W,Below wv.heap.size wv W->Stp (fun x=>x=w.heap.size+1) w3 W:=fun W h=>hst6.below h hst6.size;clear hx hsn hval hself;generalize accN c l d a0 (q.take j)=aj at *;by_cases hN0:ndA c l x=0
      ·rw[hN0] at hlo;have hlo2:(Instr.lookup 305 (.map (some (w.heap.size+1))) (.int .i64 (x:Nat)) true).run Tryz.prog wv=.ok (.tuple #[.int .i64 0,.bool false]) wv:=hlo;have HS2:=hid (show accN c l d a0 (q.take (j+1))=aj by
        rw[HSN.out,hN0];split
        ·exact upM_no (by omega)
        ·rfl)
       clear HSN hlo HFO HLK;go_wp2;go_roundw
       case rel=>exact⟨j+1,m,by omega,by go_num,hst6,by rw[HS2.out];exact hm6,by omega⟩
       case measure=>simp[RowKit.intOf];omega
      ·have hN1:0<ndA c l x:=by omega
       have hlo2:(Instr.lookup 305 (.map (some (w.heap.size+1))) (.int .i64 (x:Nat)) true).run Tryz.prog wv=.ok (.tuple #[.int .i64 (ndA c l x),.bool true]) wv:=by rw[hlo,decide_eq_true hN0]
       generalize ndA c l x=N at *;clear hlo;cases hv:folB c l (d:Int) x
       ·have HF:=hid (HFO.out _ hv);have HS2:=hid (show accN c l d a0 (q.take (j+1))=aj by rw[HSN.out,hv];rfl);clear HFO HLK HSN;go_wp2_with (go_at_call 222;((with_reducible refine HF.out.mono ?_);rintro e w7 ⟨rfl,hb7⟩))
        go_roundw
        case rel=>exact⟨j+1,m,by omega,by go_num,BD6 _ hb7,by rw[HS2.out];exact mp_on hm6 hb7,by omega⟩
        case measure=>simp[RowKit.intOf];omega
       ·have HF:=hid (HFO.out _ hv);rw[hv,if_pos rfl] at HSN;have hwN:IntKind.i64.wrap (N+1)=N+1:=fits_wrap ⟨by omega,by omega⟩;clear HFO hv;by_cases hup:aj=0∨N+1<aj
        ·have HS2:=hid (show accN c l d a0 (q.take (j+1))=N+1 by rw[HSN.out];unfold upM;rw[if_pos ⟨hN1,hup⟩]);clear HSN;rcases (by omega:aj=0∨(¬aj=0∧N+1<aj)) with h0|⟨h0,h1⟩
         ·subst h0;go_upto_region 14 with (go_at_call 222;((with_reducible refine HF.out.mono ?_);rintro e w7 ⟨rfl,hb7⟩;have hl7:=HLK.out w7 hb7))
          obtain⟨D,hoz,htd,hfd⟩:=mp_on hm6 hb7;have hst7:=BD6 _ hb7
          go_wp2_with (first
           |(at_mapUpdate;refine wpList_mapUpdate_own _ rfl _ _ _ 305 rfl 3 3 G.lawZ G.und_mapZ _ (w.heap.size+1) m _ rfl hoz (by unfold maxLen;omega) _ _ _ rfl rfl hkey _ [] (plainElem_int G.und_int (WalkArith.wf_i64 (by omega))) ?_;intro w8 hown8 hgrow8)
           |go_in)
          have hst8:=hst7.grown hgrow8 (fun r h=>by injection h with h;exact .inl h.symm);have hm8:=mp_eq (mp_put htd hfd (show N+1≠0 by omega) hown8) (ctI_put _ _ _ _);clear hown8 hgrow8 hoz;go_wp2;go_roundw
          case rel=>exact⟨j+1,m+1,by omega,by go_num,hst8,by rw[HS2.out];exact hm8,by omega⟩
          case measure=>simp[RowKit.intOf];omega
         ·have g0:(aj==0)=false:=beq_eq_false_iff_ne.2 h0;go_upto_region 14 with (go_at_call 222;((with_reducible refine HF.out.mono ?_);rintro e w7 ⟨rfl,hb7⟩;have hl7:=HLK.out w7 hb7))
          obtain⟨D,hoz,htd,hfd⟩:=mp_on hm6 hb7;have hst7:=BD6 _ hb7
          go_wp2_with (first
           |(at_mapUpdate;refine wpList_mapUpdate_own _ rfl _ _ _ 305 rfl 3 3 G.lawZ G.und_mapZ _ (w.heap.size+1) m _ rfl hoz (by unfold maxLen;omega) _ _ _ rfl rfl hkey _ [] (plainElem_int G.und_int (WalkArith.wf_i64 (by omega))) ?_;intro w8 hown8 hgrow8)
           |go_in)
          have hst8:=hst7.grown hgrow8 (fun r h=>by injection h with h;exact .inl h.symm);have hm8:=mp_eq (mp_put htd hfd (show N+1≠0 by omega) hown8) (ctI_put _ _ _ _);clear hown8 hgrow8 hoz;go_wp2;go_roundw
          case rel=>exact⟨j+1,m+1,by omega,by go_num,hst8,by rw[HS2.out];exact hm8,by omega⟩
          case measure=>simp[RowKit.intOf];omega
        ·have HS2:=hid (show accN c l d a0 (q.take (j+1))=aj by rw[HSN.out];unfold upM;rw[if_neg (fun h=>hup h.2)]);have g0:(aj==0)=false:=beq_eq_false_iff_ne.2 (fun h=>hup (.inl h));have g1:¬N+1<aj:=fun h=>hup (.inr h);clear HSN hup;go_wp2_with (go_at_call 222;((with_reducible refine HF.out.mono ?_);rintro e w7 ⟨rfl,hb7⟩;have hl7:=HLK.out w7 hb7))
         go_roundw
         case rel=>exact⟨j+1,m,by omega,by go_num,BD6 _ hb7,by rw[HS2.out];exact mp_on hm6 hb7,by omega⟩
         case measure=>simp[RowKit.intOf];omega
     ·obtain rfl:j=k:=by omega
      have HE:=hid (show ctI (ctF c l q j) d (accN c l d a0 (q.take j))=ctF c l q (j+1) by
       rw[ct_step HD.out,HACC.out];funext x
       unfold ctI;rfl)
      go_wp2;go_roundw
      case rel=>exact⟨j+1,m,by omega,by go_num,hst6,by rw[←HE.out];exact hm6,by omega⟩
      case measure=>simp[RowKit.intOf];omega
  ·obtain rfl:k=q.length:=by omega
   obtain⟨_,hbw⟩:=HBX.out wr hst;go_wp2;go_ret;exact⟨_,n,rfl,by omega,hmp,hbw⟩
end Go.Proofs.YtjkkfcghkeoedaaGreatDoor.Fi
