/- The parts of the proof, part 25. -/
import Derived.Test.YtjkkfcghkeoedaaGreatDoorR0
import Derived.Test.YtjkkfcghkeoedaaGreatDoorR24
import Derived.Maps.OwnSet
set_option maxHeartbeats 16000000
set_option maxRecDepth 20000
set_option linter.unusedSimpArgs false
set_option linter.unusedVariables false
namespace Go.Proofs.YtjkkfcghkeoedaaGreatDoor.Fi
open Go.RowKit Go.Lib Tx
def AnsP (br:St->Int->List UInt8) (x:St) (s:List UInt8) (w:World) (e:Ending) (w':World):Prop:=Below w.heap.size w w' ∧
 match ansO br x s with
 |some t=>e=.returned (.tuple #[.string (bts t),.bool true])
 |none=>e=.returned (.tuple #[.string ⟨#[]⟩,.bool false])
theorem ans_some {br:St->Int->List UInt8} {x:St} {s t:List UInt8} {w w':World} {v:ByteArray} (h:ansO br x s=some t) (hv:bts t=v) (hb:Below w.heap.size w w'):AnsP br x s w (.returned (.tuple #[.string v,.bool true])) w':=by
 unfold AnsP;rw[h];exact⟨hb,by rw[←hv]⟩
theorem ans_none {br:St->Int->List UInt8} {x:St} {s:List UInt8} {w w':World} (h:ansO br x s=none) (hb:Below w.heap.size w w'):AnsP br x s w (.returned (.tuple #[.string ⟨#[]⟩,.bool false])) w':=by
 unfold AnsP;rw[h];exact⟨hb,rfl⟩
def BrP (br:St->Int->List UInt8) (b:Nat) (L:LS) (w:World):Prop:=∀W,Below w.heap.size w W->∀k:Nat,k<L.sites.l.length->Calls Tryz.prog 117 #[.pointer (some ⟨b,0,none⟩),.int .i64 (k:Nat)] W fun e W'=>e=.returned (.string (bts (br L.val k)))∧Below W.heap.size W W'
theorem bs_bd (T:Nat->Bool):∀n lo hi:Nat,hi-lo<=n->S.bs T lo hi<=lo+(hi-lo)
 |n,lo,hi,hn=>by
  by_cases h:hi<=lo+1
  ·rw[S.bs_end h];omega
  ·cases n with
   |zero=>omega
   |succ n=>
    cases hT:T ((lo+hi)/2)
    ·rw[S.bs_no h hT];have:=bs_bd T n lo ((lo+hi)/2) (by omega);omega
    ·rw[S.bs_yes h hT];have:=bs_bd T n ((lo+hi)/2) hi (by omega);omega
theorem safe_bd (l:List S.Course) (k:Int):-1<=S.safeI l k∧S.safeI l k<=10001:=by
 have:=bs_bd (S.tight l k) 10001 0 10001 (by omega);unfold S.safeI;split<;>omega
theorem best_bd (v:Nat->Int) (hv:∀k,-1<=v k∧v k<=10001):∀k,(-1<=(S.best v k).1∧(S.best v k).1<=10001)∧0<=(S.best v k).2∧(S.best v k).2<=k
 |0=>by simp[S.best]
 |1=>by have:=hv 0;simp[S.best];omega
 |k+2=>by
  have h1:=best_bd v hv (k+1);have h2:=hv (k+1);unfold S.best;split
  ·dsimp only;omega
  ·omega
theorem hs_bd:∀l:List S.Course,(∀x∈l,1<=x.h∧x.h<=2000)->0<=S.hs l∧S.hs l<=2000*(l.length:Int)
 |[],_=>by simp[S.hs]
 |c::l,h=>by
  have h1:=hs_bd l (fun x hx=>h x (List.mem_cons_of_mem _ hx));have h2:=h c (List.mem_cons_self ..);unfold S.hs;rw[List.length_cons];omega
theorem least_bd {l:List S.Course}:I64 (S.leastR l).1∧I64 (S.leastR l).2.1∧I64 (S.leastR l).2.2:=by
 have h:=best_bd (fun k:Nat=>S.safeI l k) (fun k=>safe_bd l k) 4;unfold S.leastR I64;split
 ·split
  ·dsimp only;omega
  ·dsimp only;omega
 ·dsimp only;omega
theorem hgt_bd {l:List S.Course} (h:S.validC l=true):I64 (S.heightR l).1:=by
 have hb:=hs_bd l (fun x hx=>by
  have:=List.all_eq_true.1 (S.valid_all h).1 x hx;unfold S.soundB at this;have:=S.wn_iff.1 (Bool.and_eq_true_iff.1 this).1;omega)
 have:=(S.valid_all h).2;unfold S.heightR I64;rw[if_pos h];dsimp only;omega
theorem numV_bd {r:List UInt8} (h:T6.numB r=true):-1000000000000000<=T6.numV r∧T6.numV r<=1000000000000000:=((T6.num_iff r).1 h).2
theorem f_answer {br:St->Int->List UInt8} {b:Nat} {L:LS} {T:Nat->Prop} {w:World} (s:List UInt8) (hF:FirmAt w b L T) (hI:Inv L.val) (hE:Env w b L) (hs:s.length<=70000) (hB:(cut s [32]).1=[98,101,97,114,115]->BrP br b L w):
  Calls Tryz.prog 64 #[.pointer (some ⟨b,0,none⟩),.string (bts s)] w (AnsP br L.val s w):=by
 have hsl:L.sites.l.length<=8:=hI.slen;have lb:=hF.blk.lt;have c17:w.cell? ⟨b,17,none⟩=some (.int .i64 L.day):=hF.cel 17 _ rfl;have c23:w.cell? ⟨b,23,none⟩=some (.int .i64 L.money):=hF.cel 23 _ rfl;have c20:w.cell? ⟨b,20,none⟩=some (.slice L.sites.a L.sites.l.length L.sites.c):=hF.cel 20 _ rfl;have c0:w.cell? ⟨b,0,none⟩=some (.slice L.x.stk.a L.x.stk.l.length L.x.stk.c):=hF.cel 0 _ rfl;have dd0:0<=L.day:=hI.d0;have dd1:L.day<=100000:=hI.d1;have mm0:0<=L.money:=hI.m0;have mm1:L.money<=1000000000000:=hI.m1;have HS:=hid (bts_emp s);have HCU:=hid (c_Cut1 32 s w (by omega) hE.ld);have hcs:=cut_szs 32 s
 have HNM:=hid (fun W (h:Below w.heap.size w W)=>(show Calls Tryz.prog 113 #[.slice (some ⟨W.heap.size,0,none⟩) 1 1] (W.alloc (.cells #[.string (bts (cut s [32]).2.1)] 9)) (NumP [(cut s [32]).2.1] (W.alloc (.cells #[.string (bts (cut s [32]).2.1)] 9))) from
  f_numbers _ [(cut s [32]).2.1] 1 _ (by simp) (fun q hq=>by simp at hq;subst hq;omega) ((hE.ld.on h).on (bl_alloc (below_refl _) _)) (rd_strnew W _)))
 have HW:=hid (bts_emp (cut s [32]).1);have HID:=hid (c_ItoaV L.day w (by omega) (by omega) hE.ld.tab);have HIM:=hid (c_ItoaV L.money w (by omega) (by omega) hE.ld.tab);have HGO:=hid (hF.goes hI)
 have HAN:=hid (show ansO br L.val s=if s=[110,111,119] then some (nT L.day) else if s=[109,111,110,101,121] then some (nT L.money)
  else if s=[103,111,101,115] then some (if goB L.val L.val.gusts=true then [121,101,115] else [110,111])
  else if T6.numB (cut s [32]).2.1=false then none
  else if qWd (cut s [32]).1=false then none
  else if thB L.val (T6.numV (cut s [32]).2.1)=false then some (errT 5)
  else if (cut s [32]).1=[97,108,111,102,116] then some (nT (siteA L.val (T6.numV (cut s [32]).2.1)).men)
  else if (cut s [32]).1=[104,101,105,103,104,116] then some (tldT (S.heightR (stkA L.val (T6.numV (cut s [32]).2.1))).2 [(S.heightR (stkA L.val (T6.numV (cut s [32]).2.1))).1])
  else if (cut s [32]).1=[115,97,102,101] then some (tldT (S.leastR (stkA L.val (T6.numV (cut s [32]).2.1))).2.2 [(S.leastR (stkA L.val (T6.numV (cut s [32]).2.1))).1,(S.leastR (stkA L.val (T6.numV (cut s [32]).2.1))).2.1])
  else some (br L.val (T6.numV (cut s [32]).2.1)) from rfl)
 generalize (cut s [32]).1=a at *;generalize (cut s [32]).2.1=r at *;generalize (cut s [32]).2.2=f at *;obtain⟨Sx,hSS⟩:∃Sx,Sx=bts s:=⟨_,rfl⟩;rw[←hSS] at HS HCU ⊢;clear hSS hcs;by_cases h_now:s=[110,111,119]
 ·have HA:=hid (show ansO br L.val s=some (nT L.day) by rw[HAN.out,if_pos h_now]);have q1:(Sx.toList==[110,111,119])=true:=by rw[HS.out,h_now];rfl
  go_enter Tryz.func64,Tryz.ntmps64
  go_wp2_with (go_at_call 70;((with_reducible refine HID.out.mono ?_);rintro e w3 ⟨rfl,hb3⟩))
  go_ret2;exact ans_some HA.out rfl hb3
 have q1:(Sx.toList==[110,111,119])=false:=by rw[HS.out];exact beq_eq_false_iff_ne.2 h_now
 by_cases h_mon:s=[109,111,110,101,121]
 ·have HA:=hid (show ansO br L.val s=some (nT L.money) by rw[HAN.out,if_neg h_now,if_pos h_mon]);have q2:(Sx.toList==[109,111,110,101,121])=true:=by rw[HS.out,h_mon];rfl
  go_enter Tryz.func64,Tryz.ntmps64
  go_wp2_with (go_at_call 70;((with_reducible refine HIM.out.mono ?_);rintro e w3 ⟨rfl,hb3⟩))
  go_ret2;exact ans_some HA.out rfl hb3
 have q2:(Sx.toList==[109,111,110,101,121])=false:=by rw[HS.out];exact beq_eq_false_iff_ne.2 h_mon
 by_cases h_goe:s=[103,111,101,115]
 ·have q3:(Sx.toList==[103,111,101,115])=true:=by rw[HS.out,h_goe];rfl
  cases hg:goB L.val L.val.gusts
  ·have HA:=hid (show ansO br L.val s=some [110,111] by rw[HAN.out,if_neg h_now,if_neg h_mon,if_pos h_goe,hg];rfl);rw[hg] at HGO;go_enter Tryz.func64,Tryz.ntmps64
   go_wp2_with (go_at_call 40;((with_reducible refine HGO.out.mono ?_);rintro e w3 ⟨rfl,hb3⟩))
   go_ret2;exact ans_some HA.out rfl hb3
  ·have HA:=hid (show ansO br L.val s=some [121,101,115] by rw[HAN.out,if_neg h_now,if_neg h_mon,if_pos h_goe,hg];rfl);rw[hg] at HGO;go_enter Tryz.func64,Tryz.ntmps64
   go_wp2_with (go_at_call 40;((with_reducible refine HGO.out.mono ?_);rintro e w3 ⟨rfl,hb3⟩))
   go_ret2;exact ans_some HA.out rfl hb3
 have q3:(Sx.toList==[103,111,101,115])=false:=by rw[HS.out];exact beq_eq_false_iff_ne.2 h_goe
 cases hnb:T6.numB r
 ·have HA:=hid (show ansO br L.val s=none by rw[HAN.out,if_neg h_now,if_neg h_mon,if_neg h_goe,if_pos hnb]);generalize bts a=SW at *;go_enter Tryz.func64,Tryz.ntmps64
  go_wp2_with (first|(go_at_call 112;((with_reducible refine HCU.out.mono ?_);rintro e w1 ⟨rfl,hb1⟩))|(go_at_call 113;((with_reducible refine(HNM.out w1 hb1).mono ?_);intro e w2 hn;obtain⟨rfl,hb2⟩:=num1_no hnb hn)))
  go_ret2;exact ans_none HA.out (below_tr (bl_alloc hb1 _) hb2)
 obtain⟨n0,n1⟩:=numV_bd hnb
 have HAB:=hid (show ansO br L.val s=if qWd a=false then none
  else if thB L.val (T6.numV r)=false then some (errT 5)
  else if a=[97,108,111,102,116] then some (nT (siteA L.val (T6.numV r)).men)
  else if a=[104,101,105,103,104,116] then some (tldT (S.heightR (stkA L.val (T6.numV r))).2 [(S.heightR (stkA L.val (T6.numV r))).1])
  else if a=[115,97,102,101] then some (tldT (S.leastR (stkA L.val (T6.numV r))).2.2 [(S.leastR (stkA L.val (T6.numV r))).1,(S.leastR (stkA L.val (T6.numV r))).2.1])
  else some (br L.val (T6.numV r)) by rw[HAN.out,if_neg h_now,if_neg h_mon,if_neg h_goe,if_neg (by rw[hnb];simp)])
 have hwl:IntKind.i64.wrap ((L.sites.l.length:Int)-1)=(L.sites.l.length:Int)-1:=fits_wrap ⟨by omega,by omega⟩;have HTH:=hid (show thB L.val (T6.numV r)=wn (T6.numV r) 0 ((L.sites.l.length:Int)-1) by unfold thB LS.val;dsimp only;rw[List.length_map]);clear HAN HID HIM HGO c17 c23;by_cases hq:qWd a=false
 ·have HA:=hid (show ansO br L.val s=none by rw[HAB.out,if_pos hq]);unfold qWd at hq;obtain⟨h1,hq⟩:=Bool.or_eq_false_iff.1 hq;obtain⟨h2,hq⟩:=Bool.or_eq_false_iff.1 hq;obtain⟨h3,h4⟩:=Bool.or_eq_false_iff.1 hq;have w1':((bts a).toList==[97,108,111,102,116])=false:=by rw[HW.out];exact beq_eq_false_iff_ne.2 (of_decide_eq_false h1)
  have w2':((bts a).toList==[104,101,105,103,104,116])=false:=by rw[HW.out];exact beq_eq_false_iff_ne.2 (of_decide_eq_false h2)
  have w3':((bts a).toList==[115,97,102,101])=false:=by rw[HW.out];exact beq_eq_false_iff_ne.2 (of_decide_eq_false h3)
  have w4':((bts a).toList==[98,101,97,114,115])=false:=by rw[HW.out];exact beq_eq_false_iff_ne.2 (of_decide_eq_false h4)
  clear h1 h2 h3 h4 hq;generalize bts a=SW at *;cases hwn:wn (T6.numV r) 0 ((L.sites.l.length:Int)-1)
  all_goals
   obtain⟨NV,hk⟩:∃z,T6.numV r=z:=⟨_,rfl⟩;rw[hk] at hwn;have HKK:=hid hk;clear hk;go_enter Tryz.func64,Tryz.ntmps64
   go_wp2_with (first|(go_at_call 112;((with_reducible refine HCU.out.mono ?_);rintro e w1 ⟨rfl,hb1⟩))|(go_at_call 113;((with_reducible refine(HNM.out w1 hb1).mono ?_);intro e w2 hn;obtain⟨nb,no,nc,rfl,cn,_,hb2⟩:=num1_yes hnb hn;rw[HKK.out] at cn;have hb3:=below_tr (bl_alloc hb1 (.cells #[.string (bts r)] 9)) hb2;have m20:=((bcell hb3).1 b 20 lb).trans c20;have m0:=((bcell hb3).1 b 0 lb).trans c0))|(go_at_call 24;((with_reducible refine(f_withinV hwn _).mono ?_);rintro e w' ⟨rfl,rfl⟩)))
   go_ret2;exact ans_none HA.out hb3
 have hq':qWd a=true:=by cases h:qWd a;exact absurd h hq;rfl
 have hor:a=[97,108,111,102,116]∨a=[104,101,105,103,104,116]∨a=[115,97,102,101]∨a=[98,101,97,114,115]:=by
  unfold qWd at hq';rcases Bool.or_eq_true_iff.1 hq' with h|hq'
  ·exact .inl (of_decide_eq_true h)
  ·rcases Bool.or_eq_true_iff.1 hq' with h|hq'
   ·exact .inr (.inl (of_decide_eq_true h))
   ·rcases Bool.or_eq_true_iff.1 hq' with h|h
    ·exact .inr (.inr (.inl (of_decide_eq_true h)))
    ·exact .inr (.inr (.inr (of_decide_eq_true h)))
 cases hwn:wn (T6.numV r) 0 ((L.sites.l.length:Int)-1)
 ·have HA:=hid (show ansO br L.val s=some (errT 5) by rw[HAB.out,if_neg hq,HTH.out,if_pos hwn]);have HFA:=hid (fun W (h:Below w.heap.size w W)=>f_failed 5 W (by decide) (hE.ld.on h));obtain⟨NV,hk⟩:∃z,T6.numV r=z:=⟨_,rfl⟩;rw[hk] at hwn;have HKK:=hid hk;clear hk;rcases hor with rfl|rfl|rfl|rfl
  all_goals
   (try rw[show bts [97,108,111,102,116]=(⟨#[97,108,111,102,116]⟩:ByteArray) from rfl] at HCU)
   (try rw[show bts [104,101,105,103,104,116]=(⟨#[104,101,105,103,104,116]⟩:ByteArray) from rfl] at HCU)
   (try rw[show bts [115,97,102,101]=(⟨#[115,97,102,101]⟩:ByteArray) from rfl] at HCU)
   (try rw[show bts [98,101,97,114,115]=(⟨#[98,101,97,114,115]⟩:ByteArray) from rfl] at HCU)
   go_enter Tryz.func64,Tryz.ntmps64
   go_wp2_with (first|(go_at_call 112;((with_reducible refine HCU.out.mono ?_);rintro e w1 ⟨rfl,hb1⟩))|(go_at_call 113;((with_reducible refine(HNM.out w1 hb1).mono ?_);intro e w2 hn;obtain⟨nb,no,nc,rfl,cn,_,hb2⟩:=num1_yes hnb hn;rw[HKK.out] at cn;have hb3:=below_tr (bl_alloc hb1 (.cells #[.string (bts r)] 9)) hb2;have m20:=((bcell hb3).1 b 20 lb).trans c20;have m0:=((bcell hb3).1 b 0 lb).trans c0))|(go_at_call 24;((with_reducible refine(f_withinV hwn _).mono ?_);rintro e w' ⟨rfl,rfl⟩))|(go_at_call 62;((with_reducible refine(HFA.out _ hb3).mono ?_);rintro e w4 ⟨rfl,hb4⟩)))
   go_ret2;exact ans_some HA.out rfl (below_tr hb3 hb4)
 have HAC:=hid (show ansO br L.val s=if a=[97,108,111,102,116] then some (nT (siteA L.val (T6.numV r)).men)
  else if a=[104,101,105,103,104,116] then some (tldT (S.heightR (stkA L.val (T6.numV r))).2 [(S.heightR (stkA L.val (T6.numV r))).1])
  else if a=[115,97,102,101] then some (tldT (S.leastR (stkA L.val (T6.numV r))).2.2 [(S.leastR (stkA L.val (T6.numV r))).1,(S.leastR (stkA L.val (T6.numV r))).2.1])
  else some (br L.val (T6.numV r)) by rw[HAB.out,if_neg hq,HTH.out,if_neg (by rw[hwn];simp)])
 obtain⟨z0,z1⟩:=wn_iff.1 hwn;obtain⟨k,hk⟩:=Int.eq_ofNat_of_zero_le z0;rw[hk] at hwn HAC;have HKK:=hid hk;have hkl:k<L.sites.l.length:=by omega
 obtain⟨si,hsi⟩:=get_lt hkl;obtain⟨sm0,sm1⟩:=hI.men hsi;obtain⟨y,hy⟩:=get_lt (show k<L.x.stk.l.length by rw[hI.lens.1];exact hkl);obtain⟨jb,jo,hja,ljb,hjc⟩:=hF.ok.su.stk.rd.get hy;have hyv:=(vSu_parts hI.su).2.2.1 y.l (by unfold LS.val LSu.val;exact List.mem_map.2 ⟨y,List.mem_of_getElem? hy,rfl⟩);have hyl:y.l.length<=100000:=by have:=(S.valid_all hyv).2.2;omega
 have cj:w.cell? ⟨jb,jo+k,none⟩=some (.slice y.a y.l.length y.c):=by have:=hjc 0 _ rfl;simpa using this
 have HSA:=hid (siteA_of hsi);have HTA:=hid (stkA_of hy);rw[hja] at c0;have k0:=nn k;have k1:(k:Int)<(L.x.stk.l.length:Int):=by rw[hI.lens.1];omega
 have HAL:=hid (fun W (h:Below w.heap.size w W)=>(hF.on h).aloft hI k hsi);have HHT:=hid (fun W (h:Below w.heap.size w W)=>S.s_height y.a y.l y.c W hyl ((hF.on h).ok.su.stks y (List.mem_of_getElem? hy)).rd);have HLE:=hid (fun W (h:Below w.heap.size w W)=>S.s_least y.a y.l y.c W hyl ((hF.on h).ok.su.stks y (List.mem_of_getElem? hy)).rd);have HEW:=hid (fun W (h:Below w.heap.size w W)=>hE.ld.on h);have hsk:L.x.stk.l.length=L.sites.l.length:=hI.lens.1;clear HAB HTH hjc hy hsi hk z0 z1 n0 n1 hq hq' hja;rcases hor with rfl|rfl|rfl|rfl
 ·have HA:=hid (show ansO br L.val s=some (nT si.men) by rw[HAC.out,if_pos rfl,HSA.out];rfl);have HIM:=hid (fun W (h:Below w.heap.size w W)=>c_ItoaV si.men W (by omega) (by omega) (hE.ld.on h).tab);rw[show bts [97,108,111,102,116]=(⟨#[97,108,111,102,116]⟩:ByteArray) from rfl] at HCU;go_enter Tryz.func64,Tryz.ntmps64
  go_wp2_with (first|(go_at_call 112;((with_reducible refine HCU.out.mono ?_);rintro e w1 ⟨rfl,hb1⟩))|(go_at_call 113;((with_reducible refine(HNM.out w1 hb1).mono ?_);intro e w2 hn;obtain⟨nb,no,nc,rfl,cn,_,hb2⟩:=num1_yes hnb hn;rw[HKK.out] at cn;have hb3:=below_tr (bl_alloc hb1 (.cells #[.string (bts r)] 9)) hb2;have m20:=((bcell hb3).1 b 20 lb).trans c20;have mj:=((bcell hb3).1 jb (jo+k) ljb).trans cj;have m0:=((bcell hb3).1 b 0 lb).trans c0))|(go_at_call 24;((with_reducible refine(f_withinV hwn _).mono ?_);rintro e w' ⟨rfl,rfl⟩))|(go_at_call 45;((with_reducible refine(HAL.out _ hb3).mono ?_);rintro e w4 ⟨rfl,hb4⟩))|(go_at_call 70;((with_reducible refine(HIM.out _ (below_tr hb3 hb4)).mono ?_);rintro e w5 ⟨rfl,hb5⟩)))
  go_ret2;exact ans_some HA.out rfl (below_tr hb3 (below_tr hb4 hb5))
 ·have HA:=hid (show ansO br L.val s=some (tldT (S.heightR y.l).2 [(S.heightR y.l).1]) by rw[HAC.out,if_neg (by decide),if_pos rfl,HTA.out]);have HTO:=hid (fun W (h:Below w.heap.size w W) (n:Nat) (hr:Rd zC 1 W (some ⟨n,0,none⟩) [(S.heightR y.l).1])=>(show Calls Tryz.prog 115 #[.int .i64 (S.heightR y.l).2,.slice (some ⟨n,0,none⟩) 1 1] W fun e w'=>e=.returned (.string (bts (tldT (S.heightR y.l).2 [(S.heightR y.l).1])))∧Below W.heap.size W w' from f_told _ _ [(S.heightR y.l).1] 1 W (hgt_e _) (by simp) (fun x hx=>by simp at hx;subst hx;exact hgt_bd hyv) (HEW.out W h) hr));have HRN:=hid (fun W=>(show Rd zC 1 (W.alloc (.cells #[.int .i64 (S.heightR y.l).1] 3)) (some ⟨W.heap.size,0,none⟩) [(S.heightR y.l).1] from rd_new W [(S.heightR y.l).1]));rw[show bts [104,101,105,103,104,116]=(⟨#[104,101,105,103,104,116]⟩:ByteArray) from rfl] at HCU;generalize (S.heightR y.l).1=H1 at *;generalize (S.heightR y.l).2=H2 at *;go_enter Tryz.func64,Tryz.ntmps64
  go_wp2_with (first|(go_at_call 112;((with_reducible refine HCU.out.mono ?_);rintro e w1 ⟨rfl,hb1⟩))|(go_at_call 113;((with_reducible refine(HNM.out w1 hb1).mono ?_);intro e w2 hn;obtain⟨nb,no,nc,rfl,cn,_,hb2⟩:=num1_yes hnb hn;rw[HKK.out] at cn;have hb3:=below_tr (bl_alloc hb1 (.cells #[.string (bts r)] 9)) hb2;have m20:=((bcell hb3).1 b 20 lb).trans c20;have mj:=((bcell hb3).1 jb (jo+k) ljb).trans cj;have m0:=((bcell hb3).1 b 0 lb).trans c0))|(go_at_call 24;((with_reducible refine(f_withinV hwn _).mono ?_);rintro e w' ⟨rfl,rfl⟩))|(go_at_call 114;((with_reducible refine(HHT.out _ hb3).mono ?_);rintro e w4 ⟨rfl,hb4⟩;have hb34:=bl_alloc (below_tr hb3 hb4) (.cells #[.int .i64 H1] 3)))|(go_at_call 115;((with_reducible refine(HTO.out _ hb34 _ (HRN.out w4)).mono ?_);rintro e w5 ⟨rfl,hb5⟩)))
  go_ret2;exact ans_some HA.out rfl (below_tr hb34 hb5)
 ·have HA:=hid (show ansO br L.val s=some (tldT (S.leastR y.l).2.2 [(S.leastR y.l).1,(S.leastR y.l).2.1]) by rw[HAC.out,if_neg (by decide),if_neg (by decide),if_pos rfl,HTA.out]);have HTO:=hid (fun W (h:Below w.heap.size w W) (n:Nat) (hr:Rd zC 1 W (some ⟨n,0,none⟩) [(S.leastR y.l).1,(S.leastR y.l).2.1])=>(show Calls Tryz.prog 115 #[.int .i64 (S.leastR y.l).2.2,.slice (some ⟨n,0,none⟩) 2 2] W fun e w'=>e=.returned (.string (bts (tldT (S.leastR y.l).2.2 [(S.leastR y.l).1,(S.leastR y.l).2.1])))∧Below W.heap.size W w' from f_told _ _ [(S.leastR y.l).1,(S.leastR y.l).2.1] 2 W least_bd.2.2 (by simp) (fun x hx=>by simp at hx;rcases hx with rfl|rfl;exact least_bd.1;exact least_bd.2.1) (HEW.out W h) hr));have HRN:=hid (fun W=>(show Rd zC 1 (W.alloc (.cells #[.int .i64 (S.leastR y.l).1,.int .i64 (S.leastR y.l).2.1] 3)) (some ⟨W.heap.size,0,none⟩) [(S.leastR y.l).1,(S.leastR y.l).2.1] from rd_new W [(S.leastR y.l).1,(S.leastR y.l).2.1]));rw[show bts [115,97,102,101]=(⟨#[115,97,102,101]⟩:ByteArray) from rfl] at HCU;generalize (S.leastR y.l).1=H1 at *;generalize (S.leastR y.l).2.1=H2 at *;generalize (S.leastR y.l).2.2=H3 at *;go_enter Tryz.func64,Tryz.ntmps64
  go_wp2_with (first|(go_at_call 112;((with_reducible refine HCU.out.mono ?_);rintro e w1 ⟨rfl,hb1⟩))|(go_at_call 113;((with_reducible refine(HNM.out w1 hb1).mono ?_);intro e w2 hn;obtain⟨nb,no,nc,rfl,cn,_,hb2⟩:=num1_yes hnb hn;rw[HKK.out] at cn;have hb3:=below_tr (bl_alloc hb1 (.cells #[.string (bts r)] 9)) hb2;have m20:=((bcell hb3).1 b 20 lb).trans c20;have mj:=((bcell hb3).1 jb (jo+k) ljb).trans cj;have m0:=((bcell hb3).1 b 0 lb).trans c0))|(go_at_call 24;((with_reducible refine(f_withinV hwn _).mono ?_);rintro e w' ⟨rfl,rfl⟩))|(go_at_call 116;((with_reducible refine(HLE.out _ hb3).mono ?_);rintro e w4 ⟨rfl,hb4⟩;have hb34:=bl_alloc (below_tr hb3 hb4) (.cells #[.int .i64 H1,.int .i64 H2] 3)))|(go_at_call 115;((with_reducible refine(HTO.out _ hb34 _ (HRN.out w4)).mono ?_);rintro e w5 ⟨rfl,hb5⟩)))
  go_ret2;exact ans_some HA.out rfl (below_tr hb34 hb5)
 ·have HA:=hid (show ansO br L.val s=some (br L.val (k:Int)) by rw[HAC.out,if_neg (by decide),if_neg (by decide),if_neg (by decide)]);have HBE:=hid (fun W (h:Below w.heap.size w W)=>hB rfl W h k hkl);rw[show bts [98,101,97,114,115]=(⟨#[98,101,97,114,115]⟩:ByteArray) from rfl] at HCU;go_enter Tryz.func64,Tryz.ntmps64
  go_wp2_with (first|(go_at_call 112;((with_reducible refine HCU.out.mono ?_);rintro e w1 ⟨rfl,hb1⟩))|(go_at_call 113;((with_reducible refine(HNM.out w1 hb1).mono ?_);intro e w2 hn;obtain⟨nb,no,nc,rfl,cn,_,hb2⟩:=num1_yes hnb hn;rw[HKK.out] at cn;have hb3:=below_tr (bl_alloc hb1 (.cells #[.string (bts r)] 9)) hb2;have m20:=((bcell hb3).1 b 20 lb).trans c20;have mj:=((bcell hb3).1 jb (jo+k) ljb).trans cj;have m0:=((bcell hb3).1 b 0 lb).trans c0))|(go_at_call 24;((with_reducible refine(f_withinV hwn _).mono ?_);rintro e w' ⟨rfl,rfl⟩))|(go_at_call 117;((with_reducible refine(HBE.out _ hb3).mono ?_);rintro e w4 ⟨rfl,hb4⟩)))
  go_ret2;exact ans_some HA.out rfl (below_tr hb3 hb4)
theorem nT_le {n:Int} (h:I64 n):(nT n).length<=20:=itoa_len h.1 h.2
theorem errT_len {e:Int} (h:I64 e):(errT e).length<=26:=by
 have:=nT_le h;unfold errT;simp;omega
theorem rep_len {c:Cm} {x:St} (hI:Inv x) (hc:CmOk c):(repT c x).length<=26:=by
 unfold repT;split
 ·exact errT_len doC_err
 ·have hok:okT.length<=26:=by decide
  cases c with
  |rig i l=>
   have h:=(inv_doC (c:=.rig i l) hI hc).rl;have:=nT_le (n:=(((doC (.rig i l) x).2.rigs.length:Nat):Int)-1) (by unfold I64;omega);dsimp only;omega
  |_=>exact hok
theorem wsT_len1 {a:Int} (h:I64 a):(wsT [a]).length<=21:=by have:=nT_le h;simp[wsT];omega
theorem wsT_len2 {a b:Int} (h:I64 a) (k:I64 b):(wsT [a,b]).length<=42:=by have:=nT_le h;have:=nT_le k;simp[wsT];omega
theorem tldT_len {e:Int} {l:List Int} (h:I64 e) (hl:(wsT l).length<=42):(tldT e l).length<=42:=by
 unfold tldT;split
 ·have:=errT_len h;omega
 ·simp;omega
theorem siteA_men {x:St} (hI:Inv x) (i:Int):I64 (siteA x i).men:=by
 unfold siteA;rw[List.getD_eq_getElem?_getD];cases h:x.sites[i.toNat]? with
 |none=>exact(by decide:I64 0)
 |some s=>
  have:=hI.sm s (List.mem_of_getElem? h);unfold I64;simp only[Option.getD_some];omega
theorem hgt_b (l:List S.Course):I64 (S.heightR l).1:=by
 cases h:S.validC l
 ·unfold S.heightR;rw[if_neg (by rw[h];simp)];exact(by decide:I64 0)
 ·exact hgt_bd h
theorem ans_len {br:St->Int->List UInt8} {x:St} {s t:List UInt8} (hI:Inv x) (hb:∀k,(br x k).length<=1000000) (h:ansO br x s=some t):t.length<=1000000:=by
 have d0:=hI.d0;have d1:=hI.d1;have m0:=hI.m0;have m1:=hI.m1;have e1:=nT_le (n:=x.day) (by unfold I64;omega);have e2:=nT_le (n:=x.money) (by unfold I64;omega);unfold ansO at h;split at h
 ·cases h;omega
 split at h
 ·cases h;omega
 split at h
 ·cases h;split<;>decide
 split at h
 ·cases h
 split at h
 ·cases h
 split at h
 ·cases h;have:=errT_len (e:=5) (by decide);omega
 split at h
 ·cases h;have:=nT_le (siteA_men hI (T6.numV (cut s [32]).2.1));omega
 split at h
 ·cases h;have:=tldT_len (e:=(S.heightR (stkA x (T6.numV (cut s [32]).2.1))).2) (hgt_e _) (Nat.le_trans (wsT_len1 (hgt_b (stkA x (T6.numV (cut s [32]).2.1)))) (by decide));omega
 split at h
 ·cases h;have hb:=least_bd (l:=stkA x (T6.numV (cut s [32]).2.1));have:=tldT_len (e:=(S.leastR (stkA x (T6.numV (cut s [32]).2.1))).2.2) hb.2.2 (wsT_len2 hb.1 hb.2.1);omega
 ·cases h;exact hb _
def stN (br:St->Int->List UInt8) (x:St) (P:List (List UInt8)) (k:Nat):List UInt8×St:=linsR br x (P.take k)
theorem stN_step {br:St->Int->List UInt8} {x:St} {P:List (List UInt8)} {k:Nat} {p:List UInt8} (h:P[k]?=some p):
  stN br x P (k+1)=((stN br x P k).1++(linR br (stN br x P k).2 p).1,(linR br (stN br x P k).2 p).2):=by
 unfold stN;rw[List.take_add_one,h,Option.toList_some,linsR_app];simp[linsR]
theorem lin_emp {br:St->Int->List UInt8} {x:St}:linR br x []=([],x):=by unfold linR;rw[if_pos rfl]
theorem lin_ans {br:St->Int->List UInt8} {x:St} {s t:List UInt8} (h0:s≠[]) (h:ansO br x s=some t):linR br x s=(t++[10],x):=by unfold linR;rw[if_neg h0,h]
theorem lin_no {br:St->Int->List UInt8} {x:St} {s:List UInt8} (h0:s≠[]) (h:ansO br x s=none) (hc:cmdO s=none):linR br x s=(errT 14++[10],x):=by unfold linR;rw[if_neg h0,h,hc]
theorem lin_cmd {br:St->Int->List UInt8} {x:St} {s:List UInt8} {c:Cm} (h0:s≠[]) (h:ansO br x s=none) (hc:cmdO s=some c):linR br x s=(repT c x++[10],(doC c x).2):=by unfold linR;rw[if_neg h0,h,hc]
theorem CmV.ifc {w:World} {c:Cm} {v:Value} (h:CmV w c v):∃ty V,v=.iface ty V:=by
 cases c with
 |rig i l=>obtain⟨_,_,_,_,_,rfl,_⟩:=h;exact⟨_,_,rfl⟩
 |lift r l=>obtain⟨_,_,_,_,_,rfl,_⟩:=h;exact⟨_,_,rfl⟩
 |up i m=>obtain⟨_,_,rfl⟩:=h;exact⟨_,_,rfl⟩
 |down i m=>obtain⟨_,_,rfl⟩:=h;exact⟨_,_,rfl⟩
 |day=>obtain rfl:=h;exact⟨_,_,rfl⟩
 |gust _=>obtain⟨_,rfl⟩:=h;exact⟨_,_,rfl⟩
 |dog _=>obtain⟨_,rfl⟩:=h;exact⟨_,_,rfl⟩
 |strike _=>obtain⟨_,rfl⟩:=h;exact⟨_,_,rfl⟩
 |look _=>obtain⟨_,rfl⟩:=h;exact⟨_,_,rfl⟩
 |call _=>obtain⟨_,rfl⟩:=h;exact⟨_,_,rfl⟩
 |cut _=>obtain⟨_,rfl⟩:=h;exact⟨_,_,rfl⟩
 |bill _=>obtain⟨_,rfl⟩:=h;exact⟨_,_,rfl⟩
theorem ansP_some {br:St->Int->List UInt8} {x:St} {s t:List UInt8} {w w':World} {e:Ending} (h:ansO br x s=some t) (ha:AnsP br x s w e w'):e=.returned (.tuple #[.string (bts t),.bool true])∧Below w.heap.size w w':=by
 obtain⟨hb,hm⟩:=ha;rw[h] at hm;exact⟨hm,hb⟩
theorem ansP_none {br:St->Int->List UInt8} {x:St} {s:List UInt8} {w w':World} {e:Ending} (h:ansO br x s=none) (ha:AnsP br x s w e w'):e=.returned (.tuple #[.string ⟨#[]⟩,.bool false])∧Below w.heap.size w w':=by
 obtain⟨hb,hm⟩:=ha;rw[h] at hm;exact⟨hm,hb⟩
end Go.Proofs.YtjkkfcghkeoedaaGreatDoor.Fi
namespace Go.Proofs.YtjkkfcghkeoedaaGreatDoor.Fi
open Go.RowKit Go.Lib Tx Go.Maps
theorem wpList_insert_own {H:Type} {P:Program} (w:World) {ops:Array Oper} {rest:List Oper} {o:Oper} {a:Act} {Q:Exit->Act->World->Prop}
  (hg:o.guard=none) (m x v:Operand) (t:TypeId) (hop:o.op=Op.insert t m x v)
  (k e:TypeId) (K:Keyed P k) (ht:P.underlying t=some (.map k e)) (R:Value->Option (DataW H×List MemPlace)) (b n:Nat) (D:DataW H)
  (hm:a.eval m=.map (some b)) (hown:w.ownsMap P k R b n D) (hn:n<maxLen) (key val:Value) (kl:Lit) (hx:a.eval x=key) (hv:a.eval v=val) (hkey:keyOf P k key=some kl)
  (d:DataW H) (ps:List MemPlace) (hval:R val=some (d,ps))
  (hK:∀w',w'.ownsMap P k R b (n+1) (D.put kl d)->w.grownBy w' (some b)->wpList P ops Q rest (a.put o.dst undef) w'):
  wpList P ops Q (o::rest) a w:=by
 refine wpList_plain hg fun K' hK'=>?_;obtain⟨w',hrun,r1,r2⟩:=hown.update K ht hn hkey hval;unfold Oper.wp;simp[execOp,hop,hm,hx,hv,hrun,Result.andThen];exact hK' _ _ (hK w' r1 r2)
def RF (v:Value):Option (DataW Value×List MemPlace):=some (.held v,[])
theorem und_mapF:Tryz.prog.underlying 192=some (.map 9 190):=by kernel_rfl
theorem zeroF (w:World):(zeroValue 190).run Tryz.prog w=.ok .nilFunc w:=by kernel_rfl
def sgD1:DataW Value:=DataW.put (DataW.map []) (.string [103,117,115,116]) (.held (.func (.func 157) #[] #[]))
def sgD2:DataW Value:=DataW.put sgD1 (.string [100,111,103]) (.held (.func (.func 158) #[] #[]))
def sgD3:DataW Value:=DataW.put sgD2 (.string [115,116,114,105,107,101]) (.held (.func (.func 159) #[] #[]))
def sgD4:DataW Value:=DataW.put sgD3 (.string [102,101,108,108]) (.held (.func (.func 160) #[] #[]))
def sgD5:DataW Value:=DataW.put sgD4 (.string [98,105,108,108]) (.held (.func (.func 161) #[] #[]))
theorem key_c (s:List UInt8) (h:s.length<=maxLen):keyOf Tryz.prog 9 (.string ⟨s.toArray⟩)=some (.string s):=by
 have:=G.keyS (s:=⟨s.toArray⟩) (by rw[ByteArray.size];simpa using h);rw[this]
theorem f_singles (w:World):Calls Tryz.prog 120 #[] w fun e w'=>e=.returned (.map (some w.heap.size))∧Below w.heap.size w w'∧w'.ownsMap Tryz.prog 9 RF w.heap.size 5 sgD5:=by
 have hmm:=@run_makeMap Tryz.prog;have hk1:=key_c [103,117,115,116] (by decide);have hk2:=key_c [100,111,103] (by decide);have hk3:=key_c [115,116,114,105,107,101] (by decide);have hk4:=key_c [102,101,108,108] (by decide);have hk5:=key_c [98,105,108,108] (by decide);have o0:(w.alloc (.map #[] 0)).ownsMap Tryz.prog 9 RF w.heap.size 0 (.map []):=World.ownsMap_made _ _ _ _;have b0:=bl_alloc (below_refl w) (.map #[] 0);have z0:w.heap.size<=(w.alloc (.map #[] 0)).heap.size:=b0.size;go_enter Tryz.func120,Tryz.ntmps120
 go_wp2_with (first
  |(refine wpList_insert_own _ rfl _ _ _ 192 rfl 9 190 G.lawS und_mapF RF w.heap.size 0 (DataW.map []) rfl o0 (by unfold maxLen;omega) (.string ⟨#[103,117,115,116]⟩) (.func (.func 157) #[] #[]) _ rfl rfl hk1 _ [] rfl ?_;intro w1 o1 g1;have b1:=b0.grown g1 z0 (fun j hj=>by cases hj;exact Nat.le_refl _);have z1:=b1.size)
  |(refine wpList_insert_own _ rfl _ _ _ 192 rfl 9 190 G.lawS und_mapF RF w.heap.size 1 sgD1 rfl o1 (by unfold maxLen;omega) (.string ⟨#[100,111,103]⟩) (.func (.func 158) #[] #[]) _ rfl rfl hk2 _ [] rfl ?_;intro w2 o2 g2;have b2:=b1.grown g2 z1 (fun j hj=>by cases hj;exact Nat.le_refl _);have z2:=b2.size)
  |(refine wpList_insert_own _ rfl _ _ _ 192 rfl 9 190 G.lawS und_mapF RF w.heap.size 2 sgD2 rfl o2 (by unfold maxLen;omega) (.string ⟨#[115,116,114,105,107,101]⟩) (.func (.func 159) #[] #[]) _ rfl rfl hk3 _ [] rfl ?_;intro w3 o3 g3;have b3:=b2.grown g3 z2 (fun j hj=>by cases hj;exact Nat.le_refl _);have z3:=b3.size)
  |(refine wpList_insert_own _ rfl _ _ _ 192 rfl 9 190 G.lawS und_mapF RF w.heap.size 3 sgD3 rfl o3 (by unfold maxLen;omega) (.string ⟨#[102,101,108,108]⟩) (.func (.func 160) #[] #[]) _ rfl rfl hk4 _ [] rfl ?_;intro w4 o4 g4;have b4:=b3.grown g4 z3 (fun j hj=>by cases hj;exact Nat.le_refl _);have z4:=b4.size)
  |(refine wpList_insert_own _ rfl _ _ _ 192 rfl 9 190 G.lawS und_mapF RF w.heap.size 4 sgD4 rfl o4 (by unfold maxLen;omega) (.string ⟨#[98,105,108,108]⟩) (.func (.func 161) #[] #[]) _ rfl rfl hk5 _ [] rfl ?_;intro w5 o5 g5;have b5:=b4.grown g5 z4 (fun j hj=>by cases hj;exact Nat.le_refl _);have z5:=b5.size)
  |fail)
 go_ret;exact⟨rfl,b5,o5⟩
theorem f_sg1 (i:Int) (w:World):Calls Tryz.prog 157 #[.int .i64 i] w fun e w'=>e=.returned (.iface 237 (.agg #[.int .i64 i]))∧w=w':=by
 go_enter Tryz.func157,Tryz.ntmps157
 go_wp2;go_ret;exact⟨rfl,rfl⟩
theorem f_sg2 (i:Int) (w:World):Calls Tryz.prog 158 #[.int .i64 i] w fun e w'=>e=.returned (.iface 239 (.agg #[.int .i64 i]))∧w=w':=by
 go_enter Tryz.func158,Tryz.ntmps158
 go_wp2;go_ret;exact⟨rfl,rfl⟩
theorem f_sg3 (i:Int) (w:World):Calls Tryz.prog 159 #[.int .i64 i] w fun e w'=>e=.returned (.iface 241 (.agg #[.int .i64 i]))∧w=w':=by
 go_enter Tryz.func159,Tryz.ntmps159
 go_wp2;go_ret;exact⟨rfl,rfl⟩
theorem f_sg4 (i:Int) (w:World):Calls Tryz.prog 160 #[.int .i64 i] w fun e w'=>e=.returned (.iface 242 (.agg #[.int .i64 i]))∧w=w':=by
 go_enter Tryz.func160,Tryz.ntmps160
 go_wp2;go_ret;exact⟨rfl,rfl⟩
theorem f_sg5 (i:Int) (w:World):Calls Tryz.prog 161 #[.int .i64 i] w fun e w'=>e=.returned (.iface 243 (.agg #[.int .i64 i]))∧w=w':=by
 go_enter Tryz.func161,Tryz.ntmps161
 go_wp2;go_ret;exact⟨rfl,rfl⟩
theorem sg_at1:sgD5.atKey (.string [103,117,115,116]) (.held .nilFunc)=.held (.func (.func 157) #[] #[])∧Maps.has sgD5 (.string [103,117,115,116])=true:=⟨by rfl,by rfl⟩
theorem sg_at2:sgD5.atKey (.string [100,111,103]) (.held .nilFunc)=.held (.func (.func 158) #[] #[])∧Maps.has sgD5 (.string [100,111,103])=true:=⟨by rfl,by rfl⟩
theorem sg_at3:sgD5.atKey (.string [115,116,114,105,107,101]) (.held .nilFunc)=.held (.func (.func 159) #[] #[])∧Maps.has sgD5 (.string [115,116,114,105,107,101])=true:=⟨by rfl,by rfl⟩
theorem sg_at4:sgD5.atKey (.string [102,101,108,108]) (.held .nilFunc)=.held (.func (.func 160) #[] #[])∧Maps.has sgD5 (.string [102,101,108,108])=true:=⟨by rfl,by rfl⟩
theorem sg_at5:sgD5.atKey (.string [98,105,108,108]) (.held .nilFunc)=.held (.func (.func 161) #[] #[])∧Maps.has sgD5 (.string [98,105,108,108])=true:=⟨by rfl,by rfl⟩
theorem sg_no {s:List UInt8} (h1:s≠[103,117,115,116]) (h2:s≠[100,111,103]) (h3:s≠[115,116,114,105,107,101]) (h4:s≠[102,101,108,108]) (h5:s≠[98,105,108,108]):Maps.has sgD5 (.string s)=false:=by
 have hD:sgD5=.map [(.string [98,105,108,108],.held (.func (.func 161) #[] #[])),(.string [100,111,103],.held (.func (.func 158) #[] #[])),(.string [102,101,108,108],.held (.func (.func 160) #[] #[])),(.string [103,117,115,116],.held (.func (.func 157) #[] #[])),(.string [115,116,114,105,107,101],.held (.func (.func 159) #[] #[]))]:=by rfl
 rw[hD,Maps.has_eq];simp only[List.any_cons,List.any_nil,Lit.sameKey,Bool.or_false,Bool.or_eq_false_iff,beq_eq_false_iff_ne];exact⟨Ne.symm h5,Ne.symm h2,Ne.symm h4,Ne.symm h1,Ne.symm h3⟩
end Go.Proofs.YtjkkfcghkeoedaaGreatDoor.Fi
namespace Go.Proofs.YtjkkfcghkeoedaaGreatDoor.Fi
open Go.RowKit Go.Lib Tx
theorem c_SplitAt (d:UInt8) (s:List UInt8) (w:World) (hs:s.length<=100000) (hL:LdW w):
  Calls Tryz.prog 63 #[.string (bts s),.string ⟨#[d]⟩] w fun e w'=>∃b,e=.returned (.slice (some ⟨b,0,none⟩) (cutZ d s).length (cutZ d s).length)∧Below w.heap.size w w'∧Rd stG 1 w' (some ⟨b,0,none⟩) (cutZ d s)∧w.heap.size<=b∧b<w'.heap.size:=by
 obtain⟨m,hm⟩:=hL.mx;refine(Tryz.strings_Split (bts s) ⟨#[d]⟩ m w (by rw[bts_size];omega) hm (by simp[ByteArray.size])).mono ?_;rintro e w' ⟨rfl,rfl⟩;have h1:(Lib.splitB ⟨#[d]⟩ 0 (Lib.countB (bts s) ⟨#[d]⟩) (bts s)).map (·.data.toList)=cutZ d s:=by
  have e:∀x:ByteArray,(Lib.splitB ⟨#[d]⟩ 0 (Lib.countB x ⟨#[d]⟩) x).map (·.data.toList)=Lib.split x.data.toList [d]:=fun x=>by rw[splitB_data];rfl
  rw[e,split_cut,bts_list]
 have h2:(Lib.splitB ⟨#[d]⟩ 0 (Lib.countB (bts s) ⟨#[d]⟩) (bts s)).length=Lib.countB (bts s) ⟨#[d]⟩+1:=splitB_all _ (by simp[ByteArray.size]) 0 _ (bts s) rfl;have h3:(cutZ d s).length=Lib.countB (bts s) ⟨#[d]⟩+1:=by rw[←h1,List.length_map,h2]
 have h4:(Lib.splitB ⟨#[d]⟩ 0 (Lib.countB (bts s) ⟨#[d]⟩) (bts s)).map Value.string=fl stG (cutZ d s):=by
  rw[←h1];generalize Lib.splitB ⟨#[d]⟩ 0 (Lib.countB (bts s) ⟨#[d]⟩) (bts s)=X;induction X with
  |nil=>rfl
  |cons x r ih=>
   simp only[List.map_cons,fl,List.flatMap_cons] at ih ⊢;rw[ih];rfl
 rw[h3,h4];refine⟨w.heap.size,by simp,bl_alloc (below_refl w) _,?_,Nat.le_refl _,by simp⟩;generalize cutZ d s=P;have hf:fl stG P=P.map (fun p=>Value.string (bts p)):=by
  unfold fl;induction P with
  |nil=>rfl
  |cons p r ih=>rw[List.flatMap_cons,ih];rfl
 rw[hf];intro _;refine⟨w.heap.size,0,rfl,by simp,fun k x hx j v hv=>?_⟩;have hb:=Blk.new w 9 (P.map (fun p=>Value.string (bts p))).toArray;cases j with
 |zero=>
  simp[stG] at hv;subst hv;rw[show 0+k*1+0=k by omega,hb.cell k,List.getElem?_toArray,List.getElem?_map,hx];rfl
 |succ j=>simp[stG] at hv
theorem rdc {W:World} {b off:Nat} {P:List (List UInt8)} (h:Rd stG 1 W (some ⟨b,off,none⟩) P) {k:Nat} {p:List UInt8} (hp:P[k]?=some p):W.cell? ⟨b,off+k,none⟩=some (.string (bts p)):=by
 obtain⟨b',off',e,hb,hc⟩:=h.get hp;cases e;have:=hc 0 (.string (bts p)) rfl;rw[show off+k*1+0=off+k by omega] at this;exact this
theorem rdz {W:World} {b off:Nat} {P:List Int} (h:Rd zC 1 W (some ⟨b,off,none⟩) P) {k:Nat} {p:Int} (hp:P[k]?=some p):W.cell? ⟨b,off+k,none⟩=some (.int .i64 p):=by
 obtain⟨b',off',e,hb,hc⟩:=h.get hp;cases e;have:=hc 0 (.int .i64 p) rfl;rw[show off+k*1+0=off+k by omega] at this;exact this
theorem rd_dropA {α:Type} {enc:α->List Value} {sz:Nat} {w:World} {b off:Nat} {l:List α} (h:Rd enc sz w (some ⟨b,off,none⟩) l) (n:Nat):Rd enc sz w (some ⟨b,off+n*sz,none⟩) (l.drop n):=fun hne=>by
 obtain⟨b',off',e,hb,hc⟩:=h (by rintro rfl;simp at hne);cases e;refine⟨b,off+n*sz,rfl,hb,fun k x hx j v hv=>?_⟩;rw[List.getElem?_drop] at hx;rw[show off+n*sz+k*sz+j=off+(n+k)*sz+j by rw[Nat.add_mul];omega];exact hc _ x hx j v hv
theorem rd_bts {W:World} {A:Option Addr} {P:List (List UInt8)} (h:Rd stG 1 W A P):Rd G.sC 1 W A (P.map bts):=fun hne=>by
 obtain⟨b,off,e,hb,hc⟩:=h (by rintro rfl;simp at hne);refine⟨b,off,e,hb,fun k x hx j v hv=>?_⟩;rw[List.getElem?_map] at hx;cases hp:P[k]? with
 |none=>rw[hp] at hx;simp at hx
 |some p=>
  rw[hp] at hx;simp at hx;subst hx;exact hc k p hp j v hv
theorem has_emp (P:List (List UInt8)):G.hasB (P.map bts) ⟨#[]⟩=decide ([]∈P):=by
 have e:(⟨#[]⟩:ByteArray).toList=[]:=by rw[ByteArray.toList_eq]
 rw[Bool.eq_iff_iff,decide_eq_true_iff];unfold G.hasB;rw[List.any_eq_true];constructor
 ·rintro⟨x,hx,h⟩;obtain⟨p,hp,rfl⟩:=List.mem_map.1 hx;rw[bts_emp,e,beq_iff_eq] at h;rw[h];exact hp
 ·intro h;exact⟨bts [],List.mem_map.2 ⟨[],h,rfl⟩,by rw[bts_emp,e];rfl⟩
theorem nums_no {P:List (List UInt8)} {w w':World} {e:Ending} (h:nmsO P=none) (hn:NumP P w e w'):e=.returned (.tuple #[.slice none 0 0,.bool false])∧Below w.heap.size w w':=by
 obtain⟨hb,hm⟩:=hn;rw[h] at hm;exact⟨hm,hb⟩
theorem nums_yes {P:List (List UInt8)} {ns:List Int} {m:Nat} {w w':World} {e:Ending} (h:nmsO P=some ns) (hl:ns.length=m) (hn:NumP P w e w'):∃A c,e=.returned (.tuple #[.slice A m c,.bool true])∧Rd zC 1 w' A ns∧m<=c∧Below w.heap.size w w':=by
 obtain⟨hb,hm⟩:=hn;rw[h] at hm;obtain⟨A,c,he,hg⟩:=hm;subst hl;exact⟨A,c,he,hg.rd,hg.lc,hb⟩
theorem nums_yes1 {P:List (List UInt8)} {ns:List Int} {m:Nat} {w w':World} {e:Ending} (h:nmsO P=some ns) (hl:ns.length=m) (h1:1<=m) (hn:NumP P w e w'):∃b off c,e=.returned (.tuple #[.slice (some ⟨b,off,none⟩) m c,.bool true])∧Rd zC 1 w' (some ⟨b,off,none⟩) ns∧m<=c∧Below w.heap.size w w':=by
 obtain⟨A,c,he,hr,hc,hb⟩:=nums_yes h hl hn;obtain⟨b,off,e',_⟩:=hr (by rintro rfl;simp at hl;omega);subst e';exact⟨b,off,c,he,hr,hc,hb⟩
theorem lks_nil {P:List (List UInt8)} {w w':World} {e:Ending} (h:lksO P=none) (hn:LksP P w e w'):e=.returned (.tuple #[.slice none 0 0,.bool false])∧Below w.heap.size w w':=by
 obtain⟨hb,hm⟩:=hn;rw[h] at hm;exact⟨hm,hb⟩
theorem lks_som {P:List (List UInt8)} {ns:List G.Lk} {w w':World} {e:Ending} (h:lksO P=some ns) (hn:LksP P w e w'):∃A c,e=.returned (.tuple #[.slice A ns.length c,.bool true])∧Rd G.Lk.cs 2 w' A ns∧Below w.heap.size w w':=by
 obtain⟨hb,hm⟩:=hn;rw[h] at hm;obtain⟨A,c,he,hg⟩:=hm;exact⟨A,c,he,hg.rd,hb⟩
theorem nms_some {P:List (List UInt8)} {ns:List Int} (h:nmsO P=some ns):ns.length=P.length∧∀x∈ns,I64 x:=by
 rw[nms_is] at h;split at h
 ·rename_i ha
  cases h;refine⟨List.length_map ..,fun x hx=>?_⟩;obtain⟨p,hp,rfl⟩:=List.mem_map.1 hx;have:=((T6.num_iff p).1 (List.all_eq_true.1 ha p hp)).2;unfold I64;omega
 ·cases h
theorem lks_some {P:List (List UInt8)} {ns:List G.Lk} (hs:∀p∈P,p.length<=100000) (h:lksO P=some ns):ns.length=P.length∧∀k∈ns,G.LW k:=by
 rw[lks_is] at h;split at h
 ·rename_i ha
  cases h;refine⟨List.length_map ..,fun x hx=>?_⟩;obtain⟨p,hp,rfl⟩:=List.mem_map.1 hx;have h1:=List.all_eq_true.1 ha p hp;unfold lkB at h1;have h2:=((T6.num_iff _).1 (Bool.and_eq_true_iff.1 h1).2).2;have h3:=(cut_szs 58 p).1;have h4:=hs p hp;unfold lkZ;constructor;all_goals dsimp only;(try rw[bts_size]);(try unfold maxLen);omega
 ·cases h
def ComP (s:List UInt8) (w:World) (e:Ending) (w':World):Prop:=Below w.heap.size w w' ∧
 match cmdO s with
 |none=>e=.returned .nilIface
 |some c=>∃v,e=.returned v∧CmV w' c v
theorem com_no {s:List UInt8} {w w':World} (h:cmdO s=none) (hb:Below w.heap.size w w'):ComP s w (.returned .nilIface) w':=⟨hb,by rw[h]⟩
theorem com_yes {s:List UInt8} {c:Cm} {v:Value} {w w':World} (h:cmdO s=some c) (hv:CmV w' c v) (hb:Below w.heap.size w w'):ComP s w (.returned v) w':=⟨hb,by rw[h];exact⟨v,rfl,hv⟩⟩
theorem cmd_is {s p0:List UInt8} {R:List (List UInt8)} (hP:cutZ 32 s=p0::R) (he:[]∉p0::R):cmdO s =
  (if p0=[114,105,103]∧1<R.length then (match nmsO (R.take 1),lksO (R.drop 1) with|some [n],some l=>some (.rig n l)|_,_=>none)
  else if p0=[108,111,111,107]∧R.length=1 then some (.look (bts (R.getD 0 [])))
  else if p0=[99,97,108,108]∧R.length=1 then some (.call (bts (R.getD 0 [])))
  else match nmsO R with
   |none=>none
   |some n=>
    if p0=[108,105,102,116]∧1<n.length then some (.lift (n.getD 0 0) (n.drop 1))
    else if p0=[100,97,121]∧n.length=0 then some .day
    else if n.length=1 then sngO p0 (n.getD 0 0)
    else if p0=[117,112]∧n.length=2 then some (.up (n.getD 0 0) (n.getD 1 0))
    else if p0=[100,111,119,110]∧n.length=2 then some (.down (n.getD 0 0) (n.getD 1 0))
    else none):=by
 unfold cmdO;rw[hP];dsimp only;rw[if_neg he];rfl
end Go.Proofs.YtjkkfcghkeoedaaGreatDoor.Fi
