/- The parts of the proof, part 26. -/
import Derived.Test.YtjkkfcghkeoedaaGreatDoorR0
import Derived.Test.YtjkkfcghkeoedaaGreatDoorR25
import Derived.BigQuiet
set_option maxHeartbeats 16000000
set_option maxRecDepth 20000
set_option linter.unusedSimpArgs false
set_option linter.unusedVariables false
namespace Go.Proofs.YtjkkfcghkeoedaaGreatDoor.Fi
open Go.RowKit Go.Lib Tx Go.Maps
theorem cut_szZ (b:UInt8):∀s,∀p∈cutZ b s,p.length<=s.length
 |[],p,hp=>by simp[cutZ] at hp;subst hp;simp
 |x::s,p,hp=>by
  have ih:=cut_szZ b s;unfold cutZ at hp;split at hp
  ·rcases List.mem_cons.1 hp with rfl|hp
   ·simp
   ·have:=ih p hp;simp;omega
  ·revert hp
   cases h:cutZ b s with
   |nil=>exact absurd h (cutZ_ne b s)
   |cons q r=>
    intro hp;rw[h] at ih;rcases List.mem_cons.1 hp with rfl|hp
    ·have:=ih q (List.mem_cons_self ..);simp;omega
    ·have:=ih p (List.mem_cons_of_mem _ hp);simp;omega
theorem cel0 {W:World} {b k:Nat} {P:List (List UInt8)} {p:List UInt8} {x:ByteArray} (h:Rd stG 1 W (some ⟨b,0,none⟩) P) (hp:P[k]?=some p) (hx:bts p=x):W.cell? ⟨b,k,none⟩=some (.string x):=by
 have:=rdc h hp;rw[hx,Nat.zero_add] at this;exact this
theorem rf_of {v x:Value} {D:DataW Value} {ps:List MemPlace} (h:RF v=some (D,ps)) (hd:D=.held x):v=x:=by
 subst hd;unfold RF at h;cases h;rfl
theorem len1 {α:Type} {l:List α} (h:l.length=1):∃a,l=[a]:=by
 match l,h with
 |[a],_=>exact⟨a,rfl⟩
theorem len2 {α:Type} {l:List α} (h:l.length=2):∃a b,l=[a,b]:=by
 match l,h with
 |[a,b],_=>exact⟨a,b,rfl⟩
theorem nms_take {r:List UInt8} {R:List (List UInt8)}:nmsO ((r::R).take 1)=if T6.numB r=true then some [T6.numV r] else none:=by
 show nmsO [r]=_;unfold nmsO;split<;>simp[nmsO]
theorem f_commandOf (s:List UInt8) (w:World) (hs:s.length<=70000) (hL:LdW w):Calls Tryz.prog 65 #[.string (bts s)] w (ComP s w):=by
 have HSP:=hid (c_SplitAt 32 s w (by omega) hL);obtain⟨p0,R,hP⟩:=List.exists_cons_of_ne_nil (cutZ_ne 32 s);have hPl:=cutZ_len 32 s;have hPs:∀p∈cutZ 32 s,p.length<=100000:=fun p hp=>by have:=cut_szZ 32 s p hp;omega
 obtain⟨m,hm⟩:∃m,R.length=m:=⟨_,rfl⟩;rw[hP,List.length_cons,hm] at HSP;rw[hP] at hPl hPs;rw[List.length_cons,hm] at hPl;have HCT:=hid (fun W b (h:Rd stG 1 W (some ⟨b,0,none⟩) (p0::R))=>(show Calls Tryz.prog 118 #[.slice (some ⟨b,0,none⟩) (m+1) (m+1),.string ⟨#[]⟩] W fun e w'=>e=.returned (.bool (G.hasB ((p0::R).map bts) ⟨#[]⟩))∧W=w' from by
  have:=G.p_contains (some ⟨b,0,none⟩) ((p0::R).map bts) (m+1) ⟨#[]⟩ W (by rw[List.length_map,List.length_cons,hm];omega) (rd_bts h);rw[List.length_map,List.length_cons,hm] at this;exact this))
 rw[has_emp] at HCT;have HC0:=hid (fun h=>cmd_is hP h);have HNM:=hid (fun W (h:Below w.heap.size w W) A c (hr:Rd stG 1 W A R)=>(show Calls Tryz.prog 113 #[.slice A m c] W (NumP R W) from by
  have:=f_numbers A R c W (by omega) (fun p hp=>hPs p (List.mem_cons_of_mem _ hp)) (hL.on h) hr;rw[hm] at this;exact this))
 by_cases he:[]∈p0::R
 ·rw[decide_eq_true he] at HCT;have HA:=hid (show cmdO s=none by unfold cmdO;rw[hP];dsimp only;rw[if_pos he]);generalize bts s=SS at *;clear HC0 HNM;go_enter Tryz.func65,Tryz.ntmps65
  go_wp2_with (first|(go_at_call 63;((with_reducible refine HSP.out.mono ?_);rintro e w1 ⟨bS,rfl,hb1,RP,lS⟩))|(go_at_call 118;((with_reducible refine(HCT.out _ _ RP).mono ?_);rintro e w' ⟨rfl,rfl⟩))|fail)
  go_ret;exact com_no HA.out hb1
 rw[decide_eq_false he] at HCT;have HC:=hid (HC0.out he);clear HC0;have HNI:=hid (fun ns (h:nmsO R=some ns)=>nms_some h);have HKYY:=hid (show keyOf Tryz.prog 9 (.string (bts p0))=some (.string p0) by
  have:=hPs p0 (List.mem_cons_self ..);have h2:=G.keyS (s:=bts p0) (by rw[bts_size];unfold maxLen;omega);rw[h2,←bts_list p0];rfl)
 by_cases hrig:p0=[114,105,103]∧1<R.length
 ·obtain⟨rfl,hm1⟩:=hrig;rw[hm] at hm1;have HS0:=hid (show bts [114,105,103]=(⟨#[114,105,103]⟩:ByteArray) from rfl);obtain⟨r0,R',rfl⟩:∃r R',R=r::R':=by cases R with|nil=>simp at hm;omega|cons r R'=>exact⟨r,R',rfl⟩
  have k1:decide (1<m)=true:=by simp;omega
  have k1':decide ((1:Int)<(m:Int))=true:=by simp;omega
  have HN1:=hid (fun W (h:Below w.heap.size w W)=>(show Calls Tryz.prog 113 #[.slice (some ⟨W.heap.size,0,none⟩) 1 1] (W.alloc (.cells #[.string (bts r0)] 9)) (NumP [r0] (W.alloc (.cells #[.string (bts r0)] 9))) from
   f_numbers _ [r0] 1 _ (by simp) (fun q hq=>by simp at hq;subst hq;exact hPs _ (by simp)) ((hL.on h).on (bl_alloc (below_refl _) _)) (rd_strnew W _)))
  have hm2:R'.length=m-1:=by simp at hm;omega
  have HLK:=hid (fun W (h:Below w.heap.size w W) A c (hr:Rd stG 1 W A R')=>(show Calls Tryz.prog 119 #[.slice A (m-1) c] W (LksP R' W) from by
   have:=f_linksOf A R' c W (by omega) (fun p hp=>hPs p (List.mem_cons_of_mem _ (List.mem_cons_of_mem _ hp))) (hL.on h) hr;rw[hm2] at this;exact this))
  have HLS:=hid (fun ns (h:lksO R'=some ns)=>lks_some (fun p hp=>hPs p (List.mem_cons_of_mem _ (List.mem_cons_of_mem _ hp))) h);have HCR:=hid (show cmdO s=(match nmsO [r0],lksO R' with|some [n],some l=>some (.rig n l)|_,_=>none) by
   rw[HC.out,if_pos ⟨rfl,by rw[hm];omega⟩];rfl)
  have HNR:=hid (show nmsO [r0]=if T6.numB r0=true then some [T6.numV r0] else none from nms_take (R:=[]));have HNV:=hid (fun h=>(T6.num_iff r0).1 h);have hmb:m<=70001:=by omega
  clear HC hPl hPs;generalize hS1:bts r0=S1 at *;have HS1:=hid hS1;clear hS1;generalize bts s=SS at *;cases hnb:T6.numB r0
  ·have HNB:=hid hnb;have HA:=hid (show cmdO s=none by rw[HCR.out,HNR.out,if_neg (by rw[hnb];simp)]);cases hle:lksO R' with
   |none=>
    have HLE:=hid hle;go_enter Tryz.func65,Tryz.ntmps65
    go_wp2_with (first|(go_at_call 63;((with_reducible refine HSP.out.mono ?_);rintro e w1 ⟨bS,rfl,hb1,RP,lS⟩;have d0:w1.cell? ⟨bS,0,none⟩=some (.string ⟨#[114,105,103]⟩):=cel0 RP (k:=0) rfl rfl;have d1:w1.cell? ⟨bS,1,none⟩=some (.string S1):=cel0 RP (k:=1) rfl HS1.out;have RL:Rd stG 1 w1 (some ⟨bS,2,none⟩) R':=rd_dropA RP 2))|(go_at_call 118;((with_reducible refine(HCT.out _ _ RP).mono ?_);rintro e w' ⟨rfl,rfl⟩))|fail)
    go_quiet (fail)
    have hbq:=below_drewN (below_refl w1) nq;have hb1:=below_tr hb1 hbq;have RL:=RL.on hbq;have d1:=cell_on d1 hbq;clear RP;generalize w1.drewN nq=w1 at *;go_wp2_with (first|(go_at_call 113;((with_reducible refine(HN1.out w1 hb1).mono ?_);intro e w2 hn;obtain⟨rfl,hb2⟩:=num1_no HNB.out hn;have hb12:=below_tr (bl_alloc hb1 (.cells #[.string S1] 9)) hb2;have RL2:=RL.on (below_tr (bl_alloc (below_refl w1) (.cells #[.string S1] 9)) hb2)))|(go_at_call 119;((with_reducible refine(HLK.out w2 hb12 _ _ RL2).mono ?_);intro e w3 hn;obtain⟨rfl,hb3⟩:=lks_nil HLE.out hn))|fail)
    go_ret;exact com_no HA.out (below_tr hb12 hb3)
   |some ls=>
    have HLE:=hid hle;go_enter Tryz.func65,Tryz.ntmps65
    go_wp2_with (first|(go_at_call 63;((with_reducible refine HSP.out.mono ?_);rintro e w1 ⟨bS,rfl,hb1,RP,lS⟩;have d0:w1.cell? ⟨bS,0,none⟩=some (.string ⟨#[114,105,103]⟩):=cel0 RP (k:=0) rfl rfl;have d1:w1.cell? ⟨bS,1,none⟩=some (.string S1):=cel0 RP (k:=1) rfl HS1.out;have RL:Rd stG 1 w1 (some ⟨bS,2,none⟩) R':=rd_dropA RP 2))|(go_at_call 118;((with_reducible refine(HCT.out _ _ RP).mono ?_);rintro e w' ⟨rfl,rfl⟩))|fail)
    go_quiet (fail)
    have hbq:=below_drewN (below_refl w1) nq;have hb1:=below_tr hb1 hbq;have RL:=RL.on hbq;have d1:=cell_on d1 hbq;clear RP;generalize w1.drewN nq=w1 at *;go_wp2_with (first|(go_at_call 113;((with_reducible refine(HN1.out w1 hb1).mono ?_);intro e w2 hn;obtain⟨rfl,hb2⟩:=num1_no HNB.out hn;have hb12:=below_tr (bl_alloc hb1 (.cells #[.string S1] 9)) hb2;have RL2:=RL.on (below_tr (bl_alloc (below_refl w1) (.cells #[.string S1] 9)) hb2)))|(go_at_call 119;((with_reducible refine(HLK.out w2 hb12 _ _ RL2).mono ?_);intro e w3 hn;obtain⟨lA,lc,rfl,RLL,hb3⟩:=lks_som HLE.out hn))|fail)
    go_ret;exact com_no HA.out (below_tr hb12 hb3)
  ·have HNB:=hid hnb;have hNR:nmsO [r0]=some [T6.numV r0]:=by rw[HNR.out,if_pos hnb]
   have hvb:=(HNV.out hnb).2;obtain⟨x0,hx0⟩:∃x0,T6.numV r0=x0:=⟨_,rfl⟩;have HNE:=hid hx0;rw[hx0] at hNR hvb;cases hle:lksO R' with
   |none=>
    have HLE:=hid hle;have HA:=hid (show cmdO s=none by rw[HCR.out,hNR,hle]);go_enter Tryz.func65,Tryz.ntmps65
    go_wp2_with (first|(go_at_call 63;((with_reducible refine HSP.out.mono ?_);rintro e w1 ⟨bS,rfl,hb1,RP,lS⟩;have d0:w1.cell? ⟨bS,0,none⟩=some (.string ⟨#[114,105,103]⟩):=cel0 RP (k:=0) rfl rfl;have d1:w1.cell? ⟨bS,1,none⟩=some (.string S1):=cel0 RP (k:=1) rfl HS1.out;have RL:Rd stG 1 w1 (some ⟨bS,2,none⟩) R':=rd_dropA RP 2))|(go_at_call 118;((with_reducible refine(HCT.out _ _ RP).mono ?_);rintro e w' ⟨rfl,rfl⟩))|fail)
    go_quiet (fail)
    have hbq:=below_drewN (below_refl w1) nq;have hb1:=below_tr hb1 hbq;have RL:=RL.on hbq;have d1:=cell_on d1 hbq;clear RP;generalize w1.drewN nq=w1 at *;go_wp2_with (first|(go_at_call 113;((with_reducible refine(HN1.out w1 hb1).mono ?_);intro e w2 hn;obtain⟨nb,no,nc,rfl,cn,_,hb2⟩:=num1_yes HNB.out hn;rw[HNE.out] at cn;have hb12:=below_tr (bl_alloc hb1 (.cells #[.string S1] 9)) hb2;have RL2:=RL.on (below_tr (bl_alloc (below_refl w1) (.cells #[.string S1] 9)) hb2)))|(go_at_call 119;((with_reducible refine(HLK.out w2 hb12 _ _ RL2).mono ?_);intro e w3 hn;obtain⟨rfl,hb3⟩:=lks_nil HLE.out hn))|fail)
    go_ret;exact com_no HA.out (below_tr hb12 hb3)
   |some ls=>
    have HLE:=hid hle;have HA:=hid (show cmdO s=some (.rig x0 ls) by rw[HCR.out,hNR,hle]);obtain⟨hl1,hl2⟩:=HLS.out ls hle;go_enter Tryz.func65,Tryz.ntmps65
    go_wp2_with (first|(go_at_call 63;((with_reducible refine HSP.out.mono ?_);rintro e w1 ⟨bS,rfl,hb1,RP,lS⟩;have d0:w1.cell? ⟨bS,0,none⟩=some (.string ⟨#[114,105,103]⟩):=cel0 RP (k:=0) rfl rfl;have d1:w1.cell? ⟨bS,1,none⟩=some (.string S1):=cel0 RP (k:=1) rfl HS1.out;have RL:Rd stG 1 w1 (some ⟨bS,2,none⟩) R':=rd_dropA RP 2))|(go_at_call 118;((with_reducible refine(HCT.out _ _ RP).mono ?_);rintro e w' ⟨rfl,rfl⟩))|fail)
    go_quiet (fail)
    have hbq:=below_drewN (below_refl w1) nq;have hb1:=below_tr hb1 hbq;have RL:=RL.on hbq;have d1:=cell_on d1 hbq;clear RP;generalize w1.drewN nq=w1 at *;go_wp2_with (first|(go_at_call 113;((with_reducible refine(HN1.out w1 hb1).mono ?_);intro e w2 hn;obtain⟨nb,no,nc,rfl,cn,_,hb2⟩:=num1_yes HNB.out hn;rw[HNE.out] at cn;have hb12:=below_tr (bl_alloc hb1 (.cells #[.string S1] 9)) hb2;have RL2:=RL.on (below_tr (bl_alloc (below_refl w1) (.cells #[.string S1] 9)) hb2)))|(go_at_call 119;((with_reducible refine(HLK.out w2 hb12 _ _ RL2).mono ?_);intro e w3 hn;obtain⟨lA,lc,rfl,RLL,hb3⟩:=lks_som HLE.out hn;have cm:=cell_on cn hb3))|fail)
    go_ret;exact com_yes HA.out ⟨by unfold I64;omega,by omega,hl2,_,_,by rw[hl1,hm2];rfl,RLL⟩ (below_tr hb12 hb3)
 by_cases hlook:p0=[108,111,111,107]∧R.length=1
 ·obtain⟨rfl,hm1⟩:=hlook;obtain⟨r0,rfl⟩:=len1 hm1;have hmm:m=1:=by rw[←hm];rfl
  subst hmm;have HS0:=hid (show bts [108,111,111,107]=(⟨#[108,111,111,107]⟩:ByteArray) from rfl);have hr0:=hPs r0 (by simp);have HA:=hid (show cmdO s=some (.look (bts r0)) by rw[HC.out];simp);have hsz:(bts r0).size<=maxLen:=by rw[bts_size];unfold maxLen;omega
  clear HC hPl hPs;generalize hS1:bts r0=S1 at *;have HS1:=hid hS1;clear hS1;generalize bts s=SS at *;go_enter Tryz.func65,Tryz.ntmps65
  go_wp2_with (first|(go_at_call 63;((with_reducible refine HSP.out.mono ?_);rintro e w1 ⟨bS,rfl,hb1,RP,lS⟩;have d0:w1.cell? ⟨bS,0,none⟩=some (.string ⟨#[108,111,111,107]⟩):=cel0 RP (k:=0) rfl rfl;have d1:w1.cell? ⟨bS,1,none⟩=some (.string S1):=cel0 RP (k:=1) rfl HS1.out))|(go_at_call 118;((with_reducible refine(HCT.out _ _ RP).mono ?_);rintro e w' ⟨rfl,rfl⟩))|fail)
  go_quiet (fail)
  have hbq:=below_drewN (below_refl w1) nq;have hb1:=below_tr hb1 hbq;have d1:=cell_on d1 hbq;clear RP;generalize w1.drewN nq=w1 at *;go_wp2;go_ret;exact com_yes HA.out ⟨hsz,rfl⟩ hb1
 by_cases hcall:p0=[99,97,108,108]∧R.length=1
 ·obtain⟨rfl,hm1⟩:=hcall;obtain⟨r0,rfl⟩:=len1 hm1;have hmm:m=1:=by rw[←hm];rfl
  subst hmm;have HS0:=hid (show bts [99,97,108,108]=(⟨#[99,97,108,108]⟩:ByteArray) from rfl);have hr0:=hPs r0 (by simp);have HA:=hid (show cmdO s=some (.call (bts r0)) by rw[HC.out];simp);have hsz:(bts r0).size<=maxLen:=by rw[bts_size];unfold maxLen;omega
  clear HC hPl hPs;generalize hS1:bts r0=S1 at *;have HS1:=hid hS1;clear hS1;generalize bts s=SS at *;go_enter Tryz.func65,Tryz.ntmps65
  go_wp2_with (first|(go_at_call 63;((with_reducible refine HSP.out.mono ?_);rintro e w1 ⟨bS,rfl,hb1,RP,lS⟩;have d0:w1.cell? ⟨bS,0,none⟩=some (.string ⟨#[99,97,108,108]⟩):=cel0 RP (k:=0) rfl rfl;have d1:w1.cell? ⟨bS,1,none⟩=some (.string S1):=cel0 RP (k:=1) rfl HS1.out))|(go_at_call 118;((with_reducible refine(HCT.out _ _ RP).mono ?_);rintro e w' ⟨rfl,rfl⟩))|fail)
  go_quiet (fail)
  have hbq:=below_drewN (below_refl w1) nq;have hb1:=below_tr hb1 hbq;have d1:=cell_on d1 hbq;clear RP;generalize w1.drewN nq=w1 at *;go_wp2;go_ret;exact com_yes HA.out ⟨hsz,rfl⟩ hb1
 have HCN:=hid (show cmdO s=(match nmsO R with
   |none=>none
   |some n=>
    if p0=[108,105,102,116]∧1<n.length then some (.lift (n.getD 0 0) (n.drop 1))
    else if p0=[100,97,121]∧n.length=0 then some .day
    else if n.length=1 then sngO p0 (n.getD 0 0)
    else if p0=[117,112]∧n.length=2 then some (.up (n.getD 0 0) (n.getD 1 0))
    else if p0=[100,111,119,110]∧n.length=2 then some (.down (n.getD 0 0) (n.getD 1 0))
    else none) by rw[HC.out,if_neg hrig,if_neg hlook,if_neg hcall];rfl)
 clear HC;rw[hm] at hrig hlook hcall;have hmb:m<=70001:=by omega
 have HM:=hid hm;clear hPl hPs hm;generalize hSS:bts s=SS at *;clear hSS;cases hns:nmsO R with
 |none=>
  have HNS:=hid hns;have HA:=hid (show cmdO s=none by rw[HCN.out,hns]);clear HCN HNI HKYY;by_cases h_rig:p0=[114,105,103]
  ·subst h_rig;have HS0:=hid (show bts [114,105,103]=(⟨#[114,105,103]⟩:ByteArray) from rfl);rcases (show m=0∨m=1 by(have:¬(1<m):=fun h=>hrig ⟨rfl,h⟩;omega)) with hM|hM
   ·subst hM;go_enter Tryz.func65,Tryz.ntmps65
    go_wp2_with (first|(go_at_call 63;((with_reducible refine HSP.out.mono ?_);rintro e w1 ⟨bS,rfl,hb1,RP,lS⟩;have d0:w1.cell? ⟨bS,0,none⟩=some (.string ⟨#[114,105,103]⟩):=cel0 RP (k:=0) rfl rfl;have RR:∀A,Rd stG 1 w1 A R:=fun A=>(by(rw[List.length_eq_zero_iff.1 HM.out];exact Rd.nil_))))|(go_at_call 118;((with_reducible refine(HCT.out _ _ RP).mono ?_);rintro e w' ⟨rfl,rfl⟩))|fail)
    go_quiet (fail)
    have hbq:=below_drewN (below_refl w1) nq;have hb1:=below_tr hb1 hbq;have RR:=fun A=>(RR A).on hbq;clear RP;generalize w1.drewN nq=w1 at *;go_wp2_with (first|(go_at_call 113;((with_reducible refine(HNM.out w1 hb1 _ _ (RR _)).mono ?_);intro e w2 hn;obtain⟨rfl,hb2⟩:=nums_no HNS.out hn))|fail)
    go_ret;exact com_no HA.out (below_tr hb1 hb2)
   ·subst hM;go_enter Tryz.func65,Tryz.ntmps65
    go_wp2_with (first|(go_at_call 63;((with_reducible refine HSP.out.mono ?_);rintro e w1 ⟨bS,rfl,hb1,RP,lS⟩;have d0:w1.cell? ⟨bS,0,none⟩=some (.string ⟨#[114,105,103]⟩):=cel0 RP (k:=0) rfl rfl;have RR:Rd stG 1 w1 (some ⟨bS,1,none⟩) R:=rd_dropA RP 1))|(go_at_call 118;((with_reducible refine(HCT.out _ _ RP).mono ?_);rintro e w' ⟨rfl,rfl⟩))|fail)
    go_quiet (fail)
    have hbq:=below_drewN (below_refl w1) nq;have hb1:=below_tr hb1 hbq;have RR:=RR.on hbq;clear RP;generalize w1.drewN nq=w1 at *;go_wp2_with (first|(go_at_call 113;((with_reducible refine(HNM.out w1 hb1 _ _ RR).mono ?_);intro e w2 hn;obtain⟨rfl,hb2⟩:=nums_no HNS.out hn))|fail)
    go_ret;exact com_no HA.out (below_tr hb1 hb2)
  by_cases h_look:p0=[108,111,111,107]
  ·subst h_look;have HS0:=hid (show bts [108,111,111,107]=(⟨#[108,111,111,107]⟩:ByteArray) from rfl);rcases (show m=0∨m=2∨3<=m by(have:¬(m=1):=fun h=>hlook ⟨rfl,h⟩;omega)) with hM|hM|hM
   ·subst hM;go_enter Tryz.func65,Tryz.ntmps65
    go_wp2_with (first|(go_at_call 63;((with_reducible refine HSP.out.mono ?_);rintro e w1 ⟨bS,rfl,hb1,RP,lS⟩;have d0:w1.cell? ⟨bS,0,none⟩=some (.string ⟨#[108,111,111,107]⟩):=cel0 RP (k:=0) rfl rfl;have RR:∀A,Rd stG 1 w1 A R:=fun A=>(by(rw[List.length_eq_zero_iff.1 HM.out];exact Rd.nil_))))|(go_at_call 118;((with_reducible refine(HCT.out _ _ RP).mono ?_);rintro e w' ⟨rfl,rfl⟩))|fail)
    go_quiet (fail)
    have hbq:=below_drewN (below_refl w1) nq;have hb1:=below_tr hb1 hbq;have RR:=fun A=>(RR A).on hbq;clear RP;generalize w1.drewN nq=w1 at *;go_wp2_with (first|(go_at_call 113;((with_reducible refine(HNM.out w1 hb1 _ _ (RR _)).mono ?_);intro e w2 hn;obtain⟨rfl,hb2⟩:=nums_no HNS.out hn))|fail)
    go_ret;exact com_no HA.out (below_tr hb1 hb2)
   ·subst hM;go_enter Tryz.func65,Tryz.ntmps65
    go_wp2_with (first|(go_at_call 63;((with_reducible refine HSP.out.mono ?_);rintro e w1 ⟨bS,rfl,hb1,RP,lS⟩;have d0:w1.cell? ⟨bS,0,none⟩=some (.string ⟨#[108,111,111,107]⟩):=cel0 RP (k:=0) rfl rfl;have RR:Rd stG 1 w1 (some ⟨bS,1,none⟩) R:=rd_dropA RP 1))|(go_at_call 118;((with_reducible refine(HCT.out _ _ RP).mono ?_);rintro e w' ⟨rfl,rfl⟩))|fail)
    go_quiet (fail)
    have hbq:=below_drewN (below_refl w1) nq;have hb1:=below_tr hb1 hbq;have RR:=RR.on hbq;clear RP;generalize w1.drewN nq=w1 at *;go_wp2_with (first|(go_at_call 113;((with_reducible refine(HNM.out w1 hb1 _ _ RR).mono ?_);intro e w2 hn;obtain⟨rfl,hb2⟩:=nums_no HNS.out hn))|fail)
    go_ret;exact com_no HA.out (below_tr hb1 hb2)
   ·have k1:decide (1<m)=true:=by simp;omega
    have k1':decide ((1:Int)<(m:Int))=true:=by simp;omega
    have k2:decide (m=0)=false:=by simp;omega
    have k2':decide ((m:Int)=0)=false:=by simp;omega
    have k3:decide (m=1)=false:=by simp;omega
    have k3':decide ((m:Int)=1)=false:=by simp;omega
    have k4:decide (m=2)=false:=by simp;omega
    have k4':decide ((m:Int)=2)=false:=by simp;omega
    go_enter Tryz.func65,Tryz.ntmps65
    go_wp2_with (first|(go_at_call 63;((with_reducible refine HSP.out.mono ?_);rintro e w1 ⟨bS,rfl,hb1,RP,lS⟩;have d0:w1.cell? ⟨bS,0,none⟩=some (.string ⟨#[108,111,111,107]⟩):=cel0 RP (k:=0) rfl rfl;have RR:Rd stG 1 w1 (some ⟨bS,1,none⟩) R:=rd_dropA RP 1))|(go_at_call 118;((with_reducible refine(HCT.out _ _ RP).mono ?_);rintro e w' ⟨rfl,rfl⟩))|fail)
    go_quiet (fail)
    have hbq:=below_drewN (below_refl w1) nq;have hb1:=below_tr hb1 hbq;have RR:=RR.on hbq;clear RP;generalize w1.drewN nq=w1 at *;go_wp2_with (first|(go_at_call 113;((with_reducible refine(HNM.out w1 hb1 _ _ RR).mono ?_);intro e w2 hn;obtain⟨rfl,hb2⟩:=nums_no HNS.out hn))|fail)
    go_ret;exact com_no HA.out (below_tr hb1 hb2)
  by_cases h_call:p0=[99,97,108,108]
  ·subst h_call;have HS0:=hid (show bts [99,97,108,108]=(⟨#[99,97,108,108]⟩:ByteArray) from rfl);rcases (show m=0∨m=2∨3<=m by(have:¬(m=1):=fun h=>hcall ⟨rfl,h⟩;omega)) with hM|hM|hM
   ·subst hM;go_enter Tryz.func65,Tryz.ntmps65
    go_wp2_with (first|(go_at_call 63;((with_reducible refine HSP.out.mono ?_);rintro e w1 ⟨bS,rfl,hb1,RP,lS⟩;have d0:w1.cell? ⟨bS,0,none⟩=some (.string ⟨#[99,97,108,108]⟩):=cel0 RP (k:=0) rfl rfl;have RR:∀A,Rd stG 1 w1 A R:=fun A=>(by(rw[List.length_eq_zero_iff.1 HM.out];exact Rd.nil_))))|(go_at_call 118;((with_reducible refine(HCT.out _ _ RP).mono ?_);rintro e w' ⟨rfl,rfl⟩))|fail)
    go_quiet (fail)
    have hbq:=below_drewN (below_refl w1) nq;have hb1:=below_tr hb1 hbq;have RR:=fun A=>(RR A).on hbq;clear RP;generalize w1.drewN nq=w1 at *;go_wp2_with (first|(go_at_call 113;((with_reducible refine(HNM.out w1 hb1 _ _ (RR _)).mono ?_);intro e w2 hn;obtain⟨rfl,hb2⟩:=nums_no HNS.out hn))|fail)
    go_ret;exact com_no HA.out (below_tr hb1 hb2)
   ·subst hM;go_enter Tryz.func65,Tryz.ntmps65
    go_wp2_with (first|(go_at_call 63;((with_reducible refine HSP.out.mono ?_);rintro e w1 ⟨bS,rfl,hb1,RP,lS⟩;have d0:w1.cell? ⟨bS,0,none⟩=some (.string ⟨#[99,97,108,108]⟩):=cel0 RP (k:=0) rfl rfl;have RR:Rd stG 1 w1 (some ⟨bS,1,none⟩) R:=rd_dropA RP 1))|(go_at_call 118;((with_reducible refine(HCT.out _ _ RP).mono ?_);rintro e w' ⟨rfl,rfl⟩))|fail)
    go_quiet (fail)
    have hbq:=below_drewN (below_refl w1) nq;have hb1:=below_tr hb1 hbq;have RR:=RR.on hbq;clear RP;generalize w1.drewN nq=w1 at *;go_wp2_with (first|(go_at_call 113;((with_reducible refine(HNM.out w1 hb1 _ _ RR).mono ?_);intro e w2 hn;obtain⟨rfl,hb2⟩:=nums_no HNS.out hn))|fail)
    go_ret;exact com_no HA.out (below_tr hb1 hb2)
   ·have k1:decide (1<m)=true:=by simp;omega
    have k1':decide ((1:Int)<(m:Int))=true:=by simp;omega
    have k2:decide (m=0)=false:=by simp;omega
    have k2':decide ((m:Int)=0)=false:=by simp;omega
    have k3:decide (m=1)=false:=by simp;omega
    have k3':decide ((m:Int)=1)=false:=by simp;omega
    have k4:decide (m=2)=false:=by simp;omega
    have k4':decide ((m:Int)=2)=false:=by simp;omega
    go_enter Tryz.func65,Tryz.ntmps65
    go_wp2_with (first|(go_at_call 63;((with_reducible refine HSP.out.mono ?_);rintro e w1 ⟨bS,rfl,hb1,RP,lS⟩;have d0:w1.cell? ⟨bS,0,none⟩=some (.string ⟨#[99,97,108,108]⟩):=cel0 RP (k:=0) rfl rfl;have RR:Rd stG 1 w1 (some ⟨bS,1,none⟩) R:=rd_dropA RP 1))|(go_at_call 118;((with_reducible refine(HCT.out _ _ RP).mono ?_);rintro e w' ⟨rfl,rfl⟩))|fail)
    go_quiet (fail)
    have hbq:=below_drewN (below_refl w1) nq;have hb1:=below_tr hb1 hbq;have RR:=RR.on hbq;clear RP;generalize w1.drewN nq=w1 at *;go_wp2_with (first|(go_at_call 113;((with_reducible refine(HNM.out w1 hb1 _ _ RR).mono ?_);intro e w2 hn;obtain⟨rfl,hb2⟩:=nums_no HNS.out hn))|fail)
    go_ret;exact com_no HA.out (below_tr hb1 hb2)
  have q_rig:((bts p0).toList==[114,105,103])=false:=by rw[bts_emp];exact beq_eq_false_iff_ne.2 h_rig
  have q_look:((bts p0).toList==[108,111,111,107])=false:=by rw[bts_emp];exact beq_eq_false_iff_ne.2 h_look
  have q_call:((bts p0).toList==[99,97,108,108])=false:=by rw[bts_emp];exact beq_eq_false_iff_ne.2 h_call
  generalize hSx:bts p0=Sx at *;have HS0:=hid hSx;clear hSx;rcases (show m=0∨m=1∨m=2∨3<=m by omega) with hM|hM|hM|hM
  ·subst hM;go_enter Tryz.func65,Tryz.ntmps65
   go_wp2_with (first|(go_at_call 63;((with_reducible refine HSP.out.mono ?_);rintro e w1 ⟨bS,rfl,hb1,RP,lS⟩;have d0:w1.cell? ⟨bS,0,none⟩=some (.string Sx):=cel0 RP (k:=0) rfl HS0.out;have RR:∀A,Rd stG 1 w1 A R:=fun A=>(by(rw[List.length_eq_zero_iff.1 HM.out];exact Rd.nil_))))|(go_at_call 118;((with_reducible refine(HCT.out _ _ RP).mono ?_);rintro e w' ⟨rfl,rfl⟩))|fail)
   go_quiet (fail)
   have hbq:=below_drewN (below_refl w1) nq;have hb1:=below_tr hb1 hbq;have RR:=fun A=>(RR A).on hbq;clear RP;generalize w1.drewN nq=w1 at *;go_wp2_with (first|(go_at_call 113;((with_reducible refine(HNM.out w1 hb1 _ _ (RR _)).mono ?_);intro e w2 hn;obtain⟨rfl,hb2⟩:=nums_no HNS.out hn))|fail)
   go_ret;exact com_no HA.out (below_tr hb1 hb2)
  ·subst hM;go_enter Tryz.func65,Tryz.ntmps65
   go_wp2_with (first|(go_at_call 63;((with_reducible refine HSP.out.mono ?_);rintro e w1 ⟨bS,rfl,hb1,RP,lS⟩;have d0:w1.cell? ⟨bS,0,none⟩=some (.string Sx):=cel0 RP (k:=0) rfl HS0.out;have RR:Rd stG 1 w1 (some ⟨bS,1,none⟩) R:=rd_dropA RP 1))|(go_at_call 118;((with_reducible refine(HCT.out _ _ RP).mono ?_);rintro e w' ⟨rfl,rfl⟩))|fail)
   go_quiet (fail)
   have hbq:=below_drewN (below_refl w1) nq;have hb1:=below_tr hb1 hbq;have RR:=RR.on hbq;clear RP;generalize w1.drewN nq=w1 at *;go_wp2_with (first|(go_at_call 113;((with_reducible refine(HNM.out w1 hb1 _ _ RR).mono ?_);intro e w2 hn;obtain⟨rfl,hb2⟩:=nums_no HNS.out hn))|fail)
   go_ret;exact com_no HA.out (below_tr hb1 hb2)
  ·subst hM;go_enter Tryz.func65,Tryz.ntmps65
   go_wp2_with (first|(go_at_call 63;((with_reducible refine HSP.out.mono ?_);rintro e w1 ⟨bS,rfl,hb1,RP,lS⟩;have d0:w1.cell? ⟨bS,0,none⟩=some (.string Sx):=cel0 RP (k:=0) rfl HS0.out;have RR:Rd stG 1 w1 (some ⟨bS,1,none⟩) R:=rd_dropA RP 1))|(go_at_call 118;((with_reducible refine(HCT.out _ _ RP).mono ?_);rintro e w' ⟨rfl,rfl⟩))|fail)
   go_quiet (fail)
   have hbq:=below_drewN (below_refl w1) nq;have hb1:=below_tr hb1 hbq;have RR:=RR.on hbq;clear RP;generalize w1.drewN nq=w1 at *;go_wp2_with (first|(go_at_call 113;((with_reducible refine(HNM.out w1 hb1 _ _ RR).mono ?_);intro e w2 hn;obtain⟨rfl,hb2⟩:=nums_no HNS.out hn))|fail)
   go_ret;exact com_no HA.out (below_tr hb1 hb2)
  ·have k1:decide (1<m)=true:=by simp;omega
   have k1':decide ((1:Int)<(m:Int))=true:=by simp;omega
   have k2:decide (m=0)=false:=by simp;omega
   have k2':decide ((m:Int)=0)=false:=by simp;omega
   have k3:decide (m=1)=false:=by simp;omega
   have k3':decide ((m:Int)=1)=false:=by simp;omega
   have k4:decide (m=2)=false:=by simp;omega
   have k4':decide ((m:Int)=2)=false:=by simp;omega
   go_enter Tryz.func65,Tryz.ntmps65
   go_wp2_with (first|(go_at_call 63;((with_reducible refine HSP.out.mono ?_);rintro e w1 ⟨bS,rfl,hb1,RP,lS⟩;have d0:w1.cell? ⟨bS,0,none⟩=some (.string Sx):=cel0 RP (k:=0) rfl HS0.out;have RR:Rd stG 1 w1 (some ⟨bS,1,none⟩) R:=rd_dropA RP 1))|(go_at_call 118;((with_reducible refine(HCT.out _ _ RP).mono ?_);rintro e w' ⟨rfl,rfl⟩))|fail)
   go_quiet (fail)
   have hbq:=below_drewN (below_refl w1) nq;have hb1:=below_tr hb1 hbq;have RR:=RR.on hbq;clear RP;generalize w1.drewN nq=w1 at *;go_wp2_with (first|(go_at_call 113;((with_reducible refine(HNM.out w1 hb1 _ _ RR).mono ?_);intro e w2 hn;obtain⟨rfl,hb2⟩:=nums_no HNS.out hn))|fail)
   go_ret;exact com_no HA.out (below_tr hb1 hb2)
 |some ns=>
  have HNS:=hid hns;obtain⟨hnl,hni⟩:=HNI.out ns hns;rw[HM.out] at hnl;have HNL:=hid hnl
  have HCM:=hid (show cmdO s=(
    if p0=[108,105,102,116]∧1<m then some (.lift (ns.getD 0 0) (ns.drop 1))
    else if p0=[100,97,121]∧m=0 then some .day
    else if m=1 then sngO p0 (ns.getD 0 0)
    else if p0=[117,112]∧m=2 then some (.up (ns.getD 0 0) (ns.getD 1 0))
    else if p0=[100,111,119,110]∧m=2 then some (.down (ns.getD 0 0) (ns.getD 1 0))
    else none) by rw[HCN.out,hns];dsimp only;rw[hnl])
  clear HCN HNI;by_cases h_rig:p0=[114,105,103]
  ·subst h_rig;have HS0:=hid (show bts [114,105,103]=(⟨#[114,105,103]⟩:ByteArray) from rfl);rw[show bts [114,105,103]=(⟨#[114,105,103]⟩:ByteArray) from rfl] at HKYY;rcases (show m=0∨m=1 by(have:¬(1<m):=fun h=>hrig ⟨rfl,h⟩;omega)) with hM|hM
   ·subst hM;have HA:=hid (show cmdO s=none by rw[HCM.out];simp[]);have HKY:=hid HKYY.out;clear HCM;go_enter Tryz.func65,Tryz.ntmps65
    go_wp2_with (first|(go_at_call 63;((with_reducible refine HSP.out.mono ?_);rintro e w1 ⟨bS,rfl,hb1,RP,lS⟩;have d0:w1.cell? ⟨bS,0,none⟩=some (.string ⟨#[114,105,103]⟩):=cel0 RP (k:=0) rfl rfl;have RR:∀A,Rd stG 1 w1 A R:=fun A=>(by(rw[List.length_eq_zero_iff.1 HM.out];exact Rd.nil_))))|(go_at_call 118;((with_reducible refine(HCT.out _ _ RP).mono ?_);rintro e w' ⟨rfl,rfl⟩))|fail)
    go_quiet (fail)
    have hbq:=below_drewN (below_refl w1) nq;have hb1:=below_tr hb1 hbq;have RR:=fun A=>(RR A).on hbq;clear RP;generalize w1.drewN nq=w1 at *;go_wp2_with (first|(go_at_call 113;((with_reducible refine(HNM.out w1 hb1 _ _ (RR _)).mono ?_);intro e w2 hn;obtain⟨nA,nc,rfl,RN,cn,hb2⟩:=nums_yes HNS.out HNL.out hn;have hb12:=below_tr hb1 hb2))|fail)
    go_ret;exact com_no HA.out hb12
   ·subst hM;obtain⟨x0,rfl⟩:=len1 hnl;have HX0:=hid (rfl:[x0][0]?=some x0);have hi0:=hni x0 (by simp);have HA:=hid (show cmdO s=none by rw[HCM.out];simp[sngO,]);have HKY:=hid HKYY.out;clear HCM;have HNK:=hid (show Maps.has sgD5 (.string [114,105,103])=false from sg_no (by decide) (by decide) (by decide) (by decide) (by decide));go_enter Tryz.func65,Tryz.ntmps65
    go_wp2_with (first|(go_at_call 63;((with_reducible refine HSP.out.mono ?_);rintro e w1 ⟨bS,rfl,hb1,RP,lS⟩;have d0:w1.cell? ⟨bS,0,none⟩=some (.string ⟨#[114,105,103]⟩):=cel0 RP (k:=0) rfl rfl;have RR:Rd stG 1 w1 (some ⟨bS,1,none⟩) R:=rd_dropA RP 1))|(go_at_call 118;((with_reducible refine(HCT.out _ _ RP).mono ?_);rintro e w' ⟨rfl,rfl⟩))|fail)
    go_quiet (fail)
    have hbq:=below_drewN (below_refl w1) nq;have hb1:=below_tr hb1 hbq;have RR:=RR.on hbq;clear RP;generalize w1.drewN nq=w1 at *;go_wp2_with (first|(go_at_call 113;((with_reducible refine(HNM.out w1 hb1 _ _ RR).mono ?_);intro e w2 hn;obtain⟨nb,no,nc,rfl,RN,cn,hb2⟩:=nums_yes1 HNS.out HNL.out (by omega) hn;have hb12:=below_tr hb1 hb2;have e0:w2.cell? ⟨nb,no,none⟩=some (.int .i64 x0):=rdz RN (k:=0) rfl))|(go_at_call 120;((with_reducible refine(f_singles _).mono ?_);rintro e w3 ⟨rfl,hb3,ho3⟩;have f0:=(cell_on e0 hb3)))|(at_lookup;refine wpList_lookup_own_ok _ rfl _ _ 192 rfl 9 190 G.lawS und_mapF RF (zeroF _) (.held .nilFunc) [] rfl w2.heap.size 5 sgD5 rfl ho3 _ _ rfl HKY.out ?_;intro v ps hv;rw[HNK.out];generalize v=vv;clear hv)|fail)
    go_ret;exact com_no HA.out (below_tr hb12 hb3)
  by_cases h_look:p0=[108,111,111,107]
  ·subst h_look;have HS0:=hid (show bts [108,111,111,107]=(⟨#[108,111,111,107]⟩:ByteArray) from rfl);rw[show bts [108,111,111,107]=(⟨#[108,111,111,107]⟩:ByteArray) from rfl] at HKYY;rcases (show m=0∨m=2∨3<=m by(have:¬(m=1):=fun h=>hlook ⟨rfl,h⟩;omega)) with hM|hM|hM
   ·subst hM;have HA:=hid (show cmdO s=none by rw[HCM.out];simp[]);have HKY:=hid HKYY.out;clear HCM;go_enter Tryz.func65,Tryz.ntmps65
    go_wp2_with (first|(go_at_call 63;((with_reducible refine HSP.out.mono ?_);rintro e w1 ⟨bS,rfl,hb1,RP,lS⟩;have d0:w1.cell? ⟨bS,0,none⟩=some (.string ⟨#[108,111,111,107]⟩):=cel0 RP (k:=0) rfl rfl;have RR:∀A,Rd stG 1 w1 A R:=fun A=>(by(rw[List.length_eq_zero_iff.1 HM.out];exact Rd.nil_))))|(go_at_call 118;((with_reducible refine(HCT.out _ _ RP).mono ?_);rintro e w' ⟨rfl,rfl⟩))|fail)
    go_quiet (fail)
    have hbq:=below_drewN (below_refl w1) nq;have hb1:=below_tr hb1 hbq;have RR:=fun A=>(RR A).on hbq;clear RP;generalize w1.drewN nq=w1 at *;go_wp2_with (first|(go_at_call 113;((with_reducible refine(HNM.out w1 hb1 _ _ (RR _)).mono ?_);intro e w2 hn;obtain⟨nA,nc,rfl,RN,cn,hb2⟩:=nums_yes HNS.out HNL.out hn;have hb12:=below_tr hb1 hb2))|fail)
    go_ret;exact com_no HA.out hb12
   ·subst hM;have HA:=hid (show cmdO s=none by rw[HCM.out];simp[]);have HKY:=hid HKYY.out;clear HCM;go_enter Tryz.func65,Tryz.ntmps65
    go_wp2_with (first|(go_at_call 63;((with_reducible refine HSP.out.mono ?_);rintro e w1 ⟨bS,rfl,hb1,RP,lS⟩;have d0:w1.cell? ⟨bS,0,none⟩=some (.string ⟨#[108,111,111,107]⟩):=cel0 RP (k:=0) rfl rfl;have RR:Rd stG 1 w1 (some ⟨bS,1,none⟩) R:=rd_dropA RP 1))|(go_at_call 118;((with_reducible refine(HCT.out _ _ RP).mono ?_);rintro e w' ⟨rfl,rfl⟩))|fail)
    go_quiet (fail)
    have hbq:=below_drewN (below_refl w1) nq;have hb1:=below_tr hb1 hbq;have RR:=RR.on hbq;clear RP;generalize w1.drewN nq=w1 at *;go_wp2_with (first|(go_at_call 113;((with_reducible refine(HNM.out w1 hb1 _ _ RR).mono ?_);intro e w2 hn;obtain⟨nb,no,nc,rfl,RN,cn,hb2⟩:=nums_yes1 HNS.out HNL.out (by omega) hn;have hb12:=below_tr hb1 hb2))|fail)
    go_ret;exact com_no HA.out hb12
   ·have HA:=hid (show cmdO s=none by rw[HCM.out];simp[show ¬(m=0) by omega,show ¬(m=1) by omega,show ¬(m=2) by omega,show 1<m by omega,]);have HKY:=hid HKYY.out;clear HCM;have k1:decide (1<m)=true:=by simp;omega
    have k1':decide ((1:Int)<(m:Int))=true:=by simp;omega
    have k2:decide (m=0)=false:=by simp;omega
    have k2':decide ((m:Int)=0)=false:=by simp;omega
    have k3:decide (m=1)=false:=by simp;omega
    have k3':decide ((m:Int)=1)=false:=by simp;omega
    have k4:decide (m=2)=false:=by simp;omega
    have k4':decide ((m:Int)=2)=false:=by simp;omega
    go_enter Tryz.func65,Tryz.ntmps65
    go_wp2_with (first|(go_at_call 63;((with_reducible refine HSP.out.mono ?_);rintro e w1 ⟨bS,rfl,hb1,RP,lS⟩;have d0:w1.cell? ⟨bS,0,none⟩=some (.string ⟨#[108,111,111,107]⟩):=cel0 RP (k:=0) rfl rfl;have RR:Rd stG 1 w1 (some ⟨bS,1,none⟩) R:=rd_dropA RP 1))|(go_at_call 118;((with_reducible refine(HCT.out _ _ RP).mono ?_);rintro e w' ⟨rfl,rfl⟩))|fail)
    go_quiet (fail)
    have hbq:=below_drewN (below_refl w1) nq;have hb1:=below_tr hb1 hbq;have RR:=RR.on hbq;clear RP;generalize w1.drewN nq=w1 at *;go_wp2_with (first|(go_at_call 113;((with_reducible refine(HNM.out w1 hb1 _ _ RR).mono ?_);intro e w2 hn;obtain⟨nb,no,nc,rfl,RN,cn,hb2⟩:=nums_yes1 HNS.out HNL.out (by omega) hn;have hb12:=below_tr hb1 hb2))|fail)
    go_ret;exact com_no HA.out hb12
  by_cases h_call:p0=[99,97,108,108]
  ·subst h_call;have HS0:=hid (show bts [99,97,108,108]=(⟨#[99,97,108,108]⟩:ByteArray) from rfl);rw[show bts [99,97,108,108]=(⟨#[99,97,108,108]⟩:ByteArray) from rfl] at HKYY;rcases (show m=0∨m=2∨3<=m by(have:¬(m=1):=fun h=>hcall ⟨rfl,h⟩;omega)) with hM|hM|hM
   ·subst hM;have HA:=hid (show cmdO s=none by rw[HCM.out];simp[]);have HKY:=hid HKYY.out;clear HCM;go_enter Tryz.func65,Tryz.ntmps65
    go_wp2_with (first|(go_at_call 63;((with_reducible refine HSP.out.mono ?_);rintro e w1 ⟨bS,rfl,hb1,RP,lS⟩;have d0:w1.cell? ⟨bS,0,none⟩=some (.string ⟨#[99,97,108,108]⟩):=cel0 RP (k:=0) rfl rfl;have RR:∀A,Rd stG 1 w1 A R:=fun A=>(by(rw[List.length_eq_zero_iff.1 HM.out];exact Rd.nil_))))|(go_at_call 118;((with_reducible refine(HCT.out _ _ RP).mono ?_);rintro e w' ⟨rfl,rfl⟩))|fail)
    go_quiet (fail)
    have hbq:=below_drewN (below_refl w1) nq;have hb1:=below_tr hb1 hbq;have RR:=fun A=>(RR A).on hbq;clear RP;generalize w1.drewN nq=w1 at *;go_wp2_with (first|(go_at_call 113;((with_reducible refine(HNM.out w1 hb1 _ _ (RR _)).mono ?_);intro e w2 hn;obtain⟨nA,nc,rfl,RN,cn,hb2⟩:=nums_yes HNS.out HNL.out hn;have hb12:=below_tr hb1 hb2))|fail)
    go_ret;exact com_no HA.out hb12
   ·subst hM;have HA:=hid (show cmdO s=none by rw[HCM.out];simp[]);have HKY:=hid HKYY.out;clear HCM;go_enter Tryz.func65,Tryz.ntmps65
    go_wp2_with (first|(go_at_call 63;((with_reducible refine HSP.out.mono ?_);rintro e w1 ⟨bS,rfl,hb1,RP,lS⟩;have d0:w1.cell? ⟨bS,0,none⟩=some (.string ⟨#[99,97,108,108]⟩):=cel0 RP (k:=0) rfl rfl;have RR:Rd stG 1 w1 (some ⟨bS,1,none⟩) R:=rd_dropA RP 1))|(go_at_call 118;((with_reducible refine(HCT.out _ _ RP).mono ?_);rintro e w' ⟨rfl,rfl⟩))|fail)
    go_quiet (fail)
    have hbq:=below_drewN (below_refl w1) nq;have hb1:=below_tr hb1 hbq;have RR:=RR.on hbq;clear RP;generalize w1.drewN nq=w1 at *;go_wp2_with (first|(go_at_call 113;((with_reducible refine(HNM.out w1 hb1 _ _ RR).mono ?_);intro e w2 hn;obtain⟨nb,no,nc,rfl,RN,cn,hb2⟩:=nums_yes1 HNS.out HNL.out (by omega) hn;have hb12:=below_tr hb1 hb2))|fail)
    go_ret;exact com_no HA.out hb12
   ·have HA:=hid (show cmdO s=none by rw[HCM.out];simp[show ¬(m=0) by omega,show ¬(m=1) by omega,show ¬(m=2) by omega,show 1<m by omega,]);have HKY:=hid HKYY.out;clear HCM;have k1:decide (1<m)=true:=by simp;omega
    have k1':decide ((1:Int)<(m:Int))=true:=by simp;omega
    have k2:decide (m=0)=false:=by simp;omega
    have k2':decide ((m:Int)=0)=false:=by simp;omega
    have k3:decide (m=1)=false:=by simp;omega
    have k3':decide ((m:Int)=1)=false:=by simp;omega
    have k4:decide (m=2)=false:=by simp;omega
    have k4':decide ((m:Int)=2)=false:=by simp;omega
    go_enter Tryz.func65,Tryz.ntmps65
    go_wp2_with (first|(go_at_call 63;((with_reducible refine HSP.out.mono ?_);rintro e w1 ⟨bS,rfl,hb1,RP,lS⟩;have d0:w1.cell? ⟨bS,0,none⟩=some (.string ⟨#[99,97,108,108]⟩):=cel0 RP (k:=0) rfl rfl;have RR:Rd stG 1 w1 (some ⟨bS,1,none⟩) R:=rd_dropA RP 1))|(go_at_call 118;((with_reducible refine(HCT.out _ _ RP).mono ?_);rintro e w' ⟨rfl,rfl⟩))|fail)
    go_quiet (fail)
    have hbq:=below_drewN (below_refl w1) nq;have hb1:=below_tr hb1 hbq;have RR:=RR.on hbq;clear RP;generalize w1.drewN nq=w1 at *;go_wp2_with (first|(go_at_call 113;((with_reducible refine(HNM.out w1 hb1 _ _ RR).mono ?_);intro e w2 hn;obtain⟨nb,no,nc,rfl,RN,cn,hb2⟩:=nums_yes1 HNS.out HNL.out (by omega) hn;have hb12:=below_tr hb1 hb2))|fail)
    go_ret;exact com_no HA.out hb12
  by_cases h_lift:p0=[108,105,102,116]
  ·subst h_lift;have HS0:=hid (show bts [108,105,102,116]=(⟨#[108,105,102,116]⟩:ByteArray) from rfl);rw[show bts [108,105,102,116]=(⟨#[108,105,102,116]⟩:ByteArray) from rfl] at HKYY;rcases (show m=0∨m=1∨m=2∨3<=m by omega) with hM|hM|hM|hM
   ·subst hM;have HA:=hid (show cmdO s=none by rw[HCM.out];simp[]);have HKY:=hid HKYY.out;clear HCM;go_enter Tryz.func65,Tryz.ntmps65
    go_wp2_with (first|(go_at_call 63;((with_reducible refine HSP.out.mono ?_);rintro e w1 ⟨bS,rfl,hb1,RP,lS⟩;have d0:w1.cell? ⟨bS,0,none⟩=some (.string ⟨#[108,105,102,116]⟩):=cel0 RP (k:=0) rfl rfl;have RR:∀A,Rd stG 1 w1 A R:=fun A=>(by(rw[List.length_eq_zero_iff.1 HM.out];exact Rd.nil_))))|(go_at_call 118;((with_reducible refine(HCT.out _ _ RP).mono ?_);rintro e w' ⟨rfl,rfl⟩))|fail)
    go_quiet (fail)
    have hbq:=below_drewN (below_refl w1) nq;have hb1:=below_tr hb1 hbq;have RR:=fun A=>(RR A).on hbq;clear RP;generalize w1.drewN nq=w1 at *;go_wp2_with (first|(go_at_call 113;((with_reducible refine(HNM.out w1 hb1 _ _ (RR _)).mono ?_);intro e w2 hn;obtain⟨nA,nc,rfl,RN,cn,hb2⟩:=nums_yes HNS.out HNL.out hn;have hb12:=below_tr hb1 hb2))|fail)
    go_ret;exact com_no HA.out hb12
   ·subst hM;obtain⟨x0,rfl⟩:=len1 hnl;have HX0:=hid (rfl:[x0][0]?=some x0);have hi0:=hni x0 (by simp);have HA:=hid (show cmdO s=none by rw[HCM.out];simp[sngO,]);have HKY:=hid HKYY.out;clear HCM;have HNK:=hid (show Maps.has sgD5 (.string [108,105,102,116])=false from sg_no (by decide) (by decide) (by decide) (by decide) (by decide));go_enter Tryz.func65,Tryz.ntmps65
    go_wp2_with (first|(go_at_call 63;((with_reducible refine HSP.out.mono ?_);rintro e w1 ⟨bS,rfl,hb1,RP,lS⟩;have d0:w1.cell? ⟨bS,0,none⟩=some (.string ⟨#[108,105,102,116]⟩):=cel0 RP (k:=0) rfl rfl;have RR:Rd stG 1 w1 (some ⟨bS,1,none⟩) R:=rd_dropA RP 1))|(go_at_call 118;((with_reducible refine(HCT.out _ _ RP).mono ?_);rintro e w' ⟨rfl,rfl⟩))|fail)
    go_quiet (fail)
    have hbq:=below_drewN (below_refl w1) nq;have hb1:=below_tr hb1 hbq;have RR:=RR.on hbq;clear RP;generalize w1.drewN nq=w1 at *;go_wp2_with (first|(go_at_call 113;((with_reducible refine(HNM.out w1 hb1 _ _ RR).mono ?_);intro e w2 hn;obtain⟨nb,no,nc,rfl,RN,cn,hb2⟩:=nums_yes1 HNS.out HNL.out (by omega) hn;have hb12:=below_tr hb1 hb2;have e0:w2.cell? ⟨nb,no,none⟩=some (.int .i64 x0):=rdz RN (k:=0) rfl))|(go_at_call 120;((with_reducible refine(f_singles _).mono ?_);rintro e w3 ⟨rfl,hb3,ho3⟩;have f0:=(cell_on e0 hb3)))|(at_lookup;refine wpList_lookup_own_ok _ rfl _ _ 192 rfl 9 190 G.lawS und_mapF RF (zeroF _) (.held .nilFunc) [] rfl w2.heap.size 5 sgD5 rfl ho3 _ _ rfl HKY.out ?_;intro v ps hv;rw[HNK.out];generalize v=vv;clear hv)|fail)
    go_ret;exact com_no HA.out (below_tr hb12 hb3)
   ·subst hM;obtain⟨x0,x1,rfl⟩:=len2 hnl;have HX0:=hid (rfl:[x0,x1][0]?=some x0);have HX1:=hid (rfl:[x0,x1][1]?=some x1);have hi0:=hni x0 (by simp);have hi1:=hni x1 (by simp);have HA:=hid (show cmdO s=some (.lift x0 [x1]) by rw[HCM.out];simp);have HKY:=hid HKYY.out;clear HCM;go_enter Tryz.func65,Tryz.ntmps65
    go_wp2_with (first|(go_at_call 63;((with_reducible refine HSP.out.mono ?_);rintro e w1 ⟨bS,rfl,hb1,RP,lS⟩;have d0:w1.cell? ⟨bS,0,none⟩=some (.string ⟨#[108,105,102,116]⟩):=cel0 RP (k:=0) rfl rfl;have RR:Rd stG 1 w1 (some ⟨bS,1,none⟩) R:=rd_dropA RP 1))|(go_at_call 118;((with_reducible refine(HCT.out _ _ RP).mono ?_);rintro e w' ⟨rfl,rfl⟩))|fail)
    go_quiet (fail)
    have hbq:=below_drewN (below_refl w1) nq;have hb1:=below_tr hb1 hbq;have RR:=RR.on hbq;clear RP;generalize w1.drewN nq=w1 at *;go_wp2_with (first|(go_at_call 113;((with_reducible refine(HNM.out w1 hb1 _ _ RR).mono ?_);intro e w2 hn;obtain⟨nb,no,nc,rfl,RN,cn,hb2⟩:=nums_yes1 HNS.out HNL.out (by omega) hn;have hb12:=below_tr hb1 hb2;have e0:w2.cell? ⟨nb,no,none⟩=some (.int .i64 x0):=rdz RN (k:=0) rfl;have RL2:Rd zC 1 w2 (some ⟨nb,no+1,none⟩) [x1]:=rd_dropA RN 1))|fail)
    go_quiet (fail)
    have hbq2:=below_drewN (below_refl w2) nq;go_wp2;go_ret;exact com_yes HA.out ⟨hi0,by simp,by simpa using hi1,_,_,rfl,RL2.on hbq2⟩ (below_tr hb12 hbq2)
   ·obtain⟨x0,ns',rfl⟩:∃a l,ns=a::l:=by cases ns with|nil=>simp at hnl;omega|cons a l=>exact⟨a,l,rfl⟩
    have HX0:=hid (rfl:(x0::ns')[0]?=some x0);have hi0:=hni x0 (by simp);have HA:=hid (show cmdO s=some (.lift x0 ns') by rw[HCM.out];simp[show ¬(m=0) by omega,show ¬(m=1) by omega,show ¬(m=2) by omega,show 1<m by omega,]);have hl1:ns'.length=m-1:=by simp at hnl;omega
    have HKY:=hid HKYY.out;clear HCM;have k1:decide (1<m)=true:=by simp;omega
    have k1':decide ((1:Int)<(m:Int))=true:=by simp;omega
    have k2:decide (m=0)=false:=by simp;omega
    have k2':decide ((m:Int)=0)=false:=by simp;omega
    have k3:decide (m=1)=false:=by simp;omega
    have k3':decide ((m:Int)=1)=false:=by simp;omega
    have k4:decide (m=2)=false:=by simp;omega
    have k4':decide ((m:Int)=2)=false:=by simp;omega
    go_enter Tryz.func65,Tryz.ntmps65
    go_wp2_with (first|(go_at_call 63;((with_reducible refine HSP.out.mono ?_);rintro e w1 ⟨bS,rfl,hb1,RP,lS⟩;have d0:w1.cell? ⟨bS,0,none⟩=some (.string ⟨#[108,105,102,116]⟩):=cel0 RP (k:=0) rfl rfl;have RR:Rd stG 1 w1 (some ⟨bS,1,none⟩) R:=rd_dropA RP 1))|(go_at_call 118;((with_reducible refine(HCT.out _ _ RP).mono ?_);rintro e w' ⟨rfl,rfl⟩))|fail)
    go_quiet (fail)
    have hbq:=below_drewN (below_refl w1) nq;have hb1:=below_tr hb1 hbq;have RR:=RR.on hbq;clear RP;generalize w1.drewN nq=w1 at *;go_wp2_with (first|(go_at_call 113;((with_reducible refine(HNM.out w1 hb1 _ _ RR).mono ?_);intro e w2 hn;obtain⟨nb,no,nc,rfl,RN,cn,hb2⟩:=nums_yes1 HNS.out HNL.out (by omega) hn;have hb12:=below_tr hb1 hb2;have e0:w2.cell? ⟨nb,no,none⟩=some (.int .i64 x0):=rdz RN (k:=0) rfl;have RL2:Rd zC 1 w2 (some ⟨nb,no+1,none⟩) ns':=rd_dropA RN 1))|fail)
    go_quiet (fail)
    have hbq2:=below_drewN (below_refl w2) nq;go_wp2;go_ret;exact com_yes HA.out ⟨hi0,by omega,fun n hn=>hni n (List.mem_cons_of_mem _ hn),_,_,by rw[hl1];rfl,RL2.on hbq2⟩ (below_tr hb12 hbq2)
  by_cases h_day:p0=[100,97,121]
  ·subst h_day;have HS0:=hid (show bts [100,97,121]=(⟨#[100,97,121]⟩:ByteArray) from rfl);rw[show bts [100,97,121]=(⟨#[100,97,121]⟩:ByteArray) from rfl] at HKYY;rcases (show m=0∨m=1∨m=2∨3<=m by omega) with hM|hM|hM|hM
   ·subst hM;have HA:=hid (show cmdO s=some .day by rw[HCM.out];simp);have HKY:=hid HKYY.out;clear HCM;go_enter Tryz.func65,Tryz.ntmps65
    go_wp2_with (first|(go_at_call 63;((with_reducible refine HSP.out.mono ?_);rintro e w1 ⟨bS,rfl,hb1,RP,lS⟩;have d0:w1.cell? ⟨bS,0,none⟩=some (.string ⟨#[100,97,121]⟩):=cel0 RP (k:=0) rfl rfl;have RR:∀A,Rd stG 1 w1 A R:=fun A=>(by(rw[List.length_eq_zero_iff.1 HM.out];exact Rd.nil_))))|(go_at_call 118;((with_reducible refine(HCT.out _ _ RP).mono ?_);rintro e w' ⟨rfl,rfl⟩))|fail)
    go_quiet (fail)
    have hbq:=below_drewN (below_refl w1) nq;have hb1:=below_tr hb1 hbq;have RR:=fun A=>(RR A).on hbq;clear RP;generalize w1.drewN nq=w1 at *;go_wp2_with (first|(go_at_call 113;((with_reducible refine(HNM.out w1 hb1 _ _ (RR _)).mono ?_);intro e w2 hn;obtain⟨nA,nc,rfl,RN,cn,hb2⟩:=nums_yes HNS.out HNL.out hn;have hb12:=below_tr hb1 hb2))|fail)
    go_ret;exact com_yes HA.out rfl hb12
   ·subst hM;obtain⟨x0,rfl⟩:=len1 hnl;have HX0:=hid (rfl:[x0][0]?=some x0);have hi0:=hni x0 (by simp);have HA:=hid (show cmdO s=none by rw[HCM.out];simp[sngO,]);have HKY:=hid HKYY.out;clear HCM;have HNK:=hid (show Maps.has sgD5 (.string [100,97,121])=false from sg_no (by decide) (by decide) (by decide) (by decide) (by decide));go_enter Tryz.func65,Tryz.ntmps65
    go_wp2_with (first|(go_at_call 63;((with_reducible refine HSP.out.mono ?_);rintro e w1 ⟨bS,rfl,hb1,RP,lS⟩;have d0:w1.cell? ⟨bS,0,none⟩=some (.string ⟨#[100,97,121]⟩):=cel0 RP (k:=0) rfl rfl;have RR:Rd stG 1 w1 (some ⟨bS,1,none⟩) R:=rd_dropA RP 1))|(go_at_call 118;((with_reducible refine(HCT.out _ _ RP).mono ?_);rintro e w' ⟨rfl,rfl⟩))|fail)
    go_quiet (fail)
    have hbq:=below_drewN (below_refl w1) nq;have hb1:=below_tr hb1 hbq;have RR:=RR.on hbq;clear RP;generalize w1.drewN nq=w1 at *;go_wp2_with (first|(go_at_call 113;((with_reducible refine(HNM.out w1 hb1 _ _ RR).mono ?_);intro e w2 hn;obtain⟨nb,no,nc,rfl,RN,cn,hb2⟩:=nums_yes1 HNS.out HNL.out (by omega) hn;have hb12:=below_tr hb1 hb2;have e0:w2.cell? ⟨nb,no,none⟩=some (.int .i64 x0):=rdz RN (k:=0) rfl))|(go_at_call 120;((with_reducible refine(f_singles _).mono ?_);rintro e w3 ⟨rfl,hb3,ho3⟩;have f0:=(cell_on e0 hb3)))|(at_lookup;refine wpList_lookup_own_ok _ rfl _ _ 192 rfl 9 190 G.lawS und_mapF RF (zeroF _) (.held .nilFunc) [] rfl w2.heap.size 5 sgD5 rfl ho3 _ _ rfl HKY.out ?_;intro v ps hv;rw[HNK.out];generalize v=vv;clear hv)|fail)
    go_ret;exact com_no HA.out (below_tr hb12 hb3)
   ·subst hM;have HA:=hid (show cmdO s=none by rw[HCM.out];simp[]);have HKY:=hid HKYY.out;clear HCM;go_enter Tryz.func65,Tryz.ntmps65
    go_wp2_with (first|(go_at_call 63;((with_reducible refine HSP.out.mono ?_);rintro e w1 ⟨bS,rfl,hb1,RP,lS⟩;have d0:w1.cell? ⟨bS,0,none⟩=some (.string ⟨#[100,97,121]⟩):=cel0 RP (k:=0) rfl rfl;have RR:Rd stG 1 w1 (some ⟨bS,1,none⟩) R:=rd_dropA RP 1))|(go_at_call 118;((with_reducible refine(HCT.out _ _ RP).mono ?_);rintro e w' ⟨rfl,rfl⟩))|fail)
    go_quiet (fail)
    have hbq:=below_drewN (below_refl w1) nq;have hb1:=below_tr hb1 hbq;have RR:=RR.on hbq;clear RP;generalize w1.drewN nq=w1 at *;go_wp2_with (first|(go_at_call 113;((with_reducible refine(HNM.out w1 hb1 _ _ RR).mono ?_);intro e w2 hn;obtain⟨nb,no,nc,rfl,RN,cn,hb2⟩:=nums_yes1 HNS.out HNL.out (by omega) hn;have hb12:=below_tr hb1 hb2))|fail)
    go_ret;exact com_no HA.out hb12
   ·have HA:=hid (show cmdO s=none by rw[HCM.out];simp[show ¬(m=0) by omega,show ¬(m=1) by omega,show ¬(m=2) by omega,show 1<m by omega,]);have HKY:=hid HKYY.out;clear HCM;have k1:decide (1<m)=true:=by simp;omega
    have k1':decide ((1:Int)<(m:Int))=true:=by simp;omega
    have k2:decide (m=0)=false:=by simp;omega
    have k2':decide ((m:Int)=0)=false:=by simp;omega
    have k3:decide (m=1)=false:=by simp;omega
    have k3':decide ((m:Int)=1)=false:=by simp;omega
    have k4:decide (m=2)=false:=by simp;omega
    have k4':decide ((m:Int)=2)=false:=by simp;omega
    go_enter Tryz.func65,Tryz.ntmps65
    go_wp2_with (first|(go_at_call 63;((with_reducible refine HSP.out.mono ?_);rintro e w1 ⟨bS,rfl,hb1,RP,lS⟩;have d0:w1.cell? ⟨bS,0,none⟩=some (.string ⟨#[100,97,121]⟩):=cel0 RP (k:=0) rfl rfl;have RR:Rd stG 1 w1 (some ⟨bS,1,none⟩) R:=rd_dropA RP 1))|(go_at_call 118;((with_reducible refine(HCT.out _ _ RP).mono ?_);rintro e w' ⟨rfl,rfl⟩))|fail)
    go_quiet (fail)
    have hbq:=below_drewN (below_refl w1) nq;have hb1:=below_tr hb1 hbq;have RR:=RR.on hbq;clear RP;generalize w1.drewN nq=w1 at *;go_wp2_with (first|(go_at_call 113;((with_reducible refine(HNM.out w1 hb1 _ _ RR).mono ?_);intro e w2 hn;obtain⟨nb,no,nc,rfl,RN,cn,hb2⟩:=nums_yes1 HNS.out HNL.out (by omega) hn;have hb12:=below_tr hb1 hb2))|fail)
    go_ret;exact com_no HA.out hb12
  by_cases h_up:p0=[117,112]
  ·subst h_up;have HS0:=hid (show bts [117,112]=(⟨#[117,112]⟩:ByteArray) from rfl);rw[show bts [117,112]=(⟨#[117,112]⟩:ByteArray) from rfl] at HKYY;rcases (show m=0∨m=1∨m=2∨3<=m by omega) with hM|hM|hM|hM
   ·subst hM;have HA:=hid (show cmdO s=none by rw[HCM.out];simp[]);have HKY:=hid HKYY.out;clear HCM;go_enter Tryz.func65,Tryz.ntmps65
    go_wp2_with (first|(go_at_call 63;((with_reducible refine HSP.out.mono ?_);rintro e w1 ⟨bS,rfl,hb1,RP,lS⟩;have d0:w1.cell? ⟨bS,0,none⟩=some (.string ⟨#[117,112]⟩):=cel0 RP (k:=0) rfl rfl;have RR:∀A,Rd stG 1 w1 A R:=fun A=>(by(rw[List.length_eq_zero_iff.1 HM.out];exact Rd.nil_))))|(go_at_call 118;((with_reducible refine(HCT.out _ _ RP).mono ?_);rintro e w' ⟨rfl,rfl⟩))|fail)
    go_quiet (fail)
    have hbq:=below_drewN (below_refl w1) nq;have hb1:=below_tr hb1 hbq;have RR:=fun A=>(RR A).on hbq;clear RP;generalize w1.drewN nq=w1 at *;go_wp2_with (first|(go_at_call 113;((with_reducible refine(HNM.out w1 hb1 _ _ (RR _)).mono ?_);intro e w2 hn;obtain⟨nA,nc,rfl,RN,cn,hb2⟩:=nums_yes HNS.out HNL.out hn;have hb12:=below_tr hb1 hb2))|fail)
    go_ret;exact com_no HA.out hb12
   ·subst hM;obtain⟨x0,rfl⟩:=len1 hnl;have HX0:=hid (rfl:[x0][0]?=some x0);have hi0:=hni x0 (by simp);have HA:=hid (show cmdO s=none by rw[HCM.out];simp[sngO,]);have HKY:=hid HKYY.out;clear HCM;have HNK:=hid (show Maps.has sgD5 (.string [117,112])=false from sg_no (by decide) (by decide) (by decide) (by decide) (by decide));go_enter Tryz.func65,Tryz.ntmps65
    go_wp2_with (first|(go_at_call 63;((with_reducible refine HSP.out.mono ?_);rintro e w1 ⟨bS,rfl,hb1,RP,lS⟩;have d0:w1.cell? ⟨bS,0,none⟩=some (.string ⟨#[117,112]⟩):=cel0 RP (k:=0) rfl rfl;have RR:Rd stG 1 w1 (some ⟨bS,1,none⟩) R:=rd_dropA RP 1))|(go_at_call 118;((with_reducible refine(HCT.out _ _ RP).mono ?_);rintro e w' ⟨rfl,rfl⟩))|fail)
    go_quiet (fail)
    have hbq:=below_drewN (below_refl w1) nq;have hb1:=below_tr hb1 hbq;have RR:=RR.on hbq;clear RP;generalize w1.drewN nq=w1 at *;go_wp2_with (first|(go_at_call 113;((with_reducible refine(HNM.out w1 hb1 _ _ RR).mono ?_);intro e w2 hn;obtain⟨nb,no,nc,rfl,RN,cn,hb2⟩:=nums_yes1 HNS.out HNL.out (by omega) hn;have hb12:=below_tr hb1 hb2;have e0:w2.cell? ⟨nb,no,none⟩=some (.int .i64 x0):=rdz RN (k:=0) rfl))|(go_at_call 120;((with_reducible refine(f_singles _).mono ?_);rintro e w3 ⟨rfl,hb3,ho3⟩;have f0:=(cell_on e0 hb3)))|(at_lookup;refine wpList_lookup_own_ok _ rfl _ _ 192 rfl 9 190 G.lawS und_mapF RF (zeroF _) (.held .nilFunc) [] rfl w2.heap.size 5 sgD5 rfl ho3 _ _ rfl HKY.out ?_;intro v ps hv;rw[HNK.out];generalize v=vv;clear hv)|fail)
    go_ret;exact com_no HA.out (below_tr hb12 hb3)
   ·subst hM;obtain⟨x0,x1,rfl⟩:=len2 hnl;have HX0:=hid (rfl:[x0,x1][0]?=some x0);have HX1:=hid (rfl:[x0,x1][1]?=some x1);have hi0:=hni x0 (by simp);have hi1:=hni x1 (by simp);have HA:=hid (show cmdO s=some (.up x0 x1) by rw[HCM.out];simp);have HKY:=hid HKYY.out;clear HCM;go_enter Tryz.func65,Tryz.ntmps65
    go_wp2_with (first|(go_at_call 63;((with_reducible refine HSP.out.mono ?_);rintro e w1 ⟨bS,rfl,hb1,RP,lS⟩;have d0:w1.cell? ⟨bS,0,none⟩=some (.string ⟨#[117,112]⟩):=cel0 RP (k:=0) rfl rfl;have RR:Rd stG 1 w1 (some ⟨bS,1,none⟩) R:=rd_dropA RP 1))|(go_at_call 118;((with_reducible refine(HCT.out _ _ RP).mono ?_);rintro e w' ⟨rfl,rfl⟩))|fail)
    go_quiet (fail)
    have hbq:=below_drewN (below_refl w1) nq;have hb1:=below_tr hb1 hbq;have RR:=RR.on hbq;clear RP;generalize w1.drewN nq=w1 at *;go_wp2_with (first|(go_at_call 113;((with_reducible refine(HNM.out w1 hb1 _ _ RR).mono ?_);intro e w2 hn;obtain⟨nb,no,nc,rfl,RN,cn,hb2⟩:=nums_yes1 HNS.out HNL.out (by omega) hn;have hb12:=below_tr hb1 hb2;have e0:w2.cell? ⟨nb,no,none⟩=some (.int .i64 x0):=rdz RN (k:=0) rfl;have e1:w2.cell? ⟨nb,no+1,none⟩=some (.int .i64 x1):=rdz RN (k:=1) rfl))|fail)
    go_quiet (fail)
    have hbq2:=below_drewN (below_refl w2) nq;go_wp2;go_ret;exact com_yes HA.out ⟨hi0,hi1,rfl⟩ (below_tr hb12 hbq2)
   ·have HA:=hid (show cmdO s=none by rw[HCM.out];simp[show ¬(m=0) by omega,show ¬(m=1) by omega,show ¬(m=2) by omega,show 1<m by omega,]);have HKY:=hid HKYY.out;clear HCM;have k1:decide (1<m)=true:=by simp;omega
    have k1':decide ((1:Int)<(m:Int))=true:=by simp;omega
    have k2:decide (m=0)=false:=by simp;omega
    have k2':decide ((m:Int)=0)=false:=by simp;omega
    have k3:decide (m=1)=false:=by simp;omega
    have k3':decide ((m:Int)=1)=false:=by simp;omega
    have k4:decide (m=2)=false:=by simp;omega
    have k4':decide ((m:Int)=2)=false:=by simp;omega
    go_enter Tryz.func65,Tryz.ntmps65
    go_wp2_with (first|(go_at_call 63;((with_reducible refine HSP.out.mono ?_);rintro e w1 ⟨bS,rfl,hb1,RP,lS⟩;have d0:w1.cell? ⟨bS,0,none⟩=some (.string ⟨#[117,112]⟩):=cel0 RP (k:=0) rfl rfl;have RR:Rd stG 1 w1 (some ⟨bS,1,none⟩) R:=rd_dropA RP 1))|(go_at_call 118;((with_reducible refine(HCT.out _ _ RP).mono ?_);rintro e w' ⟨rfl,rfl⟩))|fail)
    go_quiet (fail)
    have hbq:=below_drewN (below_refl w1) nq;have hb1:=below_tr hb1 hbq;have RR:=RR.on hbq;clear RP;generalize w1.drewN nq=w1 at *;go_wp2_with (first|(go_at_call 113;((with_reducible refine(HNM.out w1 hb1 _ _ RR).mono ?_);intro e w2 hn;obtain⟨nb,no,nc,rfl,RN,cn,hb2⟩:=nums_yes1 HNS.out HNL.out (by omega) hn;have hb12:=below_tr hb1 hb2))|fail)
    go_ret;exact com_no HA.out hb12
  by_cases h_down:p0=[100,111,119,110]
  ·subst h_down;have HS0:=hid (show bts [100,111,119,110]=(⟨#[100,111,119,110]⟩:ByteArray) from rfl);rw[show bts [100,111,119,110]=(⟨#[100,111,119,110]⟩:ByteArray) from rfl] at HKYY;rcases (show m=0∨m=1∨m=2∨3<=m by omega) with hM|hM|hM|hM
   ·subst hM;have HA:=hid (show cmdO s=none by rw[HCM.out];simp[]);have HKY:=hid HKYY.out;clear HCM;go_enter Tryz.func65,Tryz.ntmps65
    go_wp2_with (first|(go_at_call 63;((with_reducible refine HSP.out.mono ?_);rintro e w1 ⟨bS,rfl,hb1,RP,lS⟩;have d0:w1.cell? ⟨bS,0,none⟩=some (.string ⟨#[100,111,119,110]⟩):=cel0 RP (k:=0) rfl rfl;have RR:∀A,Rd stG 1 w1 A R:=fun A=>(by(rw[List.length_eq_zero_iff.1 HM.out];exact Rd.nil_))))|(go_at_call 118;((with_reducible refine(HCT.out _ _ RP).mono ?_);rintro e w' ⟨rfl,rfl⟩))|fail)
    go_quiet (fail)
    have hbq:=below_drewN (below_refl w1) nq;have hb1:=below_tr hb1 hbq;have RR:=fun A=>(RR A).on hbq;clear RP;generalize w1.drewN nq=w1 at *;go_wp2_with (first|(go_at_call 113;((with_reducible refine(HNM.out w1 hb1 _ _ (RR _)).mono ?_);intro e w2 hn;obtain⟨nA,nc,rfl,RN,cn,hb2⟩:=nums_yes HNS.out HNL.out hn;have hb12:=below_tr hb1 hb2))|fail)
    go_ret;exact com_no HA.out hb12
   ·subst hM;obtain⟨x0,rfl⟩:=len1 hnl;have HX0:=hid (rfl:[x0][0]?=some x0);have hi0:=hni x0 (by simp);have HA:=hid (show cmdO s=none by rw[HCM.out];simp[sngO,]);have HKY:=hid HKYY.out;clear HCM;have HNK:=hid (show Maps.has sgD5 (.string [100,111,119,110])=false from sg_no (by decide) (by decide) (by decide) (by decide) (by decide));go_enter Tryz.func65,Tryz.ntmps65
    go_wp2_with (first|(go_at_call 63;((with_reducible refine HSP.out.mono ?_);rintro e w1 ⟨bS,rfl,hb1,RP,lS⟩;have d0:w1.cell? ⟨bS,0,none⟩=some (.string ⟨#[100,111,119,110]⟩):=cel0 RP (k:=0) rfl rfl;have RR:Rd stG 1 w1 (some ⟨bS,1,none⟩) R:=rd_dropA RP 1))|(go_at_call 118;((with_reducible refine(HCT.out _ _ RP).mono ?_);rintro e w' ⟨rfl,rfl⟩))|fail)
    go_quiet (fail)
    have hbq:=below_drewN (below_refl w1) nq;have hb1:=below_tr hb1 hbq;have RR:=RR.on hbq;clear RP;generalize w1.drewN nq=w1 at *;go_wp2_with (first|(go_at_call 113;((with_reducible refine(HNM.out w1 hb1 _ _ RR).mono ?_);intro e w2 hn;obtain⟨nb,no,nc,rfl,RN,cn,hb2⟩:=nums_yes1 HNS.out HNL.out (by omega) hn;have hb12:=below_tr hb1 hb2;have e0:w2.cell? ⟨nb,no,none⟩=some (.int .i64 x0):=rdz RN (k:=0) rfl))|(go_at_call 120;((with_reducible refine(f_singles _).mono ?_);rintro e w3 ⟨rfl,hb3,ho3⟩;have f0:=(cell_on e0 hb3)))|(at_lookup;refine wpList_lookup_own_ok _ rfl _ _ 192 rfl 9 190 G.lawS und_mapF RF (zeroF _) (.held .nilFunc) [] rfl w2.heap.size 5 sgD5 rfl ho3 _ _ rfl HKY.out ?_;intro v ps hv;rw[HNK.out];generalize v=vv;clear hv)|fail)
    go_ret;exact com_no HA.out (below_tr hb12 hb3)
   ·subst hM;obtain⟨x0,x1,rfl⟩:=len2 hnl;have HX0:=hid (rfl:[x0,x1][0]?=some x0);have HX1:=hid (rfl:[x0,x1][1]?=some x1);have hi0:=hni x0 (by simp);have hi1:=hni x1 (by simp);have HA:=hid (show cmdO s=some (.down x0 x1) by rw[HCM.out];simp);have HKY:=hid HKYY.out;clear HCM;go_enter Tryz.func65,Tryz.ntmps65
    go_wp2_with (first|(go_at_call 63;((with_reducible refine HSP.out.mono ?_);rintro e w1 ⟨bS,rfl,hb1,RP,lS⟩;have d0:w1.cell? ⟨bS,0,none⟩=some (.string ⟨#[100,111,119,110]⟩):=cel0 RP (k:=0) rfl rfl;have RR:Rd stG 1 w1 (some ⟨bS,1,none⟩) R:=rd_dropA RP 1))|(go_at_call 118;((with_reducible refine(HCT.out _ _ RP).mono ?_);rintro e w' ⟨rfl,rfl⟩))|fail)
    go_quiet (fail)
    have hbq:=below_drewN (below_refl w1) nq;have hb1:=below_tr hb1 hbq;have RR:=RR.on hbq;clear RP;generalize w1.drewN nq=w1 at *;go_wp2_with (first|(go_at_call 113;((with_reducible refine(HNM.out w1 hb1 _ _ RR).mono ?_);intro e w2 hn;obtain⟨nb,no,nc,rfl,RN,cn,hb2⟩:=nums_yes1 HNS.out HNL.out (by omega) hn;have hb12:=below_tr hb1 hb2;have e0:w2.cell? ⟨nb,no,none⟩=some (.int .i64 x0):=rdz RN (k:=0) rfl;have e1:w2.cell? ⟨nb,no+1,none⟩=some (.int .i64 x1):=rdz RN (k:=1) rfl))|fail)
    go_quiet (fail)
    have hbq2:=below_drewN (below_refl w2) nq;go_wp2;go_ret;exact com_yes HA.out ⟨hi0,hi1,rfl⟩ (below_tr hb12 hbq2)
   ·have HA:=hid (show cmdO s=none by rw[HCM.out];simp[show ¬(m=0) by omega,show ¬(m=1) by omega,show ¬(m=2) by omega,show 1<m by omega,]);have HKY:=hid HKYY.out;clear HCM;have k1:decide (1<m)=true:=by simp;omega
    have k1':decide ((1:Int)<(m:Int))=true:=by simp;omega
    have k2:decide (m=0)=false:=by simp;omega
    have k2':decide ((m:Int)=0)=false:=by simp;omega
    have k3:decide (m=1)=false:=by simp;omega
    have k3':decide ((m:Int)=1)=false:=by simp;omega
    have k4:decide (m=2)=false:=by simp;omega
    have k4':decide ((m:Int)=2)=false:=by simp;omega
    go_enter Tryz.func65,Tryz.ntmps65
    go_wp2_with (first|(go_at_call 63;((with_reducible refine HSP.out.mono ?_);rintro e w1 ⟨bS,rfl,hb1,RP,lS⟩;have d0:w1.cell? ⟨bS,0,none⟩=some (.string ⟨#[100,111,119,110]⟩):=cel0 RP (k:=0) rfl rfl;have RR:Rd stG 1 w1 (some ⟨bS,1,none⟩) R:=rd_dropA RP 1))|(go_at_call 118;((with_reducible refine(HCT.out _ _ RP).mono ?_);rintro e w' ⟨rfl,rfl⟩))|fail)
    go_quiet (fail)
    have hbq:=below_drewN (below_refl w1) nq;have hb1:=below_tr hb1 hbq;have RR:=RR.on hbq;clear RP;generalize w1.drewN nq=w1 at *;go_wp2_with (first|(go_at_call 113;((with_reducible refine(HNM.out w1 hb1 _ _ RR).mono ?_);intro e w2 hn;obtain⟨nb,no,nc,rfl,RN,cn,hb2⟩:=nums_yes1 HNS.out HNL.out (by omega) hn;have hb12:=below_tr hb1 hb2))|fail)
    go_ret;exact com_no HA.out hb12
  by_cases h_m1:m=1
  ·by_cases h_gust:p0=[103,117,115,116]
   ·subst h_gust;have HS0:=hid (show bts [103,117,115,116]=(⟨#[103,117,115,116]⟩:ByteArray) from rfl);rw[show bts [103,117,115,116]=(⟨#[103,117,115,116]⟩:ByteArray) from rfl] at HKYY;have hM:m=1:=h_m1;subst hM;obtain⟨x0,rfl⟩:=len1 hnl;have HX0:=hid (rfl:[x0][0]?=some x0);have hi0:=hni x0 (by simp);have HA:=hid (show cmdO s=some (.gust x0) by rw[HCM.out];simp[sngO]);have HKY:=hid HKYY.out;clear HCM;go_enter Tryz.func65,Tryz.ntmps65
    go_wp2_with (first|(go_at_call 63;((with_reducible refine HSP.out.mono ?_);rintro e w1 ⟨bS,rfl,hb1,RP,lS⟩;have d0:w1.cell? ⟨bS,0,none⟩=some (.string ⟨#[103,117,115,116]⟩):=cel0 RP (k:=0) rfl rfl;have RR:Rd stG 1 w1 (some ⟨bS,1,none⟩) R:=rd_dropA RP 1))|(go_at_call 118;((with_reducible refine(HCT.out _ _ RP).mono ?_);rintro e w' ⟨rfl,rfl⟩))|fail)
    go_quiet (fail)
    have hbq:=below_drewN (below_refl w1) nq;have hb1:=below_tr hb1 hbq;have RR:=RR.on hbq;clear RP;generalize w1.drewN nq=w1 at *;go_wp2_with (first|(go_at_call 113;((with_reducible refine(HNM.out w1 hb1 _ _ RR).mono ?_);intro e w2 hn;obtain⟨nb,no,nc,rfl,RN,cn,hb2⟩:=nums_yes1 HNS.out HNL.out (by omega) hn;have hb12:=below_tr hb1 hb2;have e0:w2.cell? ⟨nb,no,none⟩=some (.int .i64 x0):=rdz RN (k:=0) rfl))|(go_at_call 120;((with_reducible refine(f_singles _).mono ?_);rintro e w3 ⟨rfl,hb3,ho3⟩;have f0:=(cell_on e0 hb3)))|(at_lookup;refine wpList_lookup_own_ok _ rfl _ _ 192 rfl 9 190 G.lawS und_mapF RF (zeroF _) (.held .nilFunc) [] rfl w2.heap.size 5 sgD5 rfl ho3 _ _ rfl HKY.out ?_;intro v ps hv;obtain rfl:=rf_of hv sg_at1.1;rw[sg_at1.2])|(go_at_call 157;((with_reducible refine(f_sg1 _ _).mono ?_);rintro e w' ⟨rfl,rfl⟩))|fail)
    go_ret;exact com_yes HA.out ⟨hi0,rfl⟩ (below_tr hb12 hb3)
   by_cases h_dog:p0=[100,111,103]
   ·subst h_dog;have HS0:=hid (show bts [100,111,103]=(⟨#[100,111,103]⟩:ByteArray) from rfl);rw[show bts [100,111,103]=(⟨#[100,111,103]⟩:ByteArray) from rfl] at HKYY;have hM:m=1:=h_m1;subst hM;obtain⟨x0,rfl⟩:=len1 hnl;have HX0:=hid (rfl:[x0][0]?=some x0);have hi0:=hni x0 (by simp);have HA:=hid (show cmdO s=some (.dog x0) by rw[HCM.out];simp[sngO]);have HKY:=hid HKYY.out;clear HCM;go_enter Tryz.func65,Tryz.ntmps65
    go_wp2_with (first|(go_at_call 63;((with_reducible refine HSP.out.mono ?_);rintro e w1 ⟨bS,rfl,hb1,RP,lS⟩;have d0:w1.cell? ⟨bS,0,none⟩=some (.string ⟨#[100,111,103]⟩):=cel0 RP (k:=0) rfl rfl;have RR:Rd stG 1 w1 (some ⟨bS,1,none⟩) R:=rd_dropA RP 1))|(go_at_call 118;((with_reducible refine(HCT.out _ _ RP).mono ?_);rintro e w' ⟨rfl,rfl⟩))|fail)
    go_quiet (fail)
    have hbq:=below_drewN (below_refl w1) nq;have hb1:=below_tr hb1 hbq;have RR:=RR.on hbq;clear RP;generalize w1.drewN nq=w1 at *;go_wp2_with (first|(go_at_call 113;((with_reducible refine(HNM.out w1 hb1 _ _ RR).mono ?_);intro e w2 hn;obtain⟨nb,no,nc,rfl,RN,cn,hb2⟩:=nums_yes1 HNS.out HNL.out (by omega) hn;have hb12:=below_tr hb1 hb2;have e0:w2.cell? ⟨nb,no,none⟩=some (.int .i64 x0):=rdz RN (k:=0) rfl))|(go_at_call 120;((with_reducible refine(f_singles _).mono ?_);rintro e w3 ⟨rfl,hb3,ho3⟩;have f0:=(cell_on e0 hb3)))|(at_lookup;refine wpList_lookup_own_ok _ rfl _ _ 192 rfl 9 190 G.lawS und_mapF RF (zeroF _) (.held .nilFunc) [] rfl w2.heap.size 5 sgD5 rfl ho3 _ _ rfl HKY.out ?_;intro v ps hv;obtain rfl:=rf_of hv sg_at2.1;rw[sg_at2.2])|(go_at_call 158;((with_reducible refine(f_sg2 _ _).mono ?_);rintro e w' ⟨rfl,rfl⟩))|fail)
    go_ret;exact com_yes HA.out ⟨hi0,rfl⟩ (below_tr hb12 hb3)
   by_cases h_strike:p0=[115,116,114,105,107,101]
   ·subst h_strike;have HS0:=hid (show bts [115,116,114,105,107,101]=(⟨#[115,116,114,105,107,101]⟩:ByteArray) from rfl);rw[show bts [115,116,114,105,107,101]=(⟨#[115,116,114,105,107,101]⟩:ByteArray) from rfl] at HKYY;have hM:m=1:=h_m1;subst hM;obtain⟨x0,rfl⟩:=len1 hnl;have HX0:=hid (rfl:[x0][0]?=some x0);have hi0:=hni x0 (by simp);have HA:=hid (show cmdO s=some (.strike x0) by rw[HCM.out];simp[sngO]);have HKY:=hid HKYY.out;clear HCM;go_enter Tryz.func65,Tryz.ntmps65
    go_wp2_with (first|(go_at_call 63;((with_reducible refine HSP.out.mono ?_);rintro e w1 ⟨bS,rfl,hb1,RP,lS⟩;have d0:w1.cell? ⟨bS,0,none⟩=some (.string ⟨#[115,116,114,105,107,101]⟩):=cel0 RP (k:=0) rfl rfl;have RR:Rd stG 1 w1 (some ⟨bS,1,none⟩) R:=rd_dropA RP 1))|(go_at_call 118;((with_reducible refine(HCT.out _ _ RP).mono ?_);rintro e w' ⟨rfl,rfl⟩))|fail)
    go_quiet (fail)
    have hbq:=below_drewN (below_refl w1) nq;have hb1:=below_tr hb1 hbq;have RR:=RR.on hbq;clear RP;generalize w1.drewN nq=w1 at *;go_wp2_with (first|(go_at_call 113;((with_reducible refine(HNM.out w1 hb1 _ _ RR).mono ?_);intro e w2 hn;obtain⟨nb,no,nc,rfl,RN,cn,hb2⟩:=nums_yes1 HNS.out HNL.out (by omega) hn;have hb12:=below_tr hb1 hb2;have e0:w2.cell? ⟨nb,no,none⟩=some (.int .i64 x0):=rdz RN (k:=0) rfl))|(go_at_call 120;((with_reducible refine(f_singles _).mono ?_);rintro e w3 ⟨rfl,hb3,ho3⟩;have f0:=(cell_on e0 hb3)))|(at_lookup;refine wpList_lookup_own_ok _ rfl _ _ 192 rfl 9 190 G.lawS und_mapF RF (zeroF _) (.held .nilFunc) [] rfl w2.heap.size 5 sgD5 rfl ho3 _ _ rfl HKY.out ?_;intro v ps hv;obtain rfl:=rf_of hv sg_at3.1;rw[sg_at3.2])|(go_at_call 159;((with_reducible refine(f_sg3 _ _).mono ?_);rintro e w' ⟨rfl,rfl⟩))|fail)
    go_ret;exact com_yes HA.out ⟨hi0,rfl⟩ (below_tr hb12 hb3)
   by_cases h_fell:p0=[102,101,108,108]
   ·subst h_fell;have HS0:=hid (show bts [102,101,108,108]=(⟨#[102,101,108,108]⟩:ByteArray) from rfl);rw[show bts [102,101,108,108]=(⟨#[102,101,108,108]⟩:ByteArray) from rfl] at HKYY;have hM:m=1:=h_m1;subst hM;obtain⟨x0,rfl⟩:=len1 hnl;have HX0:=hid (rfl:[x0][0]?=some x0);have hi0:=hni x0 (by simp);have HA:=hid (show cmdO s=some (.cut x0) by rw[HCM.out];simp[sngO]);have HKY:=hid HKYY.out;clear HCM;go_enter Tryz.func65,Tryz.ntmps65
    go_wp2_with (first|(go_at_call 63;((with_reducible refine HSP.out.mono ?_);rintro e w1 ⟨bS,rfl,hb1,RP,lS⟩;have d0:w1.cell? ⟨bS,0,none⟩=some (.string ⟨#[102,101,108,108]⟩):=cel0 RP (k:=0) rfl rfl;have RR:Rd stG 1 w1 (some ⟨bS,1,none⟩) R:=rd_dropA RP 1))|(go_at_call 118;((with_reducible refine(HCT.out _ _ RP).mono ?_);rintro e w' ⟨rfl,rfl⟩))|fail)
    go_quiet (fail)
    have hbq:=below_drewN (below_refl w1) nq;have hb1:=below_tr hb1 hbq;have RR:=RR.on hbq;clear RP;generalize w1.drewN nq=w1 at *;go_wp2_with (first|(go_at_call 113;((with_reducible refine(HNM.out w1 hb1 _ _ RR).mono ?_);intro e w2 hn;obtain⟨nb,no,nc,rfl,RN,cn,hb2⟩:=nums_yes1 HNS.out HNL.out (by omega) hn;have hb12:=below_tr hb1 hb2;have e0:w2.cell? ⟨nb,no,none⟩=some (.int .i64 x0):=rdz RN (k:=0) rfl))|(go_at_call 120;((with_reducible refine(f_singles _).mono ?_);rintro e w3 ⟨rfl,hb3,ho3⟩;have f0:=(cell_on e0 hb3)))|(at_lookup;refine wpList_lookup_own_ok _ rfl _ _ 192 rfl 9 190 G.lawS und_mapF RF (zeroF _) (.held .nilFunc) [] rfl w2.heap.size 5 sgD5 rfl ho3 _ _ rfl HKY.out ?_;intro v ps hv;obtain rfl:=rf_of hv sg_at4.1;rw[sg_at4.2])|(go_at_call 160;((with_reducible refine(f_sg4 _ _).mono ?_);rintro e w' ⟨rfl,rfl⟩))|fail)
    go_ret;exact com_yes HA.out ⟨hi0,rfl⟩ (below_tr hb12 hb3)
   by_cases h_bill:p0=[98,105,108,108]
   ·subst h_bill;have HS0:=hid (show bts [98,105,108,108]=(⟨#[98,105,108,108]⟩:ByteArray) from rfl);rw[show bts [98,105,108,108]=(⟨#[98,105,108,108]⟩:ByteArray) from rfl] at HKYY;have hM:m=1:=h_m1;subst hM;obtain⟨x0,rfl⟩:=len1 hnl;have HX0:=hid (rfl:[x0][0]?=some x0);have hi0:=hni x0 (by simp);have HA:=hid (show cmdO s=some (.bill x0) by rw[HCM.out];simp[sngO]);have HKY:=hid HKYY.out;clear HCM;go_enter Tryz.func65,Tryz.ntmps65
    go_wp2_with (first|(go_at_call 63;((with_reducible refine HSP.out.mono ?_);rintro e w1 ⟨bS,rfl,hb1,RP,lS⟩;have d0:w1.cell? ⟨bS,0,none⟩=some (.string ⟨#[98,105,108,108]⟩):=cel0 RP (k:=0) rfl rfl;have RR:Rd stG 1 w1 (some ⟨bS,1,none⟩) R:=rd_dropA RP 1))|(go_at_call 118;((with_reducible refine(HCT.out _ _ RP).mono ?_);rintro e w' ⟨rfl,rfl⟩))|fail)
    go_quiet (fail)
    have hbq:=below_drewN (below_refl w1) nq;have hb1:=below_tr hb1 hbq;have RR:=RR.on hbq;clear RP;generalize w1.drewN nq=w1 at *;go_wp2_with (first|(go_at_call 113;((with_reducible refine(HNM.out w1 hb1 _ _ RR).mono ?_);intro e w2 hn;obtain⟨nb,no,nc,rfl,RN,cn,hb2⟩:=nums_yes1 HNS.out HNL.out (by omega) hn;have hb12:=below_tr hb1 hb2;have e0:w2.cell? ⟨nb,no,none⟩=some (.int .i64 x0):=rdz RN (k:=0) rfl))|(go_at_call 120;((with_reducible refine(f_singles _).mono ?_);rintro e w3 ⟨rfl,hb3,ho3⟩;have f0:=(cell_on e0 hb3)))|(at_lookup;refine wpList_lookup_own_ok _ rfl _ _ 192 rfl 9 190 G.lawS und_mapF RF (zeroF _) (.held .nilFunc) [] rfl w2.heap.size 5 sgD5 rfl ho3 _ _ rfl HKY.out ?_;intro v ps hv;obtain rfl:=rf_of hv sg_at5.1;rw[sg_at5.2])|(go_at_call 161;((with_reducible refine(f_sg5 _ _).mono ?_);rintro e w' ⟨rfl,rfl⟩))|fail)
    go_ret;exact com_yes HA.out ⟨hi0,rfl⟩ (below_tr hb12 hb3)
   have q_rig:((bts p0).toList==[114,105,103])=false:=by rw[bts_emp];exact beq_eq_false_iff_ne.2 h_rig
   have q_look:((bts p0).toList==[108,111,111,107])=false:=by rw[bts_emp];exact beq_eq_false_iff_ne.2 h_look
   have q_call:((bts p0).toList==[99,97,108,108])=false:=by rw[bts_emp];exact beq_eq_false_iff_ne.2 h_call
   have q_lift:((bts p0).toList==[108,105,102,116])=false:=by rw[bts_emp];exact beq_eq_false_iff_ne.2 h_lift
   have q_day:((bts p0).toList==[100,97,121])=false:=by rw[bts_emp];exact beq_eq_false_iff_ne.2 h_day
   have q_up:((bts p0).toList==[117,112])=false:=by rw[bts_emp];exact beq_eq_false_iff_ne.2 h_up
   have q_down:((bts p0).toList==[100,111,119,110])=false:=by rw[bts_emp];exact beq_eq_false_iff_ne.2 h_down
   have HKY:=hid HKYY.out;have hM:m=1:=h_m1;subst hM;obtain⟨x0,rfl⟩:=len1 hnl;have HX0:=hid (rfl:[x0][0]?=some x0);have hi0:=hni x0 (by simp);have HA:=hid (show cmdO s=none by rw[HCM.out];simp[h_rig,h_look,h_call,h_lift,h_day,h_up,h_down,sngO,h_gust,h_dog,h_strike,h_fell,h_bill,]);clear HCM;have HNK:=hid (show Maps.has sgD5 (.string p0)=false from sg_no h_gust h_dog h_strike h_fell h_bill);generalize hSx:bts p0=Sx at *;have HS0:=hid hSx;clear hSx;go_enter Tryz.func65,Tryz.ntmps65
   go_wp2_with (first|(go_at_call 63;((with_reducible refine HSP.out.mono ?_);rintro e w1 ⟨bS,rfl,hb1,RP,lS⟩;have d0:w1.cell? ⟨bS,0,none⟩=some (.string Sx):=cel0 RP (k:=0) rfl HS0.out;have RR:Rd stG 1 w1 (some ⟨bS,1,none⟩) R:=rd_dropA RP 1))|(go_at_call 118;((with_reducible refine(HCT.out _ _ RP).mono ?_);rintro e w' ⟨rfl,rfl⟩))|fail)
   go_quiet (fail)
   have hbq:=below_drewN (below_refl w1) nq;have hb1:=below_tr hb1 hbq;have RR:=RR.on hbq;clear RP;generalize w1.drewN nq=w1 at *;go_wp2_with (first|(go_at_call 113;((with_reducible refine(HNM.out w1 hb1 _ _ RR).mono ?_);intro e w2 hn;obtain⟨nb,no,nc,rfl,RN,cn,hb2⟩:=nums_yes1 HNS.out HNL.out (by omega) hn;have hb12:=below_tr hb1 hb2;have e0:w2.cell? ⟨nb,no,none⟩=some (.int .i64 x0):=rdz RN (k:=0) rfl))|(go_at_call 120;((with_reducible refine(f_singles _).mono ?_);rintro e w3 ⟨rfl,hb3,ho3⟩;have f0:=(cell_on e0 hb3)))|(at_lookup;refine wpList_lookup_own_ok _ rfl _ _ 192 rfl 9 190 G.lawS und_mapF RF (zeroF _) (.held .nilFunc) [] rfl w2.heap.size 5 sgD5 rfl ho3 _ _ rfl HKY.out ?_;intro v ps hv;rw[HNK.out];generalize v=vv;clear hv)|fail)
   go_ret;exact com_no HA.out (below_tr hb12 hb3)
  have q_rig:((bts p0).toList==[114,105,103])=false:=by rw[bts_emp];exact beq_eq_false_iff_ne.2 h_rig
  have q_look:((bts p0).toList==[108,111,111,107])=false:=by rw[bts_emp];exact beq_eq_false_iff_ne.2 h_look
  have q_call:((bts p0).toList==[99,97,108,108])=false:=by rw[bts_emp];exact beq_eq_false_iff_ne.2 h_call
  have q_lift:((bts p0).toList==[108,105,102,116])=false:=by rw[bts_emp];exact beq_eq_false_iff_ne.2 h_lift
  have q_day:((bts p0).toList==[100,97,121])=false:=by rw[bts_emp];exact beq_eq_false_iff_ne.2 h_day
  have q_up:((bts p0).toList==[117,112])=false:=by rw[bts_emp];exact beq_eq_false_iff_ne.2 h_up
  have q_down:((bts p0).toList==[100,111,119,110])=false:=by rw[bts_emp];exact beq_eq_false_iff_ne.2 h_down
  rcases (show m=0∨m=2∨3<=m by omega) with hM|hM|hM
  ·subst hM;have HA:=hid (show cmdO s=none by rw[HCM.out];simp[h_rig,h_look,h_call,h_lift,h_day,h_up,h_down,]);clear HCM;generalize hSx:bts p0=Sx at *;have HS0:=hid hSx;clear hSx;go_enter Tryz.func65,Tryz.ntmps65
   go_wp2_with (first|(go_at_call 63;((with_reducible refine HSP.out.mono ?_);rintro e w1 ⟨bS,rfl,hb1,RP,lS⟩;have d0:w1.cell? ⟨bS,0,none⟩=some (.string Sx):=cel0 RP (k:=0) rfl HS0.out;have RR:∀A,Rd stG 1 w1 A R:=fun A=>(by(rw[List.length_eq_zero_iff.1 HM.out];exact Rd.nil_))))|(go_at_call 118;((with_reducible refine(HCT.out _ _ RP).mono ?_);rintro e w' ⟨rfl,rfl⟩))|fail)
   go_quiet (fail)
   have hbq:=below_drewN (below_refl w1) nq;have hb1:=below_tr hb1 hbq;have RR:=fun A=>(RR A).on hbq;clear RP;generalize w1.drewN nq=w1 at *;go_wp2_with (first|(go_at_call 113;((with_reducible refine(HNM.out w1 hb1 _ _ (RR _)).mono ?_);intro e w2 hn;obtain⟨nA,nc,rfl,RN,cn,hb2⟩:=nums_yes HNS.out HNL.out hn;have hb12:=below_tr hb1 hb2))|fail)
   go_ret;exact com_no HA.out hb12
  ·subst hM;have HA:=hid (show cmdO s=none by rw[HCM.out];simp[h_rig,h_look,h_call,h_lift,h_day,h_up,h_down,]);clear HCM;generalize hSx:bts p0=Sx at *;have HS0:=hid hSx;clear hSx;go_enter Tryz.func65,Tryz.ntmps65
   go_wp2_with (first|(go_at_call 63;((with_reducible refine HSP.out.mono ?_);rintro e w1 ⟨bS,rfl,hb1,RP,lS⟩;have d0:w1.cell? ⟨bS,0,none⟩=some (.string Sx):=cel0 RP (k:=0) rfl HS0.out;have RR:Rd stG 1 w1 (some ⟨bS,1,none⟩) R:=rd_dropA RP 1))|(go_at_call 118;((with_reducible refine(HCT.out _ _ RP).mono ?_);rintro e w' ⟨rfl,rfl⟩))|fail)
   go_quiet (fail)
   have hbq:=below_drewN (below_refl w1) nq;have hb1:=below_tr hb1 hbq;have RR:=RR.on hbq;clear RP;generalize w1.drewN nq=w1 at *;go_wp2_with (first|(go_at_call 113;((with_reducible refine(HNM.out w1 hb1 _ _ RR).mono ?_);intro e w2 hn;obtain⟨nb,no,nc,rfl,RN,cn,hb2⟩:=nums_yes1 HNS.out HNL.out (by omega) hn;have hb12:=below_tr hb1 hb2))|fail)
   go_ret;exact com_no HA.out hb12
  ·have HA:=hid (show cmdO s=none by rw[HCM.out];simp[h_rig,h_look,h_call,h_lift,h_day,h_up,h_down,show ¬(m=0) by omega,show ¬(m=1) by omega,show ¬(m=2) by omega,show 1<m by omega,]);clear HCM;have k1:decide (1<m)=true:=by simp;omega
   have k1':decide ((1:Int)<(m:Int))=true:=by simp;omega
   have k2:decide (m=0)=false:=by simp;omega
   have k2':decide ((m:Int)=0)=false:=by simp;omega
   have k3:decide (m=1)=false:=by simp;omega
   have k3':decide ((m:Int)=1)=false:=by simp;omega
   have k4:decide (m=2)=false:=by simp;omega
   have k4':decide ((m:Int)=2)=false:=by simp;omega
   generalize hSx:bts p0=Sx at *;have HS0:=hid hSx;clear hSx;go_enter Tryz.func65,Tryz.ntmps65
   go_wp2_with (first|(go_at_call 63;((with_reducible refine HSP.out.mono ?_);rintro e w1 ⟨bS,rfl,hb1,RP,lS⟩;have d0:w1.cell? ⟨bS,0,none⟩=some (.string Sx):=cel0 RP (k:=0) rfl HS0.out;have RR:Rd stG 1 w1 (some ⟨bS,1,none⟩) R:=rd_dropA RP 1))|(go_at_call 118;((with_reducible refine(HCT.out _ _ RP).mono ?_);rintro e w' ⟨rfl,rfl⟩))|fail)
   go_quiet (fail)
   have hbq:=below_drewN (below_refl w1) nq;have hb1:=below_tr hb1 hbq;have RR:=RR.on hbq;clear RP;generalize w1.drewN nq=w1 at *;go_wp2_with (first|(go_at_call 113;((with_reducible refine(HNM.out w1 hb1 _ _ RR).mono ?_);intro e w2 hn;obtain⟨nb,no,nc,rfl,RN,cn,hb2⟩:=nums_yes1 HNS.out HNL.out (by omega) hn;have hb12:=below_tr hb1 hb2))|fail)
   go_ret;exact com_no HA.out hb12
end Go.Proofs.YtjkkfcghkeoedaaGreatDoor.Fi
