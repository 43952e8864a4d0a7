/- The parts of the proof, part 24. -/
import Derived.Test.YtjkkfcghkeoedaaGreatDoorR0
import Derived.Test.YtjkkfcghkeoedaaGreatDoorR23
set_option maxHeartbeats 16000000
set_option maxRecDepth 20000
set_option linter.unusedSimpArgs false
set_option linter.unusedVariables false
namespace Go.Proofs.YtjkkfcghkeoedaaGreatDoor.Fi
open Go.RowKit Go.Lib Tx
theorem num_cases (s:List UInt8):T6.numB s=(Tx.okA s&&(decide (itoa (valA s)=s)&&wn (valA s) (-1000000000000000) 1000000000000000)):=by
 rw[Bool.eq_iff_iff,T6.num_iff,Bool.and_eq_true,Bool.and_eq_true,decide_eq_true_iff,wn_iff];constructor
 ·rintro⟨h1,h2,h3⟩;have h4:atoiAll s=.ok (T6.numV s):=by
   have:=atoi_itoa (n:=T6.numV s) (by omega) (by omega);rwa [h1] at this
  have h5:valA s=T6.numV s:=by unfold valA;rw[h4]
  exact⟨by unfold Tx.okA;rw[h4],by rw[h5];exact h1,by rw[h5];exact h2,by rw[h5];exact h3⟩
 ·rintro⟨_,h1,h2,h3⟩;have h4:=(T6.numV_itoa (valA s)).1;rw[h1] at h4;rw[h4];exact⟨h1,h2,h3⟩
theorem num_val {s:List UInt8} (h:T6.numB s=true):T6.numV s=valA s:=by
 rw[num_cases,Bool.and_eq_true,Bool.and_eq_true,decide_eq_true_iff] at h;have h4:=(T6.numV_itoa (valA s)).1;rw[h.2.1] at h4;exact h4
theorem nms_is:∀l:List (List UInt8),nmsO l=if l.all T6.numB=true then some (l.map T6.numV) else none
 |[]=>rfl
 |w::r=>by
  rw[nmsO,nms_is r,List.all_cons];cases h1:T6.numB w
  ·simp
  ·cases h2:r.all T6.numB<;>simp
def NumP (P:List (List UInt8)) (w:World) (e:Ending) (w':World):Prop:=Below w.heap.size w w' ∧
 match nmsO P with
 |none=>e=.returned (.tuple #[.slice none 0 0,.bool false])
 |some n=>∃A c,e=.returned (.tuple #[.slice A n.length c,.bool true])∧Got (fun b=>w.heap.size<=b) w' zC 1 ⟨A,n,c⟩
theorem num_no {P:List (List UInt8)} {w w':World} {k:Nat} {p:List UInt8} (hp:P[k]?=some p) (h:T6.numB p=false) (hb:Below w.heap.size w w'):NumP P w (.returned (.tuple #[.slice none 0 0,.bool false])) w':=by
 refine⟨hb,?_⟩;rw[nms_is,if_neg];intro q;have:=List.all_eq_true.1 q p (List.mem_of_getElem? hp);rw[h] at this;cases this
theorem num_yes {P:List (List UInt8)} {w w':World} {A:Option Addr} {c:Nat} (h:P.all T6.numB=true) (ho:w'.ownsRow w.heap.size 3 1 (.slice A P.length c) P.length (fl zC (P.map T6.numV))) (hb:Below w.heap.size w w'):NumP P w (.returned (.tuple #[.slice A P.length c,.bool true])) w':=by
 refine⟨hb,?_⟩;rw[nms_is,if_pos h];have e:(P.map T6.numV).length=P.length:=List.length_map ..;refine⟨A,c,by rw[e],got_own (base:=w.heap.size) (e:=3) (fun _=>rfl) ?_ fun b h1 _=>h1⟩;unfold Sl.v;dsimp only;rw[e];exact ho
theorem rd_stG {w:World} {A:Option Addr} {P:List (List UInt8)} (h:Rd stG 1 w A P) {k:Nat} (hk:k<P.length):∃p b off,P[k]?=some p∧A=some ⟨b,off,none⟩∧b<w.heap.size∧w.cell? ⟨b,off+k,none⟩=some (.string (bts p)):=by
 obtain⟨x,hx⟩:=get_lt hk;obtain⟨b,off,e,hb,hc⟩:=h.get hx;exact⟨x,b,off,hx,e,hb,by have:=hc 0 (.string (bts x)) rfl;rw[show off+k*1+0=off+k by omega] at this;exact this⟩
theorem all_step {P:List (List UInt8)} {k:Nat} {p:List UInt8} (hp:P[k]?=some p) (h:(P.take k).all T6.numB=true) (h2:T6.numB p=true):(P.take (k+1)).all T6.numB=true:=by
 rw[List.take_add_one,hp,List.all_append,h];simp[h2]
theorem map_step {P:List (List UInt8)} {k:Nat} {p:List UInt8} (hp:P[k]?=some p):fl zC ((P.take (k+1)).map T6.numV)=fl zC ((P.take k).map T6.numV)++[.int .i64 (T6.numV p)]:=by
 rw[List.take_add_one,hp,List.map_append];simp[fl,zC]
theorem f_numbers (A:Option Addr) (P:List (List UInt8)) (c:Nat) (w:World) (hl:P.length<=100000) (hs:∀p∈P,p.length<=100000) (hL:LdW w) (hR:Rd stG 1 w A P):
  Calls Tryz.prog 113 #[.slice A P.length c] w (NumP P w):=by
 obtain⟨i0,hi,hi1,hi2,hi3⟩:=info_Int;have HS:=hid hs;have HL:=hid hL;have HR:=hid hR;clear hs hL hR;go_enter Tryz.func113,Tryz.ntmps113
 go_wp2;go_loopw [4,11] (fun v i wr=>∃k:Nat,k<=P.length∧i=.int .i64 k∧Below w.heap.size w wr∧wr.ownsRow w.heap.size 3 1 v k (fl zC ((P.take k).map T6.numV))∧Hid ((P.take k).all T6.numB=true)) (fun _ i _=>P.length-(RowKit.intOf i).toNat)
 case atStart=>exact⟨0,by omega,rfl,below_refl _,World.ownsRow_nil w _ _ _,hid rfl⟩
 case round=>
  obtain⟨k,hk,rfl,hbw,hown,HI⟩:=hrel;obtain⟨ad,cp,rfl⟩:=own_slice hown;have hbvs:=hbw.size;have k0:=nn k;by_cases hlt:k<P.length
  ·have k1:(k:Int)<(P.length:Int):=by omega
   obtain⟨p,b,off,hx,rfl,hb,c0⟩:=rd_stG (HR.out.on hbw) hlt;have HX:=hid hx;have hsz:=HS.out p (List.mem_of_getElem? hx);have HAT:=hid (c_AtoiB (bts p) wr (by rw[bts_size];exact hsz) (HL.out.on hbw));rw[bts_list] at HAT;have HNC:=hid (num_cases p);have HNV:=hid (fun h=>num_val (s:=p) h);obtain⟨v0,v1⟩:=valA_bd p;have HIT:=hid (fun W (h:Below wr.heap.size wr W)=>c_ItoaV (valA p) W v0 v1 ((HL.out.on hbw).on h).tab);have HE:=hid (show itoa (valA p)=p↔bts (itoa (valA p))=bts p from⟨fun h=>by rw[h],fun h=>by have:=congrArg (fun s=>s.data.toList) h;simpa[bts_list] using this⟩);have HBT:=hid (map_step hx);clear hx;cases hok:Tx.okA p
   ·have HF:=hid (show T6.numB p=false by rw[HNC.out,hok];rfl);go_wp2_with (go_at_call 149;refine HAT.out.mono ?_;rintro e w1 ⟨⟨er,rfl,_,hno⟩,hb1⟩;obtain⟨te,pe,rfl⟩:=hno hok)
    go_ret2;exact num_no HX.out HF.out (below_tr hbw hb1)
   ·obtain⟨S,hS⟩:∃S,S=bts p:=⟨_,rfl⟩;obtain⟨S1,hS1⟩:∃S,S=bts (itoa (valA p)):=⟨_,rfl⟩;rw[←hS,←hS1] at HE;rw[←hS1] at HIT;rw[←hS] at c0 HAT;obtain⟨V,hV⟩:∃V,V=valA p:=⟨_,rfl⟩;rw[←hV] at HNC HNV HIT HE HAT v0 v1;have HV:=hid hV;clear hS hS1 hV;by_cases heq:S1=S
    ·subst heq;cases hwn:wn V (-1000000000000000) 1000000000000000
     ·have HF:=hid (show T6.numB p=false by rw[HNC.out,hwn];simp)
      go_wp2_with (first
       |(go_at_call 149;refine HAT.out.mono ?_;rintro e w1 ⟨⟨er,rfl,hyes,_⟩,hb1⟩;obtain rfl:=hyes hok)
       |(go_at_call 70;((with_reducible refine(HIT.out _ bl).mono ?_);rintro e w2 ⟨rfl,hb2⟩))
       |(go_at_call 24;((with_reducible refine(f_withinV hwn _).mono ?_);rintro e w' ⟨rfl,rfl⟩)))
      go_ret2;exact num_no HX.out HF.out (below_tr hbw bl)
     ·have HT:=hid (show T6.numB p=true by rw[HNC.out,hok,hwn,decide_eq_true (HE.out.2 rfl)];rfl);have HNN:=hid (HNV.out HT.out)
      go_upto_region 8 with (first
       |(go_at_call 149;refine HAT.out.mono ?_;rintro e w1 ⟨⟨er,rfl,hyes,_⟩,hb1⟩;obtain rfl:=hyes hok)
       |(go_at_call 70;((with_reducible refine(HIT.out _ bl).mono ?_);rintro e w2 ⟨rfl,hb2⟩))
       |(go_at_call 24;((with_reducible refine(f_withinV hwn _).mono ?_);rintro e w' ⟨rfl,rfl⟩)))
      have B2:Below wr.heap.size wr w2:=bl;have o2:=own_on hown B2;have s2:=B2.size;go_wp2_with (at_builtin;(refine wpList_append_own _ rfl _ _ 40 rfl w.heap.size 3 i0 (.int .i64 0) 1 8 (by kernel_rfl) hi hi1 hi2 hi3 rfl (by omega) _ _ _ rfl (o2.alloc _) ⟨w2.heap.size,0,none⟩ 1 1 [.int .i64 V] rfl rfl (cells_new w2 [.int .i64 V] 3) (fun u hu=>by simp at hu;subst hu;rfl) (by unfold maxLen;omega) (by omega) (by simp;omega) ?_;intro v4 w4 hown4 hgrow4 _))
      have B4:Below w.heap.size w w4:=bl_app (below_tr hbw B2) o2 hgrow4 (Nat.le_refl _) (by omega);go_roundw
      case rel=>exact⟨k+1,by omega,by go_num,B4,by rw[HBT.out,HNN.out];exact hown4,hid (all_step HX.out HI.out HT.out)⟩
      case measure=>simp[RowKit.intOf];omega
    ·have HF:=hid (show T6.numB p=false by rw[HNC.out,decide_eq_false (fun h=>heq (HE.out.1 h))];simp);have g0:¬S1.toList=S.toList:=fun h=>heq (by apply ByteArray.ext;rw[←Array.toList_inj,←ByteArray.toList_eq,←ByteArray.toList_eq];exact h);have g1:(S1.toList==S.toList)=false:=beq_eq_false_iff_ne.2 g0;have g2:(S1.toList != S.toList)=true:=by rw[bne,g1];rfl
     clear g0 heq
     go_wp2_with (first
      |(go_at_call 149;refine HAT.out.mono ?_;rintro e w1 ⟨⟨er,rfl,hyes,_⟩,hb1⟩;obtain rfl:=hyes hok)
      |(go_at_call 70;((with_reducible refine(HIT.out _ bl).mono ?_);rintro e w2 ⟨rfl,hb2⟩)))
     go_ret2;exact num_no HX.out HF.out (below_tr hbw bl)
  ·obtain rfl:k=P.length:=by omega
   have HI2:=HI.out;rw[List.take_length] at hown HI2;go_wp2;go_ret2;exact num_yes HI2 hown hbw
theorem c_Cut1 (b:UInt8) (s:List UInt8) (w:World) (hs:s.length<=100000) (hL:LdW w):
  Calls Tryz.prog 112 #[.string (bts s),.string ⟨#[b]⟩] w fun e w'=>e=.returned (.tuple #[.string (bts (Lib.cut s [b]).1),.string (bts (Lib.cut s [b]).2.1),.bool (Lib.cut s [b]).2.2])∧Below w.heap.size w w':=by
 obtain⟨m,hm⟩:=hL.mx;refine(Tryz.strings_Cut (bts s) ⟨#[b]⟩ m w (by rw[bts_size];omega) hm).mono ?_;rintro e w' ⟨rfl,n,rfl⟩;refine⟨?_,below_drewN (below_refl _) _⟩;rw[bts_list];rfl
theorem rd_strnew (w:World) (p:List UInt8):Rd stG 1 (w.alloc (.cells #[.string (bts p)] 9)) (some ⟨w.heap.size,0,none⟩) [p]:=fun _=>by
 refine⟨w.heap.size,0,rfl,by simp,fun k x hx j v hv=>?_⟩;have hb:=Blk.new w 9 #[.string (bts p)];cases k with
 |zero=>
  simp at hx;subst hx;cases j with
  |zero=>simp[stG] at hv;subst hv;rw[show 0+0*1+0=0 by omega,hb.cell 0];rfl
  |succ j=>simp[stG] at hv
 |succ k=>simp at hx
theorem num1_no {r:List UInt8} {w w':World} {e:Ending} (h:T6.numB r=false) (hn:NumP [r] w e w'):e=.returned (.tuple #[.slice none 0 0,.bool false])∧Below w.heap.size w w':=by
 obtain⟨hb,hm⟩:=hn;rw[nms_is,if_neg (by simp[h])] at hm;exact⟨hm,hb⟩
theorem num1_yes {r:List UInt8} {w w':World} {e:Ending} (h:T6.numB r=true) (hn:NumP [r] w e w'):∃b off c,e=.returned (.tuple #[.slice (some ⟨b,off,none⟩) 1 c,.bool true])∧w'.cell? ⟨b,off,none⟩=some (.int .i64 (T6.numV r))∧w.heap.size<=b∧Below w.heap.size w w':=by
 obtain⟨hb,hm⟩:=hn;rw[nms_is,if_pos (by simp[h])] at hm;obtain⟨A,c,he,hg⟩:=hm;obtain⟨b,off,e1,h1,h2⟩:=hg.rd (by simp);dsimp only at e1;subst e1;exact⟨b,off,c,he,by simpa using h2 0 _ rfl 0 _ rfl,hg.tt (by simp) _ rfl,hb⟩
def lkB (w:List UInt8):Bool:=decide ((cut w [58]).1≠[])&&T6.numB (cut w [58]).2.1
def lkZ (w:List UInt8):G.Lk:=⟨bts (cut w [58]).1,T6.numV (cut w [58]).2.1⟩
theorem lks_is:∀l:List (List UInt8),lksO l=if l.all lkB=true then some (l.map lkZ) else none
 |[]=>rfl
 |w::r=>by
  rw[lksO,lks_is r,List.all_cons];have e:(decide ((cut w [58]).1≠[])&&T6.numB (cut w [58]).2.1)=lkB w:=rfl;rw[e];cases h1:lkB w
  ·simp
  ·cases h2:r.all lkB<;>simp[lkZ]
def LksP (P:List (List UInt8)) (w:World) (e:Ending) (w':World):Prop:=Below w.heap.size w w' ∧
 match lksO P with
 |none=>e=.returned (.tuple #[.slice none 0 0,.bool false])
 |some n=>∃A c,e=.returned (.tuple #[.slice A n.length c,.bool true])∧Got (fun b=>w.heap.size<=b) w' G.Lk.cs 2 ⟨A,n,c⟩
theorem lks_no {P:List (List UInt8)} {w w':World} {k:Nat} {p:List UInt8} (hp:P[k]?=some p) (h:lkB p=false) (hb:Below w.heap.size w w'):LksP P w (.returned (.tuple #[.slice none 0 0,.bool false])) w':=by
 refine⟨hb,?_⟩;rw[lks_is,if_neg];intro q;have:=List.all_eq_true.1 q p (List.mem_of_getElem? hp);rw[h] at this;cases this
theorem lks_yes {P:List (List UInt8)} {w w':World} {A:Option Addr} {c:Nat} (h:P.all lkB=true) (ho:w'.ownsRow w.heap.size 104 2 (.slice A P.length c) P.length (fl G.Lk.cs (P.map lkZ))) (hb:Below w.heap.size w w'):LksP P w (.returned (.tuple #[.slice A P.length c,.bool true])) w':=by
 refine⟨hb,?_⟩;rw[lks_is,if_pos h];have e:(P.map lkZ).length=P.length:=List.length_map ..;refine⟨A,c,by rw[e],got_own (base:=w.heap.size) (e:=104) G.Lk.cs_len ?_ fun b h1 _=>h1⟩;unfold Sl.v;dsimp only;rw[e];exact ho
theorem lkall_step {P:List (List UInt8)} {k:Nat} {p:List UInt8} (hp:P[k]?=some p) (h:(P.take k).all lkB=true) (h2:lkB p=true):(P.take (k+1)).all lkB=true:=by
 rw[List.take_add_one,hp,List.all_append,h];simp[h2]
theorem lkmap_step {P:List (List UInt8)} {k:Nat} {p:List UInt8} (hp:P[k]?=some p):fl G.Lk.cs ((P.take (k+1)).map lkZ)=fl G.Lk.cs ((P.take k).map lkZ)++[.string (bts (cut p [58]).1),.int .i64 (T6.numV (cut p [58]).2.1)]:=by
 rw[List.take_add_one,hp,List.map_append];simp[fl,G.Lk.cs,lkZ]
theorem cut_szs (b:UInt8) (L:List UInt8):(Lib.cut L [b]).1.length<=L.length∧(Lib.cut L [b]).2.1.length<=L.length:=by
 rcases first_or b L with hn|⟨p,q,rfl,hp⟩
 ·rw[cutL_no hn];exact⟨Nat.le_refl _,Nat.zero_le _⟩
 ·rw[cutL_at q hp];simp;omega
theorem bts_emp (a:List UInt8):(bts a).toList=a:=by rw[ByteArray.toList_eq,bts_list]
theorem f_linksOf (A:Option Addr) (P:List (List UInt8)) (c:Nat) (w:World) (hl:P.length<=100000) (hs:∀p∈P,p.length<=100000) (hL:LdW w) (hR:Rd stG 1 w A P):
  Calls Tryz.prog 119 #[.slice A P.length c] w (LksP P w):=by
 obtain⟨i0,hi,hi1,hi2,hi3⟩:=info_Link;have HS:=hid hs;have HL:=hid hL;have HR:=hid hR;clear hs hL hR;go_enter Tryz.func119,Tryz.ntmps119
 go_wp2;go_loopw [4,14] (fun v i wr=>∃k:Nat,k<=P.length∧i=.int .i64 k∧Below w.heap.size w wr∧wr.ownsRow w.heap.size 104 2 v k (fl G.Lk.cs ((P.take k).map lkZ))∧Hid ((P.take k).all lkB=true)) (fun _ i _=>P.length-(RowKit.intOf i).toNat)
 case atStart=>exact⟨0,by omega,rfl,below_refl _,World.ownsRow_nil w _ _ _,hid rfl⟩
 case round=>
  obtain⟨k,hk,rfl,hbw,hown,HI⟩:=hrel;obtain⟨ad,cp,rfl⟩:=own_slice hown;have hbvs:=hbw.size;have k0:=nn k;by_cases hlt:k<P.length
  ·have k1:(k:Int)<(P.length:Int):=by omega
   obtain⟨p,b,off,hx,rfl,hb,c0⟩:=rd_stG (HR.out.on hbw) hlt;have HX:=hid hx;have hsz:=HS.out p (List.mem_of_getElem? hx);have HCU:=hid (c_Cut1 58 p wr hsz (HL.out.on hbw));have hcs:=cut_szs 58 p
   have HNM:=hid (fun W (h:Below wr.heap.size wr W)=>(show Calls Tryz.prog 113 #[.slice (some ⟨W.heap.size,0,none⟩) 1 1] (W.alloc (.cells #[.string (bts (cut p [58]).2.1)] 9)) (NumP [(cut p [58]).2.1] (W.alloc (.cells #[.string (bts (cut p [58]).2.1)] 9))) from
    f_numbers _ [(cut p [58]).2.1] 1 _ (by simp) (fun q hq=>by simp at hq;subst hq;omega) ((HL.out.on (hbw.trans (h.mono hbvs))).on (bl_alloc (below_refl _) _)) (rd_strnew W _)))
   have HLK:=hid (show lkB p=(decide ((cut p [58]).1≠[])&&T6.numB (cut p [58]).2.1) from rfl);have HBT:=hid (lkmap_step hx);have HEM:=hid (bts_emp (cut p [58]).1);have HEN:=hid (show(cut p [58]).1=[]->bts (cut p [58]).1=⟨#[]⟩ from fun h=>by rw[h];rfl);clear hx hcs;generalize (cut p [58]).1=a at *;generalize (cut p [58]).2.1=r at *;generalize (cut p [58]).2.2=f at *;generalize bts a=S at *;by_cases ha:a=[]
   ·have HF:=hid (show lkB p=false by rw[HLK.out,ha];rfl);obtain rfl:S=⟨#[]⟩:=HEN.out ha;cases hnb:T6.numB r
    ·go_wp2_with (first
      |(go_at_call 112;((with_reducible refine HCU.out.mono ?_);rintro e w1 ⟨rfl,hb1⟩))
      |(go_at_call 113;((with_reducible refine(HNM.out w1 hb1).mono ?_);intro e w2 hn;obtain⟨rfl,hb2⟩:=num1_no hnb hn)))
     go_ret2;exact lks_no HX.out HF.out (below_tr hbw (below_tr (bl_alloc hb1 _) hb2))
    ·go_wp2_with (first
      |(go_at_call 112;((with_reducible refine HCU.out.mono ?_);rintro e w1 ⟨rfl,hb1⟩))
      |(go_at_call 113;((with_reducible refine(HNM.out w1 hb1).mono ?_);intro e w2 hn;obtain⟨nb,no,nc,rfl,cn,_,hb2⟩:=num1_yes hnb hn)))
     go_ret2;exact lks_no HX.out HF.out (below_tr hbw (below_tr (bl_alloc hb1 _) hb2))
   ·have g0:S.toList.isEmpty=false:=by rw[HEM.out];cases a with|nil=>exact absurd rfl ha|cons _ _=>rfl
    have g1:(S.toList==[])=false:=by rw[HEM.out];cases a with|nil=>exact absurd rfl ha|cons _ _=>rfl
    have hda:decide (a≠[])=true:=decide_eq_true ha;clear ha HEN HEM;cases hnb:T6.numB r
    ·have HF:=hid (show lkB p=false by rw[HLK.out,hnb];simp)
     go_wp2_with (first
      |(go_at_call 112;((with_reducible refine HCU.out.mono ?_);rintro e w1 ⟨rfl,hb1⟩))
      |(go_at_call 113;((with_reducible refine(HNM.out w1 hb1).mono ?_);intro e w2 hn;obtain⟨rfl,hb2⟩:=num1_no hnb hn)))
     go_ret2;exact lks_no HX.out HF.out (below_tr hbw (below_tr (bl_alloc hb1 _) hb2))
    ·have HT:=hid (show lkB p=true by rw[HLK.out,hnb,hda];rfl)
     go_upto_region 9 with (first
      |(go_at_call 112;((with_reducible refine HCU.out.mono ?_);rintro e w1 ⟨rfl,hb1⟩))
      |(go_at_call 113;((with_reducible refine(HNM.out w1 hb1).mono ?_);intro e w2 hn;obtain⟨nb,no,nc,rfl,cn,_,hb2⟩:=num1_yes hnb hn)))
     have B2:Below wr.heap.size wr w2:=below_tr (bl_alloc hb1 _) hb2;have o2:=own_on hown B2;have s2:=B2.size;go_wp2_with (at_builtin;(refine wpList_append_own _ rfl _ _ 99 rfl w.heap.size 104 i0 (.agg #[.string ByteArray.empty,.int .i64 0]) 2 24 (by kernel_rfl) hi hi1 hi2 hi3 rfl (by omega) _ _ _ rfl (o2.alloc _) ⟨w2.heap.size,0,none⟩ 1 1 [.string S,.int .i64 (T6.numV r)] rfl rfl (cells_new w2 [.string S,.int .i64 (T6.numV r)] 104) (fun u hu=>by simp at hu;rcases hu with rfl|rfl<;>rfl) (by unfold maxLen;omega) (by omega) (by simp;omega) ?_;intro v4 w4 hown4 hgrow4 _))
     have B4:Below w.heap.size w w4:=bl_app (below_tr hbw B2) o2 hgrow4 (Nat.le_refl _) (by omega);go_roundw
     case rel=>exact⟨k+1,by omega,by go_num,B4,by rw[HBT.out];exact hown4,hid (lkall_step HX.out HI.out HT.out)⟩
     case measure=>simp[RowKit.intOf];omega
  ·obtain rfl:k=P.length:=by omega
   have HI2:=HI.out;rw[List.take_length] at hown HI2;go_wp2;go_ret2;exact lks_yes HI2 hown hbw
def Env (w:World) (b:Nat) (L:LS):Prop:=∃w0,LdW w0∧Below w0.heap.size w0 w∧∀g,Foot b L g->w0.heap.size<=g
section
variable {w w':World} {b:Nat} {L L':LS} {T T':Nat->Prop}
theorem Env.ld (h:Env w b L):LdW w:=by obtain⟨w0,h1,h2,_⟩:=h;exact h1.on h2
theorem Env.on (h:Env w b L) (hb:Below w.heap.size w w'):Env w' b L:=by
 obtain⟨w0,h1,h2,h3⟩:=h;exact⟨w0,h1,below_tr h2 hb,h3⟩
theorem Env.fut (h:Env w b L) (hf:Fut w b L T w' L' T'):Env w' b L':=by
 obtain⟨w0,h1,h2,h3⟩:=h;refine⟨w0,h1,below_stp h2 hf.stp (fun g hg e=>by have:=h3 g e;omega) h2.size,fun g hg=>?_⟩;rcases hf.ff g hg with h4|h4
 ·exact h3 g h4
 ·exact Nat.le_trans h2.size h4
end
theorem f_failed (e:Int) (w:World) (he:I64 e) (hL:LdW w):Calls Tryz.prog 62 #[.int .i64 e] w fun r w'=>r=.returned (.string (bts (errT e)))∧Below w.heap.size w w':=by
 have HI:=Lib.hid (c_ItoaV e w he.1 he.2 hL.tab);have hs:=(show(bts (itoa e)).size<=21 by have:=itoa_len he.1 he.2;rw[bts_size];omega);have HE:=Lib.hid (show(⟨#[101,114,114,111,114,32]⟩:ByteArray)++bts (itoa e)=bts (errT e) by rw[show(⟨#[101,114,114,111,114,32]⟩:ByteArray)=bts [101,114,114,111,114,32] from rfl,ba_app];rfl);rw[←HE.out];clear HE;generalize bts (itoa e)=S at *;have z1:¬9223372036854775807<6+S.size:=by omega
 go_enter Tryz.func62,Tryz.ntmps62
 go_wp2_with (go_at_call 70;((with_reducible refine HI.out.mono ?_);rintro e w3 ⟨rfl,hb3⟩))
 go_ret;exact⟨rfl,hb3⟩
theorem trim_ws (l:List Int):Lib.trimPrefix (wsT l) [32]=(wsT l).drop 1:=by
 cases l with
 |nil=>rfl
 |cons n l=>simp[Lib.trimPrefix,Lib.hasPrefix,wsT,List.isPrefixOf]
theorem f_told0 (A:Option Addr) (l:List Int) (c:Nat) (w:World) (hl:l.length<=1000) (hb:∀x∈l,I64 x) (hL:LdW w) (hR:Rd zC 1 w A l):Calls Tryz.prog 115 #[.int .i64 0,.slice A l.length c] w fun r w'=>r=.returned (.string (bts (tldT 0 l)))∧Below w.heap.size w w':=by
 have HW:=Lib.hid (show Calls Tryz.prog 152 #[.string ⟨#[]⟩,.slice A l.length c] w fun e w'=>e=.returned (.string (bts (wsT l)))∧Below w.heap.size w w' by
  have h:=f_words ⟨#[]⟩ A l c w (by decide) (by omega) hb hL hR;rw[show(⟨#[]⟩:ByteArray)++bts (wsT l)=bts (wsT l) from by rw[show(⟨#[]⟩:ByteArray)=bts [] from rfl,ba_app];rfl] at h;exact h)
 have HT:=Lib.hid (fun W=>(show Calls Tryz.prog 151 #[.string (bts (wsT l)),.string ⟨#[32]⟩] W fun e w'=>e=.returned (.string (bts (tldT 0 l)))∧W=w' by
  have h:=Tryz.stringslite_TrimPrefix (bts (wsT l)) ⟨#[32]⟩ W;rw[bts_list,show(⟨#[32]⟩:ByteArray).data.toList=[32] from rfl,trim_ws,show(⟨((wsT l).drop 1).toArray⟩:ByteArray)=bts (tldT 0 l) by unfold tldT bts;rw[if_neg (by simp)]] at h;have h:=Lib.hid h;generalize bts (tldT 0 l)=R at *;generalize bts (wsT l)=S at *;go_enter Tryz.func151,Tryz.ntmps151
  go_wp2_with (go_at_call 183;((with_reducible refine h.out.mono ?_);rintro e w' ⟨rfl,rfl⟩))
  go_ret;exact⟨rfl,rfl⟩))
 generalize bts (wsT l)=S at *;generalize bts (tldT 0 l)=R at *;go_enter Tryz.func115,Tryz.ntmps115
 go_wp2_with (first|(go_at_call 152;((with_reducible refine HW.out.mono ?_);rintro e w3 ⟨rfl,hb3⟩))|(go_at_call 151;((with_reducible refine(HT.out _).mono ?_);rintro e w' ⟨rfl,rfl⟩)))
 go_ret;exact⟨rfl,hb3⟩
theorem f_told (e:Int) (A:Option Addr) (l:List Int) (c:Nat) (w:World) (he:I64 e) (hl:l.length<=1000) (hb:∀x∈l,I64 x) (hL:LdW w) (hR:Rd zC 1 w A l):Calls Tryz.prog 115 #[.int .i64 e,.slice A l.length c] w fun r w'=>r=.returned (.string (bts (tldT e l)))∧Below w.heap.size w w':=by
 by_cases h:e=0
 ·subst h;exact f_told0 A l c w hl hb hL hR
 ·have h1:(e==0)=false:=beq_eq_false_iff_ne.2 h;have HF:=Lib.hid (f_failed e w he hL);have HT:=Lib.hid (show tldT e l=errT e by unfold tldT;rw[if_pos h]);rw[HT.out];go_enter Tryz.func115,Tryz.ntmps115
  go_wp2_with (go_at_call 62;((with_reducible refine HF.out.mono ?_);rintro e w3 ⟨rfl,hb3⟩))
  go_ret;exact⟨rfl,hb3⟩
section
variable {w:World} {b:Nat} {L:LS} {T:Nat->Prop}
theorem FirmAt.cel (h:FirmAt w b L T):Cel w b L:=cel_of h.blk
theorem FirmAt.goes (hF:FirmAt w b L T) (hI:Inv L.val):Calls Tryz.prog 40 #[.pointer (some ⟨b,0,none⟩)] w fun e w'=>e=.returned (.bool (goB L.val L.val.gusts))∧Below w.heap.size w w':=by
 have hgl:L.gusts.l.length<=2000:=hI.gl;have hlb:=hF.blk.lt;have c18:w.cell? ⟨b,18,none⟩=some (.slice L.gusts.a L.gusts.l.length L.gusts.c):=hF.cel 18 _ rfl;obtain⟨v,hv⟩:∃v,v=goB L.val L.val.gusts:=⟨_,rfl⟩;have HG:=Lib.hid (fun W (h:Below w.heap.size w W)=>f_goesV (A:=L.gusts.a) (g:=L.gusts.l) (c:=L.gusts.c) (v:=v) hv.symm (hF.on h).cel (by omega) (hF.on h).ok.gusts.rd);rw[←hv];clear hv;go_enter Tryz.func40,Tryz.ntmps40
 go_upto_region 1 with fail
 refine wp_region_noPanic ?_;refine th w fun hS0=>?_;refine tq 0 ?_;refine tq 1 ?_;refine tq 2 ?_;refine tq 3 ?_;refine tq 4 ?_;refine tq 5 ?_;refine tq 6 ?_;refine tq 7 ?_;refine tq 8 ?_;refine tq 9 ?_;refine tq 10 ?_;refine tr 11 fun K hK=>?_;go_simp
 (go_at_call 102;((with_reducible refine(HG.out _ Go.Proofs.YtjkkfcghkeoedaaGreatDoor.bl).mono ?_);rintro e w3 ⟨rfl,hb3⟩;obtain⟨hc3,hf3,hz3⟩:=qz hb3))
 refine hK.out _ _ kq (fun hS1=>?_);clear hK K;try simp only[AP]
 refine tq 12 ?_;refine tq 13 ?_;refine wpAnyH_done (by kernel_rfl) (NoPanic.normal ?_) _;go_wp2;go_ret;exact⟨rfl,Go.Proofs.YtjkkfcghkeoedaaGreatDoor.bl⟩
end
theorem load_si {W:World} {b:Nat} {x y z:Value} (h:Blk W b 108 #[x,y,z]):(loadVar 108 ⟨b,0,none⟩).run Tryz.prog W=.ok (.agg #[x,y,z]) W:=by
 have h0:=h.cell 0;have h1:=h.cell 1;have h2:=h.cell 2;simp only[GA] at h0 h1 h2;simp[go_sem,h0,h1,h2]
abbrev siV (s:LSi):Value:=.agg #[.slice s.dogs.a s.dogs.l.length s.dogs.c,.bool s.fel,.int .i64 s.men]
theorem f_siteAt (b:Nat) (L:LS) (k:Nat) (w:World) (hC:Cel w b L) (hR:Rd LSi.cs 3 w L.sites.a L.sites.l) (hl:L.sites.l.length<=1000) {s:LSi} (hs:L.sites.l[k]?=some s):
  Calls Tryz.prog 106 #[.pointer (some ⟨b,0,none⟩),.int .i64 (k:Nat)] w fun e w'=>e=.returned (siV s)∧Below w.heap.size w w':=by
 have hk:=(List.getElem?_eq_some_iff.1 hs).1;have x0:=Blk.new w 108 #[.slice none 0 0,.bool false,.int .i64 0];have B0:=bl_alloc (below_refl w) (.cells #[.slice none 0 0,.bool false,.int .i64 0] 108);have c20:(w.alloc (.cells #[.slice none 0 0,.bool false,.int .i64 0] 108)).cell? ⟨b,20,none⟩=some (.slice L.sites.a L.sites.l.length L.sites.c):=(hC.on B0) 20 _ rfl;obtain⟨s',sb,so,hs',ha,hsb,d0,d1,d2⟩:=rdSi (hR.on B0) hk;obtain rfl:s'=s:=by rw[hs] at hs';cases hs';rfl
 rw[ha] at c20;have hwn:wn (k:Int) 0 ((L.sites.l.length:Int)-1)=true:=wn_iff.2 ⟨by omega,by omega⟩;have hw1:IntKind.i64.wrap ((L.sites.l.length:Int)-1)=(L.sites.l.length:Int)-1:=fits_wrap ⟨by omega,by omega⟩;have k0:=nn k;have k1:(k:Int)<(L.sites.l.length:Int):=by omega
 have f0:=x0.frozen 0;have f1:=x0.frozen 1;have f2:=x0.frozen 2;have e0:=x0.cell 0;have e1:=x0.cell 1;have e2:=x0.cell 2;simp only[GA] at e0 e1 e2;clear hs hs' hR hC ha;generalize L.sites.l.length=n at *;go_enter Tryz.func106,Tryz.ntmps106
 go_upto_region 1 with fail
 generalize w.alloc (.cells #[.slice none 0 0,.bool false,.int .i64 0] 108)=w1 at *;have HB:=((x0.set_ 0 (.slice s'.dogs.a s'.dogs.l.length s'.dogs.c)).set_ 1 (.bool s'.fel)).set_ 2 (.int .i64 s'.men);go_wp2_with (go_at_call 24;((with_reducible refine(f_withinV hwn _).mono ?_);rintro e w' ⟨rfl,rfl⟩))
 refine bodyPost_ret (v:=siV s') (res_c rfl rfl (load_si HB)) rfl ⟨rfl,?_⟩;(repeat'(first|assumption|exact below_refl _|refine bl_alloc ?_ _|refine Below.setCell ?_ ?_ _|refine below_draw ?_|refine below_drewN ?_ _|refine below_tr ?_ (by assumption)))<;>(first|omega|(simp;done)|(simp;omega))
theorem FirmAt.aloft {b:Nat} {L:LS} {T:Nat->Prop} {w:World} (hF:FirmAt w b L T) (hI:Inv L.val) (k:Nat) {s:LSi} (hs:L.sites.l[k]?=some s):
  Calls Tryz.prog 45 #[.pointer (some ⟨b,0,none⟩),.int .i64 (k:Nat)] w fun e w'=>e=.returned (.int .i64 s.men)∧Below w.heap.size w w':=by
 have hsl:L.sites.l.length<=8:=hI.slen;have hfd:∀(W:World),(Instr.field 108 (siV s) 2).run Tryz.prog W=.ok (.int .i64 s.men) W:=fun _=>by kernel_rfl
 have HS:=Lib.hid (f_siteAt b L k w hF.cel hF.ok.sites.rd (by omega) hs);go_enter Tryz.func45,Tryz.ntmps45
 go_wp2_with (go_at_call 106;((with_reducible refine HS.out.mono ?_);rintro e w3 ⟨rfl,hb3⟩))
 go_ret;exact⟨rfl,hb3⟩
def isRig:Cm->Bool|.rig _ _=>true|_=>false
theorem CmV.rig {w:World} {c:Cm} {v:Value} (h:CmV w c v):∃z,∀(xT:TypeId) (W:World),(Instr.typeAssert v xT 183 true).run Tryz.prog W=.ok (.tuple #[z,.bool (isRig c)]) W:=by
 cases c with
 |rig i l=>obtain⟨_,_,_,A,cc,rfl,_⟩:=h;exact⟨.agg #[.int .i64 i,.slice A l.length cc],fun _ _=>by kernel_rfl⟩
 |lift r l=>obtain⟨_,_,_,A,cc,rfl,_⟩:=h;exact⟨.agg #[.int .i64 0,.slice none 0 0],fun _ _=>by kernel_rfl⟩
 |up i m=>obtain⟨_,_,rfl⟩:=h;exact⟨.agg #[.int .i64 0,.slice none 0 0],fun _ _=>by kernel_rfl⟩
 |down i m=>obtain⟨_,_,rfl⟩:=h;exact⟨.agg #[.int .i64 0,.slice none 0 0],fun _ _=>by kernel_rfl⟩
 |day=>obtain rfl:=h;exact⟨.agg #[.int .i64 0,.slice none 0 0],fun _ _=>by kernel_rfl⟩
 |gust _=>obtain⟨_,rfl⟩:=h;exact⟨.agg #[.int .i64 0,.slice none 0 0],fun _ _=>by kernel_rfl⟩
 |dog _=>obtain⟨_,rfl⟩:=h;exact⟨.agg #[.int .i64 0,.slice none 0 0],fun _ _=>by kernel_rfl⟩
 |strike _=>obtain⟨_,rfl⟩:=h;exact⟨.agg #[.int .i64 0,.slice none 0 0],fun _ _=>by kernel_rfl⟩
 |look _=>obtain⟨_,rfl⟩:=h;exact⟨.agg #[.int .i64 0,.slice none 0 0],fun _ _=>by kernel_rfl⟩
 |call _=>obtain⟨_,rfl⟩:=h;exact⟨.agg #[.int .i64 0,.slice none 0 0],fun _ _=>by kernel_rfl⟩
 |cut _=>obtain⟨_,rfl⟩:=h;exact⟨.agg #[.int .i64 0,.slice none 0 0],fun _ _=>by kernel_rfl⟩
 |bill _=>obtain⟨_,rfl⟩:=h;exact⟨.agg #[.int .i64 0,.slice none 0 0],fun _ _=>by kernel_rfl⟩
theorem wk_bd (g:List G.It) (r:List G.Lk) (back:List ByteArray) (day:Int) (L:List Int):I64 (G.wkE g r back day L):=by
 unfold G.wkE G.ldE;repeat' split
 all_goals decide
theorem lk_bd (g:List G.It) (s:ByteArray) (d:Int):I64 (G.lkE g s d):=by
 unfold G.lkE;repeat' split
 all_goals decide
theorem few_bd (c:Cl) (l:List Jt):I64 (fewE c l):=by
 unfold fewE;repeat' split
 all_goals decide
theorem pri_e (r:Rt) (h:Int):I64 (priE r h):=by
 unfold priE;repeat' split
 all_goals decide
theorem wnd_e (l:List S.Course) (b p s:Int):I64 (S.windyE l b p s):=by
 unfold S.windyE;repeat' split
 all_goals decide
theorem hgt_e (l:List S.Course):I64 (S.heightR l).2:=by
 unfold S.heightR;split
 ·exact(by decide:I64 0)
 ·exact(by decide:I64 1)
theorem deed_e {c:Cm} {x:St} {e:Int} (h:deed c x=.error e):I64 e:=by
 cases c<;>unfold deed at h<;>dsimp only at h<;>repeat'(split at h)
 all_goals first
  |(cases h;first|exact wk_bd _ _ _ _ _|exact lk_bd _ _ _|exact few_bd _ _|exact pri_e _ _|exact wnd_e _ _ _ _|exact hgt_e _|decide)
  |cases h
theorem doC_err {c:Cm} {x:St}:I64 (doC c x).1:=by
 unfold doC;split
 ·exact(by decide:I64 4)
 ·cases hd:deed c x with
  |error e=>exact deed_e hd
  |ok y=>exact(by decide:I64 0)
def RepP (c:Cm) (b:Nat) (L:LS) (T:Nat->Prop) (w:World) (e:Ending) (w':World):Prop:=
 e=.returned (.string (bts (repT c L.val)))∧∃L' T',L'.val=(doC c L.val).2∧Fut w b L T w' L' T'
theorem Fut.below {w w' w'':World} {b:Nat} {L L':LS} {T T':Nat->Prop} (h:Fut w b L T w' L' T') (hb:Below w'.heap.size w' w''):Fut w b L T w'' L' T':=h.trans (Fut.of_below h.at_ hb)
theorem f_reply {c:Cm} {v:Value} {b:Nat} {L:LS} {T:Nat->Prop} {w:World} (hF:FirmAt w b L T) (hI:Inv L.val) (hE:Env w b L) (hc:CmV w c v):
  Calls Tryz.prog 66 #[.pointer (some ⟨b,0,none⟩),v] w (RepP c b L T w):=by
 have HD:=Lib.hid (f_doV hF hI hE.ld hc);obtain⟨z,hta⟩:=hc.rig;have HI:=Lib.hid (inv_doC hI hc.ok);by_cases he:(doC c L.val).1=0
 ·cases hr:isRig c
  ·have HR:=Lib.hid (show repT c L.val=okT by unfold repT;rw[if_neg (by rw[he];simp)];cases c<;>first|rfl|(cases hr));unfold DoP at HD;rw[he] at HD;rw[hr] at hta;go_enter Tryz.func66,Tryz.ntmps66
   go_wp2_with (go_at_call 74;((with_reducible refine HD.out.mono ?_);rintro e w3 ⟨rfl,L',T',hv,hf⟩))
   go_ret;exact⟨by rw[HR.out];rfl,L',T',hv,hf⟩
  ·obtain⟨i,l,rfl⟩:∃i l,c=.rig i l:=by cases c<;>first|exact⟨_,_,rfl⟩|cases hr
   have HR:=Lib.hid (show repT (.rig i l) L.val=nT ((doC (.rig i l) L.val).2.rigs.length-1) by unfold repT;rw[if_neg (by rw[he];simp)]);unfold DoP at HD;rw[he] at HD;rw[hr] at hta;go_enter Tryz.func66,Tryz.ntmps66
   go_upto_region 6 with (go_at_call 74;((with_reducible refine HD.out.mono ?_);rintro e w3 ⟨rfl,L',T',hv,hf⟩))
   have c19:w3.cell? ⟨b,19,none⟩=some (.slice L'.rigs.a L'.rigs.l.length L'.rigs.c):=hf.at_.cel 19 _ rfl;have hlen:(doC (.rig i l) L.val).2.rigs.length=L'.rigs.l.length:=by rw[←hv];unfold LS.val;exact List.length_map ..
   have hrl:L'.rigs.l.length<=50:=by rw[←hlen];exact HI.out.rl
   have hw1:IntKind.i64.wrap ((L'.rigs.l.length:Int)-1)=(L'.rigs.l.length:Int)-1:=fits_wrap ⟨by omega,by omega⟩;have HIT:=Lib.hid (c_ItoaV ((L'.rigs.l.length:Int)-1) w3 (by omega) (by omega) (hE.fut hf).ld.tab);rw[hlen] at HR;have HR2:=Lib.hid (show bts (itoa ((L'.rigs.l.length:Int)-1))=bts (repT (.rig i l) L.val) by rw[HR.out];rfl);rw[HR2.out] at HIT;clear hlen HR HR2;go_wp2_with (go_at_call 70;((with_reducible refine HIT.out.mono ?_);rintro e w4 ⟨rfl,hb4⟩))
   go_ret;exact⟨rfl,L',T',hv,hf.below hb4⟩
 ·have he0:((doC c L.val).1==0)=false:=beq_eq_false_iff_ne.2 he;have HR:=Lib.hid (show repT c L.val=errT (doC c L.val).1 by unfold repT;rw[if_pos he]);have HF:=Lib.hid (fun W (h:LdW W)=>f_failed (doC c L.val).1 W doC_err h);rw[←HR.out] at HF;unfold DoP at HD;generalize (doC c L.val).1=E at *;go_enter Tryz.func66,Tryz.ntmps66
  go_wp2_with (first|(go_at_call 74;((with_reducible refine HD.out.mono ?_);rintro e w3 ⟨rfl,L',T',hv,hf⟩))|(go_at_call 62;((with_reducible refine(HF.out _ (hE.fut hf).ld).mono ?_);rintro e w4 ⟨rfl,hb4⟩)))
  go_ret;exact⟨rfl,L',T',hv,hf.below hb4⟩
end Go.Proofs.YtjkkfcghkeoedaaGreatDoor.Fi
