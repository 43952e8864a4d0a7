/- The parts of the proof, part 15. -/
import Derived.Test.YtjkkfcghkeoedaaGreatDoorR0
import Derived.Test.YtjkkfcghkeoedaaGreatDoorR13
import Derived.Test.YtjkkfcghkeoedaaGreatDoorR14
import Derived.WalkSpells
set_option maxHeartbeats 16000000
set_option maxRecDepth 20000
set_option linter.unusedSimpArgs false
set_option linter.unusedVariables false
namespace Go.Proofs.YtjkkfcghkeoedaaGreatDoor.Fi
open Go.RowKit Go.Lib Go.Maps Tx
theorem ct_all (c:Cl) (l:List Jt):ctF c l (sdN l l.length).reverse (sdN l l.length).reverse.length=ndA c l:=by
 funext x
 unfold ctF;rw[List.take_length];by_cases h:x∈(sdN l l.length).reverse
 ·rw[if_pos h]
 ·rw[if_neg h];symm
  apply ndA_sound;rw[List.mem_reverse] at h;by_cases hx:x<l.length
  ·cases hs:(jAt l x).s
   ·rfl
   ·exact absurd (by unfold sdN;rw[List.mem_filter];exact⟨by simpa using hx,by simpa using hs⟩) h
  ·unfold jAt;rw[List.getElem?_eq_none (by omega)];rfl
theorem fol_gt {c:Cl} {l:List Jt} {b:Int} {n:Nat} (h:folB c l b n=true):b<(n:Int):=by
 unfold folB at h;split at h
 ·omega
 ·rw[Bool.and_eq_true,decide_eq_true_eq] at h;exact h.1
theorem bst_mem {c:Cl} {l:List Jt} {b:Int} {s:List Nat}:∀{a:Option Nat},(∀i,a=some i->i<l.length∧0<ndA c l i∧b<(i:Int))->(∀i∈s,i<l.length)->∀i,s.foldl (btr c l b) a=some i->i<l.length∧0<ndA c l i∧b<(i:Int):=by
 induction s with
 |nil=>intro a ha _ i h;exact ha i h
 |cons x s ih=>
  intro a ha hs i h;rw[List.foldl_cons] at h;refine ih (fun k hk=>?_) (fun k hk=>hs k (List.mem_cons_of_mem _ hk)) i h;unfold btr at hk;have hx:=hs x (List.mem_cons_self ..);split at hk
  ·rename_i hc
   rw[Bool.and_eq_true,decide_eq_true_eq] at hc;have hg:=fol_gt hc.2;split at hk
   ·cases hk;exact⟨hx,hc.1,hg⟩
   ·rename_i m
    split at hk
    ·cases hk;exact⟨hx,hc.1,hg⟩
    ·cases hk;exact ha _ rfl
  ·exact ha k hk
theorem fewF_step {c:Cl} {l:List Jt} {f:Nat} {b:Int}:fewF c l (f+1) b=match bstN c l b with
  |none=>none
  |some i=>if ndA c l i=1 then some [i] else (fewF c l f i).map (i::·):=rfl
def bEnc:Option Nat->Value
 |none=>.int .i64 (-1)
 |some i=>.int .i64 (i:Nat)
def FewAt (c:Cl) (l:List Jt) (out:List Nat) (b:Int):Prop:=
 (out=[]->b=-1)∧(out≠[]->0<=b∧1<=ndA c l b.toNat)∧∃f:Nat,(l.length:Int)-b<=f∧fewN c l=if out≠[]∧ndA c l b.toNat=1 then some out else (fewF c l f b).map (out ++ ·)
theorem few_zero (c:Cl) (l:List Jt):FewAt c l [] (-1):=⟨fun _=>rfl,fun h=>absurd rfl h,l.length+1,by omega,by
 rw[if_neg (fun h=>h.1 rfl)];unfold fewN;cases fewF c l (l.length+1) (-1)<;>rfl⟩
theorem few_none {c:Cl} {l:List Jt} {out:List Nat} {b:Int} (h:FewAt c l out b) (hb:b<(l.length:Int)) (hg:¬(out≠[]∧ndA c l b.toNat=1)) (hn:bstN c l b=none):fewN c l=none:=by
 obtain⟨_,_,f,hf,h3⟩:=h;obtain⟨f',rfl⟩:∃f',f=f'+1:=⟨f-1,by omega⟩;rw[h3,if_neg hg,fewF_step,hn];rfl
theorem few_some {c:Cl} {l:List Jt} {out:List Nat} {b:Int} {i:Nat} (h:FewAt c l out b) (hb:b<(l.length:Int)) (hg:¬(out≠[]∧ndA c l b.toNat=1)) (hn:bstN c l b=some i) (hi:0<ndA c l i) (hbi:b<(i:Int)):FewAt c l (out++[i]) i:=by
 obtain⟨_,_,f,hf,h3⟩:=h;obtain⟨f',rfl⟩:∃f',f=f'+1:=⟨f-1,by omega⟩;refine⟨fun h=>by simp at h,fun _=>⟨by omega,by simpa using(show 1<=ndA c l i by omega)⟩,f',by omega,?_⟩;rw[h3,if_neg hg,fewF_step,hn];dsimp only;rw[Int.toNat_natCast];by_cases h1:ndA c l i=1
 ·rw[if_pos h1,if_pos ⟨by simp,h1⟩];rfl
 ·rw[if_neg h1,if_neg (fun q=>h1 q.2),Option.map_map];congr 1;funext x
  simp
theorem few_done {c:Cl} {l:List Jt} {out:List Nat} {b:Int} (h:FewAt c l out b) (hg:out≠[]∧ndA c l b.toNat=1):fewN c l=some out:=by
 obtain⟨_,_,f,hf,h3⟩:=h;rw[h3,if_pos hg]
def FewP (c:Cl) (l:List Jt) (w:World) (e:Ending) (w':World):Prop:=
 Below w.heap.size w w'∧((fewN c l=none∧e=.returned (.slice none 0 0))∨∃v d,fewN c l=some d∧d≠[]∧e=.returned v∧w'.ownsRow w.heap.size 3 1 v d.length (S.natV d))
theorem l_fewest (c:Cl) (A:Option Addr) (l:List Jt) (cc:Nat) (w:World) (hJ:JB l) (hga:1<=c.ga∧c.ga<=200000) (hR:Rd Jt.cs 2 w A l):
  Calls Tryz.prog 321 #[clV c,.slice A l.length cc] w (FewP c l w):=by
 have x0:=Blk.new w 25 (clA c);have B0:=bl_alloc (below_refl w) (.cells (clA c) 25);have hn2:=hJ.n;have HCT:=hid (l_counts c A l cc _ hJ hga (hR.on B0));obtain⟨i0,hi,hi1,hi2,hi3⟩:=info_intF;have b0:=x0.cell 0;have b1:=x0.cell 1;have b2:=x0.cell 2;have b3:=x0.cell 3;have b4:=x0.cell 4;have b5:=x0.cell 5;simp only[GA] at b0 b1 b2 b3 b4 b5;rw[ct_all] at HCT;go_enter Tryz.func321,Tryz.ntmps321
 go_wp2_with (go_at_call 322;((with_reducible refine HCT.out.mono ?_);rintro e w2 ⟨mb,n,rfl,hmb,hmp,hb2⟩))
 have B2:=below_tr B0 hb2;have hz2:=B2.size;have hbx:=x0.below hb2 x0.lt;have HM:=hid (fun W (h:Below w2.heap.size w2 W)=>mp_on hmp h);have HBX:Hid (∀W,Below w2.heap.size w2 W->Blk W w.heap.size 25 (clA c)∧Below w.heap.size w W):=hid fun W h=>⟨hbx.below h hbx.lt,below_tr B2 h⟩;have HRK:=hid (fun W (h:Below w2.heap.size w2 W)=>(hR.on B2).on h);clear b0 b1 b2 b3 b4 b5 hmp hbx hb2 HCT x0 B0;go_loopw [6,7] (fun v b wr=>∃(out:List Nat) (bz:Int),b=.int .i64 bz ∧ -1<=bz∧bz<(l.length:Int)+1∧(out≠[]->bz<(l.length:Int))∧out.length<=(bz+1).toNat∧wr.ownsRow w2.heap.size 3 1 v out.length (S.natV out)∧Below w2.heap.size w2 wr∧Hid (FewAt c l out bz)) (fun _ b _=>((l.length:Int)-RowKit.intOf b).toNat)
 case atStart=>exact⟨[],-1,rfl,by omega,by omega,fun h=>absurd rfl h,by simp,World.ownsRow_nil w2 _ _ _,below_refl _,hid (few_zero c l)⟩
 case round=>
  obtain⟨out,bz,rfl,hbz0,hbz1,hbz2,hol,hown,hbw,HF⟩:=hrel;obtain⟨ad,cp,rfl⟩:=own_slice hown;rename World=>wr
  have hbvs:=hbw.size;have hbl:bz<(l.length:Int):=by
   by_cases h:out=[]
   ·have:=HF.out.1 h;omega
   ·exact hbz2 h
  have HN:=hid (fun h h2=>few_none HF.out hbl h h2);have HSM:=hid (fun i h h2 h3 h4=>few_some (i:=i) HF.out hbl h h2 h3 h4);by_cases hd:out≠[]∧ndA c l bz.toNat=1
  ·have HD:=hid (few_done HF.out hd);have hb0:=(HF.out.2.1 hd.1).1;obtain⟨bn,rfl⟩:=Int.eq_ofNat_of_zero_le hb0;have hlk:=mp_look (HM.out wr hbw) bn (by omega);have hd2:=hd.2;rw[Int.toNat_natCast] at hd2;rw[hd2] at hlk;have hol2:0<out.length:=List.length_pos_iff.2 hd.1;have g0:((out.length:Int)==0)=false:=beq_eq_false_iff_ne.2 (by omega);have HNE:=hid hd.1;have hbB:=(HBX.out wr hbw).2;clear hd HN HSM HF hd2;go_wp2;go_ret;exact⟨hbB,.inr ⟨_,out,HD.out,HNE.out,rfl,own_base hown hz2⟩⟩
  have HG:=hid hd;have HSO:=hid (fun W (h:Below w2.heap.size w2 W)=>l_sound A l cc W (by omega) (HRK.out W h));have hsl:=sdN_len l l.length;have hsm:∀x∈sdN l l.length,x<l.length:=fun x hx=>(sdN_mem hx).1;rcases (by by_cases h:out=[];exact .inl h;exact .inr h:out=[]∨out≠[]) with h0|h0
  case' inl=>
   have g0:((out.length:Int)==0)=true:=by rw[h0];rfl
   clear hd h0;go_upto_region 6 with fail
  case' inr=>
   have hb0:=(HF.out.2.1 h0).1;have hb1:=(HF.out.2.1 h0).2;have hol2:0<out.length:=List.length_pos_iff.2 h0;have g0:((out.length:Int)==0)=false:=beq_eq_false_iff_ne.2 (by omega);have g1:(1:Int)<ndA c l bz.toNat:=by
    rcases (by omega:ndA c l bz.toNat=1∨1<ndA c l bz.toNat) with h|h
    ·exact absurd ⟨h0,h⟩ hd
    ·exact h
   have hlk:=mp_look (HM.out wr hbw) bz.toNat (by omega);rw[show((bz.toNat:Nat):Int)=bz by omega] at hlk;clear hd h0;generalize ndA c l bz.toNat=NB at *;go_upto_region 6 with fail
   clear hlk g1 hb1 hb0
  all_goals
   go_wp2_with (go_at_call 323;((with_reducible refine(HSO.out _ hbw).mono ?_);rintro e w4 ⟨v4,rfl,hv4,hb4⟩;obtain⟨A4,c4,rfl⟩:=own_slice hv4))
   have hbw4:=below_tr hbw hb4;have hz4:=hb4.size;have rd4:=natV_rd hv4;have HO4:=hid (fun W (h:Below w4.heap.size w4 W)=>own_on (own_on hown hb4) h);have HR4:=hid (fun W (h:Below w4.heap.size w4 W)=>rd4.on h);clear hv4 hb4 rd4 hown;obtain⟨s,hs⟩:∃s,s=sdN l l.length:=⟨_,rfl⟩;have HBN:=hid (show bstN c l bz=s.foldl (btr c l bz) none by rw[hs];rfl);rw[←hs] at hsl hsm HR4 ⊢;clear hs;go_loopw [8,28] (fun bv i wv=>∃(j:Nat) (b:Option Nat),j<=s.length∧i=.int .i64 j∧bv=bEnc b∧Below w4.heap.size w4 wv∧Hid (b=(s.take j).foldl (btr c l bz) none∧∀i,b=some i->i<l.length)) (fun _ i _=>s.length-(RowKit.intOf i).toNat)
   case atStart=>exact⟨0,none,by omega,rfl,rfl,below_refl _,hid ⟨rfl,fun i h=>by cases h⟩⟩
   case round=>
    obtain⟨j,b,hj,rfl,rfl,hbv,HB⟩:=hrel;rename World=>wv
    have hbB:=below_tr hbw4 hbv;have j0:=nn j;by_cases hjs:j<s.length
    ·have j1:(j:Int)<(s.length:Int):=by omega
     obtain⟨x,ab,ao,hx,rfl,hab,x0⟩:=rd_nat (HR4.out wv hbv) hjs;have hxl:=hsm x (List.mem_of_getElem? hx);obtain⟨hbx,_⟩:=HBX.out wv hbB;have b0:=hbx.cell 0;have b1:=hbx.cell 1;have b2:=hbx.cell 2;have b3:=hbx.cell 3;have b4:=hbx.cell 4;have b5:=hbx.cell 5;simp only[GA] at b0 b1 b2 b3 b4 b5;have hlo:=mp_look_ok (HM.out wv hbB) x (by omega);have hnb:=ndA_bd c l x;have hsn:s.take (j+1)=s.take j++[x]:=by rw[List.take_add_one,hx];rfl
     have HSN:Hid ((s.take (j+1)).foldl (btr c l bz) none=btr c l bz b x):=hid (by rw[hsn,List.foldl_append,←HB.out.1];rfl);have HFO:=hid (fun v (h:folB c l bz x=v)=>l_followsV (cc:=cc) h hJ hxl hbl (HRK.out wv hbB));have hxz:(x:Int)<=9223372036854775807:=by omega
     clear hx hsn;by_cases hN0:ndA c l x=0
     ·rw[hN0] at hlo;have hlo2:(Instr.lookup 305 (.map (some mb)) (.int .i64 (x:Nat)) true).run Tryz.prog wv=.ok (.tuple #[.int .i64 0,.bool false]) wv:=hlo;have HS2:=hid (show b=(s.take (j+1)).foldl (btr c l bz) none by
       rw[HSN.out];unfold btr;rw[if_neg];rw[hN0];simp)
      have HBL:=hid HB.out.2;clear HSN hlo HFO HB;go_wp2;go_roundw
      case rel=>exact⟨j+1,b,by omega,by go_num,rfl,hbv,hid ⟨HS2.out,HBL.out⟩⟩
      case measure=>simp[RowKit.intOf];omega
     ·have hlo2:(Instr.lookup 305 (.map (some mb)) (.int .i64 (x:Nat)) true).run Tryz.prog wv=.ok (.tuple #[.int .i64 (ndA c l x),.bool true]) wv:=by rw[hlo,decide_eq_true hN0]
      have hN1:0<ndA c l x:=by omega
      clear hlo;cases hv:folB c l bz x
      ·have HF2:=hid (HFO.out _ hv);have HS2:=hid (show b=(s.take (j+1)).foldl (btr c l bz) none by
        rw[HSN.out];unfold btr;rw[if_neg];rw[hv];simp)
       have HBL:=hid HB.out.2;clear HFO HSN HB;go_wp2_with (go_at_call 222;((with_reducible refine HF2.out.mono ?_);rintro e w7 ⟨rfl,hb7⟩))
       go_roundw
       case rel=>exact⟨j+1,b,by omega,by go_num,rfl,below_tr hbv hb7,hid ⟨HS2.out,HBL.out⟩⟩
       case measure=>simp[RowKit.intOf];omega
      ·have HF2:=hid (HFO.out _ hv);have hco:(decide (0<ndA c l x)&&folB c l bz x)=true:=by rw[decide_eq_true hN1,hv];rfl
       cases b with
       |none=>
        have HS2:=hid (show some x=(s.take (j+1)).foldl (btr c l bz) none by
         rw[HSN.out];unfold btr;rw[if_pos hco])
        clear HFO HSN HB hco hv;unfold bEnc;go_wp2_with (go_at_call 222;((with_reducible refine HF2.out.mono ?_);rintro e w7 ⟨rfl,hb7⟩))
        go_roundw
        case rel=>exact⟨j+1,some x,by omega,by go_num,rfl,below_tr hbv hb7,hid ⟨HS2.out,fun i h=>by cases h;exact hxl⟩⟩
        case measure=>simp[RowKit.intOf];omega
       |some m=>
        have hml:=HB.out.2 m rfl;have hm0:¬((m:Nat):Int)<0:=by omega
        have HLK:=hid (fun W (h:Below wv.heap.size wv W)=>mp_look (HM.out W (below_tr hbB h)) m (by omega));by_cases hlt:ndA c l x<ndA c l m
        ·have HS2:=hid (show some x=(s.take (j+1)).foldl (btr c l bz) none by
          rw[HSN.out];unfold btr;rw[if_pos hco];dsimp only;rw[if_pos hlt])
         clear HFO HSN HB hco hv;unfold bEnc;generalize ndA c l m=NM at *;go_wp2_with (go_at_call 222;((with_reducible refine HF2.out.mono ?_);rintro e w7 ⟨rfl,hb7⟩;have hl7:=HLK.out w7 hb7))
         go_roundw
         case rel=>exact⟨j+1,some x,by omega,by go_num,rfl,below_tr hbv hb7,hid ⟨HS2.out,fun i h=>by cases h;exact hxl⟩⟩
         case measure=>simp[RowKit.intOf];omega
        ·have HS2:=hid (show some m=(s.take (j+1)).foldl (btr c l bz) none by
          rw[HSN.out];unfold btr;rw[if_pos hco];dsimp only;rw[if_neg hlt])
         clear HFO HSN HB hco hv;unfold bEnc;generalize ndA c l m=NM at *;go_wp2_with (go_at_call 222;((with_reducible refine HF2.out.mono ?_);rintro e w7 ⟨rfl,hb7⟩;have hl7:=HLK.out w7 hb7))
         go_roundw
         case rel=>exact⟨j+1,some m,by omega,by go_num,rfl,below_tr hbv hb7,hid ⟨HS2.out,fun i h=>by cases h;exact hml⟩⟩
         case measure=>simp[RowKit.intOf];omega
    ·obtain rfl:j=s.length:=by omega
     have HBE:=hid (show bstN c l bz=b by rw[HBN.out,HB.out.1,List.take_length]);have HBL:=hid HB.out.2;have hown9:=HO4.out wv hbv;have hbB9:=(HBX.out wv hbB).2;have HSB:=hid (fun i (h:bstN c l bz=some i)=>bst_mem (c:=c) (l:=l) (b:=bz) (a:=none) (s:=sdN l l.length) (fun i h=>by cases h) (fun x hx=>(sdN_mem hx).1) i h);clear HB HM HRK HO4 HR4 HSO;cases b with
     |none=>
      have HNN:=hid (HN.out HG.out HBE.out);unfold bEnc;go_wp2;go_ret;exact⟨hbB9,.inl ⟨HNN.out,rfl⟩⟩
     |some m=>
      have hml:=HBL.out m rfl;have hm0:¬((m:Nat):Int)<0:=by omega
      obtain⟨_,hm1,hm2⟩:=HSB.out m HBE.out;have HSS:=hid (HSM.out m HG.out HBE.out hm1 hm2);clear HBE HSB HSM HN HBN;unfold bEnc;have t2:w2.heap.size<=wv.heap.size:=hbB.size;go_wp2_with (at_builtin;(refine wpList_append_own _ rfl _ _ 40 rfl w2.heap.size 3 i0 (.int .i64 0) 1 8 (by kernel_rfl) hi hi1 hi2 hi3 rfl (by omega) _ _ _ rfl (hown9.alloc _) ⟨wv.heap.size,0,none⟩ 1 1 [.int .i64 (m:Nat)] rfl rfl (cells_new wv [.int .i64 (m:Nat)] 3) (fun u hu=>by simp at hu;subst hu;rfl) (by unfold maxLen;omega) (by omega) (by simp;omega) ?_;intro v8 w8 hown8 hgrow8 _))
      have B8:Below w2.heap.size w2 w8:=bl_app hbB hown9 hgrow8 (Nat.le_refl _) hbB.size;have own8:w8.ownsRow w2.heap.size 3 1 v8 (out++[m]).length (S.natV (out++[m])):=by simpa[S.natV] using hown8
      clear hown8 hgrow8 hown9;go_wp2;go_roundw
      case rel=>exact⟨out++[m],(m:Int),rfl,by omega,by omega,fun _=>by omega,by simp;omega,own8,B8,HSS⟩
      case measure=>simp[RowKit.intOf];omega
theorem natV_toZ {w:World} {base:Nat} {v:Value} {d:List Nat} (h:w.ownsRow base 3 1 v d.length (S.natV d)):w.ownsRow base 3 1 v (toZ d).length (fl zC (toZ d)):=by
 have go:∀d:List Nat,fl zC (toZ d)=S.natV d:=fun d=>by
  induction d with
  |nil=>rfl
  |cons x d ih=>
   show zC x++fl zC (toZ d)=Value.int .i64 (x:Nat)::S.natV d;rw[ih];rfl
 have e:=go d;rw[e];unfold toZ;rw[List.length_map];exact h
theorem l_valid (c:Cl) (A:Option Addr) (l:List Jt) (cc:Nat) (w:World) (hle:-9223372036854775808<c.le∧c.le<=9223372036854775807) (hl:l.length<=100000) (hR:Rd Jt.cs 2 w A l):
  Calls Tryz.prog 186 #[clV c,.slice A l.length cc] w fun e w'=>e=.returned (.bool (vCl c&&vJ l))∧Below w.heap.size w w':=by
 have x0:=Blk.new w 25 (clA c);have B0:=bl_alloc (below_refl w) (.cells (clA c) 25);have b0:=x0.cell 0;have b1:=x0.cell 1;have b2:=x0.cell 2;have b3:=x0.cell 3;have b4:=x0.cell 4;have b5:=x0.cell 5;simp only[GA] at b0 b1 b2 b3 b4 b5;have HC:=hid (fun v (h:vCl c=v) W=>l_ValidClimbV h W hle);have HJ:=hid (fun v (h:vJ l=v) W (hb:Below w.heap.size w W)=>l_ValidJointsV (c:=cc) h hl (hR.on hb));cases h1:vCl c
 ·have H1:=hid (HC.out _ h1);go_enter Tryz.func186,Tryz.ntmps186
  go_wp2_with (go_at_call 27;((with_reducible refine(H1.out _).mono ?_);rintro e w3 ⟨rfl,hb3⟩))
  go_ret;exact⟨rfl,below_tr B0 hb3⟩
 ·have H1:=hid (HC.out _ h1);cases h2:vJ l
  all_goals
   have H2:=hid (HJ.out _ h2);go_enter Tryz.func186,Tryz.ntmps186
   go_wp2_with (first
    |(go_at_call 27;((with_reducible refine(H1.out _).mono ?_);rintro e w3 ⟨rfl,hb3⟩))
    |(go_at_call 26;((with_reducible refine(H2.out _ (below_tr B0 hb3)).mono ?_);rintro e w4 ⟨rfl,hb4⟩)))
   go_ret;exact⟨rfl,below_tr (below_tr B0 hb3) hb4⟩
def FwtP (c:Cl) (l:List Jt) (w:World) (e:Ending) (w':World):Prop:=
 Below w.heap.size w w'∧∃v,e=.returned (.tuple #[v,.int .i64 (fewE c l)])∧w'.ownsRow w.heap.size 3 1 v (fewL c l).length (fl zC (fewL c l))
theorem l_Fewest (c:Cl) (A:Option Addr) (l:List Jt) (cc:Nat) (w:World) (hle:-9223372036854775808<c.le∧c.le<=9223372036854775807) (hl:l.length<=100000) (hR:Rd Jt.cs 2 w A l):
  Calls Tryz.prog 320 #[clV c,.slice A l.length cc] w (FwtP c l w):=by
 have x0:=Blk.new w 25 (clA c);have B0:=bl_alloc (below_refl w) (.cells (clA c) 25);have b0:=x0.cell 0;have b1:=x0.cell 1;have b2:=x0.cell 2;have b3:=x0.cell 3;have b4:=x0.cell 4;have b5:=x0.cell 5;simp only[GA] at b0 b1 b2 b3 b4 b5;have hq:∀(w:World) (a:Option Addr) (n c n' c':Nat),(binOp .neq 40 (.slice a n c) (.slice none n' c')).run Tryz.prog w=.ok (.bool (!a.isNone)) w:=fun w a n c n' c'=>run_neq_slice_nil_any w _ _ a n c n' c' Tryz.underlying40;have HV:=hid (fun v (h:(vCl c&&vJ l)=v)=>h▸l_valid c A l cc _ hle hl (hR.on B0));cases h1:(vCl c&&vJ l)
 ·have H1:=hid (HV.out _ h1);have HE:=hid (show fewE c l=1∧fewL c l=[] by unfold fewE fewL;rw[if_neg (by rw[h1];simp),if_neg (by rw[h1];simp)];exact⟨rfl,rfl⟩);go_enter Tryz.func320,Tryz.ntmps320
  go_wp2_with (go_at_call 186;((with_reducible refine H1.out.mono ?_);rintro e w3 ⟨rfl,hb3⟩))
  go_ret2;refine⟨below_tr B0 hb3,_,by rw[HE.out.1];rfl,?_⟩;rw[HE.out.2];exact World.ownsRow_nil w3 _ _ _
 ·have H1:=hid (HV.out _ h1);rw[Bool.and_eq_true] at h1;have hJ:=jb_of h1.2;have hga:1<=c.ga∧c.ga<=200000:=by
   have h:=h1.1;unfold vCl at h;exact wn_iff.1 (Bool.and_eq_true_iff.1 (Bool.and_eq_true_iff.1 h).2).1
  have HF:=hid (fun W (hb:Below w.heap.size w W)=>l_fewest c A l cc W hJ hga (hR.on hb));have HE:=hid (show fewE c l=(match fewN c l with|some _=>0|none=>8)∧fewL c l=(match fewN c l with|some d=>toZ d|none=>[]) by unfold fewE fewL;rw[if_pos (by rw[h1.1,h1.2];rfl),if_pos (by rw[h1.1,h1.2];rfl)];exact⟨rfl,rfl⟩);go_enter Tryz.func320,Tryz.ntmps320
  go_wp2_with (go_at_call 186;((with_reducible refine H1.out.mono ?_);rintro e w3 ⟨rfl,hb3⟩;have B3:=below_tr B0 hb3;have x3:=x0.below hb3 x0.lt;have d0:=x3.cell 0;have d1:=x3.cell 1;have d2:=x3.cell 2;have d3:=x3.cell 3;have d4:=x3.cell 4;have d5:=x3.cell 5;simp only[GA] at d0 d1 d2 d3 d4 d5))
  refine(HF.out _ B3).mono ?_;rintro e w4 ⟨hb4,⟨hn,rfl⟩|⟨v,d,hd,hne,rfl,hown⟩⟩
  ·have HEE:=hid HE.out;go_wp2;go_ret2;refine⟨below_tr B3 hb4,_,by rw[HEE.out.1,hn];rfl,?_⟩;rw[HEE.out.2,hn];exact World.ownsRow_nil w4 _ _ _
  ·have hown2:=natV_toZ hown;have hz3:=B3.size;rcases hown.2 with⟨_,h0⟩|⟨g',cap,cur,rfl,_⟩
   ·exact absurd (List.eq_nil_of_length_eq_zero h0) hne
   have HEE:=hid HE.out;go_wp2;go_ret2;refine⟨below_tr B3 hb4,_,by rw[HEE.out.1,hd];rfl,?_⟩;rw[HEE.out.2,hd];exact own_base hown2 hz3
end Go.Proofs.YtjkkfcghkeoedaaGreatDoor.Fi
namespace Go.Proofs.YtjkkfcghkeoedaaGreatDoor.Fi
open Go.RowKit Go.Lib Tx
abbrev rtV (r:Rt):Value:=.agg #[.int .i64 r.lo,.int .i64 r.hi,.int .i64 r.ab,.int .i64 r.co]
abbrev rtA (r:Rt):Array Value:=#[.int .i64 r.lo,.int .i64 r.hi,.int .i64 r.ab,.int .i64 r.co]
theorem j_within (n lo hi:Int) (w:World):
  Calls Tryz.prog 93 #[.int .i64 n,.int .i64 lo,.int .i64 hi] w fun e w'=>e=.returned (.bool (wn n lo hi))∧w=w':=by
 by_cases h1:lo<=n
 ·have t1:decide (lo<=n)=true:=by simpa using h1
  go_enter Tryz.func93,Tryz.ntmps93
  go_wp2;go_ret;exact⟨ret_bool (by simp[wn,h1]),rfl⟩
 ·have t1:decide (lo<=n)=false:=by simpa using h1
  go_enter Tryz.func93,Tryz.ntmps93
  go_wp2;go_ret;exact⟨ret_bool (by unfold wn;rw[t1];rfl),rfl⟩
theorem j_withinV {n lo hi:Int} {b:Bool} (h:wn n lo hi=b) (w:World):
  Calls Tryz.prog 93 #[.int .i64 n,.int .i64 lo,.int .i64 hi] w fun e w'=>e=.returned (.bool b)∧w=w':=h▸j_within n lo hi w
theorem j_ValidRate (r:Rt) (w:World):Calls Tryz.prog 30 #[rtV r] w fun e w'=>e=.returned (.bool (vRt r))∧Below w.heap.size w w':=by
 have HB:=hid (show vRt r=(wn r.hi 1 200000&&(wn r.lo 0 1000000&&(wn r.ab 0 1000000&&wn r.co 0 1000000))) from rfl);cases h1:wn r.hi 1 200000
 ·go_enter Tryz.func30,Tryz.ntmps30
  go_wp2_with (go_at_call 93;((with_reducible refine(j_withinV h1 _).mono ?_);rintro e w' ⟨rfl,rfl⟩))
  go_ret;exact⟨ret_bool (by rw[HB.out,h1];rfl),bl_alloc (below_refl _) _⟩
 cases h2:wn r.lo 0 1000000
 ·go_enter Tryz.func30,Tryz.ntmps30
  go_wp2_with (first|(go_at_call 93;((with_reducible refine(j_withinV h1 _).mono ?_);rintro e w' ⟨rfl,rfl⟩))|(go_at_call 93;((with_reducible refine(j_withinV h2 _).mono ?_);rintro e w' ⟨rfl,rfl⟩)))
  go_ret;exact⟨ret_bool (by rw[HB.out,h1,h2];rfl),bl_alloc (below_refl _) _⟩
 cases h3:wn r.ab 0 1000000
 ·go_enter Tryz.func30,Tryz.ntmps30
  go_wp2_with (first|(go_at_call 93;((with_reducible refine(j_withinV h1 _).mono ?_);rintro e w' ⟨rfl,rfl⟩))|(go_at_call 93;((with_reducible refine(j_withinV h2 _).mono ?_);rintro e w' ⟨rfl,rfl⟩))|(go_at_call 93;((with_reducible refine(j_withinV h3 _).mono ?_);rintro e w' ⟨rfl,rfl⟩)))
  go_ret;exact⟨ret_bool (by rw[HB.out,h1,h2,h3];rfl),bl_alloc (below_refl _) _⟩
 cases h4:wn r.co 0 1000000
 all_goals
  go_enter Tryz.func30,Tryz.ntmps30
  go_wp2_with (first|(go_at_call 93;((with_reducible refine(j_withinV h1 _).mono ?_);rintro e w' ⟨rfl,rfl⟩))|(go_at_call 93;((with_reducible refine(j_withinV h2 _).mono ?_);rintro e w' ⟨rfl,rfl⟩))|(go_at_call 93;((with_reducible refine(j_withinV h3 _).mono ?_);rintro e w' ⟨rfl,rfl⟩))|(go_at_call 93;((with_reducible refine(j_withinV h4 _).mono ?_);rintro e w' ⟨rfl,rfl⟩)))
  go_ret;exact⟨ret_bool (by rw[HB.out,h1,h2,h3,h4];rfl),bl_alloc (below_refl _) _⟩
theorem j_ValidRateV {r:Rt} {b:Bool} (h:vRt r=b) (w:World):Calls Tryz.prog 30 #[rtV r] w fun e w'=>e=.returned (.bool b)∧Below w.heap.size w w':=h▸j_ValidRate r w
theorem j_metres (h:Int) (w:World) (h0:0<=h) (h1:h<=1000000000):Calls Tryz.prog 337 #[.int .i64 h] w fun e w'=>e=.returned (.int .i64 (mtr h))∧w=w':=by
 have hw:IntKind.i64.wrap (h+999)=h+999:=fits_wrap ⟨by omega,by omega⟩;have hd:Int.tdiv (h+999) 1000=mtr h:=by unfold mtr;rw[Int.tdiv_eq_ediv_of_nonneg (by omega)]
 have hm:0<=mtr h∧mtr h<=1000000000:=by unfold mtr;omega
 have hw2:IntKind.i64.wrap (mtr h)=mtr h:=fits_wrap ⟨by omega,by omega⟩;go_enter Tryz.func337,Tryz.ntmps337
 go_wp2;go_ret;exact⟨rfl,rfl⟩
theorem mtr_bd {h:Int} (h0:0<=h) (h1:h<=200000):0<=mtr h∧mtr h<=200:=by unfold mtr;omega
theorem mul_bd {a b A B:Int} (a0:0<=a) (a1:a<=A) (b0:0<=b) (b1:b<=B):0<=a*b∧a*b<=A*B:=⟨Int.mul_nonneg a0 b0,Int.mul_le_mul a1 b1 b0 (by omega)⟩
theorem j_Price (r:Rt) (h:Int) (w:World):Calls Tryz.prog 336 #[rtV r,.int .i64 h] w fun e w'=>e=.returned (.tuple #[.int .i64 (priV r h),.int .i64 (priE r h)])∧Below w.heap.size w w':=by
 have x0:=Blk.new w 30 (rtA r);have B0:=bl_alloc (below_refl w) (.cells (rtA r) 30);have b0:=x0.cell 0;have b1:=x0.cell 1;have b2:=x0.cell 2;have b3:=x0.cell 3;simp only[GA] at b0 b1 b2 b3;have HR:=hid (fun v (h:vRt r=v) W=>j_ValidRateV h W);cases h1:vRt r
 ·have H1:=hid (HR.out _ h1);have HE:=hid (show priV r h=0∧priE r h=1 by unfold priV priE;rw[h1];exact⟨rfl,rfl⟩);go_enter Tryz.func336,Tryz.ntmps336
  go_wp2_with (go_at_call 30;((with_reducible refine(H1.out _).mono ?_);rintro e w3 ⟨rfl,hb3⟩))
  go_ret2;exact⟨by rw[HE.out.1,HE.out.2];rfl,below_tr B0 hb3⟩
 have H1:=hid (HR.out _ h1);cases h2:wn h 0 200000
 ·have HE:=hid (show priV r h=0∧priE r h=7 by unfold priV priE;rw[h1,h2];exact⟨rfl,rfl⟩);go_enter Tryz.func336,Tryz.ntmps336
  go_wp2_with (first
   |(go_at_call 30;((with_reducible refine(H1.out _).mono ?_);rintro e w3 ⟨rfl,hb3⟩))
   |(go_at_call 93;((with_reducible refine(j_withinV h2 _).mono ?_);rintro e w' ⟨rfl,rfl⟩)))
  go_ret2;exact⟨by rw[HE.out.1,HE.out.2];rfl,below_tr B0 hb3⟩
 have HE:=hid (show priV r h=r.co+r.lo*mtr (min h r.hi)+r.ab*mtr (max 0 (h-r.hi))∧priE r h=0 by
  have e:priE r h=0:=by unfold priE;rw[h1,h2];rfl
  refine⟨?_,e⟩;unfold priV;rw[e];rfl)
 obtain⟨hh0,hh1⟩:=wn_iff.1 h2;have hv:=h1;unfold vRt at hv;obtain⟨q1,hv⟩:=Bool.and_eq_true_iff.1 hv;obtain⟨q2,hv⟩:=Bool.and_eq_true_iff.1 hv;obtain⟨q3,q4⟩:=Bool.and_eq_true_iff.1 hv;obtain⟨hi0,hi1⟩:=wn_iff.1 q1;obtain⟨lo0,lo1⟩:=wn_iff.1 q2;obtain⟨ab0,ab1⟩:=wn_iff.1 q3;obtain⟨co0,co1⟩:=wn_iff.1 q4;obtain⟨P,hP⟩:∃P,P=min h r.hi:=⟨_,rfl⟩;obtain⟨Q,hQ⟩:∃Q,Q=max 0 (h-r.hi):=⟨_,rfl⟩;have hPb:0<=P∧P<=200000:=by omega
 have hQb:0<=Q∧Q<=200000:=by omega
 obtain⟨m0,m1⟩:=mtr_bd hPb.1 hPb.2;obtain⟨n0,n1⟩:=mtr_bd hQb.1 hQb.2;have HM1:=hid (fun W=>j_metres P W hPb.1 (by omega));have HM2:=hid (fun W=>j_metres Q W hQb.1 (by omega));have hws:IntKind.i64.wrap (h-r.hi)=h-r.hi:=fits_wrap ⟨by omega,by omega⟩;rw[←hP,←hQ] at HE;obtain⟨p0,p1⟩:=mul_bd lo0 lo1 m0 m1;obtain⟨s0,s1⟩:=mul_bd ab0 ab1 n0 n1;have hw1:IntKind.i64.wrap (r.lo*mtr P)=r.lo*mtr P:=fits_wrap ⟨by omega,by omega⟩;have hw2:IntKind.i64.wrap (r.co+r.lo*mtr P)=r.co+r.lo*mtr P:=fits_wrap ⟨by omega,by omega⟩;have hw3:IntKind.i64.wrap (r.ab*mtr Q)=r.ab*mtr Q:=fits_wrap ⟨by omega,by omega⟩;have hw4:IntKind.i64.wrap (r.co+r.lo*mtr P+r.ab*mtr Q)=r.co+r.lo*mtr P+r.ab*mtr Q:=fits_wrap ⟨by omega,by omega⟩;go_enter Tryz.func336,Tryz.ntmps336
 go_upto_region 5 with (first
   |(go_at_call 30;((with_reducible refine(H1.out _).mono ?_);rintro e w3 ⟨rfl,hb3⟩;have B3:=below_tr B0 hb3;have x3:=x0.below hb3 x0.lt;have d0:=x3.cell 0;have d1:=x3.cell 1;have d2:=x3.cell 2;have d3:=x3.cell 3;simp only[GA] at d0 d1 d2 d3))
   |(go_at_call 93;((with_reducible refine(j_withinV h2 _).mono ?_);rintro e w' ⟨rfl,rfl⟩)))
 have hp1:min h r.hi=P:=hP.symm;have hp2:max 0 (h-r.hi)=Q:=hQ.symm;clear hP hQ
 go_quiet (first
  |(go_at_call 337;with_reducible exact quiet_left (HM1.out _))
  |(go_at_call 337;with_reducible exact quiet_left (HM2.out _)))
 go_wp2;go_ret2;exact⟨by rw[HE.out.1,HE.out.2];rfl,bl⟩
structure Inv (x:St):Prop where
 su:vSu x.x=true
 gw:∀i∈x.x.gear,G.IW i
 d0:0<=x.day
 d1:x.day<=100000
 gl:x.gusts.length<=2000
 gb:∀g∈x.gusts,-1<=g∧g<=200
 rl:x.rigs.length<=50
 rs:∀r∈x.rigs,0<=r.st∧r.st<x.sites.length
 rk:∀r∈x.rigs,r.lk.length<=32∧∀k∈r.lk,G.LW k∧k.nm.size<=16
 sl:x.sites.length=x.x.stk.length
 sm:∀s∈x.sites,0<=s.men∧s.men<=16
 sd:∀s∈x.sites,s.dogs.length<=300
 it:G.vldG x.items=true
 iw:∀i∈x.items,G.IW i
 bl:x.back.length<=100
 bs:∀b∈x.back,b.size<=16
 m0:0<=x.money
 m1:x.money<=1000000000000
 ll:x.lines.length<=2000
 lt:∀e∈x.lines,e.t.size<=100000∧e.s<18446744073709551616∧0<=e.d∧e.d<=100000∧0<=e.n∧e.n<=2000
theorem vSu_parts {x:Su} (h:vSu x=true):(1<=(x.stk.length:Int)∧(x.stk.length:Int)<=8)∧x.jnt.length=x.stk.length∧(∀s∈x.stk,S.validC s=true)∧(∀l∈x.jnt,vJ l=true)∧vCl x.cl=true∧G.vldG x.gear=true∧V.vRu x.ru=true∧vRt x.rt=true∧1<=x.men∧x.men<=16:=by
 unfold vSu at h;obtain⟨h1,h⟩:=Bool.and_eq_true_iff.1 h;obtain⟨h2,h⟩:=Bool.and_eq_true_iff.1 h;obtain⟨h3,h⟩:=Bool.and_eq_true_iff.1 h;obtain⟨h4,h⟩:=Bool.and_eq_true_iff.1 h;obtain⟨h5,h⟩:=Bool.and_eq_true_iff.1 h;obtain⟨h6,h⟩:=Bool.and_eq_true_iff.1 h;obtain⟨h7,h⟩:=Bool.and_eq_true_iff.1 h;obtain⟨h8,h9⟩:=Bool.and_eq_true_iff.1 h;exact⟨wn_iff.1 h1,of_decide_eq_true h2,List.all_eq_true.1 h3,List.all_eq_true.1 h4,h5,h6,h7,h8,wn_iff.1 h9⟩
structure Nxt (T:Nat->Prop) (nb sb rb:Nat) (w:World) (L:LS):Prop where
 blk:Blk w nb 73 L.cs.toArray
 su:SuOk T w L.x
 gusts:Got T w zC 1 L.gusts
 rk:∀r∈L.rigs.l,Got T w G.Lk.cs 2 r.lk
 sk:∀s∈L.sites.l,Got T w zC 1 s.dogs
 items:Got T w G.It.cs 4 L.items
 back:Got T w G.sC 1 L.back
 srow:L.sites.l≠[]->L.sites.a=some ⟨sb,0,none⟩∧∃cur,Blk w sb 108 cur∧InRow LSi.cs 3 cur L.sites.l
 sc:L.sites.l.length<=L.sites.c∧L.sites.c<=maxLen
 rrow:w.ownsRow 0 101 2 L.rigs.v L.rigs.l.length (fl LRg.cs L.rigs.l)
 rb_:∀g,L.rigs.v.ownBlock=some g->g=rb
 rlt:L.rigs.l≠[]->rb<w.heap.size
 nT:∀g,T g->g≠nb∧g≠sb∧g≠rb
 n1:nb≠sb
 n2:nb≠rb
 n3:sb≠rb
def TT (T:Nat->Prop) (sb rb:Nat) (w0:World):Nat->Prop:=fun g=>T g∨g=sb∨g=rb∨w0.heap.size<=g
structure Nxd (T:Nat->Prop) (nb sb rb:Nat) (w0:World) (L:LS) (w:World) (L':LS):Prop where
 blk:Blk w nb 73 L'.cs.toArray
 ok:StOk (TT T sb rb w0) w L'
 stp:Stp (fun g=>g=nb∨g=sb∨g=rb) w0 w
 lines:L'.lines=L.lines
 x:L'.x=L.x
def DeedP (c:Cm) (T:Nat->Prop) (nb sb rb:Nat) (L:LS) (w:World) (e:Ending) (w':World):Prop:=
 match deed c L.val with
 |.error k=>e=FailE k∧Below w.heap.size w w'
 |.ok y=>e=DoneE∧∃L',L'.val=y∧Nxd T nb sb rb w L w' L'
theorem deed_err {c:Cm} {T:Nat->Prop} {nb sb rb:Nat} {L:LS} {w w':World} {k:Int} (h:deed c L.val=.error k) (hb:Below w.heap.size w w'):DeedP c T nb sb rb L w (FailE k) w':=by
 unfold DeedP;rw[h];exact⟨rfl,hb⟩
theorem deed_ok {c:Cm} {T:Nat->Prop} {nb sb rb:Nat} {L L':LS} {w w':World} {y:St} (h:deed c L.val=.ok y) (hv:L'.val=y) (hn:Nxd T nb sb rb w L w' L'):DeedP c T nb sb rb L w DoneE w':=by
 unfold DeedP;rw[h];exact⟨rfl,L',hv,hn⟩
section
variable {T:Nat->Prop} {nb sb rb:Nat} {w w':World} {L:LS}
theorem Nxt.cel (h:Nxt T nb sb rb w L):Cel w nb L:=cel_of h.blk
theorem Nxt.lt (h:Nxt T nb sb rb w L):nb<w.heap.size:=h.blk.lt
theorem Nxt.on (h:Nxt T nb sb rb w L) (hb:Below w.heap.size w w'):Nxt T nb sb rb w' L where
 blk:=h.blk.below hb h.blk.lt
 su:=h.su.on hb
 gusts:=h.gusts.on hb
 rk:=fun r hr=>(h.rk r hr).on hb
 sk:=fun r hr=>(h.sk r hr).on hb
 items:=h.items.on hb
 back:=h.back.on hb
 srow:=fun hne=>by
  obtain⟨h1,cur,h2,h3⟩:=h.srow hne;exact⟨h1,cur,h2.below hb h2.lt,h3⟩
 sc:=h.sc
 rrow:=own_on h.rrow hb
 rb_:=h.rb_
 rlt:=fun hne=>Nat.lt_of_lt_of_le (h.rlt hne) hb.size
 nT:=h.nT
 n1:=h.n1
 n2:=h.n2
 n3:=h.n3
theorem Nxt.srd (h:Nxt T nb sb rb w L):Rd LSi.cs 3 w L.sites.a L.sites.l:=fun hne=>by
 obtain⟨h1,cur,h2,h3⟩:=h.srow hne;rw[h1];exact row_rd h2 h3 hne
theorem Nxt.rrd (h:Nxt T nb sb rb w L):Rd LRg.cs 2 w L.rigs.a L.rigs.l:=own_rd' LRg.cs_len h.rrow
theorem Nxt.site (h:Nxt T nb sb rb w L) {i:Nat} (hi:i<L.sites.l.length):∃s cur,L.sites.l[i]?=some s∧L.sites.a=some ⟨sb,0,none⟩∧Blk w sb 108 cur∧InRow LSi.cs 3 cur L.sites.l ∧
  w.cell? ⟨sb,i*3,none⟩=some s.dogs.v∧w.cell? ⟨sb,i*3+1,none⟩=some (.bool s.fel)∧w.cell? ⟨sb,i*3+2,none⟩=some (.int .i64 s.men):=by
 obtain⟨s,hs⟩:=get_lt hi;have hne:L.sites.l≠[]:=by intro e;rw[e] at hi;simp at hi
 obtain⟨h1,cur,h2,h3⟩:=h.srow hne;refine⟨s,cur,hs,h1,h2,h3,?_,?_,?_⟩
 ·rw[h2.cell];exact h3 i s hs 0 _ rfl
 ·rw[h2.cell];exact h3 i s hs 1 _ rfl
 ·rw[h2.cell];exact h3 i s hs 2 _ rfl
theorem Nxt.rig (h:Nxt T nb sb rb w L) {i:Nat} (hi:i<L.rigs.l.length):∃r,L.rigs.l[i]?=some r∧L.rigs.a=some ⟨rb,0,none⟩ ∧
  w.cell? ⟨rb,i*2,none⟩=some (.int .i64 r.st)∧w.cell? ⟨rb,i*2+1,none⟩=some r.lk.v:=by
 obtain⟨r,hr⟩:=get_lt hi;obtain⟨g,cap,cur,hv,_,hb,hir⟩:=own_row LRg.cs_len h.rrow (by omega);have ha:L.rigs.a=some ⟨g,0,none⟩:=by have:=hv;unfold Sl.v at this;injection this
 have hg:g=rb:=h.rb_ g (by show(Value.slice L.rigs.a _ _).ownBlock=_;rw[ha];rfl);subst hg;refine⟨r,hr,ha,?_,?_⟩
 ·rw[hb.cell];exact hir i r hr 0 _ rfl
 ·rw[hb.cell];exact hir i r hr 1 _ rfl
theorem inrow_put {α:Type} {enc:α->List Value} {sz:Nat} {cur:Array Value} {l:List α} {i j:Nat} {s s':α} {v:Value} (hn:∀a,(enc a).length=sz) (h:InRow enc sz cur l) (hi:l[i]?=some s)
  (hj:(enc s')[j]?=some v) (ho:∀r,r≠j->(enc s')[r]?=(enc s)[r]?):InRow enc sz (cur.setIfInBounds (i*sz+j) v) (l.set i s'):=by
 intro k x hk r u hr;have hjs:j<sz:=by rw[←hn s'];exact(List.getElem?_eq_some_iff.1 hj).1
 have hrs:r<sz:=by rw[←hn x];exact(List.getElem?_eq_some_iff.1 hr).1
 have hil:=(List.getElem?_eq_some_iff.1 hi).1;by_cases hki:k=i
 ·subst hki;rw[List.getElem?_set_self hil] at hk;cases hk;by_cases hrj:r=j
  ·subst hrj;rw[hj] at hr;cases hr;have:k*sz+r<cur.size:=by
    obtain⟨u0,hu0⟩:=get_lt (l:=enc s) (k:=r) (by rw[hn];exact hjs);have:=h k s hi r u0 hu0;exact(Array.getElem?_eq_some_iff.1 this).1
   rw[Array.getElem?_setIfInBounds_self_of_lt this]
  ·rw[ho r hrj] at hr;rw[Array.getElem?_setIfInBounds_ne (by omega)];exact h k s hi r u hr
 ·rw[List.getElem?_set_ne (by omega)] at hk;have hne:i*sz+j≠k*sz+r:=by
   intro e;rcases Nat.lt_or_gt_of_ne hki with h1|h1
   ·have:=Nat.mul_le_mul_right sz (show k+1<=i from h1);rw[Nat.add_mul,Nat.one_mul] at this;omega
   ·have:=Nat.mul_le_mul_right sz (show i+1<=k from h1);rw[Nat.add_mul,Nat.one_mul] at this;omega
  rw[Array.getElem?_setIfInBounds_ne hne];exact h k x hk r u hr
theorem Nxt.keep {α:Type} {enc:α->List Value} {sz:Nat} {x:Sl α} (h:Nxt T nb sb rb w L) (hx:Got T w enc sz x) (hs:Stp (fun g=>g=nb∨g=sb∨g=rb) w w'):Got (TT T sb rb w) w' enc sz x:=
 (hx.stp hs fun g hg=>by have:=h.nT g hg;omega).mono fun _ _ hg=>.inl hg
theorem Nxt.keepSu (h:Nxt T nb sb rb w L) (hs:Stp (fun g=>g=nb∨g=sb∨g=rb) w w'):SuOk (TT T sb rb w) w' L.x:=
 (h.su.stp hs fun g hg=>by have:=h.nT g hg;omega).mono fun _ _ hg=>.inl hg
theorem Nxt.keepR (h:Nxt T nb sb rb w L) (hs:Stp (fun g=>g=nb∨g=sb) w w'):Got (TT T sb rb w) w' LRg.cs 2 L.rigs:=by
 have hc:=own_caps h.rrow;refine⟨fun hne=>?_,fun hne a ha=>?_,hc.1,hc.2⟩
 ·obtain⟨b,off,e,hb,hcl⟩:=h.rrd hne;have:b=rb:=h.rb_ b (by show(Value.slice L.rigs.a _ _).ownBlock=_;rw[e];rfl);subst this;exact⟨b,off,e,Nat.lt_of_lt_of_le hb hs.size,fun k x hx j v hv=>hs.cell (hcl k x hx j v hv) (by have:=h.n2;have:=h.n3;omega)⟩
 ·obtain⟨b,off,e,_,_⟩:=h.rrd hne;rw[e] at ha;cases ha;exact .inr (.inr (.inl (h.rb_ b (by show(Value.slice L.rigs.a _ _).ownBlock=_;rw[e];rfl))))
theorem Nxt.keepS (h:Nxt T nb sb rb w L) (hs:Stp (fun g=>g=nb∨g=rb) w w'):Got (TT T sb rb w) w' LSi.cs 3 L.sites:=by
 refine⟨fun hne=>?_,fun hne a ha=>?_,h.sc.1,h.sc.2⟩
 ·obtain⟨h1,cur,h2,h3⟩:=h.srow hne;rw[h1];exact row_rd (hs.blk h2 (by have:=h.n1;have:=h.n3;omega)) h3 hne
 ·obtain⟨h1,_⟩:=h.srow hne;rw[h1] at ha;cases ha;exact .inr (.inl rfl)
theorem Nxt.doneS (h:Nxt T nb sb rb w L) {i:Nat} {s':LSi} {cur:Array Value} (hs:Stp (fun g=>g=sb) w w') (hb:Blk w' sb 108 cur) (hr:InRow LSi.cs 3 cur (L.sites.l.set i s'))
  (ha:L.sites.a=some ⟨sb,0,none⟩) (hd:Got (TT T sb rb w) w' zC 1 s'.dogs):Nxd T nb sb rb w L w' {L with sites:=⟨L.sites.a,L.sites.l.set i s',L.sites.c⟩}:=by
 have hs3:Stp (fun g=>g=nb∨g=sb∨g=rb) w w':=hs.mono fun b _ e=>by omega
 have hs2:Stp (fun g=>g=nb∨g=sb) w w':=hs.mono fun b _ e=>by omega
 refine⟨?_,⟨h.keepSu hs3,h.keep h.gusts hs3,h.keepR hs2,fun r hr=>h.keep (h.rk r hr) hs3,?_,?_,h.keep h.items hs3,h.keep h.back hs3⟩,hs3,rfl,rfl⟩
 ·have h1:=hs.blk h.blk h.n1;have e:({L with sites:=⟨L.sites.a,L.sites.l.set i s',L.sites.c⟩}:LS).cs=L.cs:=by unfold LS.cs Sl.v;simp
  rw[e];exact h1
 ·refine⟨fun hne=>?_,fun hne a ha'=>?_,by simpa using h.sc.1,h.sc.2⟩
  ·dsimp only;rw[ha];exact row_rd hb hr hne
  ·dsimp only at ha';rw[ha] at ha';cases ha';exact .inr (.inl rfl)
 ·intro s hs';rcases List.mem_or_eq_of_mem_set hs' with h1|h1
  ·exact h.keep (h.sk s h1) hs3
  ·rw[h1];exact hd
theorem Nxt.turnS (h:Nxt T nb sb rb w L) {w1:World} (B:Below w.heap.size w w1) {k j:Nat} {s s':LSi} {v:Value} (hs:L.sites.l[k]?=some s) (hj:s'.cs[j]?=some v) (ho:∀r,r≠j->s'.cs[r]?=s.cs[r]?)
  (hd:s'.dogs=s.dogs∨Got (fun g=>w.heap.size<=g) w1 zC 1 s'.dogs):Nxd T nb sb rb w L (w1.setCell ⟨sb,k*3+j,none⟩ v) {L with sites:=⟨L.sites.a,L.sites.l.set k s',L.sites.c⟩}:=by
 obtain⟨s0,cur,e0,ha,hbs,hir,_⟩:=(h.on B).site (i:=k) (List.getElem?_eq_some_iff.1 hs).1;rw[hs] at e0;cases e0;obtain⟨_,_,_,_,hbs0,_⟩:=h.site (i:=k) (List.getElem?_eq_some_iff.1 hs).1;have hl:=hbs0.lt;have hst:Stp (fun g=>g=sb) w (w1.setCell ⟨sb,k*3+j,none⟩ v):=Stp.setCell (N:=fun g=>g=sb) (p:=⟨sb,k*3+j,none⟩) ((Stp.refl _ _).below B (Nat.le_refl _)) (.inl rfl) v;refine h.doneS hst (hbs.set_ _ _) (inrow_put LSi.cs_len hir hs hj ho) ha ?_;rcases hd with hd|hd
 ·rw[hd];exact h.keep (h.sk s (List.mem_of_getElem? hs)) (hst.mono fun b _ e=>.inr (.inl e))
 ·have h2:Stp (fun g=>g=sb) w1 (w1.setCell ⟨sb,k*3+j,none⟩ v):=Stp.setCell (N:=fun g=>g=sb) (p:=⟨sb,k*3+j,none⟩) (Stp.refl _ _) (.inl rfl) v;exact(hd.stp h2 fun b hb e=>by omega).mono fun b _ hb=>.inr (.inr (.inr hb))
structure Kept (T:Nat->Prop) (sb rb:Nat) (w w':World) (L:LS):Prop where
 su:SuOk (TT T sb rb w) w' L.x
 gusts:Got (TT T sb rb w) w' zC 1 L.gusts
 rigs:Got (TT T sb rb w) w' LRg.cs 2 L.rigs
 rk:∀r∈L.rigs.l,Got (TT T sb rb w) w' G.Lk.cs 2 r.lk
 sites:Got (TT T sb rb w) w' LSi.cs 3 L.sites
 sk:∀s∈L.sites.l,Got (TT T sb rb w) w' zC 1 s.dogs
 items:Got (TT T sb rb w) w' G.It.cs 4 L.items
 back:Got (TT T sb rb w) w' G.sC 1 L.back
 stp:Stp (fun g=>g=nb∨g=sb∨g=rb) w w'
theorem Nxt.kept (h:Nxt T nb sb rb w L) (hs:Stp (fun g=>g=nb) w w'):Kept (nb:=nb) T sb rb w w' L:=by
 have h3:Stp (fun g=>g=nb∨g=sb∨g=rb) w w':=hs.mono fun b _ e=>.inl e;exact⟨h.keepSu h3,h.keep h.gusts h3,h.keepR (hs.mono fun b _ e=>.inl e),fun r hr=>h.keep (h.rk r hr) h3,h.keepS (hs.mono fun b _ e=>.inl e),fun s hs'=>h.keep (h.sk s hs') h3,h.keep h.items h3,h.keep h.back h3,h3⟩
theorem nb_step {w1:World} (B:Below w.heap.size w w1) (i:Nat) (v:Value):Stp (fun g=>g=nb) w (w1.setCell ⟨nb,i,none⟩ v):=
 Stp.setCell (N:=fun g=>g=nb) (p:=⟨nb,i,none⟩) ((Stp.refl _ _).below B (Nat.le_refl _)) (.inl rfl) v
theorem nb_step2 {w1:World} (h:Stp (fun g=>g=nb) w w1) (i:Nat) (v:Value):Stp (fun g=>g=nb) w (w1.setCell ⟨nb,i,none⟩ v):=
 Stp.setCell (N:=fun g=>g=nb) (p:=⟨nb,i,none⟩) h (.inl rfl) v
theorem got_new {α:Type} {enc:α->List Value} {sz:Nat} {x:Sl α} (h:Got (fun g=>w.heap.size<=g) w' enc sz x) {w1:World} (hl:nb<w.heap.size) (hs:Stp (fun g=>g=nb) w' w1):Got (TT T sb rb w) w1 enc sz x:=
 (h.stp hs fun b hb e=>by omega).mono fun b _ hb=>.inr (.inr (.inr hb))
end
end Go.Proofs.YtjkkfcghkeoedaaGreatDoor.Fi
