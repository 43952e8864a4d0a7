/- The parts of the proof, part 21. -/
import Derived.Test.YtjkkfcghkeoedaaGreatDoorR0
import Derived.Test.YtjkkfcghkeoedaaGreatDoorR18
set_option maxHeartbeats 16000000
set_option maxRecDepth 20000
set_option linter.unusedSimpArgs false
set_option linter.unusedVariables false
namespace Go.Proofs.YtjkkfcghkeoedaaGreatDoor.Fi
open Go.RowKit Go.Lib Tx
theorem d_gust (g:Int) (T:Nat->Prop) (nb sb rb:Nat) (L:LS) (w:World) (hN:Nxt T nb sb rb w L) (hI:Inv L.val):
  Calls Tryz.prog 316 #[.agg #[.int .i64 g],.pointer (some ⟨nb,0,none⟩)] w (DeedP (.gust g) T nb sb rb L w):=by
 have x0:=Blk.new w 237 #[.int .i64 g];have B0:=bl_alloc (below_refl w) (.cells #[.int .i64 g] 237);have b0:=x0.cell 0;simp only[GA] at b0;have hN0:=hN.on B0;have lnb:=hN0.lt;have lw:=x0.lt;have hfn:=hN0.blk.frozen;have hgl:L.gusts.l.length<=2000:=hI.gl;cases hwn:wn g (-1) 200
 ·have HX:=hid (show deed (.gust g) L.val=.error 7 by unfold deed;dsimp only;rw[if_pos hwn]);go_enter Tryz.func316,Tryz.ntmps316
  go_wp2_with (first|(go_at_call 24;((with_reducible refine(f_withinV hwn _).mono ?_);rintro e w' ⟨rfl,rfl⟩))|(go_at_call 131;((with_reducible refine(f_must_no _ _).mono ?_);rintro e w' ⟨rfl,rfl⟩)))
  exact⟨rfl,deed_err HX.out B0⟩
 have HX2:=hid (show deed (.gust g) L.val=if ¬L.gusts.l.length<2000 then .error 10 else if (decide (upN L.val=0)||goB L.val (L.gusts.l++[g]))=false then .error 11 else .ok {L.val with gusts:=L.gusts.l++[g]} by
  unfold deed;dsimp only;rw[if_neg (by rw[hwn];simp)];rfl)
 have c18:(w.alloc (.cells #[.int .i64 g] 237)).cell? ⟨nb,18,none⟩=some (.slice L.gusts.a L.gusts.l.length L.gusts.c):=hN0.cel 18 _ rfl;by_cases hlt:L.gusts.l.length<2000
 rotate_left
 ·have g1:decide (L.gusts.l.length<2000)=false:=decide_eq_false hlt;have g2:decide ((L.gusts.l.length:Int)<2000)=false:=decide_eq_false (by omega);have HX:=hid (show deed (.gust g) L.val=.error 10 by rw[HX2.out,if_pos hlt]);go_enter Tryz.func316,Tryz.ntmps316
  go_wp2_with (first|(go_at_call 24;((with_reducible refine(f_withinV hwn _).mono ?_);rintro e w' ⟨rfl,rfl⟩))|(go_at_call 131;first|((with_reducible refine(f_must_ok _ _).mono ?_);rintro e w' ⟨rfl,rfl⟩)|((with_reducible refine(f_must_no _ _).mono ?_);rintro e w' ⟨rfl,rfl⟩)))
  exact⟨rfl,deed_err HX.out B0⟩
 have g1:decide (L.gusts.l.length<2000)=true:=decide_eq_true hlt;have g2:decide ((L.gusts.l.length:Int)<2000)=true:=decide_eq_true (by omega);obtain⟨i0,hi,hi1,hi2,hi3⟩:=info_Int;go_enter Tryz.func316,Tryz.ntmps316
 go_upto_region 3 with (first|(go_at_call 24;((with_reducible refine(f_withinV hwn _).mono ?_);rintro e w' ⟨rfl,rfl⟩))|(go_at_call 131;((with_reducible refine(f_must_ok _ _).mono ?_);rintro e w' ⟨rfl,rfl⟩)))
 generalize (w.alloc (.cells #[.int .i64 g] 237))=w1 at *;have HCL:=hid (fun w' (h:Below w1.heap.size w1 w')=>(show Calls Tryz.prog 107 #[.slice L.gusts.a L.gusts.l.length L.gusts.c] w' (CloP zC 1 3 L.gusts.l w') from c_CloneInt L.gusts w' (by omega) (hN0.on h).gusts.rd));have HAL:=hid (fun w' (h:Below w1.heap.size w1 w')=>(hN0.on h).aloft hI);have HGV:=hid (fun w' (h:Below w1.heap.size w1 w') A c (hR:Rd zC 1 w' A (L.gusts.l++[g])) v (hv:goB L.val (L.gusts.l++[g])=v)=>(show Calls Tryz.prog 102 #[.pointer (some ⟨nb,0,none⟩),.slice A (L.gusts.l.length+1) c] w' fun e w2=>e=.returned (.bool v)∧Below w'.heap.size w' w2 by
  have:=f_goesV (c:=c) hv (hN0.on h).cel (by simp;omega) hR;simpa using this))
 have HN0:=hid hN0;clear hI hN0;generalize hU:upN L.val=U at *;refine wp_region_noPanic ?_;refine th w1 fun hS0=>?_;refine tq 0 ?_;refine tq 1 ?_;refine tq 2 ?_;refine tq 3 ?_;refine tq 5 ?_;refine tq 6 ?_;refine wpAnyH_ready (rs:=[4,7]) (by kernel_rfl) (by simp) ?_;refine AllReadyH.cons rfl (fun K hK=>?_) (AllReadyH.cons rfl (fun K hK=>?_) AllReadyH.nil);go_simp
 (go_at_call 107;((with_reducible refine(HCL.out _ bl).mono ?_);rintro e w3 ⟨⟨A3,l3,c3⟩,rfl,hl3,ho3,hle3,hcm3,hb3⟩;dsimp only at hl3;subst hl3;replace ho3:=own_mono ho3 (show w1.heap.size<=_ from by first|exact Nat.le_refl _|(simp;done)|(simp;omega));dsimp only[Sl.v] at *;obtain⟨hc3,hf3,hz3⟩:=qz hb3))
 refine hK.out _ _ kq (fun hS1=>?_);clear hK K;try simp only[AP]
 refine tr 7 fun K hK=>?_;go_simp
 refine hK.out _ _ kq (fun hS2=>?_);clear hK K;try simp only[AP]
 refine tr 8 fun K hK=>?_;((first|(refine step_append_at (by rfl) _ _ _ (by rfl) w1.heap.size 3 i0 _ 1 8 Tryz.underlying40 hi hi1 hi2 hi3 rfl (by omega) _ _ _ (by rfl) (own_on ho3 (bl_alloc (below_refl _) _)) ⟨w3.heap.size,0,none⟩ 1 1 [.int .i64 g] (by rfl) rfl (cells_new w3 [.int .i64 g] 3) (fun u hu=>by simp at hu;subst hu;rfl) (by unfold maxLen;omega) (by omega) (by first|omega|(simp;omega)) ?_)|(refine step_append_at (by rfl) _ _ _ (by rfl) w1.heap.size 3 i0 _ 1 8 Tryz.underlying40 hi hi1 hi2 hi3 rfl (by omega) _ _ _ (by rfl) ho3 ⟨w1.heap.size,0,none⟩ 1 1 [.int .i64 g] (by rfl) rfl (news_on (w:=w1.drew) hb3) (fun u hu=>by simp at hu;subst hu;rfl) (by unfold maxLen;omega) (by omega) (by first|omega|(simp;omega)) ?_));intro v4 w4 hown4 hgrow4;obtain⟨A4,c4,rfl⟩:=own_slice hown4;have hk4:Below w1.heap.size w1 w4:=(bl_grown bl hgrow4 (fun r hr=>(own_ge ho3 r hr).1) (by first|omega|(simp;omega)));have hq4:=kq_of hk4)
 refine hK.out _ _ kq (fun hS3=>?_);clear hK K;try simp only[AP]
 refine tq 9 ?_;refine wpAnyH_done (by kernel_rfl) (NoPanic.normal ?_) _;rotate_left
 go_simp
 refine hK.out _ _ kq (fun hS1=>?_);clear hK K;try simp only[AP]
 refine tr 4 fun K hK=>?_;go_simp
 (go_at_call 107;((with_reducible refine(HCL.out _ bl).mono ?_);rintro e w3 ⟨⟨A3,l3,c3⟩,rfl,hl3,ho3,hle3,hcm3,hb3⟩;dsimp only at hl3;subst hl3;replace ho3:=own_mono ho3 (show w1.heap.size<=_ from by first|exact Nat.le_refl _|(simp;done)|(simp;omega));dsimp only[Sl.v] at *;obtain⟨hc3,hf3,hz3⟩:=qz hb3))
 refine hK.out _ _ kq (fun hS2=>?_);clear hK K;try simp only[AP]
 refine tr 8 fun K hK=>?_;((first|(refine step_append_at (by rfl) _ _ _ (by rfl) w1.heap.size 3 i0 _ 1 8 Tryz.underlying40 hi hi1 hi2 hi3 rfl (by omega) _ _ _ (by rfl) (own_on ho3 (bl_alloc (below_refl _) _)) ⟨w3.heap.size,0,none⟩ 1 1 [.int .i64 g] (by rfl) rfl (cells_new w3 [.int .i64 g] 3) (fun u hu=>by simp at hu;subst hu;rfl) (by unfold maxLen;omega) (by omega) (by first|omega|(simp;omega)) ?_)|(refine step_append_at (by rfl) _ _ _ (by rfl) w1.heap.size 3 i0 _ 1 8 Tryz.underlying40 hi hi1 hi2 hi3 rfl (by omega) _ _ _ (by rfl) ho3 ⟨w1.heap.size,0,none⟩ 1 1 [.int .i64 g] (by rfl) rfl (news_on (w:=w1.drew) hb3) (fun u hu=>by simp at hu;subst hu;rfl) (by unfold maxLen;omega) (by omega) (by first|omega|(simp;omega)) ?_));intro v4 w4 hown4 hgrow4;obtain⟨A4,c4,rfl⟩:=own_slice hown4;have hk4:Below w1.heap.size w1 w4:=(bl_grown bl hgrow4 (fun r hr=>(own_ge ho3 r hr).1) (by first|omega|(simp;omega)));have hq4:=kq_of hk4)
 refine hK.out _ _ kq (fun hS3=>?_);clear hK K;try simp only[AP]
 refine tq 9 ?_;refine wpAnyH_done (by kernel_rfl) (NoPanic.normal ?_) _;rotate_left
 all_goals
  have hown:=own_snoc (enc:=zC) (x:=g) rfl rfl hown4;have hR4:Rd zC 1 w4 A4 (L.gusts.l++[g]):=own_rd' (enc:=zC) (sz:=1) (fun _=>rfl) hown;have hG4:Got (fun b=>w.heap.size<=b) w4 zC 1 ⟨A4,L.gusts.l++[g],c4⟩:=got_own (fun _=>rfl) hown (fun b h1 h2=>by omega);have B4:=hk4;obtain⟨hcx,hfx⟩:=bcell hk4;have lz4:w1.heap.size<=w4.heap.size:=hk4.size;have ln4:nb<w4.heap.size:=by omega
  by_cases hz:U=0
  ·have g3:(U==0)=true:=by simpa using hz
   have HX:=hid (show deed (.gust g) L.val=.ok {L.val with gusts:=L.gusts.l++[g]} by rw[HX2.out,if_neg (by omega),if_neg (by rw[decide_eq_true hz];simp)]);clear hz hU;go_upto_region 5 with (first|(go_at_call 268;((with_reducible refine(HAL.out _ bl).mono ?_);rintro e w5 ⟨rfl,hb5⟩;obtain⟨hc5,hf5,hz5⟩:=qz hb5))|(go_at_call 131;((with_reducible refine(f_must_ok _ _).mono ?_);rintro e w' ⟨rfl,rfl⟩)))
   have B5:Below w1.heap.size w1 w5:=bl;obtain⟨hcy,hfy⟩:=bcell B5;have q18:=(hcy nb 18 lnb).trans c18;have qf:=(hfy nb 18 lnb).trans (hfn 18);go_wp2;go_end0
   have st:=nb_step (nb:=nb) (below_tr B0 B5) 18 (.slice A4 (L.gusts.l.length+1) c4);have K:=hN.kept st;have hG5:Got (fun b=>w.heap.size<=b) w5 zC 1 ⟨A4,L.gusts.l++[g],c4⟩:=hG4.on hb5;have hG6:=got_new (T:=T) (sb:=sb) (rb:=rb) hG5 hN.lt (Stp.setCell (N:=fun b=>b=nb) (p:=⟨nb,18,none⟩) (Stp.refl _ w5) (.inl rfl) (.slice A4 (L.gusts.l.length+1) c4));exact deed_ok (L':={L with gusts:=⟨A4,L.gusts.l++[g],c4⟩}) HX.out rfl ⟨by have:=(HN0.out.blk.below B5 lnb).set_ 18 (.slice A4 (L.gusts.l.length+1) c4);rw[←show(L.gusts.l++[g]).length=L.gusts.l.length+1 by simp] at this ⊢;exact this,⟨K.su,hG6,K.rigs,K.rk,K.sites,K.sk,K.items,K.back⟩,K.stp,rfl,rfl⟩
  ·have g3:(U==0)=false:=by simpa using hz
   have HU:=hid hz;clear hz hU;cases hg:goB L.val (L.gusts.l++[g])
   ·have HX:=hid (show deed (.gust g) L.val=.error 11 by rw[HX2.out,if_neg (by omega),if_pos (by rw[decide_eq_false HU.out,hg];rfl)]);have HGO:=hid (fun w' (h:Below w4.heap.size w4 w')=>HGV.out w' (below_tr hk4 h) A4 c4 (hR4.on h) _ hg);go_wp2_with (first|(go_at_call 268;((with_reducible refine(HAL.out _ bl).mono ?_);rintro e w5 ⟨rfl,hb5⟩;obtain⟨hc5,hf5,hz5⟩:=qz hb5))|(go_at_call 102;((with_reducible refine(HGO.out _ bl).mono ?_);rintro e w6 ⟨rfl,hb6⟩;obtain⟨hc6,hf6,hz6⟩:=qz hb6))|(go_at_call 131;((with_reducible refine(f_must_no _ _).mono ?_);rintro e w' ⟨rfl,rfl⟩)))
    exact⟨rfl,deed_err HX.out bl⟩
   ·have HX:=hid (show deed (.gust g) L.val=.ok {L.val with gusts:=L.gusts.l++[g]} by rw[HX2.out,if_neg (by omega),if_neg (by rw[decide_eq_false HU.out,hg];simp)]);have HGO:=hid (fun w' (h:Below w4.heap.size w4 w')=>HGV.out w' (below_tr hk4 h) A4 c4 (hR4.on h) _ hg);go_upto_region 5 with (first|(go_at_call 268;((with_reducible refine(HAL.out _ bl).mono ?_);rintro e w5 ⟨rfl,hb5⟩;obtain⟨hc5,hf5,hz5⟩:=qz hb5))|(go_at_call 102;((with_reducible refine(HGO.out _ bl).mono ?_);rintro e w6 ⟨rfl,hb6⟩;obtain⟨hc6,hf6,hz6⟩:=qz hb6))|(go_at_call 131;((with_reducible refine(f_must_ok _ _).mono ?_);rintro e w' ⟨rfl,rfl⟩)))
    have B6:Below w1.heap.size w1 w6:=bl;obtain⟨hcy,hfy⟩:=bcell B6;have q18:=(hcy nb 18 lnb).trans c18;have qf:=(hfy nb 18 lnb).trans (hfn 18);go_wp2;go_end0
    have st:=nb_step (nb:=nb) (below_tr B0 B6) 18 (.slice A4 (L.gusts.l.length+1) c4);have K:=hN.kept st;have hG5:Got (fun b=>w.heap.size<=b) w6 zC 1 ⟨A4,L.gusts.l++[g],c4⟩:=(hG4.on hb5).on hb6;have hG6:=got_new (T:=T) (sb:=sb) (rb:=rb) hG5 hN.lt (Stp.setCell (N:=fun b=>b=nb) (p:=⟨nb,18,none⟩) (Stp.refl _ w6) (.inl rfl) (.slice A4 (L.gusts.l.length+1) c4));exact deed_ok (L':={L with gusts:=⟨A4,L.gusts.l++[g],c4⟩}) HX.out rfl ⟨by have:=(HN0.out.blk.below B6 lnb).set_ 18 (.slice A4 (L.gusts.l.length+1) c4);rw[←show(L.gusts.l++[g]).length=L.gusts.l.length+1 by simp] at this ⊢;exact this,⟨K.su,hG6,K.rigs,K.rk,K.sites,K.sk,K.items,K.back⟩,K.stp,rfl,rfl⟩
open G in
theorem f_isName (s:ByteArray) (w:World) (hs:s.size<=maxLen):
  Calls Tryz.prog 290 #[.string s] w fun e w'=>e=.returned (.bool (nmB s))∧w=w':=by
 unfold maxLen at hs;go_enter Tryz.func290,Tryz.ntmps290
 go_wp2;go_loop [7] (fun i=>∃k:Nat,k<=s.size∧i=.int .i64 k∧Hid ((List.range k).all (fun k=>chB k (chAt s k))=true)) (fun i=>s.size-(RowKit.intOf i).toNat)
 case atStart=>exact⟨0,by omega,rfl,hid rfl⟩
 case round=>
  obtain⟨k,hk,rfl,HI⟩:=hrel;have k0:=nn k;by_cases hlt:k<s.size
  ·have k1:(k:Int)<(s.size:Int):=by omega
   have HC:=hid (chAt_of hlt);obtain⟨z,hz⟩:∃z,((k:Int)==0)=z:=⟨_,rfl⟩;have HZ:=hid (show k=0↔z=true by rw[←hz];simp);cases z
   all_goals
    rcases (by omega:((s[k].toNat:Int)<48)∨(48<=(s[k].toNat:Int)∧(s[k].toNat:Int)<=57)∨(57<(s[k].toNat:Int)∧(s[k].toNat:Int)<95)∨((s[k].toNat:Int)=95)∨(95<(s[k].toNat:Int)∧(s[k].toNat:Int)<97)∨(97<=(s[k].toNat:Int)∧(s[k].toNat:Int)<=122)∨(122<(s[k].toNat:Int))) with hc|hc|hc|hc|hc|hc|hc
    ·have t0:decide ((s[k].toNat:Int)<97)=true:=by simp;omega
     have t1:decide (122<(s[k].toNat:Int))=false:=by simp;omega
     have t2:((s[k].toNat:Int) != 95)=true:=by simp;omega
     have t3:decide ((s[k].toNat:Int)<48)=true:=by simp;omega
     have t4:decide (57<(s[k].toNat:Int))=false:=by simp;omega
     have HCC:=hid hc;clear hc;go_wp2
     all_goals first
      |(go_ret;exact⟨ret_bool (by rw[nm_no hlt (chB_no.2 (by have hz:=HZ.out;have hc:=HCC.out;rw[HC.out] at hc;simp at hz;omega))]),rfl⟩)
      |(go_round;(case rel=>exact⟨k+1,by omega,by go_num,hid (nm_step HI.out (chB_yes.2 (by have hz:=HZ.out;have hc:=HCC.out;rw[HC.out] at hc;simp at hz;omega)))⟩);(case measure=>simp[RowKit.intOf];omega))
    ·have t0:decide ((s[k].toNat:Int)<97)=true:=by simp;omega
     have t1:decide (122<(s[k].toNat:Int))=false:=by simp;omega
     have t2:((s[k].toNat:Int) != 95)=true:=by simp;omega
     have t3:decide ((s[k].toNat:Int)<48)=false:=by simp;omega
     have t4:decide (57<(s[k].toNat:Int))=false:=by simp;omega
     have HCC:=hid hc;clear hc;go_wp2
     all_goals first
      |(go_ret;exact⟨ret_bool (by rw[nm_no hlt (chB_no.2 (by have hz:=HZ.out;have hc:=HCC.out;rw[HC.out] at hc;simp at hz;omega))]),rfl⟩)
      |(go_round;(case rel=>exact⟨k+1,by omega,by go_num,hid (nm_step HI.out (chB_yes.2 (by have hz:=HZ.out;have hc:=HCC.out;rw[HC.out] at hc;simp at hz;omega)))⟩);(case measure=>simp[RowKit.intOf];omega))
    ·have t0:decide ((s[k].toNat:Int)<97)=true:=by simp;omega
     have t1:decide (122<(s[k].toNat:Int))=false:=by simp;omega
     have t2:((s[k].toNat:Int) != 95)=true:=by simp;omega
     have t3:decide ((s[k].toNat:Int)<48)=false:=by simp;omega
     have t4:decide (57<(s[k].toNat:Int))=true:=by simp;omega
     have HCC:=hid hc;clear hc;go_wp2
     all_goals first
      |(go_ret;exact⟨ret_bool (by rw[nm_no hlt (chB_no.2 (by have hz:=HZ.out;have hc:=HCC.out;rw[HC.out] at hc;simp at hz;omega))]),rfl⟩)
      |(go_round;(case rel=>exact⟨k+1,by omega,by go_num,hid (nm_step HI.out (chB_yes.2 (by have hz:=HZ.out;have hc:=HCC.out;rw[HC.out] at hc;simp at hz;omega)))⟩);(case measure=>simp[RowKit.intOf];omega))
    ·have t0:decide ((s[k].toNat:Int)<97)=true:=by simp;omega
     have t1:decide (122<(s[k].toNat:Int))=false:=by simp;omega
     have t2:((s[k].toNat:Int) != 95)=false:=by simp;omega
     have t3:decide ((s[k].toNat:Int)<48)=false:=by simp;omega
     have t4:decide (57<(s[k].toNat:Int))=true:=by simp;omega
     have HCC:=hid hc;clear hc;go_wp2
     all_goals first
      |(go_ret;exact⟨ret_bool (by rw[nm_no hlt (chB_no.2 (by have hz:=HZ.out;have hc:=HCC.out;rw[HC.out] at hc;simp at hz;omega))]),rfl⟩)
      |(go_round;(case rel=>exact⟨k+1,by omega,by go_num,hid (nm_step HI.out (chB_yes.2 (by have hz:=HZ.out;have hc:=HCC.out;rw[HC.out] at hc;simp at hz;omega)))⟩);(case measure=>simp[RowKit.intOf];omega))
    ·have t0:decide ((s[k].toNat:Int)<97)=true:=by simp;omega
     have t1:decide (122<(s[k].toNat:Int))=false:=by simp;omega
     have t2:((s[k].toNat:Int) != 95)=true:=by simp;omega
     have t3:decide ((s[k].toNat:Int)<48)=false:=by simp;omega
     have t4:decide (57<(s[k].toNat:Int))=true:=by simp;omega
     have HCC:=hid hc;clear hc;go_wp2
     all_goals first
      |(go_ret;exact⟨ret_bool (by rw[nm_no hlt (chB_no.2 (by have hz:=HZ.out;have hc:=HCC.out;rw[HC.out] at hc;simp at hz;omega))]),rfl⟩)
      |(go_round;(case rel=>exact⟨k+1,by omega,by go_num,hid (nm_step HI.out (chB_yes.2 (by have hz:=HZ.out;have hc:=HCC.out;rw[HC.out] at hc;simp at hz;omega)))⟩);(case measure=>simp[RowKit.intOf];omega))
    ·have t0:decide ((s[k].toNat:Int)<97)=false:=by simp;omega
     have t1:decide (122<(s[k].toNat:Int))=false:=by simp;omega
     have t2:((s[k].toNat:Int) != 95)=true:=by simp;omega
     have t3:decide ((s[k].toNat:Int)<48)=false:=by simp;omega
     have t4:decide (57<(s[k].toNat:Int))=true:=by simp;omega
     have HCC:=hid hc;clear hc;go_wp2
     all_goals first
      |(go_ret;exact⟨ret_bool (by rw[nm_no hlt (chB_no.2 (by have hz:=HZ.out;have hc:=HCC.out;rw[HC.out] at hc;simp at hz;omega))]),rfl⟩)
      |(go_round;(case rel=>exact⟨k+1,by omega,by go_num,hid (nm_step HI.out (chB_yes.2 (by have hz:=HZ.out;have hc:=HCC.out;rw[HC.out] at hc;simp at hz;omega)))⟩);(case measure=>simp[RowKit.intOf];omega))
    ·have t0:decide ((s[k].toNat:Int)<97)=false:=by simp;omega
     have t1:decide (122<(s[k].toNat:Int))=true:=by simp;omega
     have t2:((s[k].toNat:Int) != 95)=true:=by simp;omega
     have t3:decide ((s[k].toNat:Int)<48)=false:=by simp;omega
     have t4:decide (57<(s[k].toNat:Int))=true:=by simp;omega
     have HCC:=hid hc;clear hc;go_wp2
     all_goals first
      |(go_ret;exact⟨ret_bool (by rw[nm_no hlt (chB_no.2 (by have hz:=HZ.out;have hc:=HCC.out;rw[HC.out] at hc;simp at hz;omega))]),rfl⟩)
      |(go_round;(case rel=>exact⟨k+1,by omega,by go_num,hid (nm_step HI.out (chB_yes.2 (by have hz:=HZ.out;have hc:=HCC.out;rw[HC.out] at hc;simp at hz;omega)))⟩);(case measure=>simp[RowKit.intOf];omega))
  ·obtain rfl:k=s.size:=by omega
   have HN:=hid (nm_yes HI.out);go_wp2_with (go_at_call 24;((with_reducible refine(f_within _ _ _ _).mono ?_);rintro e w' ⟨rfl,rfl⟩))
   go_ret;exact⟨ret_bool HN.out.symm,rfl⟩
theorem d_call (b:ByteArray) (T:Nat->Prop) (nb sb rb:Nat) (L:LS) (w:World) (hN:Nxt T nb sb rb w L) (hI:Inv L.val) (hbs:b.size<=maxLen):
  Calls Tryz.prog 288 #[.agg #[.string b],.pointer (some ⟨nb,0,none⟩)] w (DeedP (.call b) T nb sb rb L w):=by
 have x0:=Blk.new w 187 #[.string b];have B0:=bl_alloc (below_refl w) (.cells #[.string b] 187);have b0:=x0.cell 0;simp only[GA] at b0;have hN0:=hN.on B0;have lnb:=hN0.lt;have lw:=x0.lt;have hfn:=hN0.blk.frozen;have hbl:L.back.l.length<=100:=hI.bl;have HNM:=hid (fun W=>f_isName b W hbs);have HX2:=hid (show deed (.call b) L.val=if G.nmB b=false then .error 1 else if G.hasB L.back.l b=true then .error 6 else if ¬L.back.l.length<100 then .error 4 else .ok {L.val with back:=L.back.l++[b]} by
  rw[←memB_is];rfl)
 cases hnm:G.nmB b
 ·have HX:=hid (show deed (.call b) L.val=.error 1 by rw[HX2.out,if_pos hnm]);rw[hnm] at HNM;go_enter Tryz.func288,Tryz.ntmps288
  go_wp2_with (first|(go_at_call 290;((with_reducible refine(HNM.out _).mono ?_);rintro e w' ⟨rfl,rfl⟩))|(go_at_call 131;((with_reducible refine(f_must_no _ _).mono ?_);rintro e w' ⟨rfl,rfl⟩)))
  exact⟨rfl,deed_err HX.out B0⟩
 rw[hnm] at HNM;have c22:(w.alloc (.cells #[.string b] 187)).cell? ⟨nb,22,none⟩=some (.slice L.back.a L.back.l.length L.back.c):=hN0.cel 22 _ rfl;obtain⟨i0,hi,hi1,hi2,hi3⟩:=info_Str;go_enter Tryz.func288,Tryz.ntmps288
 go_upto_region 2 with (first|(go_at_call 290;((with_reducible refine(HNM.out _).mono ?_);rintro e w' ⟨rfl,rfl⟩))|(go_at_call 131;((with_reducible refine(f_must_ok _ _).mono ?_);rintro e w' ⟨rfl,rfl⟩)))
 generalize (w.alloc (.cells #[.string b] 187))=w1 at *;have HCT:=hid (fun w' (h:Below w1.heap.size w1 w')=>G.p_contains L.back.a L.back.l L.back.c b w' (by omega) (hN0.on h).back.rd);have HCL:=hid (fun w' (h:Below w1.heap.size w1 w')=>(show Calls Tryz.prog 108 #[.slice L.back.a L.back.l.length L.back.c] w' (CloP G.sC 1 9 L.back.l w') from c_CloneStr L.back w' (by omega) (hN0.on h).back.rd));have HN0:=hid hN0;clear hI hN0;cases hct:G.hasB L.back.l b;rotate_left
 ·rw[hct] at HCT;have HX:=hid (show deed (.call b) L.val=.error 6 by rw[HX2.out,if_neg (by rw[hnm];simp),if_pos hct]);refine th w1 fun hS0=>?_;refine tq 0 ?_;refine tq 1 ?_;refine tq 2 ?_;refine tq 3 ?_;refine tq 4 ?_;refine tq 5 ?_;refine tr 6 fun K hK=>?_;go_simp
  (go_at_call 118;((with_reducible refine(HCT.out _ bl).mono ?_);rintro e w' ⟨rfl,rfl⟩))
  refine hK.out _ _ kq (fun hS1=>?_);clear hK K;try simp only[AP]
  refine tq 7 ?_;refine tr 8 fun K hK=>?_;go_simp
  (go_at_call 131;((with_reducible refine(f_must_no _ _).mono ?_);rintro e w' ⟨rfl,rfl⟩))
  exact⟨rfl,deed_err HX.out bl⟩
 rw[hct] at HCT;have HXA:=hid (show deed (.call b) L.val=if ¬L.back.l.length<100 then .error 4 else .ok {L.val with back:=L.back.l++[b]} by rw[HX2.out,if_neg (by rw[hnm];simp),if_neg (by rw[hct];simp)]);refine wp_region_noPanic ?_;refine th w1 fun hS0=>?_;refine tq 0 ?_;refine tq 1 ?_;refine tq 2 ?_;refine tq 3 ?_;refine tq 4 ?_;refine tq 5 ?_;refine tr 6 fun K hK=>?_;go_simp
 (go_at_call 118;((with_reducible refine(HCT.out _ bl).mono ?_);rintro e w' ⟨rfl,rfl⟩))
 refine hK.out _ _ kq (fun hS1=>?_);clear hK K;try simp only[AP]
 refine tq 7 ?_;refine tr 8 fun K hK=>?_;go_simp
 (go_at_call 131;((with_reducible refine(f_must_ok _ _).mono ?_);rintro e w' ⟨rfl,rfl⟩))
 refine hK.out _ _ kq (fun hS2=>?_);clear hK K;try simp only[AP]
 refine wpAnyH_done (by kernel_rfl) (NoPanic.normal ?_) _;clear hS0 hS1 hS2;by_cases hlt:L.back.l.length<100
 rotate_left
 ·have g1:decide (L.back.l.length<100)=false:=decide_eq_false hlt;have g2:decide ((L.back.l.length:Int)<100)=false:=decide_eq_false (by omega);have HX:=hid (show deed (.call b) L.val=.error 4 by rw[HXA.out,if_pos hlt]);go_wp2_with (go_at_call 131;((with_reducible refine(f_must_no _ _).mono ?_);rintro e w' ⟨rfl,rfl⟩))
  exact⟨rfl,deed_err HX.out bl⟩
 have g1:decide (L.back.l.length<100)=true:=decide_eq_true hlt;have g2:decide ((L.back.l.length:Int)<100)=true:=decide_eq_true (by omega);have HX:=hid (show deed (.call b) L.val=.ok {L.val with back:=L.back.l++[b]} by rw[HXA.out,if_neg (by omega)]);go_upto_region 4 with (go_at_call 131;((with_reducible refine(f_must_ok _ _).mono ?_);rintro e w' ⟨rfl,rfl⟩))
 obtain⟨wq,hwq⟩:∃x,x=w1.drew:=⟨_,rfl⟩;have B1:Below w1.heap.size w1 wq:=by rw[hwq];exact below_draw (below_refl _)
 have szq:wq.heap.size=w1.heap.size:=by rw[hwq];rfl
 have c22q:wq.cell? ⟨nb,22,none⟩=some (.slice L.back.a L.back.l.length L.back.c):=((bcell B1).1 nb 22 lnb).trans c22;have hfq:=((bcell B1).2 nb 22 lnb).trans (hfn 22);have b0q:=((bcell B1).1 w.heap.size 0 lw).trans b0;have HCL:=hid (fun w' (h:Below wq.heap.size wq w')=>HCL.out w' (below_tr B1 h));rw[←hwq];clear hwq;have lnq:nb<wq.heap.size:=by omega
 have lwq:w.heap.size<wq.heap.size:=by omega
 have HN1:=hid (HN0.out.on B1);have BQ:=below_tr B0 B1;have hne:w.heap.size≠nb:=by have:=hN.lt;omega
 clear b0 c22 hfn HN0 B1 x0 HCT B0 lnb lw szq;refine wp_region_noPanic ?_;refine wp_region_last 12 (fun w'=>(∀b o,b<wq.heap.size->w'.cell? ⟨b,o,none⟩=wq.cell? ⟨b,o,none⟩)∧(∀b o,b<wq.heap.size->w'.frozen? ⟨b,o,none⟩=wq.frozen? ⟨b,o,none⟩)∧Below wq.heap.size wq w') (by kernel_rfl) (kq_draw kq_refl) (fun hS0=>?_);refine wpAnyL_tk 0 24 ?gv22 rfl ?_;try simp only[AP]
 refine wpAnyL_tk 1 25 ?gv23 rfl ?_;try simp only[AP]
 refine wpAnyL_tk 2 26 ?gv24 rfl ?_;try simp only[AP]
 refine wpAnyL_tk 3 27 ?gv25 rfl ?_;try simp only[AP]
 refine wpAnyL_tk 4 28 ?gv26 rfl ?_;try simp only[AP]
 refine wpAnyL_tk 6 30 ?gv27 rfl ?_;try simp only[AP]
 refine wpAnyL_tk 7 31 ?gv28 rfl ?_;try simp only[AP]
 refine wpAnyL_ready (rs:=[5,8]) (by kernel_rfl) (by simp) ?_;refine AllReadyL.cons rfl (fun K hK=>?_) (AllReadyL.cons rfl (fun K hK=>?_) AllReadyL.nil);go_simp
 (go_at_call 108;((with_reducible refine(HCL.out _ bl).mono ?_);rintro e w3 ⟨⟨A3,l3,c3⟩,rfl,hl3,ho3,hle3,hcm3,hb3⟩;dsimp only at hl3;subst hl3;replace ho3:=own_mono ho3 (show wq.heap.size<=_ from by first|exact Nat.le_refl _|(simp;done)|(simp;omega));dsimp only[Sl.v] at *;obtain⟨hc3,hf3,hz3⟩:=qz hb3))
 refine hK.out _ _ kq (fun hS1=>?_);clear hK K;try simp only[AP]
 refine wpAnyL_ready (rs:=[8]) (by kernel_rfl) (by simp) ?_;refine AllReadyL.cons rfl (fun K hK=>?_) AllReadyL.nil;go_simp
 refine hK.out _ _ kq (fun hS2=>?_);clear hK K;try simp only[AP]
 refine wpAnyL_ready (rs:=[9]) (by kernel_rfl) (by simp) ?_;refine AllReadyL.cons rfl (fun K hK=>?_) AllReadyL.nil;((first|(refine step_append_at (by rfl) _ _ _ (by rfl) wq.heap.size 9 i0 _ 1 16 Tryz.underlying43 hi hi1 hi2 hi3 rfl (by omega) _ _ _ (by rfl) (own_on ho3 (bl_alloc (below_refl _) _)) ⟨w3.heap.size,0,none⟩ 1 1 [.string b] (by rfl) rfl (cells_new w3 [.string b] 9) (fun u hu=>by simp at hu;subst hu;rfl) (by unfold maxLen;omega) (by omega) (by first|omega|(simp;omega)) ?_)|(refine step_append_at (by rfl) _ _ _ (by rfl) wq.heap.size 9 i0 _ 1 16 Tryz.underlying43 hi hi1 hi2 hi3 rfl (by omega) _ _ _ (by rfl) ho3 ⟨wq.heap.size,0,none⟩ 1 1 [.string b] (by rfl) rfl (news_on (w:=wq.drew) hb3) (fun u hu=>by simp at hu;subst hu;rfl) (by unfold maxLen;omega) (by omega) (by first|omega|(simp;omega)) ?_));intro v4 w4 hown4 hgrow4;obtain⟨A4,c4,rfl⟩:=own_slice hown4;have hk4:Below wq.heap.size wq w4:=(bl_grown bl hgrow4 (fun r hr=>(own_ge ho3 r hr).1) (by first|omega|(simp;omega)));have hq4:=kq_of hk4)
 refine hK.out _ _ kq (fun hS3=>?_);clear hK K;try simp only[AP]
 refine wpAnyL_tk 10 34 ?gv29 rfl ?_;try simp only[AP]
 refine wpAnyL_tk 11 35 ?gv30 rfl ?_;try simp only[AP]
 refine wpAnyL_last (by kernel_rfl) rfl (fun K hK=>?_);go_simp
 refine hK.out _ _ ?_;clear hK K;try simp only[AP]
 refine wpAnyL_done (by kernel_rfl) (NoPanic.normal ?_) _;rotate_left
 go_simp
 refine hK.out _ _ kq (fun hS1=>?_);clear hK K;try simp only[AP]
 refine wpAnyL_ready (rs:=[5]) (by kernel_rfl) (by simp) ?_;refine AllReadyL.cons rfl (fun K hK=>?_) AllReadyL.nil;go_simp
 (go_at_call 108;((with_reducible refine(HCL.out _ bl).mono ?_);rintro e w3 ⟨⟨A3,l3,c3⟩,rfl,hl3,ho3,hle3,hcm3,hb3⟩;dsimp only at hl3;subst hl3;replace ho3:=own_mono ho3 (show wq.heap.size<=_ from by first|exact Nat.le_refl _|(simp;done)|(simp;omega));dsimp only[Sl.v] at *;obtain⟨hc3,hf3,hz3⟩:=qz hb3))
 refine hK.out _ _ kq (fun hS2=>?_);clear hK K;try simp only[AP]
 refine wpAnyL_ready (rs:=[9]) (by kernel_rfl) (by simp) ?_;refine AllReadyL.cons rfl (fun K hK=>?_) AllReadyL.nil;((first|(refine step_append_at (by rfl) _ _ _ (by rfl) wq.heap.size 9 i0 _ 1 16 Tryz.underlying43 hi hi1 hi2 hi3 rfl (by omega) _ _ _ (by rfl) (own_on ho3 (bl_alloc (below_refl _) _)) ⟨w3.heap.size,0,none⟩ 1 1 [.string b] (by rfl) rfl (cells_new w3 [.string b] 9) (fun u hu=>by simp at hu;subst hu;rfl) (by unfold maxLen;omega) (by omega) (by first|omega|(simp;omega)) ?_)|(refine step_append_at (by rfl) _ _ _ (by rfl) wq.heap.size 9 i0 _ 1 16 Tryz.underlying43 hi hi1 hi2 hi3 rfl (by omega) _ _ _ (by rfl) ho3 ⟨wq.heap.size,0,none⟩ 1 1 [.string b] (by rfl) rfl (news_on (w:=wq.drew) hb3) (fun u hu=>by simp at hu;subst hu;rfl) (by unfold maxLen;omega) (by omega) (by first|omega|(simp;omega)) ?_));intro v4 w4 hown4 hgrow4;obtain⟨A4,c4,rfl⟩:=own_slice hown4;have hk4:Below wq.heap.size wq w4:=(bl_grown bl hgrow4 (fun r hr=>(own_ge ho3 r hr).1) (by first|omega|(simp;omega)));have hq4:=kq_of hk4)
 refine hK.out _ _ kq (fun hS3=>?_);clear hK K;try simp only[AP]
 refine wpAnyL_tk 10 34 ?gv31 rfl ?_;try simp only[AP]
 refine wpAnyL_tk 11 35 ?gv32 rfl ?_;try simp only[AP]
 refine wpAnyL_last (by kernel_rfl) rfl (fun K hK=>?_);go_simp
 refine hK.out _ _ ?_;clear hK K;try simp only[AP]
 refine wpAnyL_done (by kernel_rfl) (NoPanic.normal ?_) _;rotate_left
 all_goals
  go_wp2;go_end0
  have hown:=own_snoc (enc:=G.sC) (x:=b) rfl rfl hown4;have hG4:Got (fun b=>w.heap.size<=b) w4 G.sC 1 ⟨A4,L.back.l++[b],c4⟩:=got_own (fun _=>rfl) hown (fun b h1 h2=>by omega);have st:=nb_step (nb:=nb) (below_tr BQ hk4) 22 (.slice A4 (L.back.l.length+1) c4);have K:=hN.kept st;have hG6:=got_new (T:=T) (sb:=sb) (rb:=rb) hG4 hN.lt (Stp.setCell (N:=fun b=>b=nb) (p:=⟨nb,22,none⟩) (Stp.refl _ w4) (.inl rfl) (.slice A4 (L.back.l.length+1) c4));exact deed_ok (L':={L with back:=⟨A4,L.back.l++[b],c4⟩}) HX.out rfl ⟨by have:=(HN1.out.blk.below hk4 lnq).set_ 22 (.slice A4 (L.back.l.length+1) c4);rw[←show(L.back.l++[b]).length=L.back.l.length+1 by simp] at this ⊢;exact this,⟨K.su,K.gusts,K.rigs,K.rk,K.sites,K.sk,K.items,hG6⟩,K.stp,rfl,rfl⟩
end Go.Proofs.YtjkkfcghkeoedaaGreatDoor.Fi
namespace Go.Proofs.YtjkkfcghkeoedaaGreatDoor.G
open Go.RowKit Go.Maps
theorem l_Looked (A:Option Addr) (g:List It) (c:Nat) (s:ByteArray) (du:Int) (w:World) (hl:g.length<=100000) (hc:g.length<=c) (hcm:c<=maxLen) (hR:Rd It.cs 4 w A g) (hW:∀x∈g,IW x) (hs:s.size<=maxLen):
  Calls Tryz.prog 287 #[.slice A g.length c,.string s,.int .i64 du] w fun e w'=>∃A' c',e=.returned (.tuple #[.slice A' (lkL g s du).length c',.int .i64 (lkE g s du)])∧Rd It.cs 4 w' A' (lkL g s du)∧(lkL g s du).length<=c'∧c'<=maxLen∧(∀a,A'=some a->w.heap.size<=a.block)∧Below w.heap.size w w':=by
 have H1:=Lib.hid (fun b (h:vldG g=b)=>calls_bool h (p_Valid A g c w hl hR hW));have H2:=Lib.hid (fun W (h:Below w.heap.size w W)=>p_byMark A g c W hl (hR.on h) hW);have hkey:=keyS hs;cases h:vldG g
 ·have HE:=Lib.hid (show lkE g s du=1 by unfold lkE;rw[if_neg (by simp[h])]);have HL:=Lib.hid (show lkL g s du=[] by unfold lkL;rw[HE.out];rfl);go_enter Tryz.func287,Tryz.ntmps287
  go_wp2_with (go_at_call 28;((with_reducible refine(H1.out _ h).mono ?_);rintro e w1 ⟨rfl,hb1⟩;obtain⟨hc1,hf1,hz1⟩:=qz hb1))
  go_ret2;exact⟨none,0,by rw[HE.out,HL.out];rfl,by rw[HL.out];exact fun h=>absurd rfl h,by rw[HL.out];exact Nat.le_refl _,Nat.zero_le _,fun a ha=>(by cases ha),bl⟩
 cases h2:wn du 0 100000
 ·have HE:=Lib.hid (show lkE g s du=7 by unfold lkE;rw[if_pos h,if_neg (by simp[h2])]);have HL:=Lib.hid (show lkL g s du=[] by unfold lkL;rw[HE.out];rfl);have Q:=Lib.hid (p_isDayV h2);go_enter Tryz.func287,Tryz.ntmps287
  go_wp2_with (first|(go_at_call 28;((with_reducible refine(H1.out _ h).mono ?_);rintro e w1 ⟨rfl,hb1⟩;obtain⟨hc1,hf1,hz1⟩:=qz hb1))|(go_at_call 90;((with_reducible refine(Q.out _).mono ?_);rintro e w' ⟨rfl,rfl⟩)))
  go_ret2;exact⟨none,0,by rw[HE.out,HL.out];rfl,by rw[HL.out];exact fun h=>absurd rfl h,by rw[HL.out];exact Nat.le_refl _,Nat.zero_le _,fun a ha=>(by cases ha),bl⟩
 have Q:=Lib.hid (p_isDayV h2);obtain⟨f1,f2⟩:=fnd_bd g s;have HH:=mkD_has g s g.length (Nat.le_refl _);have HA:=mkD_at (vldG_dst h) s g.length (Nat.le_refl _);by_cases h3:0<=fndI g s
 rotate_left
 ·have HE:=Lib.hid (show lkE g s du=5 by unfold lkE;rw[if_pos h,if_pos h2,if_neg h3]);have HL:=Lib.hid (show lkL g s du=[] by unfold lkL;rw[HE.out];rfl);rw[decide_eq_false (by omega)] at HH;have HHH:=Lib.hid HH;clear HH HA h3;go_enter Tryz.func287,Tryz.ntmps287
  go_wp2_with (first
   |(go_at_call 28;((with_reducible refine(H1.out _ h).mono ?_);rintro e w1 ⟨rfl,hb1⟩;obtain⟨hc1,hf1,hz1⟩:=qz hb1))
   |(go_at_call 90;((with_reducible refine(Q.out _).mono ?_);rintro e w' ⟨rfl,rfl⟩))
   |(go_at_call 91;refine(H2.out _ hb1).mono ?_;rintro e w2 ⟨rfl,hown,hb2⟩)
   |(at_lookup;refine wpList_lookup_own_ok_int _ rfl _ _ 154 rfl 9 3 .i64 lawS und_map und_int (zeroN _) _ g.length _ rfl hown _ _ rfl hkey ?_;intro cc hat hwc;rw[HHH.out]))
  go_ret2;exact⟨none,0,by rw[HE.out,HL.out];rfl,by rw[HL.out];exact fun h=>absurd rfl h,by rw[HL.out];exact Nat.le_refl _,Nat.zero_le _,fun a ha=>(by cases ha),bl⟩
 have HE:=Lib.hid (show lkE g s du=0 by unfold lkE;rw[if_pos h,if_pos h2,if_pos h3]);have HL:=Lib.hid (show lkL g s du=setDu g (fndI g s).toNat du by unfold lkL;rw[if_pos HE.out]);have hg64:=vldG_len h;rw[decide_eq_true (by omega)] at HH;rw[if_pos (by omega)] at HA;obtain⟨k,hk⟩:=Int.eq_ofNat_of_zero_le h3;rw[hk] at HL f2 HA;have hkl:k<g.length:=by omega
 obtain⟨b,off,rfl,hb⟩:∃b off,A=some ⟨b,off,none⟩∧b<w.heap.size:=by
  obtain⟨x,b,off,_,e,hb,_⟩:=rdI hR hkl;exact⟨b,off,e,hb⟩
 have HHH:=Lib.hid HH;have HAA:=Lib.hid HA;have HR:=Lib.hid (fun W (h:Below w.heap.size w W)=>hR.on h);obtain⟨i0,hi,hi1,hi2,hi3⟩:=info_item;have k0:(0:Int)<=(k:Int):=by omega
 have k1:(k:Int)<(g.length:Int):=by omega
 have k2:(k:Int)<=(c:Int):=by omega
 obtain⟨m,hm⟩:∃m,m=k+1:=⟨_,rfl⟩;have e1:IntKind.i64.wrap ((k:Int)+1)=(m:Int):=by rw[fits_wrap ⟨by omega,by omega⟩];omega
 have m0:(0:Int)<=(m:Int):=by omega
 have m1:(m:Int)<=(g.length:Int):=by omega
 have HM1:=Lib.hid hm;clear hm;unfold maxLen at hcm;have HO1:=Lib.hid (show ∀u∈fl It.cs (g.drop m),u.oneCell'=true by
  intro u hu;simp only[fl,List.mem_flatMap] at hu;obtain⟨y,_,hy⟩:=hu;simp only[It.cs,List.mem_cons,List.not_mem_nil,or_false] at hy;rcases hy with rfl|rfl|rfl|rfl<;>rfl)
 clear h3 hk HH HA;go_enter Tryz.func287,Tryz.ntmps287
 go_wp2_with (first
  |(go_at_call 28;((with_reducible refine(H1.out _ h).mono ?_);rintro e w1 ⟨rfl,hb1⟩;obtain⟨hc1,hf1,hz1⟩:=qz hb1))
  |(go_at_call 90;((with_reducible refine(Q.out _).mono ?_);rintro e w' ⟨rfl,rfl⟩))
  |(go_at_call 91;refine(H2.out _ hb1).mono ?_;rintro e w2 ⟨rfl,hown,hb2⟩;have B2:=below_tr hb1 hb2;obtain⟨x,b',off',hx,e9,_,c0,c1,c2,c3⟩:=rdI (HR.out _ B2) hkl;cases e9;have HX:=Lib.hid hx;clear hx;have hbw:b<w2.heap.size:=(by have:=B2.size;omega);have hbne:b≠w2.heap.size:=(by omega))
  |(at_lookup;refine wpList_lookup_own_ok_int _ rfl _ _ 154 rfl 9 3 .i64 lawS und_map und_int (zeroN _) _ g.length _ rfl hown _ _ rfl hkey ?_;intro cc hat hwc;rw[HHH.out];rw[HAA.out] at hat;obtain rfl:(k:Int)=cc:=by(cases hat;rfl)))
 refine wp_world ?_;intro W hW;have bW:Below w.heap.size w W:=by rw[hW];(repeat'(first|assumption|exact below_refl _|refine bl_alloc ?_ _|refine Below.setCell ?_ ?_ _|refine below_draw ?_|refine below_drewN ?_ _|refine below_tr ?_ (by assumption)))<;>(first|omega|(simp;done)|(simp;omega))
 have gW_0:w2.heap.size<W.heap.size:=by rw[hW];(first|assumption|(simp;done)|(simp;omega))
 have gW_0_0:W.cell? ⟨w2.heap.size,0,none⟩=some (.string x.nm):=by rw[hW];go_simp
 have gW_0_1:W.cell? ⟨w2.heap.size,1,none⟩=some (.int .i64 x.ld):=by rw[hW];go_simp
 have gW_0_2:W.cell? ⟨w2.heap.size,2,none⟩=some (.int .i64 du):=by rw[hW];go_simp
 have gW_0_3:W.cell? ⟨w2.heap.size,3,none⟩=some (.string x.bt):=by rw[hW];go_simp
 clear hW;have BW:Below w.heap.size w W:=bl;have HGT:=Lib.hid (fun V (h:Below W.heap.size W V)=>rd_fl It.cs_len (rdI_take ((HR.out _ BW).on h) k));clear c0 c1 c2 c3 hown;have HGD:=Lib.hid (fun V (h:Below W.heap.size W V)=>rd_fl It.cs_len (rdI_drop ((HR.out _ BW).on h) m));have zW:w.heap.size<=W.heap.size:=BW.size;by_cases hcm2:c=m
 ·subst hcm2;have hgc:g.length=c:=by omega
  go_region_held3 (fun w'=>(∀b o,b<W.heap.size->w'.cell? ⟨b,o,none⟩=W.cell? ⟨b,o,none⟩)∧(∀b o,b<W.heap.size->w'.frozen? ⟨b,o,none⟩=W.frozen? ⟨b,o,none⟩)∧Below W.heap.size W w') ((first|assumption|(refine kp_of ?_;(repeat'(first|assumption|exact below_refl _|refine bl_alloc ?_ _|refine Below.setCell ?_ ?_ _|refine below_draw ?_|refine below_drewN ?_ _|refine below_tr ?_ (by assumption)))<;>(first|omega|(simp;done)|(simp;omega))))) ((first
     |(refine step_append_grows _ (by rfl) _ _ _ (by rfl) 67 i0 _ 4 48 Tryz.underlying26 hi hi1 hi2 hi3 rfl (by omega) ⟨b,off,none⟩ k k (fl It.cs (g.take k)) (by rfl) (by rw[fl_length It.cs_len];simp;omega) (HGT.out _ bl) ⟨W.heap.size,0,none⟩ 1 1 (It.cs ⟨x.nm,x.ld,du,x.bt⟩) (by rfl) (by rfl) (cells_new _ _ _) (by omega) (by unfold maxLen;omega) (by omega) ?_;intro v4 w4 hown4 hgrow4;have B4:Below W.heap.size W w4:=bl_grown bl hgrow4 (fun r h=>by cases h) (by simp))
     |((refine step_append_own _ (by rfl) _ _ _ (by rfl) W.heap.size 67 i0 _ 4 48 Tryz.underlying26 hi hi1 hi2 hi3 rfl (by omega) _ (k+1) (fl It.cs (g.take k)++It.cs ⟨x.nm,x.ld,du,x.bt⟩) (by rfl) (own_base hown4 (by simp)) ⟨b,off,none⟩ _ _ [] (by rfl) (by first|(simp;done)|(simp;omega)) (fun j u hu=>by simp at hu) (fun u hu=>by cases hu) (by unfold maxLen;omega) (by omega) B4.size ?_;intro v5 w5 hown5 hgrow5;have B5:Below W.heap.size W w5:=bl_grown B4 hgrow5 (fun r h=>(own_ge hown4 r h).1 |> Nat.le_trans (by simp)) (by have:=B4.size;omega)))
     ))
  go_wp2;go_ret2;have hown6:w5.ownsRow W.heap.size 67 4 v5 (setDu g k du).length (fl It.cs (setDu g k du)):=by
   have e1:setDu g k du=g.take k++[⟨x.nm,x.ld,du,x.bt⟩]++g.drop c:=by
    unfold setDu;rw[itAt_of HX.out,List.set_eq_take_append_cons_drop,if_pos hkl,HM1.out];simp
   have e2:(setDu g k du).length=k+1+(g.length-c):=by
    have:=HM1.out;unfold setDu;rw[List.length_set];omega
   rw[e2,e1];simp only[fl,List.flatMap_append,List.flatMap_cons,List.flatMap_nil,List.append_nil] at hown5 ⊢;have e3:g.drop c=[]:=List.drop_eq_nil_of_le (by omega);rw[e3,show g.length-c=0 by omega];simp only[fl,List.flatMap_nil,List.append_nil] at hown5 ⊢;exact hown5
  obtain⟨A',c',e,hr,hc1',hc2'⟩:=own_rdc It.cs_len hown6;have hkk:((k:Int)).toNat=k:=by omega
  exact⟨A',c',by rw[HE.out,HL.out,hkk,←e];rfl,by rw[HL.out,hkk];exact hr,by rw[HL.out,hkk];exact hc1',hc2',fun a ha=>Nat.le_trans zW (own_ge hown6 a.block (by rw[e,ha];rfl)).1,below_tr BW B5⟩
 ·have hcm3:=hcm2
  go_region_held3 (fun w'=>(∀b o,b<W.heap.size->w'.cell? ⟨b,o,none⟩=W.cell? ⟨b,o,none⟩)∧(∀b o,b<W.heap.size->w'.frozen? ⟨b,o,none⟩=W.frozen? ⟨b,o,none⟩)∧Below W.heap.size W w') ((first|assumption|(refine kp_of ?_;(repeat'(first|assumption|exact below_refl _|refine bl_alloc ?_ _|refine Below.setCell ?_ ?_ _|refine below_draw ?_|refine below_drewN ?_ _|refine below_tr ?_ (by assumption)))<;>(first|omega|(simp;done)|(simp;omega))))) ((first
     |(refine step_append_grows _ (by rfl) _ _ _ (by rfl) 67 i0 _ 4 48 Tryz.underlying26 hi hi1 hi2 hi3 rfl (by omega) ⟨b,off,none⟩ k k (fl It.cs (g.take k)) (by rfl) (by rw[fl_length It.cs_len];simp;omega) (HGT.out _ bl) ⟨W.heap.size,0,none⟩ 1 1 (It.cs ⟨x.nm,x.ld,du,x.bt⟩) (by rfl) (by rfl) (cells_new _ _ _) (by omega) (by unfold maxLen;omega) (by omega) ?_;intro v4 w4 hown4 hgrow4;have B4:Below W.heap.size W w4:=bl_grown bl hgrow4 (fun r h=>by cases h) (by simp))
     |((refine step_append_own _ (by rfl) _ _ _ (by rfl) W.heap.size 67 i0 _ 4 48 Tryz.underlying26 hi hi1 hi2 hi3 rfl (by omega) _ (k+1) (fl It.cs (g.take k)++It.cs ⟨x.nm,x.ld,du,x.bt⟩) (by rfl) (own_base hown4 (by simp)) ⟨b,off+m*4,none⟩ (g.length-m) (c-m) (fl It.cs (g.drop m)) (by rfl) (by rw[fl_length It.cs_len];simp) (HGD.out _ B4) (fun u hu=>HO1.out u hu) (by unfold maxLen;omega) (by omega) B4.size ?_;intro v5 w5 hown5 hgrow5;have B5:Below W.heap.size W w5:=bl_grown B4 hgrow5 (fun r h=>(own_ge hown4 r h).1 |> Nat.le_trans (by simp)) (by have:=B4.size;omega)))
     ))
  go_wp2;go_ret2;have hown6:w5.ownsRow W.heap.size 67 4 v5 (setDu g k du).length (fl It.cs (setDu g k du)):=by
   have e1:setDu g k du=g.take k++[⟨x.nm,x.ld,du,x.bt⟩]++g.drop m:=by
    unfold setDu;rw[itAt_of HX.out,List.set_eq_take_append_cons_drop,if_pos hkl,HM1.out];simp
   have e2:(setDu g k du).length=k+1+(g.length-m):=by
    have:=HM1.out;unfold setDu;rw[List.length_set];omega
   rw[e2,e1];simp only[fl,List.flatMap_append,List.flatMap_cons,List.flatMap_nil,List.append_nil] at hown5 ⊢;exact hown5
  obtain⟨A',c',e,hr,hc1',hc2'⟩:=own_rdc It.cs_len hown6;have hkk:((k:Int)).toNat=k:=by omega
  exact⟨A',c',by rw[HE.out,HL.out,hkk,←e];rfl,by rw[HL.out,hkk];exact hr,by rw[HL.out,hkk];exact hc1',hc2',fun a ha=>Nat.le_trans zW (own_ge hown6 a.block (by rw[e,ha];rfl)).1,below_tr BW B5⟩
end Go.Proofs.YtjkkfcghkeoedaaGreatDoor.G
