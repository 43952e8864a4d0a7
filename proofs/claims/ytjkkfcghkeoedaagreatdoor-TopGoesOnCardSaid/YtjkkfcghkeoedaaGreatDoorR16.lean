/- The parts of the proof, part 16. -/
import Derived.Test.YtjkkfcghkeoedaaGreatDoorR0
import Derived.Test.YtjkkfcghkeoedaaGreatDoorR15
import Derived.Deep.DeepCutAuto
set_option maxHeartbeats 16000000
set_option maxRecDepth 20000
set_option linter.unusedSimpArgs false
set_option linter.unusedVariables false
namespace Go.Proofs.YtjkkfcghkeoedaaGreatDoor.Fi
open Go.RowKit Go.Lib Tx
theorem siteA_of {L:LS} {i:Nat} {s:LSi} (h:L.sites.l[i]?=some s):siteA L.val (i:Int)=s.val:=by
 unfold siteA LS.val;rw[Int.toNat_natCast,List.getD_eq_getElem?_getD,List.getElem?_map,h];rfl
theorem thB_iff {L:LS} {i:Int}:thB L.val i=true↔0<=i∧i<L.sites.l.length:=by
 unfold thB LS.val;rw[wn_iff,List.length_map];omega
theorem set_val {L:LS} {i:Nat} {s':LSi}:({L with sites:=⟨L.sites.a,L.sites.l.set i s',L.sites.c⟩}:LS).val=setS L.val (i:Int) s'.val:=by
 unfold setS LS.val;simp[List.map_set]
theorem upN_bd {x:St} (h:Inv x):0<=upN x∧upN x<=1000:=by
 have go:∀(q:List Sit) (a:Int),(∀s∈q,0<=s.men∧s.men<=16)->a<=q.foldl (fun a s=>a+s.men) a∧q.foldl (fun a s=>a+s.men) a<=a+16*q.length:=fun q=>by
  induction q with
  |nil=>intro a _;simp
  |cons s q ih=>
   intro a hq;have h1:=hq s (List.mem_cons_self ..);have h2:=ih (a+s.men) fun x hx=>hq x (List.mem_cons_of_mem _ hx);simp only[List.foldl_cons,List.length_cons];omega
 have h1:=go x.sites 0 h.sm;have h2:=h.sl;have h3:=(vSu_parts h.su).1;unfold upN;omega
theorem Nxt.aloft {T:Nat->Prop} {nb sb rb:Nat} {w:World} {L:LS} (hN:Nxt T nb sb rb w L) (hI:Inv L.val):
  Calls Tryz.prog 268 #[.pointer (some ⟨nb,0,none⟩)] w fun e w'=>e=.returned (.int .i64 (upN L.val))∧Below w.heap.size w w':=by
 have h2:=hI.sl;have h3:=(vSu_parts hI.su).1;refine f_aloft nb L w hN.cel hN.srd ?_ ?_
 ·unfold LS.val at h2 h3;dsimp only at h2 h3;rw[List.length_map] at h2;omega
 ·intro s hs;have h4:=hI.sm s.val (by unfold LS.val;exact List.mem_map.2 ⟨s,hs,rfl⟩);unfold LSi.val at h4;dsimp only at h4;omega
theorem Nxt.goes {T:Nat->Prop} {nb sb rb:Nat} {w:World} {L:LS} (hN:Nxt T nb sb rb w L) (hI:Inv L.val) {v:Bool} (h:goB L.val L.val.gusts=v):
  Calls Tryz.prog 102 #[.pointer (some ⟨nb,0,none⟩),.slice L.gusts.a L.gusts.l.length L.gusts.c] w fun e w'=>e=.returned (.bool v)∧Below w.heap.size w w':=by
 have h1:=hI.gl;exact f_goesV h hN.cel (by unfold LS.val at h1;dsimp only at h1;omega) hN.gusts.rd
theorem d_down (i m:Int) (T:Nat->Prop) (nb sb rb:Nat) (L:LS) (w:World) (hN:Nxt T nb sb rb w L) (hI:Inv L.val):
  Calls Tryz.prog 313 #[.agg #[.int .i64 i,.int .i64 m],.pointer (some ⟨nb,0,none⟩)] w (DeedP (.down i m) T nb sb rb L w):=by
 have x0:=Blk.new w 196 #[.int .i64 i,.int .i64 m];have B0:=bl_alloc (below_refl w) (.cells #[.int .i64 i,.int .i64 m] 196);have b0:=x0.cell 0;have b1:=x0.cell 1;simp only[GA] at b0 b1;have hN0:=hN.on B0;have hsl:L.sites.l.length<=1000:=by
  have h1:=hI.sl;have h2:=(vSu_parts hI.su).1;unfold LS.val at h1 h2;dsimp only at h1 h2;rw[List.length_map] at h1;omega
 have HD:=hid (show deed (.down i m) L.val=_ from rfl);cases hth:thB L.val i
 ·have HX:=hid (show deed (.down i m) L.val=.error 5 by unfold deed;dsimp only;rw[if_pos hth]);have HAT:=hid (f_at_no nb L i _ hN0.cel hsl hth);go_enter Tryz.func313,Tryz.ntmps313
  go_wp2_with (go_at_call 274;((with_reducible refine HAT.out.mono ?_);rintro e w' ⟨rfl,rfl⟩))
  exact⟨rfl,deed_err HX.out B0⟩
 obtain⟨i0,i1⟩:=thB_iff.1 hth;obtain⟨k,rfl⟩:=Int.eq_ofNat_of_zero_le i0;have hk:k<L.sites.l.length:=by omega
 obtain⟨s,cur,hs,ha,hbs,hir,c0,c1,c2⟩:=hN0.site hk;have hfz:=hbs.frozen;have HAT:=hid (f_at nb L k _ sb 0 hN0.cel hsl hk ha);have hsm:=hI.sm s.val (by unfold LS.val;exact List.mem_map.2 ⟨s,List.mem_of_getElem? hs,rfl⟩);have HSA:=hid (siteA_of hs);cases hwn:wn m 1 16
 ·have HX:=hid (show deed (.down (k:Int) m) L.val=.error 7 by unfold deed;dsimp only;rw[if_neg (by rw[hth];simp),if_pos hwn]);go_enter Tryz.func313,Tryz.ntmps313
  go_wp2_with (first
   |(go_at_call 274;((with_reducible refine HAT.out.mono ?_);rintro e w' ⟨rfl,rfl⟩))
   |(go_at_call 24;((with_reducible refine(f_withinV hwn _).mono ?_);rintro e w' ⟨rfl,rfl⟩))
   |(go_at_call 131;((with_reducible refine(f_must_no _ _).mono ?_);rintro e w' ⟨rfl,rfl⟩)))
  exact⟨rfl,deed_err HX.out B0⟩
 obtain⟨m0,m1⟩:=wn_iff.1 hwn;unfold LSi.val at hsm;obtain⟨sm0,sm1⟩:=hsm;dsimp only at sm0 sm1;obtain⟨D,hD⟩:∃D,D=s.men-m:=⟨_,rfl⟩;have hw1:IntKind.i64.wrap (s.men-m)=D:=by rw[hD];exact fits_wrap ⟨by omega,by omega⟩
 have HX2:=hid (show deed (.down (k:Int) m) L.val=if (decide (m<=s.men) && !decide (D=1))=false then .error 10 else .ok (setS L.val (k:Int) {s.val with men:=D}) by
  rw[hD];unfold deed;dsimp only;rw[if_neg (by rw[hth];simp),if_neg (by rw[hwn];simp),HSA.out];rfl)
 go_enter Tryz.func313,Tryz.ntmps313
 go_upto_region 3 with (first
   |(go_at_call 274;((with_reducible refine HAT.out.mono ?_);rintro e w' ⟨rfl,rfl⟩))
   |(go_at_call 24;((with_reducible refine(f_withinV hwn _).mono ?_);rintro e w' ⟨rfl,rfl⟩))
   |(go_at_call 131;((with_reducible refine(f_must_ok _ _).mono ?_);rintro e w' ⟨rfl,rfl⟩)))
 have lsb:=hbs.lt;have lnb:=hN0.lt;have lw:=x0.lt;generalize w.alloc (.cells #[.int .i64 (k:Int),.int .i64 m] 196)=w1 at *;have HDD:=hid hD;clear hD;by_cases h1:m<=s.men
 ·by_cases h2:D=1
  ·have HX:=hid (show deed (.down (k:Int) m) L.val=.error 10 by rw[HX2.out,if_pos (by rw[decide_eq_true h1,decide_eq_true h2];rfl)]);have g1:decide (m<=s.men)=true:=decide_eq_true h1;have g2:(D==1)=true:=by simpa using h2
   have g3:(D != 1)=false:=by simp[h2]
   clear h2;refine wp_region_still_tail 17 (by kernel_rfl) (by kernel_rfl) ?_;change wpStill _ _ w1.drew _ _ _
   simp only[List.take_succ_cons,List.take_zero,List.drop_succ_cons,List.drop_zero];repeat still_step
   refine wpStill_nil ?_;change wpList _ _ _ _ _ w1.drew
   go_wp2_with (go_at_call 131;((with_reducible refine(f_must_no _ _).mono ?_);rintro e w' ⟨rfl,rfl⟩))
   exact⟨rfl,deed_err HX.out (below_draw B0)⟩
  ·have HX:=hid (show deed (.down (k:Int) m) L.val=.ok (setS L.val (k:Int) {s.val with men:=D}) by rw[HX2.out,if_neg (by rw[decide_eq_true h1,decide_eq_false h2];simp)]);have g1:decide (m<=s.men)=true:=decide_eq_true h1;have g2:(D==1)=false:=beq_eq_false_iff_ne.2 h2;have g3:(D != 1)=true:=by simp[h2]
   clear h2;go_quiet ((go_at_call 131;with_reducible exact quiet_left (f_must_ok _ _)))
   have b1x:w1.cell? ⟨w.heap.size,1,none⟩=some (.int .i64 m):=b1;go_wp2_with fail
   go_region
   all_goals go_wp2
   all_goals go_end0
   exact deed_ok HX.out (by rw[set_val (s':={s with men:=D})];rfl) (hN.turnS (j:=2) (s':={s with men:=D}) (below_drewN B0 _) hs rfl (fun r hr=>by rcases r with _|_|_|r<;>first|rfl|exact absurd rfl hr) (.inl rfl))
 ·have HX:=hid (show deed (.down (k:Int) m) L.val=.error 10 by rw[HX2.out,if_pos (by rw[decide_eq_false h1];rfl)]);have g1:decide (m<=s.men)=false:=decide_eq_false h1;refine th w1 fun hS0=>?_;refine tq 0 ?_;refine tq 1 ?_;refine tq 2 ?_;refine tq 3 ?_;refine tq 4 ?_;refine tq 5 ?_;refine tq 6 ?_;refine tq 7 ?_;refine tv 8 ?_;refine tv 9 ?_;refine tv 10 ?_;refine tv 11 ?_;refine tv 12 ?_;refine tv 13 ?_;refine tv 14 ?_;refine tv 15 ?_;refine tq 16 ?_;refine tr 17 fun K hK=>?_;go_simp
  (go_at_call 131;((with_reducible refine(f_must_no _ _).mono ?_);rintro e w' ⟨rfl,rfl⟩))
  exact⟨rfl,deed_err HX.out (below_draw B0)⟩
theorem Nxd.drew {T:Nat->Prop} {nb sb rb:Nat} {w w':World} {L L':LS} (h:Nxd T nb sb rb w L w' L'):Nxd T nb sb rb w L w'.drew L':=
 ⟨h.blk.drew,h.ok.on (below_draw (below_refl _)),h.stp.drew,h.lines,h.x⟩
theorem d_up (i m:Int) (T:Nat->Prop) (nb sb rb:Nat) (L:LS) (w:World) (hN:Nxt T nb sb rb w L) (hI:Inv L.val):
  Calls Tryz.prog 311 #[.agg #[.int .i64 i,.int .i64 m],.pointer (some ⟨nb,0,none⟩)] w (DeedP (.up i m) T nb sb rb L w):=by
 have x0:=Blk.new w 195 #[.int .i64 i,.int .i64 m];have B0:=bl_alloc (below_refl w) (.cells #[.int .i64 i,.int .i64 m] 195);have b0:=x0.cell 0;have b1:=x0.cell 1;simp only[GA] at b0 b1;have hN0:=hN.on B0;have hsl:L.sites.l.length<=1000:=by
  have h1:=hI.sl;have h2:=(vSu_parts hI.su).1;unfold LS.val at h1 h2;dsimp only at h1 h2;rw[List.length_map] at h1;omega
 have HD:=hid (show deed (.up i m) L.val=_ from rfl);cases hth:thB L.val i
 ·have HX:=hid (show deed (.up i m) L.val=.error 5 by unfold deed;dsimp only;rw[if_pos hth]);have HAT:=hid (f_at_no nb L i _ hN0.cel hsl hth);go_enter Tryz.func311,Tryz.ntmps311
  go_wp2_with (go_at_call 274;((with_reducible refine HAT.out.mono ?_);rintro e w' ⟨rfl,rfl⟩))
  exact⟨rfl,deed_err HX.out B0⟩
 obtain⟨i0,i1⟩:=thB_iff.1 hth;obtain⟨k,rfl⟩:=Int.eq_ofNat_of_zero_le i0;have hk:k<L.sites.l.length:=by omega
 obtain⟨s,cur,hs,ha,hbs,hir,c0,c1,c2⟩:=hN0.site hk;have hfz:=hbs.frozen;have HAT:=hid (f_at nb L k _ sb 0 hN0.cel hsl hk ha);have hsm:=hI.sm s.val (by unfold LS.val;exact List.mem_map.2 ⟨s,List.mem_of_getElem? hs,rfl⟩);have HSA:=hid (siteA_of hs);cases hwn:wn m 2 16
 ·have HX:=hid (show deed (.up (k:Int) m) L.val=.error 7 by unfold deed;dsimp only;rw[if_neg (by rw[hth];simp),if_pos hwn]);go_enter Tryz.func311,Tryz.ntmps311
  go_wp2_with (first
   |(go_at_call 274;((with_reducible refine HAT.out.mono ?_);rintro e w' ⟨rfl,rfl⟩))
   |(go_at_call 24;((with_reducible refine(f_withinV hwn _).mono ?_);rintro e w' ⟨rfl,rfl⟩))
   |(go_at_call 131;((with_reducible refine(f_must_no _ _).mono ?_);rintro e w' ⟨rfl,rfl⟩)))
  exact⟨rfl,deed_err HX.out B0⟩
 obtain⟨m0,m1⟩:=wn_iff.1 hwn;unfold LSi.val at hsm;obtain⟨sm0,sm1⟩:=hsm;dsimp only at sm0 sm1;have hw1:IntKind.i64.wrap (s.men+m)=s.men+m:=fits_wrap ⟨by omega,by omega⟩;obtain⟨u0,u1⟩:=upN_bd hI;have HX2:=hid (show deed (.up (k:Int) m) L.val=if (!s.fel&&(decide (0<s.dogs.l.length)&&decide (upN L.val+m<=L.x.men)))=false then .error 10 else if goB L.val L.val.gusts=false then .error 11 else .ok (setS L.val (k:Int) {s.val with men:=s.men+m}) by
  unfold deed;dsimp only;rw[if_neg (by rw[hth];simp),if_neg (by rw[hwn];simp),HSA.out];rfl)
 have lsb:=hbs.lt;have lnb:=hN0.lt;have lw:=x0.lt;have c0x:(w.alloc (.cells #[.int .i64 (k:Int),.int .i64 m] 195)).cell? ⟨sb,k*3,none⟩=some (.slice s.dogs.a s.dogs.l.length s.dogs.c):=c0;have c16:(w.alloc (.cells #[.int .i64 (k:Int),.int .i64 m] 195)).cell? ⟨nb,16,none⟩=some (.int .i64 L.x.men):=hN0.cel 16 _ rfl;have c18:(w.alloc (.cells #[.int .i64 (k:Int),.int .i64 m] 195)).cell? ⟨nb,18,none⟩=some (.slice L.gusts.a L.gusts.l.length L.gusts.c):=hN0.cel 18 _ rfl;clear c0;go_enter Tryz.func311,Tryz.ntmps311
 go_upto_region 3 with (first
   |(go_at_call 274;((with_reducible refine HAT.out.mono ?_);rintro e w' ⟨rfl,rfl⟩))
   |(go_at_call 24;((with_reducible refine(f_withinV hwn _).mono ?_);rintro e w' ⟨rfl,rfl⟩))
   |(go_at_call 131;((with_reducible refine(f_must_ok _ _).mono ?_);rintro e w' ⟨rfl,rfl⟩)))
 generalize w.alloc (.cells #[.int .i64 (k:Int),.int .i64 m] 195)=w1 at *;have HAL:=hid (fun w' (h:Below w1.heap.size w1 w')=>(hN0.on h).aloft hI);have HGV:=hid (fun w' (h:Below w1.heap.size w1 w') v hv=>(hN0.on h).goes hI (v:=v) hv);have HI:=hid hI;have HN0:=hid hN0;clear hI hN0;generalize hU:upN L.val=U at *;have hw2:IntKind.i64.wrap (U+m)=U+m:=fits_wrap ⟨by omega,by omega⟩;cases hf:s.fel
 ·rw[hf] at c1;by_cases hd:0<s.dogs.l.length
  ·have d1:decide (0<s.dogs.l.length)=true:=decide_eq_true hd;have d2:decide ((0:Int)<(s.dogs.l.length:Int))=true:=decide_eq_true (by omega);by_cases hm:U+m<=L.x.men
   ·have hm1:decide (U+m<=L.x.men)=true:=decide_eq_true hm;refine wp_region_noPanic ?_;refine th w1 fun hS0=>?_;refine tq 0 ?_;refine tq 1 ?_;refine tq 2 ?_;refine tq 3 ?_;refine tq 4 ?_;refine tq 5 ?_;refine tq 6 ?_;refine tq 7 ?_;refine tq 8 ?_;refine tq 9 ?_;refine tq 10 ?_;refine tq 11 ?_;refine tq 12 ?_;refine tq 13 ?_;refine tq 14 ?_;refine tq 16 ?_;refine tq 17 ?_;refine tq 19 ?_;refine tq 20 ?_;refine tq 21 ?_;refine tq 22 ?_;refine tq 23 ?_;refine tr 15 fun K hK=>?_;go_simp
    (go_at_call 268;((with_reducible refine(HAL.out _ bl).mono ?_);rintro e w3 ⟨rfl,hb3⟩;obtain⟨hc3,hf3,hz3⟩:=qz hb3))
    refine hK.out _ _ kq (fun hS1=>?_);clear hK K;try simp only[AP]
    refine tq 18 ?_;refine tq 24 ?_;refine tq 25 ?_;refine tr 26 fun K hK=>?_;go_simp
    (go_at_call 131;((with_reducible refine(f_must_ok _ _).mono ?_);rintro e w' ⟨rfl,rfl⟩))
    refine hK.out _ _ kq (fun hS2=>?_);clear hK K;try simp only[AP]
    refine wpAnyH_done (by kernel_rfl) (NoPanic.normal ?_) _;cases hg:goB L.val L.val.gusts
    ·have HX:=hid (show deed (.up (k:Int) m) L.val=.error 11 by rw[HX2.out,if_neg (by rw[hf,d1,hm1];simp),if_pos hg]);have HGO:=hid (fun w' h=>HGV.out w' h _ hg);go_wp2_with (first|(go_at_call 102;((with_reducible refine(HGO.out _ bl).mono ?_);rintro e w4 ⟨rfl,hb4⟩;obtain⟨hc4,hf4,hz4⟩:=qz hb4))|(go_at_call 131;((with_reducible refine(f_must_no _ _).mono ?_);rintro e w' ⟨rfl,rfl⟩)))
     exact⟨rfl,deed_err HX.out bl⟩
    ·have HX:=hid (show deed (.up (k:Int) m) L.val=.ok (setS L.val (k:Int) {s.val with men:=s.men+m}) by rw[HX2.out,if_neg (by rw[hf,d1,hm1];simp),if_neg (by rw[hg];simp)]);have HGO:=hid (fun w' h=>HGV.out w' h _ hg);go_wp2_with (first|(go_at_call 102;((with_reducible refine(HGO.out _ bl).mono ?_);rintro e w4 ⟨rfl,hb4⟩;obtain⟨hc4,hf4,hz4⟩:=qz hb4))|(go_at_call 131;((with_reducible refine(f_must_ok _ _).mono ?_);rintro e w' ⟨rfl,rfl⟩)))
     have B4:Below w1.heap.size w1 w4:=bl;obtain⟨hcx,hfx⟩:=bcell B4;have q2:=(hcx sb (k*3+2) lsb).trans c2;have qf:=(hfx sb (k*3+2) lsb).trans (hfz (k*3+2));have q1:=(hcx w.heap.size 1 lw).trans b1;go_region
     all_goals go_wp2
     all_goals go_end0
     all_goals first
      |exact deed_ok HX.out (by rw[set_val (s':={s with men:=s.men+m})];rfl) (hN.turnS (j:=2) (s':={s with men:=s.men+m}) bl hs rfl (fun r hr=>by rcases r with _|_|_|r<;>first|rfl|exact absurd rfl hr) (.inl rfl))
      |exact deed_ok HX.out (by rw[set_val (s':={s with men:=s.men+m})];rfl) (Nxd.drew (hN.turnS (j:=2) (s':={s with men:=s.men+m}) bl hs rfl (fun r hr=>by rcases r with _|_|_|r<;>first|rfl|exact absurd rfl hr) (.inl rfl)))
   ·have hm1:decide (U+m<=L.x.men)=false:=decide_eq_false hm;have HX:=hid (show deed (.up (k:Int) m) L.val=.error 10 by rw[HX2.out,if_pos (by rw[hm1];simp)]);refine th w1 fun hS0=>?_;refine tq 0 ?_;refine tq 1 ?_;refine tq 2 ?_;refine tq 3 ?_;refine tq 4 ?_;refine tq 5 ?_;refine tq 6 ?_;refine tq 7 ?_;refine tq 8 ?_;refine tq 9 ?_;refine tq 10 ?_;refine tq 11 ?_;refine tq 12 ?_;refine tq 13 ?_;refine tq 14 ?_;refine tq 16 ?_;refine tq 17 ?_;refine tq 19 ?_;refine tq 20 ?_;refine tq 21 ?_;refine tq 22 ?_;refine tq 23 ?_;refine tr 15 fun K hK=>?_;go_simp
    (go_at_call 268;((with_reducible refine(HAL.out _ bl).mono ?_);rintro e w3 ⟨rfl,hb3⟩;obtain⟨hc3,hf3,hz3⟩:=qz hb3))
    refine hK.out _ _ kq (fun hS1=>?_);clear hK K;try simp only[AP]
    refine tq 18 ?_;refine tq 24 ?_;refine tq 25 ?_;refine tr 26 fun K hK=>?_;go_simp
    (go_at_call 131;((with_reducible refine(f_must_no _ _).mono ?_);rintro e w' ⟨rfl,rfl⟩))
    exact⟨rfl,deed_err HX.out bl⟩
  ·have d1:decide (0<s.dogs.l.length)=false:=decide_eq_false hd;have d2:decide ((0:Int)<(s.dogs.l.length:Int))=false:=decide_eq_false (by omega);have HX:=hid (show deed (.up (k:Int) m) L.val=.error 10 by rw[HX2.out,if_pos (by rw[d1];simp)]);refine th w1 fun hS0=>?_;refine tq 0 ?_;refine tq 1 ?_;refine tq 2 ?_;refine tq 3 ?_;refine tq 4 ?_;refine tq 5 ?_;refine tq 6 ?_;refine tq 7 ?_;refine tq 8 ?_;refine tq 9 ?_;refine tq 10 ?_;refine tq 11 ?_;refine tq 12 ?_;refine tq 13 ?_;refine tv 14 ?_;refine tv 15 ?_;refine tv 16 ?_;refine tv 17 ?_;refine tv 18 ?_;refine tv 19 ?_;refine tv 20 ?_;refine tv 21 ?_;refine tv 22 ?_;refine tv 23 ?_;refine tv 24 ?_;refine tq 25 ?_;refine tr 26 fun K hK=>?_;go_simp
   (go_at_call 131;((with_reducible refine(f_must_no _ _).mono ?_);rintro e w' ⟨rfl,rfl⟩))
   exact⟨rfl,deed_err HX.out bl⟩
 ·rw[hf] at c1;have HX:=hid (show deed (.up (k:Int) m) L.val=.error 10 by rw[HX2.out,if_pos (by rw[hf];rfl)]);refine th w1 fun hS0=>?_;refine tq 0 ?_;refine tq 1 ?_;refine tq 2 ?_;refine tq 3 ?_;refine tq 4 ?_;refine tq 5 ?_;refine tv 6 ?_;refine tv 7 ?_;refine tv 8 ?_;refine tv 9 ?_;refine tv 10 ?_;refine tv 11 ?_;refine tq 12 ?_;refine tq 13 ?_;refine tv 14 ?_;refine tv 15 ?_;refine tv 16 ?_;refine tv 17 ?_;refine tv 18 ?_;refine tv 19 ?_;refine tv 20 ?_;refine tv 21 ?_;refine tv 22 ?_;refine tv 23 ?_;refine tv 24 ?_;refine tq 25 ?_;refine tr 26 fun K hK=>?_;go_simp
  (go_at_call 131;((with_reducible refine(f_must_no _ _).mono ?_);rintro e w' ⟨rfl,rfl⟩))
  exact⟨rfl,deed_err HX.out bl⟩
theorem Inv.slen {L:LS} (h:Inv L.val):L.sites.l.length<=8:=by
 have h1:=h.sl;have h2:=(vSu_parts h.su).1;unfold LS.val at h1 h2;dsimp only at h1 h2;rw[List.length_map] at h1;omega
theorem Inv.men {L:LS} (h:Inv L.val) {k:Nat} {s:LSi} (hs:L.sites.l[k]?=some s):0<=s.men∧s.men<=16:=
 h.sm s.val (by unfold LS.val;exact List.mem_map.2 ⟨s,List.mem_of_getElem? hs,rfl⟩)
theorem Inv.lens {L:LS} (h:Inv L.val):L.x.stk.l.length=L.sites.l.length∧L.x.jnt.l.length=L.sites.l.length:=by
 have h1:=h.sl;have h2:=(vSu_parts h.su).2.1;unfold LS.val LSu.val at h1 h2;dsimp only at h1 h2;simp only[List.length_map] at h1 h2;omega
theorem stkA_of {L:LS} {i:Nat} {s:Sl S.Course} (h:L.x.stk.l[i]?=some s):stkA L.val (i:Int)=s.l:=by
 unfold stkA LS.val LSu.val;rw[Int.toNat_natCast,List.getD_eq_getElem?_getD,List.getElem?_map,h];rfl
theorem jntA_of {L:LS} {i:Nat} {s:Sl Jt} (h:L.x.jnt.l[i]?=some s):jntA L.val (i:Int)=s.l:=by
 unfold jntA LS.val LSu.val;rw[Int.toNat_natCast,List.getD_eq_getElem?_getD,List.getElem?_map,h];rfl
theorem rigA_of {L:LS} {i:Nat} {s:LRg} (h:L.rigs.l[i]?=some s):rigA L.val (i:Int)=s.val:=by
 unfold rigA LS.val;rw[Int.toNat_natCast,List.getD_eq_getElem?_getD,List.getElem?_map,h];rfl
theorem rtB_iff {L:LS} {i:Int}:rtB L.val i=true↔0<=i∧i<L.rigs.l.length:=by
 unfold rtB LS.val;rw[wn_iff,List.length_map];omega
section
variable {T:Nat->Prop} {nb sb rb:Nat} {w w':World} {L:LS}
theorem Nxt.jnts (h:Nxt T nb sb rb w L) (hI:Inv L.val) {k:Nat} (hk:k<L.sites.l.length):∃y b off,L.x.jnt.l[k]?=some y∧L.x.jnt.a=some ⟨b,off,none⟩∧b<w.heap.size∧w.cell? ⟨b,off+k,none⟩=some (.slice y.a y.l.length y.c)∧Got T w Jt.cs 2 y∧y.l.length<=200:=by
 obtain⟨y,hy⟩:=get_lt (show k<L.x.jnt.l.length by rw[hI.lens.2];exact hk);obtain⟨b,off,e,hb,hc⟩:=h.su.jnt.rd.get hy;have h1:=(vSu_parts hI.su).2.2.2.1 y.l (by unfold LS.val LSu.val;exact List.mem_map.2 ⟨y,List.mem_of_getElem? hy,rfl⟩);have h2:y.l.length<=200:=by unfold vJ at h1;exact of_decide_eq_true (Bool.and_eq_true_iff.1 h1).2
 exact⟨y,b,off,hy,e,hb,by have:=hc 0 _ rfl;simpa using this,h.su.jnts y (List.mem_of_getElem? hy),h2⟩
theorem Nxt.stks (h:Nxt T nb sb rb w L) (hI:Inv L.val) {k:Nat} (hk:k<L.sites.l.length):∃y b off,L.x.stk.l[k]?=some y∧L.x.stk.a=some ⟨b,off,none⟩∧b<w.heap.size∧w.cell? ⟨b,off+k,none⟩=some (.slice y.a y.l.length y.c)∧Got T w S.Course.cs 6 y∧S.validC y.l=true:=by
 obtain⟨y,hy⟩:=get_lt (show k<L.x.stk.l.length by rw[hI.lens.1];exact hk);obtain⟨b,off,e,hb,hc⟩:=h.su.stk.rd.get hy;have h1:=(vSu_parts hI.su).2.2.1 y.l (by unfold LS.val LSu.val;exact List.mem_map.2 ⟨y,List.mem_of_getElem? hy,rfl⟩);exact⟨y,b,off,hy,e,hb,by have:=hc 0 _ rfl;simpa using this,h.su.stks y (List.mem_of_getElem? hy),h1⟩
theorem Nxt.turnR (h:Nxt T nb sb rb w L) {w1:World} (B:Below w.heap.size w w1) {k j:Nat} {s s':LRg} {v:Value} (hs:L.rigs.l[k]?=some s) (hj:s'.cs[j]?=some v) (ho:∀r,r≠j->s'.cs[r]?=s.cs[r]?)
  (hd:s'.lk.l=[]) (hdc:s'.lk.c=0):Nxd T nb sb rb w L (w1.setCell ⟨rb,k*2+j,none⟩ v) {L with rigs:=⟨L.rigs.a,L.rigs.l.set k s',L.rigs.c⟩}:=by
 have hk:=(List.getElem?_eq_some_iff.1 hs).1;have h1:=h.on B;obtain⟨g,cap,cur,hv,_,hb,hir⟩:=own_row LRg.cs_len h1.rrow (by omega);have ha:L.rigs.a=some ⟨g,0,none⟩:=by have:=hv;unfold Sl.v at this;injection this
 have hg:g=rb:=h.rb_ g (by show(Value.slice L.rigs.a _ _).ownBlock=_;rw[ha];rfl);subst hg;have hst:Stp (fun g'=>g'=g) w (w1.setCell ⟨g,k*2+j,none⟩ v):=Stp.setCell (N:=fun g'=>g'=g) (p:=⟨g,k*2+j,none⟩) ((Stp.refl _ _).below B (Nat.le_refl _)) (.inl rfl) v;have h3:Stp (fun g'=>g'=nb∨g'=sb∨g'=g) w (w1.setCell ⟨g,k*2+j,none⟩ v):=hst.mono fun b _ e=>.inr (.inr e);have hR':=inrow_put LRg.cs_len hir hs hj ho;have hc:=own_caps h.rrow;refine⟨?_,⟨h.keepSu h3,h.keep h.gusts h3,?_,?_,h.keepS (hst.mono fun b _ e=>.inr e),fun s hs'=>h.keep (h.sk s hs') h3,h.keep h.items h3,h.keep h.back h3⟩,h3,rfl,rfl⟩
 ·have hb1:=hst.blk h.blk h.n2;have e:({L with rigs:=⟨L.rigs.a,L.rigs.l.set k s',L.rigs.c⟩}:LS).cs=L.cs:=by unfold LS.cs Sl.v;simp
  rw[e];exact hb1
 ·refine⟨fun hne=>?_,fun hne a ha'=>?_,by simpa using hc.1,hc.2⟩
  ·dsimp only;rw[ha];exact row_rd (hb.set_ _ _) hR' hne
  ·dsimp only at ha';rw[ha] at ha';cases ha';exact .inr (.inr (.inl rfl))
 ·intro r hr;rcases List.mem_or_eq_of_mem_set hr with h1|h1
  ·exact h.keep (h.rk r h1) h3
  ·rw[h1];exact⟨fun hne=>absurd hd hne,fun hne=>absurd hd hne,by rw[hd,hdc];simp,by rw[hdc];simp⟩
theorem Nxt.rfz (h:Nxt T nb sb rb w L) {k:Nat} (hk:k<L.rigs.l.length) (j:Nat):w.frozen? ⟨rb,j,none⟩=false:=by
 obtain⟨g,cap,cur,hv,_,hb,hir⟩:=own_row LRg.cs_len h.rrow (by omega);have ha:L.rigs.a=some ⟨g,0,none⟩:=by have:=hv;unfold Sl.v at this;injection this
 have hg:g=rb:=h.rb_ g (by show(Value.slice L.rigs.a _ _).ownBlock=_;rw[ha];rfl);subst hg;exact hb.frozen j
theorem setR_val {i:Nat} {s':LRg}:({L with rigs:=⟨L.rigs.a,L.rigs.l.set i s',L.rigs.c⟩}:LS).val={L.val with rigs:=L.val.rigs.set i s'.val}:=by
 unfold LS.val;simp[List.map_set]
end
theorem pri_bd {r:Rt} {h:Int} (hv:vRt r=true):0<=priV r h∧priV r h<=1000000000000:=by
 unfold priV;by_cases he:priE r h=0
 ·rw[if_pos he];unfold priE at he;rw[if_pos hv] at he;by_cases hw:wn h 0 200000=true
  ·obtain⟨h0,h1⟩:=wn_iff.1 hw;unfold vRt at hv;obtain⟨v1,hv⟩:=Bool.and_eq_true_iff.1 hv;obtain⟨v2,hv⟩:=Bool.and_eq_true_iff.1 hv;obtain⟨v3,v4⟩:=Bool.and_eq_true_iff.1 hv;obtain⟨a1,a2⟩:=wn_iff.1 v1;obtain⟨a3,a4⟩:=wn_iff.1 v2;obtain⟨a5,a6⟩:=wn_iff.1 v3;obtain⟨a7,a8⟩:=wn_iff.1 v4;have m1:0<=mtr (min h r.hi)∧mtr (min h r.hi)<=201:=by unfold mtr;omega
   have m2:0<=mtr (max 0 (h-r.hi))∧mtr (max 0 (h-r.hi))<=201:=by unfold mtr;omega
   generalize mtr (min h r.hi)=A at *;generalize mtr (max 0 (h-r.hi))=B at *;have p1:=Int.mul_nonneg a3 m1.1;have p2:=Int.mul_nonneg a5 m2.1;have p3:r.lo*A<=1000000*201:=Int.mul_le_mul a4 m1.2 m1.1 (by omega);have p4:r.ab*B<=1000000*201:=Int.mul_le_mul a6 m2.2 m2.1 (by omega);omega
  ·rw[if_neg hw] at he;omega
 ·rw[if_neg he];omega
theorem own_mono {w:World} {base base' sz n:Nat} {e:TypeId} {v:Value} {xs:List Value} (h:w.ownsRow base e sz v n xs) (hb:base'<=base):w.ownsRow base' e sz v n xs:=by
 refine⟨h.1,?_⟩;rcases h.2 with⟨h1,h0⟩|⟨g',cap,cur,h1,hB,h2⟩
 ·exact .inl ⟨h1,h0⟩
 ·exact .inr ⟨g',cap,cur,h1,Nat.le_trans hb hB,h2⟩
theorem news_on {w w':World} {news:List Value} {t:TypeId} (hb:Below (w.alloc (.cells news.toArray t)).heap.size (w.alloc (.cells news.toArray t)) w'):
  ∀(j:Nat) (u:Value),news[j]?=some u->w'.cell? ((⟨w.heap.size,0,none⟩:Addr).add j)=some u:=fun j u hu=>by
 have h1:=cells_new w news t j u hu;rw[show(⟨w.heap.size,0,none⟩:Addr).add j=⟨w.heap.size,j,none⟩ by unfold Addr.add;split<;>simp_all] at h1 ⊢;exact(World.cell?_of_block (w:=w.alloc (.cells news.toArray t)) (w':=w') (a:=⟨w.heap.size,j,none⟩) (hb.block _ (by simp))).trans h1
theorem own_snoc {α:Type} {enc:α->List Value} {sz base:Nat} {w:World} {t:TypeId} {A:Option Addr} {c n:Nat} {l:List α} {x:α} {xs:List Value} (hn:l.length=n) (hx:enc x=xs) (h:w.ownsRow base t sz (.slice A (n+1) c) (n+1) (fl enc l++xs)):
  w.ownsRow base t sz (Sl.v ⟨A,l++[x],c⟩) (Sl.l ⟨A,l++[x],c⟩).length (fl enc (Sl.l ⟨A,l++[x],c⟩)):=by
 subst hn hx;have e:fl enc (l++[x])=fl enc l++enc x:=by simp[fl]
 have e2:(l++[x]).length=l.length+1:=by simp
 unfold Sl.v;dsimp only;rw[e,e2];exact h
section
variable {P:Program}
theorem step_append_at {ops:Array Oper} {o:Oper} {a:Act} {w:World} {K:Act->World->Prop} {Q:Exit->Act->World->Prop} {E:Prop} (hgd:o.guard=none) (s x:Operand) (t:TypeId)
  (ho:o.op=.call {callee:=.builtin .append,args:=#[s,x],argTypes:=#[t,t]})
  (base:Nat) (e:TypeId) (i:TypeInfo) (z:Value) (size bytes:Nat) (ht:P.underlying t=some (.slice e)) (hi:P.info? e=some i) (hz:i.zero=some z)
  (hsize:i.size=size) (hby:i.bytes=bytes) (hzs:z.cells.size=size) (hsz:0<size)
  (v:Value) (n:Nat) (xs:List Value) (hs:a.eval s=v) (hown:w.ownsRow base e size v n xs)
  (ad:Addr) (m c:Nat) (news:List Value) (hx:a.eval x=.slice (some ad) m c) (hl:news.length=m*size) (hnews:∀j u,news[j]?=some u->w.cell? (ad.add j)=some u) (h1:∀u∈news,u.oneCell'=true)
  (h63:n+m<=maxLen) (hbytes:(n+m)*bytes<=140737488355328) (hbase:base<=w.heap.size)
  (h:∀v' w',w'.ownsRow base e size v' (n+m) (xs++news)->w.grownBy w' v.ownBlock->K (a.put o.dst v') w'):
  if Region.wanted o (yielded ops a.tmps)=true then Oper.wp P o a w K Q else E:=by
 have hw:Region.wanted o (yielded ops a.tmps)=true:=by simp[Region.wanted,hgd]
 rw[if_pos hw];obtain⟨v',w',hr,h2,h3,_,_⟩:=Go.run_append_own_at (P:=P) w base t o.type e i z size bytes ht hi hz hsize hby hzs hsz v n xs hown ad m c news hl hnews h1 h63 hbytes hbase;unfold Oper.wp execOp;simp only[ho,resolve,invoke,builtin,Sem.run_bind,Sem.run_pure,Result.andThen_ok,List.map_toArray,List.map_cons,List.map_nil,hs,hx,hr];exact h v' w' h2 h3
end
def Kn (W:World) (T:Nat) (w':World):Prop:=(∀b o,b<W.heap.size->b≠T->w'.cell? ⟨b,o,none⟩=W.cell? ⟨b,o,none⟩)∧(∀b o,b<W.heap.size->w'.frozen? ⟨b,o,none⟩=W.frozen? ⟨b,o,none⟩)∧Stp (fun g=>g=T) W w'
section
variable {W w' w'':World} {N:Nat}
theorem kn_of (h:Below W.heap.size W w'):Kn W N w':=⟨fun b o hb _=>(bcell h).1 b o hb,(bcell h).2,(Stp.refl _ _).below h (Nat.le_refl _)⟩
theorem kn_refl:Kn W N W:=kn_of (below_refl _)
theorem kn_step (h:Kn W N w') (hb:Below w'.heap.size w' w''):Kn W N w'':=
 ⟨fun b o hb' hn=>((bcell hb).1 b o (Nat.lt_of_lt_of_le hb' h.2.2.size)).trans (h.1 b o hb' hn),fun b o hb'=>((bcell hb).2 b o (Nat.lt_of_lt_of_le hb' h.2.2.size)).trans (h.2.1 b o hb'),h.2.2.below hb h.2.2.size⟩
theorem kn_draw (h:Kn W N w'):Kn W N w'.drew:=kn_step h (below_draw (below_refl _))
theorem kn_drewN {n:Nat} (h:Kn W N w'):Kn W N (w'.drewN n):=kn_step h (below_drewN (below_refl _) _)
theorem kn_alloc {o:Obj} (h:Kn W N w'):Kn W N (w'.alloc o):=kn_step h (bl_alloc (below_refl _) _)
theorem kn_set {i:Nat} {v:Value} (h:Kn W N w'):Kn W N (w'.setCell ⟨N,i,none⟩ v):=
 ⟨fun b o hb hn=>(World.cell?_setCell_other _ _ _ _ (by intro e;cases e;exact hn rfl)).trans (h.1 b o hb hn),fun b o hb=>(World.frozen?_setCell _ _ _ _).trans (h.2.1 b o hb),Stp.setCell (N:=fun g=>g=N) (p:=⟨N,i,none⟩) h.2.2 (.inl rfl) v⟩
end
theorem memB_is (l:List ByteArray) (s:ByteArray):memB l s=G.hasB l s:=by
 unfold memB G.hasB;have:(fun y=>eqB y s)=fun x:ByteArray=>s.toList==x.toList:=by
  funext y
  unfold eqB;rw[ByteArray.toList_eq,ByteArray.toList_eq,Bool.eq_iff_iff,decide_eq_true_iff,beq_iff_eq];exact eq_comm
 rw[this]
end Go.Proofs.YtjkkfcghkeoedaaGreatDoor.Fi
