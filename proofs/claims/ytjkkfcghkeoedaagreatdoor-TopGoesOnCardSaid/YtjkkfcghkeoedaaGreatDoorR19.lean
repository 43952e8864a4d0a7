/- The parts of the proof, part 19. -/
import Derived.Test.YtjkkfcghkeoedaaGreatDoorR0
import Derived.Test.YtjkkfcghkeoedaaGreatDoorR17
import Derived.Test.YtjkkfcghkeoedaaGreatDoorR18
import Derived.Deep.DeepCutAuto
set_option maxHeartbeats 16000000
set_option maxRecDepth 20000
set_option linter.unusedSimpArgs false
set_option linter.unusedVariables false
namespace Go.Proofs.YtjkkfcghkeoedaaGreatDoor.Fi
open Go.RowKit Go.Lib Tx
structure CmK (c:Cm) (w0:World) (x:St) (ty:TypeId) (V:Value) (kd kt:FuncId):Prop where
 md:∀(n:Nat) (w:World),(method (n+1) ty V "steeplejack/firm.deed").run Tryz.prog w=.ok (kd,V) w
 mt:∀(n:Nat) (w:World),(method (n+1) ty V "steeplejack/firm.text").run Tryz.prog w=.ok (kt,V) w
 ed:∀args w,(callFunc kd args).run Tryz.prog w=.ok (.enter kd args) w
 et:∀args w,(callFunc kt args).run Tryz.prog w=.ok (.enter kt args) w
 dd:∀(L:LS),L.val=x->∀T nb sb rb w',Below w0.heap.size w0 w'->Nxt T nb sb rb w' L->Calls Tryz.prog kd #[V,.pointer (some ⟨nb,0,none⟩)] w' (DeedP c T nb sb rb L w')
 tt:∀y,deed c x=.ok y->∀w',Below w0.heap.size w0 w'->Calls Tryz.prog kt #[V] w' fun e w2=>e=.returned (.string (bts (txt c)))∧Below w'.heap.size w' w2
def DoP (c:Cm) (b:Nat) (L:LS) (T:Nat->Prop) (w:World) (e:Ending) (w':World):Prop:=
 e=.returned (.int .i64 (doC c L.val).1)∧∃L' T',L'.val=(doC c L.val).2∧Fut w b L T w' L' T'
theorem do_err {c:Cm} {b:Nat} {L:LS} {T:Nat->Prop} {w w':World} {k:Int} (h:doC c L.val=(k,L.val)) (hF:FirmAt w b L T) (hb:Below w.heap.size w w'):DoP c b L T w (.returned (.int .i64 k)) w':=by
 unfold DoP;rw[h];exact⟨rfl,L,T,rfl,Fut.of_below hF hb⟩
set_option maxRecDepth 40000 in
theorem f_do {c:Cm} {ty:TypeId} {V:Value} {kd kt:FuncId} {b:Nat} {L:LS} {T:Nat->Prop} {w:World} (hF:FirmAt w b L T) (hI:Inv L.val) (hc:CmOk c) (hL:LdW w) (hK:CmK c w L.val ty V kd kt):
  Calls Tryz.prog 74 #[.pointer (some ⟨b,0,none⟩),.iface ty V] w (DoP c b L T w):=by
 have hmf:∀(fn:Fn) (first cap:Array Value) (w:World),(Instr.makeFunc fn first cap).run Tryz.prog w=.ok (.func fn first cap) w:=fun _ _ _ _=>rfl;have x0:=Blk.new w 36 #[.int .i64 0];have B0:=bl_alloc (below_refl w) (.cells #[.int .i64 0] 36);have e0:=x0.cell 0;simp only[GA] at e0;have ef:=x0.frozen 0;have lE:=x0.lt;have hF0:=hF.on B0;have hC:=cel_of hF0.blk;have lb:=hF0.blk.lt;have lb0:=hF.blk.lt;have hll:L.lines.l.length<=2000:=hI.ll;have hrl:L.rigs.l.length<=50:=by have h:=hI.rl;unfold LS.val at h;dsimp only at h;rw[List.length_map] at h;exact h
 have hsl:L.sites.l.length<=8:=hI.slen;have hs0:0<L.sites.l.length:=by have h1:=(vSu_parts hI.su).1;have h2:=hI.sl;unfold LS.val at h1 h2;dsimp only at h1 h2;rw[List.length_map] at h2;omega
 have c24:(w.alloc (.cells #[.int .i64 0] 36)).cell? ⟨b,24,none⟩=some (.slice L.lines.a L.lines.l.length L.lines.c):=hC 24 _ rfl;have c19:(w.alloc (.cells #[.int .i64 0] 36)).cell? ⟨b,19,none⟩=some (.slice L.rigs.a L.rigs.l.length L.rigs.c):=hC 19 _ rfl;have c20:(w.alloc (.cells #[.int .i64 0] 36)).cell? ⟨b,20,none⟩=some (.slice L.sites.a L.sites.l.length L.sites.c):=hC 20 _ rfl;by_cases hlt:L.lines.l.length<2000
 rotate_left
 ·have g1:decide (L.lines.l.length<2000)=false:=decide_eq_false hlt;have g2:decide ((L.lines.l.length:Int)<2000)=false:=decide_eq_false (by omega);have HX:=hid (show doC c L.val=(4,L.val) by unfold doC;exact if_pos hlt);have HP:=hid (do1_panicking w.heap.size 4 0 _ e0 ef);go_enter_defers Tryz.func74,Tryz.ntmps74
  go_wp2_with (go_at_call 131;((with_reducible refine(f_must_no _ _).mono ?_);rintro e w' ⟨rfl,rfl⟩))
  refine leaves_cons (f:=130) (args:=#[.pointer (some ⟨w.heap.size,0,none⟩)]) (by simp) (by simp[go_sem]) ?_;refine HP.out.mono ?_;rintro e u' w'' ⟨rfl,rfl,rfl⟩;have hq:(((w.alloc (.cells #[.int .i64 0] 36)).setCell ⟨w.heap.size,0,none⟩ (.int .i64 4)).alloc (.cells #[.int .i64 4] 209)).cell? ⟨w.heap.size,0,none⟩=some (.int .i64 4):=by go_simp
  simp[Leaves,settle,results,Tryz.results74,go_sem,hq];exact do_err HX.out hF bl
 have g1:decide (L.lines.l.length<2000)=true:=decide_eq_true hlt;have g2:decide ((L.lines.l.length:Int)<2000)=true:=decide_eq_true (by omega);have HX2:=hid (show doC c L.val=match deed c L.val with|.error e=>(e,L.val)|.ok y=>(0,{y with lines:=y.lines++[wrt y.lines y.day (bts (txt c))]}) by unfold doC;exact if_neg (fun h=>h hlt));obtain⟨CA,hCA⟩:∃x,x=L.cs.toArray:=⟨_,rfl⟩;have hCs:(Tryz.prog.info? 73).map (·.size)=some CA.size:=by rw[hCA];exact cs_size L
 have hC1:CA.all (·.oneCell')=true:=by rw[hCA];exact cs_one L
 have hCz:CA.size=25:=by rw[hCA];rfl
 have hFb:Blk (w.alloc (.cells #[.int .i64 0] 36)) b 75 CA:=by rw[hCA];exact hF0.blk
 have sz1:(w.alloc (.cells #[.int .i64 0] 36)).heap.size=w.heap.size+1:=World.size_alloc _ _;have hCD:=cel_of hF.blk;obtain⟨w1,hw1⟩:∃x,x=(w.alloc (.cells #[.int .i64 0] 36)):=⟨_,rfl⟩;have x1:Blk (w1.alloc (.cells CA 73)) (w.heap.size+1) 73 CA:=by
  have h:=Blk.new w1 73 CA;rw[hw1,sz1,←hw1] at h;exact h
 rw[←hw1] at B0 e0 ef lE hF0 lb c24 c19 c20 hFb sz1;have HCAx:=hid hCA;clear hC hCA hCD x0;have HC1:=hid hC1;clear hC1;go_enter_defers Tryz.func74,Tryz.ntmps74
 go_upto_region 4 with fail
 rw[←hw1];clear hw1;go_upto_region 6 with (first|(go_at_call 131;((with_reducible refine(f_must_ok _ _).mono ?_);rintro e w' ⟨rfl,rfl⟩))|(refine wpList_load_row rfl 73 _ rfl b rfl 75 CA (0,0) _ hFb Tryz.underlying73 rfl hCs ?_)|(refine wpList_store_newC rfl 73 _ _ rfl w1 _ CA (w.heap.size+1) sz1 rfl rfl hCs (by rw[hCz];rfl) HC1.out ?_))
 have B1:Below w.heap.size w (w1.alloc (.cells CA 73)):=bl_alloc B0 _;have l2:∀z,z<w1.heap.size->z<(w1.alloc (.cells CA 73)).heap.size:=fun z hz=>by rw[World.size_alloc];omega
 have hF2:=hF0.on (bl_alloc (below_refl w1) (.cells CA 73));have hc2:=(bcell (bl_alloc (below_refl w1) (.cells CA 73))).1;have hf2:=(bcell (bl_alloc (below_refl w1) (.cells CA 73))).2;replace e0:=(hc2 w.heap.size 0 lE).trans e0
 replace ef:=(hf2 w.heap.size 0 lE).trans ef
 replace c19:=(hc2 b 19 lb).trans c19
 replace c20:=(hc2 b 20 lb).trans c20
 have hFb2:=hF2.blk;rw[←HCAx.out] at hFb2;replace lE:=l2 _ lE
 replace lb:=l2 _ lb
 clear hc2 hf2 l2 c24 hFb;generalize w1.alloc (.cells CA 73)=w2 at *;obtain⟨N,hN⟩:∃N,N=w.heap.size+1:=⟨_,rfl⟩;rw[←hN] at x1 ⊢;have hN1:w.heap.size<N:=by omega
 have hE1:w.heap.size≠N:=by omega
 clear sz1 hN B0 hF0;have lN:=x1.lt;have n19:w2.cell? ⟨N,19,none⟩=some (.slice L.rigs.a L.rigs.l.length L.rigs.c):=by rw[x1.cell,HCAx.out];rfl
 have n20:w2.cell? ⟨N,20,none⟩=some (.slice L.sites.a L.sites.l.length L.sites.c):=by rw[x1.cell,HCAx.out];rfl
 have nf19:=x1.frozen 19;have nf20:=x1.frozen 20;have hbN:b≠N:=by omega
 have HCR:=hid (fun w' (h:Below w2.heap.size w2 w')=>(show Calls Tryz.prog 132 #[.slice L.rigs.a L.rigs.l.length L.rigs.c] w' (CloP LRg.cs 2 101 L.rigs.l w') from c_CloneRig L.rigs w' (by omega) (hF2.on h).ok.rigs.rd));have HCS:=hid (fun w' (h:Below w2.heap.size w2 w')=>(show Calls Tryz.prog 133 #[.slice L.sites.a L.sites.l.length L.sites.c] w' (CloP LSi.cs 3 108 L.sites.l w') from c_CloneSite L.sites w' (by omega) (hF2.on h).ok.sites.rd));have HF2:=hid hF2;have HI:=hid hI;clear hI hF2;refine wp_region_noPanic ?_;refine wp_region_held_drew (S:=(fun w'=>(∀b o,b<w2.heap.size->b≠N->w'.cell? ⟨b,o,none⟩=w2.cell? ⟨b,o,none⟩)∧(∀b o,b<w2.heap.size->w'.frozen? ⟨b,o,none⟩=w2.frozen? ⟨b,o,none⟩)∧Stp (fun g=>g=N) w2 w')) (by kernel_rfl) (kn_draw kn_refl) (fun hS0=>?_);refine tq 0 ?_;refine tq 1 ?_;refine tq 2 ?_;refine tq 3 ?_;refine tq 4 ?_;refine tq 6 ?_;refine tq 7 ?_;refine tq 8 ?_;refine tq 9 ?_;refine tq 10 ?_;refine tr 5 fun K hK=>?_;go_simp
 (go_at_call 132;((with_reducible refine(HCR.out _ bl).mono ?_);rintro e w3 ⟨⟨A3,l3,c3⟩,rfl,hl3,ho3,hle3,hcm3,hb3⟩;dsimp only at hl3;subst hl3;dsimp only[Sl.v] at *;obtain⟨hc3,hf3,hz3⟩:=qz hb3;have lN3:N<w3.heap.size:=(by omega)))
 refine hK.out _ _ (by((show Kn w2 N _);(repeat'(first|assumption|exact kn_refl|refine kn_draw ?_|refine kn_drewN ?_|refine kn_alloc ?_|refine kn_set ?_|refine kn_step ?_ (by assumption)));(all_goals(first|omega|(simp;omega))))) (fun hS1=>?_);clear hK K;try simp only[AP]
 refine tr 11 fun K hK=>?_;go_simp
 (go_at_call 133;((with_reducible refine(HCS.out _ bl).mono ?_);rintro e w4 ⟨⟨A4,l4,c4⟩,rfl,hl4,ho4,hle4,hcm4,hb4⟩;dsimp only at hl4;subst hl4;dsimp only[Sl.v] at *;obtain⟨hc4,hf4,hz4⟩:=qz hb4;have m19:=(hc4 N 19 lN3).trans ((hc3 N 19 lN).trans n19);have m20:=(hc4 N 20 lN3).trans ((hc3 N 20 lN).trans n20);have mf19:=(hf4 N 19 lN3).trans ((hf3 N 19 lN).trans nf19);have mf20:=(hf4 N 20 lN3).trans ((hf3 N 20 lN).trans nf20)))
 refine hK.out _ _ (by((show Kn w2 N _);(repeat'(first|assumption|exact kn_refl|refine kn_draw ?_|refine kn_drewN ?_|refine kn_alloc ?_|refine kn_set ?_|refine kn_step ?_ (by assumption)));(all_goals(first|omega|(simp;omega))))) (fun hS2=>?_);clear hK K;try simp only[AP]
 refine tq 12 ?_;refine tr 13 fun K hK=>?_;go_simp
 refine hK.out _ _ (by((show Kn w2 N _);(repeat'(first|assumption|exact kn_refl|refine kn_draw ?_|refine kn_drewN ?_|refine kn_alloc ?_|refine kn_set ?_|refine kn_step ?_ (by assumption)));(all_goals(first|omega|(simp;omega))))) (fun hS3=>?_);clear hK K;try simp only[AP]
 refine tq 14 ?_;refine tr 15 fun K hK=>?_;go_simp
 refine hK.out _ _ (by((show Kn w2 N _);(repeat'(first|assumption|exact kn_refl|refine kn_draw ?_|refine kn_drewN ?_|refine kn_alloc ?_|refine kn_set ?_|refine kn_step ?_ (by assumption)));(all_goals(first|omega|(simp;omega))))) (fun hS4=>?_);clear hK K;try simp only[AP]
 refine wpAnyH_done (by kernel_rfl) (NoPanic.normal ?_) _;rotate_left
 have B4:Below w2.heap.size w2 w4:=bl;have st6:Stp (fun g=>g=N) w4 ((w4.setCell ⟨N,19,none⟩ (.slice A3 L.rigs.l.length c3)).setCell ⟨N,20,none⟩ (.slice A4 L.sites.l.length c4)):=Stp.setCell (N:=fun g=>g=N) (p:=⟨N,20,none⟩) (Stp.setCell (N:=fun g=>g=N) (p:=⟨N,19,none⟩) (Stp.refl _ _) (.inl rfl) _) (.inl rfl) _;have lN4:N<w4.heap.size:=by omega
 have blk6:=((x1.below B4 lN).set_ 19 (.slice A3 L.rigs.l.length c3)).set_ 20 (.slice A4 L.sites.l.length c4);have o3:=own_mono (own_stp (own_on ho3 hb4) st6 (fun g hg e=>by have:=(own_ge ho3 g hg).1;(try simp only[SZ] at this);omega)) (Nat.zero_le _);have o3g:=fun g hg=>own_ge ho3 g hg;have o4:=own_stp ho4 st6 (fun g hg e=>by have:=(own_ge ho4 g hg).1;(try simp only[SZ] at this);omega);have o4g:=fun g hg=>own_ge ho4 g hg;(try simp only[SZ] at o3g o4g)
 have B6:Below w.heap.size w ((w4.setCell ⟨N,19,none⟩ (.slice A3 L.rigs.l.length c3)).setCell ⟨N,20,none⟩ (.slice A4 L.sites.l.length c4)):=below_stp (below_tr B1 B4) st6 (fun g hg e=>by omega) (by omega);have e6:=(bcell B4).1 w.heap.size 0 lE;have f6:=(bcell B4).2 w.heap.size 0 lE;have hz6:w4.heap.size=((w4.setCell ⟨N,19,none⟩ (.slice A3 L.rigs.l.length c3)).setCell ⟨N,20,none⟩ (.slice A4 L.sites.l.length c4)).heap.size:=by simp[World.setCell]
 have E6:=st6.cell (e6.trans e0) hE1;have F6:((w4.setCell ⟨N,19,none⟩ (.slice A3 L.rigs.l.length c3)).setCell ⟨N,20,none⟩ (.slice A4 L.sites.l.length c4)).frozen? ⟨w.heap.size,0,none⟩=false:=(World.frozen?_of_block (w:=w4) (a:=⟨w.heap.size,0,none⟩) (st6.block w.heap.size (show w.heap.size<w4.heap.size by omega) hE1)).trans (f6.trans ef);have hFb6:=st6.blk (hFb2.below B4 lb) hbN;have hz34:=(bcell hb4).1 |> fun _=>hb4.size
 clear hS0 hS1 hS2 hS3 hS4 m19 m20 mf19 mf20 n19 n20 nf19 nf20 hc3 hf3 hc4 hf4 hz3 hz4 hb3 hb4 st6 c19 c20 e0 ef e6 f6 hFb2 ho3 ho4 HF2 HCR HCS;go_upto_region 7 with fail
 generalize ((w4.setCell ⟨N,19,none⟩ (.slice A3 L.rigs.l.length c3)).setCell ⟨N,20,none⟩ (.slice A4 L.sites.l.length c4))=w6 at *;have lN6:=blk6.lt;obtain⟨L6,hL6⟩:∃x:LS,x={L with rigs:=⟨A3,L.rigs.l,c3⟩,sites:=⟨A4,L.sites.l,c4⟩}:=⟨_,rfl⟩;have hv6:L6.val=L.val:=by rw[hL6];rfl
 have hln6:L6.lines=L.lines:=by rw[hL6]
 obtain⟨sb,cap,cur,hsv,hsg,hsbk,hsir⟩:=own_row LSi.cs_len o4 hs0;have hA4:A4=some ⟨sb,0,none⟩:=by injection hsv
 have hsb:=o4g sb (by show(Value.slice A4 _ _).ownBlock=_;rw[hA4];rfl);obtain⟨rb,hrb,hrb1,hrb2⟩:∃rb,(∀g,(Value.slice A3 L.rigs.l.length c3).ownBlock=some g->g=rb∧rb<w6.heap.size)∧N<rb∧(rb<sb∨sb<rb):=by
  cases ho:(Value.slice A3 L.rigs.l.length c3).ownBlock with
  |none=>exact⟨w6.heap.size,fun g h=>(by cases h),by omega,.inr (by omega)⟩
  |some g=>exact⟨g,fun g' h=>(by cases h;exact⟨rfl,by have:=o3g g ho;omega⟩),by have:=o3g g ho;omega,.inl (by have:=o3g g ho;omega)⟩
 have ok6:StOk (fun g=>T g∧g<w.heap.size) w6 L:=(hF.ok.mono fun g hg ht=>⟨ht,hg⟩).on B6;have cap3:=own_caps o3;have cap4:=own_caps o4;have HNX:Nxt (fun g=>T g∧g<w.heap.size) N sb rb w6 L6:=by
  rw[hL6];refine⟨?_,ok6.su,ok6.gusts,ok6.rk,ok6.sk,ok6.items,ok6.back,fun _=>⟨hA4,cur,hsbk,hsir⟩,cap4,o3,fun g hg=>(hrb g hg).1,fun hne=>?_,fun g hg=>⟨by omega,by omega,by omega⟩,by omega,by omega,by omega⟩
  ·have h:=blk6;rw[HCAx.out] at h;exact h
  ·obtain⟨g,cp,cu,h1,_⟩:=own_row LRg.cs_len o3 (by have:=List.length_pos_iff.2 hne;omega);have h2:A3=some ⟨g,0,none⟩:=by injection h1
   exact(hrb g (by rw[h2];rfl)).2
 have HDD:=hid (hK.dd L6 hv6 _ N sb rb w6 B6 HNX);have HMD:=hK.md;have HMT:=hK.mt;have HED:=hK.ed;have HET:=hK.et;clear blk6 o3 o4 o3g o4g hz6 hsv hsg hsbk hsir cap3 cap4 ok6 hA4 hle3 hle4 hcm3 hcm4;cases hd:deed c L.val with
 |error k=>
  have HX:=hid (show doC c L.val=(k,L.val) by rw[HX2.out,hd]);have HDE:=hid (show Calls Tryz.prog kd #[V,.pointer (some ⟨N,0,none⟩)] w6 (fun e w'=>e=FailE k∧Below w6.heap.size w6 w') from HDD.out.mono fun e w' h=>by unfold DeedP at h;rw[hv6,hd] at h;exact h);have HPN:=hid (fun W (h1:W.cell? ⟨w.heap.size,0,none⟩=some (.int .i64 0)) (h2:W.frozen? ⟨w.heap.size,0,none⟩=false)=>do1_panicking w.heap.size k 0 W h1 h2);go_wp2_with ((with_reducible refine HDE.out.mono ?_);rintro e w7 ⟨rfl,hb7⟩)
  have lE6:w.heap.size<w6.heap.size:=World.block_lt_of_cell? w6 ⟨w.heap.size,0,none⟩ E6;obtain⟨hc7,hf7⟩:=bcell hb7;have lz7:=hb7.size;have E7:=(hc7 w.heap.size 0 lE6).trans E6;have F7:=(hf7 w.heap.size 0 lE6).trans F6;clear hc7 hf7;refine leaves_cons (f:=130) (args:=#[.pointer (some ⟨w.heap.size,0,none⟩)]) (by simp) (by simp[go_sem]) ?_;refine(HPN.out w7 E7 F7).mono ?_;rintro e u' w'' ⟨rfl,rfl,rfl⟩;have lE7:w.heap.size<w7.heap.size:=by omega
  have hq:((w7.setCell ⟨w.heap.size,0,none⟩ (.int .i64 k)).alloc (.cells #[.int .i64 k] 209)).cell? ⟨w.heap.size,0,none⟩=some (.int .i64 k):=by
   rw[World.cell?_alloc_lt _ _ _ (by simpa[World.setCell] using lE7)];exact World.cell?_setCell_same _ _ _ E7
  simp[Leaves,settle,results,Tryz.results74,go_sem,hq];refine do_err HX.out hF (bl_alloc ?_ _);refine Below.setCell (below_tr B6 hb7) ?_ _;exact Nat.le_refl _
 |ok y=>
  obtain⟨hIy,hly,htl⟩:=inv_deed HI.out hc hd;have HX:=hid (show doC c L.val=(0,{y with lines:=y.lines++[wrt y.lines y.day (bts (txt c))]}) by rw[HX2.out,hd]);have HDO:=hid (show Calls Tryz.prog kd #[V,.pointer (some ⟨N,0,none⟩)] w6 (fun e w'=>e=DoneE∧∃L7,L7.val=y∧Nxd (fun g=>T g∧g<w.heap.size) N sb rb w6 L6 w' L7) from HDD.out.mono fun e w' h=>by unfold DeedP at h;rw[hv6,hd] at h;exact h);go_upto_region 8 with ((with_reducible refine HDO.out.mono ?_);rintro e w7 ⟨rfl,L7,hy7,hx7⟩)
  have lE6:w.heap.size<w6.heap.size:=World.block_lt_of_cell? w6 ⟨w.heap.size,0,none⟩ E6;have lz7:=hx7.stp.size;have B7:Below w.heap.size w w7:=below_stp B6 hx7.stp (fun g hg e=>by omega) (by omega);have blk7:=hx7.blk;have lN7:=blk7.lt;have d24:w7.cell? ⟨N,24,none⟩=some (.slice L.lines.a L.lines.l.length L.lines.c):=by
   rw[blk7.cell,show L7.cs.toArray[24]?=some L7.lines.v from rfl,hx7.lines,hln6]
  have d17:w7.cell? ⟨N,17,none⟩=some (.int .i64 L7.day):=by rw[blk7.cell];rfl
  have df24:=blk7.frozen 24;have E7:=hx7.stp.cell E6 (show ¬(w.heap.size=N∨w.heap.size=sb∨w.heap.size=rb) by omega);have F7:w7.frozen? ⟨w.heap.size,0,none⟩=false:=(World.frozen?_of_block (w:=w6) (a:=⟨w.heap.size,0,none⟩) (hx7.stp.block _ lE6 (show ¬(w.heap.size=N∨w.heap.size=sb∨w.heap.size=rb) by omega))).trans F6;have hFb7:=hx7.stp.blk hFb6 (show ¬(b=N∨b=sb∨b=rb) by omega);have own7:=own_on hF.row B7;have hyd:y.day=L7.day:=by rw[←hy7];rfl
  have hyl:y.lines=L.lines.l:=hly;have hd0:=hIy.d0;have hd1:=hIy.d1;rw[hyd] at hd0 hd1;obtain⟨R,hR⟩:∃R,R=wrt L.lines.l L7.day (bts (txt c)):=⟨_,rfl⟩;have hts:(bts (txt c)).size<=1000000:=by rw[bts_size];omega
  have HTX:=hid (fun w' (h:Below w7.heap.size w7 w')=>hK.tt y hd w' (below_tr B7 h));have HWR:=hid (fun w' (h:Below w7.heap.size w7 w')=>(show Calls Tryz.prog 134 #[.slice L.lines.a L.lines.l.length L.lines.c,.int .i64 L7.day,.string (bts (txt c))] w' (fun e w2=>e=.returned (.agg #[.int .i64 R.n,.int .i64 R.d,.string R.t,.int .u64 (R.s:Nat)])∧Below w'.heap.size w' w2) by
   rw[hR];exact f_written L.lines.a L.lines.l L.lines.c L7.day (bts (txt c)) w' hll (fun e he=>(HI.out.lt e he).2.1) ⟨by omega,by omega⟩ hts (hL.on (below_tr B7 h)) ((own_rd' En.cs_len own7).on h)))
  have HOW:=hid own7;have HRR:=hid hR;obtain⟨tb,htb,hNt⟩:∃tb,(∀g,L.lines.v.ownBlock=some g->g=tb)∧N≠tb:=by
   cases ho:L.lines.v.ownBlock with
   |none=>exact⟨b,fun g h=>(by cases h),fun e=>hbN e.symm⟩
   |some g=>exact⟨g,fun g' h=>(by cases h;rfl),by have:=(own_ge hF.row g ho).2;omega⟩
  have HTB:=hid htb;obtain⟨i0,hi,hi1,hi2,hi3⟩:=info_Entry;generalize bts (txt c)=TXT at *;clear own7 hR htb hd HDD HDO HNX hts hd0 hd1;refine wp_region_noPanic ?_;refine wp_region_last 12 (fun w'=>(∀b o,b<w7.heap.size->b≠tb->w'.cell? ⟨b,o,none⟩=w7.cell? ⟨b,o,none⟩)∧(∀b o,b<w7.heap.size->b≠tb->w'.frozen? ⟨b,o,none⟩=w7.frozen? ⟨b,o,none⟩)∧Stp (fun g=>g=tb) w7 w') (by kernel_rfl) (km_draw km_refl) (fun hS0=>?_);refine wpAnyL_tk 0 37 ?gv13 rfl ?_;try simp only[AP]
  refine wpAnyL_tk 1 38 ?gv14 rfl ?_;try simp only[AP]
  refine wpAnyL_tk 2 39 ?gv15 rfl ?_;try simp only[AP]
  refine wpAnyL_tk 3 40 ?gv16 rfl ?_;try simp only[AP]
  refine wpAnyL_tk 4 41 ?gv17 rfl ?_;try simp only[AP]
  refine wpAnyL_tk 5 42 ?gv18 rfl ?_;try simp only[AP]
  refine wpAnyL_tk 6 43 ?gv19 rfl ?_;try simp only[AP]
  refine wpAnyL_ready (rs:=[7]) (by kernel_rfl) (by simp) ?_;refine AllReadyL.cons rfl (fun K hK=>?_) AllReadyL.nil;go_simp
  ((with_reducible refine(HTX.out _ bl).mono ?_);rintro e w8 ⟨rfl,hb8⟩;obtain⟨hc8,hf8,hz8⟩:=qz hb8)
  refine hK.out _ _ (by((show Km w7 tb _);(repeat'(first|assumption|exact km_refl|refine km_draw ?_|refine km_drewN ?_|refine km_alloc ?_|refine km_step ?_ (by assumption)));(all_goals(first|omega|(simp;omega))))) (fun hS1=>?_);clear hK K;try simp only[AP]
  refine wpAnyL_ready (rs:=[8]) (by kernel_rfl) (by simp) ?_;refine AllReadyL.cons rfl (fun K hK=>?_) AllReadyL.nil;go_simp
  (go_at_call 134;((with_reducible refine(HWR.out _ bl).mono ?_);rintro e w9 ⟨rfl,hb9⟩;obtain⟨hc9,hf9,hz9⟩:=qz hb9;have hbW:Below w7.heap.size w7 w9:=bl))
  refine hK.out _ _ (by((show Km w7 tb _);(repeat'(first|assumption|exact km_refl|refine km_draw ?_|refine km_drewN ?_|refine km_alloc ?_|refine km_step ?_ (by assumption)));(all_goals(first|omega|(simp;omega))))) (fun hS2=>?_);clear hK K;try simp only[AP]
  refine wpAnyL_ready (rs:=[9]) (by kernel_rfl) (by simp) ?_;refine AllReadyL.cons rfl (fun K hK=>?_) AllReadyL.nil;go_simp
  refine hK.out _ _ (by((show Km w7 tb _);(repeat'(first|assumption|exact km_refl|refine km_draw ?_|refine km_drewN ?_|refine km_alloc ?_|refine km_step ?_ (by assumption)));(all_goals(first|omega|(simp;omega))))) (fun hS3=>?_);clear hK K;try simp only[AP]
  refine wpAnyL_ready (rs:=[10]) (by kernel_rfl) (by simp) ?_;refine AllReadyL.cons rfl (fun K hK=>?_) AllReadyL.nil;(refine step_append_at2 (by rfl) _ _ _ (by rfl) 0 62 i0 _ 4 40 Tryz.underlying44 hi hi1 hi2 hi3 rfl (by omega) _ _ _ (by rfl) (own_on (own_on HOW.out hbW) (bl_alloc (below_refl _) _)) ⟨w9.heap.size,0,none⟩ 1 1 [.int .i64 R.n,.int .i64 R.d,.string R.t,.int .u64 (R.s:Nat)] (by rfl) rfl (cells_new w9 [.int .i64 R.n,.int .i64 R.d,.string R.t,.int .u64 (R.s:Nat)] 62) (fun u hu=>by simp at hu;rcases hu with rfl|rfl|rfl|rfl<;>rfl) (by unfold maxLen;omega) (by omega) (Nat.zero_le _) ?_;intro v10 w10 hown10 hgrow10 hnew10;obtain⟨A9,c9,rfl⟩:=own_slice hown10;have hkm10:Km w7 tb w10:=km_grown (km_alloc (km_step (km_step (km_draw km_refl) hb8) hb9)) hgrow10 (fun r hr=>.inl (HTB.out r hr)))
  refine hK.out _ _ (by((show Km w7 tb _);(repeat'(first|assumption|exact km_refl|refine km_draw ?_|refine km_drewN ?_|refine km_alloc ?_|refine km_step ?_ (by assumption)));(all_goals(first|omega|(simp;omega))))) (fun hS4=>?_);clear hK K;try simp only[AP]
  refine wpAnyL_tk 11 48 ?gv20 rfl ?_;try simp only[AP]
  refine wpAnyL_last (by kernel_rfl) rfl (fun K hK=>?_);go_simp
  refine hK.out _ _ ?_;clear hK K;try simp only[AP]
  refine wpAnyL_done (by kernel_rfl) (NoPanic.normal ?_) _;have st10:Stp (fun g=>L.lines.v.ownBlock=some g) w7 w10:=(((Stp.refl _ w7).below hbW (Nat.le_refl _)).alloc _).grown hgrow10 (fun r hr=>.inl hr);have stA:Stp (fun g=>L.lines.v.ownBlock=some g∨g=N) w7 (w10.setCell ⟨N,24,none⟩ (.slice A9 (L.lines.l.length+1) c9)):=Stp.setCell (N:=fun g=>L.lines.v.ownBlock=some g∨g=N) (p:=⟨N,24,none⟩) (st10.mono fun b _ e=>.inl e) (.inl (.inr rfl)) _;have hoN:¬L.lines.v.ownBlock=some N:=fun e=>by have:=(own_ge hF.row N e).2;omega
  have hob:¬L.lines.v.ownBlock=some b:=hF.bl;have hoE:¬L.lines.v.ownBlock=some w.heap.size:=fun e=>by have:=(own_ge hF.row _ e).2;omega
  have blkA:=(st10.blk blk7 hoN).set_ 24 (.slice A9 (L.lines.l.length+1) c9);have FbA:=stA.blk hFb7 (fun e=>by rcases e with e|e;exact hob e;exact hbN e);have EA:=stA.cell E7 (fun e=>by rcases e with e|e;exact hoE e;exact hE1 e);have FA:(w10.setCell ⟨N,24,none⟩ (.slice A9 (L.lines.l.length+1) c9)).frozen? ⟨w.heap.size,0,none⟩=false:=(World.frozen?_of_block (w:=w7) (a:=⟨w.heap.size,0,none⟩) (stA.block w.heap.size (by omega) (fun e=>by rcases e with e|e;exact hoE e;exact hE1 e))).trans F7;have own10:=own_snoc (enc:=En.cs) (x:=R) rfl rfl hown10;have stN:Stp (fun g=>g=N) w10 (w10.setCell ⟨N,24,none⟩ (.slice A9 (L.lines.l.length+1) c9)):=Stp.setCell (N:=fun g=>g=N) (p:=⟨N,24,none⟩) (Stp.refl _ _) (.inl rfl) _;have sz10:=st10.size;clear hS0 hS1 hS2 hS3 hS4 d24 d17 df24 hc8 hf8 hz8 hc9 hf9 hz9;obtain⟨L9,hL9⟩:∃x:LS,x={L7 with lines:=⟨A9,L.lines.l++[R],c9⟩}:=⟨_,rfl⟩;obtain⟨CB,hCB⟩:∃x,x=L9.cs.toArray:=⟨_,rfl⟩;have blkB:Blk (w10.setCell ⟨N,24,none⟩ (.slice A9 (L.lines.l.length+1) c9)) N 73 CB:=by
   rw[hCB,hL9];rw[←show(L.lines.l++[R]).length=L.lines.l.length+1 by simp] at blkA ⊢;exact blkA
  have hCBs:(Tryz.prog.info? 73).map (·.size)=some CB.size:=by rw[hCB];exact cs_size L9
  have HCB1:=hid (show CB.all (·.oneCell')=true by rw[hCB];exact cs_one L9);have hCBz:CA.size=CB.size:=by rw[hCz,hCB];rfl
  have HCB:=hid hCB;clear blkA hCB;go_upto_region 9 with fail
  obtain⟨wA,hwA⟩:∃x,x=(w10.setCell ⟨N,24,none⟩ (.slice A9 (L.lines.l.length+1) c9)):=⟨_,rfl⟩;rw[←hwA] at stA blkB FbA EA FA stN ⊢;clear hwA;have hbE:w.heap.size≠b:=by omega
  have ER:(wA.setRow b CB).cell? ⟨w.heap.size,0,none⟩=some (.int .i64 0):=(World.cell?_of_block (w:=wA) (a:=⟨w.heap.size,0,none⟩) (heap_setRow_other wA b CB w.heap.size hbE)).trans EA;have FR:(wA.setRow b CB).frozen? ⟨w.heap.size,0,none⟩=false:=(World.frozen?_of_block (w:=wA) (a:=⟨w.heap.size,0,none⟩) (heap_setRow_other wA b CB w.heap.size hbE)).trans FA;go_wp2_with (first|(refine wpList_load_row rfl 73 _ rfl N rfl 73 CB (0,0) _ blkB Tryz.underlying73 rfl hCBs ?_)|(refine wpList_store_row rfl 73 _ _ rfl b CB rfl rfl 75 CA FbA hCBs hCBz HCB1.out ?_))
  refine leaves_cons (f:=130) (args:=#[.pointer (some ⟨w.heap.size,0,none⟩)]) (by simp) (by simp[go_sem]) ?_;refine(do1_idle ⟨w.heap.size,0,none⟩ _).mono ?_;rintro e u' w'' ⟨rfl,rfl,rfl⟩;have hq:((wA.setRow b CB).setCell ⟨w.heap.size,0,none⟩ (.int .i64 0)).cell? ⟨w.heap.size,0,none⟩=some (.int .i64 0):=World.cell?_setCell_same _ _ _ ER;simp[Leaves,settle,results,Tryz.results74,go_sem,hq];have lb7:b<w7.heap.size:=hFb7.lt;have lzA:=stA.size;have stF:Stp (fun g=>L.lines.v.ownBlock=some g∨g=N∨g=b∨g=w.heap.size) w7 ((wA.setRow b CB).setCell ⟨w.heap.size,0,none⟩ (.int .i64 0)):=Stp.setCell (N:=fun g=>L.lines.v.ownBlock=some g∨g=N∨g=b∨g=w.heap.size) (p:=⟨w.heap.size,0,none⟩) (Stp.setRow (stA.mono fun g _ e=>by rcases e with e|e;exact .inl e;exact .inr (.inl e)) (.inl (.inr (.inr (.inl rfl)))) CB) (.inl (.inr (.inr (.inr rfl)))) _;have st10F:Stp (fun g=>g=N∨g=b∨g=w.heap.size) w10 ((wA.setRow b CB).setCell ⟨w.heap.size,0,none⟩ (.int .i64 0)):=Stp.setCell (N:=fun g=>g=N∨g=b∨g=w.heap.size) (p:=⟨w.heap.size,0,none⟩) (Stp.setRow (stN.mono fun g _ e=>.inl e) (.inl (.inr (.inl rfl))) CB) (.inl (.inr (.inr rfl))) _;have hlo:∀g,L.lines.v.ownBlock=some g->g<w.heap.size:=fun g hg=>(own_ge hF.row g hg).2;have hTT:∀g,(TT (fun g=>T g∧g<w.heap.size) sb rb w6 g∧g<w7.heap.size)->¬(L.lines.v.ownBlock=some g∨g=N∨g=b∨g=w.heap.size):=fun g hg e=>by
   rcases hg.1 with h|h|h|h
   ·rcases e with e|e|e|e
    ·exact hF.ft g h.1 (.inr e)
    ·have:=h.2;omega
    ·exact hF.ft g h.1 (.inl e)
    ·have:=h.2;omega
   ·rcases e with e|e|e|e
    ·have:=hlo g e;omega
    ·omega
    ·omega
    ·omega
   ·rcases e with e|e|e|e
    ·have:=hlo g e;omega
    ·omega
    ·omega
    ·omega
   ·rcases e with e|e|e|e
    ·have:=hlo g e;omega
    ·omega
    ·omega
    ·omega
  have okF:StOk (fun g=>TT (fun g=>T g∧g<w.heap.size) sb rb w6 g∧g<w7.heap.size) ((wA.setRow b CB).setCell ⟨w.heap.size,0,none⟩ (.int .i64 0)) L7:=(hx7.ok.mono fun g hg ht=>⟨ht,hg⟩).stp stF hTT;have hob9:L9.lines.v.ownBlock=(Value.slice A9 (L.lines.l.length+1) c9).ownBlock:=by rw[hL9];rcases A9 with _|⟨_,_,_⟩<;>rfl
  have hnw:∀g,L9.lines.v.ownBlock=some g->L.lines.v.ownBlock=some g∨w7.heap.size<=g:=fun g hg=>by
   rw[hob9] at hg;rcases hnew10 with h|h
   ·rw[h] at hg;exact .inl hg
   ·rw[h,World.size_alloc] at hg;have:=Option.some.inj hg;have:=hbW.size;exact .inr (by omega)
  have hFoot:∀g,Foot b L9 g->Foot b L g∨w.heap.size<=g:=fun g hg=>by
   rcases hg with hg|hg
   ·exact .inl (.inl hg)
   ·rcases hnw g hg with h|h
    ·exact .inl (.inr h)
    ·exact .inr (by omega)
  refine⟨by rw[HX.out],L9,fun g=>TT (fun g=>T g∧g<w.heap.size) sb rb w6 g∧g<w7.heap.size,?_,⟨?_,?_,?_,?_,?_⟩,?_,?_,hFoot⟩
  ·rw[HX.out];show L9.val={y with lines:=y.lines++[wrt y.lines y.day TXT]};rw[hyl,hyd,←HRR.out,hL9,←hy7];rfl
  ·have h:=(Blk.setRow FbA CB).far (p:=⟨w.heap.size,0,none⟩) (fun e=>hbE e.symm) (.int .i64 0);rw[HCB.out] at h ⊢;exact h
  ·rw[hL9];exact⟨okF.su,okF.gusts,okF.rigs,okF.rk,okF.sites,okF.sk,okF.items,okF.back⟩
  ·have h:=own_stp own10 st10F (fun g hg e=>by
    rw[show(Sl.v ⟨A9,L.lines.l++[R],c9⟩).ownBlock=L9.lines.v.ownBlock by rw[hL9]] at hg;rcases hnw g hg with h|h
    ·have:=hlo g h;rcases e with e|e|e
     ·omega
     ·subst e;exact hob h
     ·omega
    ·omega)
   rw[hL9];exact h
  ·rintro g hg (e|e)
   ·exact hTT g hg (.inr (.inr (.inl e)))
   ·rcases hnw g e with h|h
    ·exact hTT g hg (.inl h)
    ·have:=hg.2;omega
  ·intro e;rcases hnw b e with h|h
   ·exact hob h
   ·omega
  ·refine stp_tr ((Stp.refl (Foot b L) w).below B7 (Nat.le_refl _)) stF fun g e=>?_;rcases e with e|e|e|e
   ·exact .inl (.inr e)
   ·exact .inr (by omega)
   ·exact .inl (.inl e)
   ·exact .inr (by omega)
  ·intro g hg;rcases hg.1 with h|h|h|h
   ·exact .inl h.1
   ·exact .inr (by omega)
   ·exact .inr (by omega)
   ·exact .inr (by omega)
theorem rd_at (W:World) (n:Nat) (l:List Int) (hn:W.heap.size=n):Rd zC 1 (W.alloc (.cells (l.map (Value.int .i64)).toArray 3)) (some ⟨n,0,none⟩) l:=by subst hn;exact rd_new W l
theorem t_lift (r:Int) (l:Sl Int) (w:World) (br:I64 r) (hl:l.l.length<=100000) (hb:∀x∈l.l,I64 x) (hL:LdW w) (hR:Rd zC 1 w l.a l.l):
  Calls Tryz.prog 292 #[.agg #[.int .i64 r,.slice l.a l.l.length l.c]] w fun e w'=>e=.returned (.string (bts (txt (.lift r l.l))))∧Below w.heap.size w w':=by
 have x0:=Blk.new w 189 #[.int .i64 r,.slice l.a l.l.length l.c];have B0:=bl_alloc (below_refl w) (.cells #[.int .i64 r,.slice l.a l.l.length l.c] 189);have b0:=x0.cell 0;have b1:=x0.cell 1;simp only[GA] at b0 b1;have lw:=x0.lt;have hL0:=hL.on B0;have hR0:=hR.on B0;have hs1:(wsT [r]).length<=21:=by have:=wsT_len [r] (fun x hx=>by simp at hx;subst hx;exact br);simpa using this
 have HE1:=hid (show(⟨#[108,105,102,116]⟩:ByteArray)++bts (wsT [r])=bts ([108,105,102,116]++wsT [r]) by rw[show(⟨#[108,105,102,116]⟩:ByteArray)=bts [108,105,102,116] from rfl,ba_app]);have HE2:=hid (show bts ([108,105,102,116]++wsT [r])++bts (wsT l.l)=bts (txt (.lift r l.l)) by rw[ba_app];rfl);have hs2:(bts ([108,105,102,116]++wsT [r])).size<=1000000000:=by rw[bts_size];simp;omega
 generalize bts (txt (.lift r l.l))=S2 at *;go_enter Tryz.func292,Tryz.ntmps292
 go_upto_region 1 with fail
 generalize (w.alloc (.cells #[.int .i64 r,.slice l.a l.l.length l.c] 189))=w1 at *;have HR1:=hid (show Rd zC 1 (w1.alloc (.cells #[.int .i64 r] 3)) (some ⟨w1.heap.size,0,none⟩) [r] from rd_at w1 _ [r] rfl);have HW1:=hid (fun(W:World) (h:Below w1.heap.size w1 W) (hr:Rd zC 1 W (some ⟨w1.heap.size,0,none⟩) [r])=>(show Calls Tryz.prog 152 #[.string ⟨#[108,105,102,116]⟩,.slice (some ⟨w1.heap.size,0,none⟩) 1 1] W (fun e w'=>e=.returned (.string (bts ([108,105,102,116]++wsT [r])))∧Below W.heap.size W w') from by
  rw[←HE1.out];exact f_words ⟨#[108,105,102,116]⟩ _ [r] 1 _ (by decide) (by simp) (fun x hx=>by simp at hx;subst hx;exact br) (hL0.on h) hr))
 have HW2:=hid (fun(W:World) (h:Below w1.heap.size w1 W)=>(show Calls Tryz.prog 152 #[.string (bts ([108,105,102,116]++wsT [r])),.slice l.a l.l.length l.c] W (fun e w'=>e=.returned (.string S2)∧Below W.heap.size W w') from by
  rw[←HE2.out];exact f_words _ l.a l.l l.c W hs2 (by omega) hb (hL0.on h) (hR0.on h)))
 clear HE1 HE2 hb hR0 hL0 hR hL x0 hs1 hs2;generalize bts ([108,105,102,116]++wsT [r])=S1 at *;refine wp_region_noPanic ?_;refine th w1 fun hS0=>?_;refine tq 0 ?_;refine tq 1 ?_;refine tq 4 ?_;refine tq 5 ?_;refine tr 2 fun K hK=>?_;go_simp
 refine hK.out _ _ kq (fun hS1=>?_);clear hK K;try simp only[AP]
 refine tr 3 fun K hK=>?_;go_simp
 (go_at_call 152;((with_reducible refine(HW1.out _ bl (HR1.out.on (below_draw (below_refl _)))).mono ?_);rintro e w3 ⟨rfl,hb3⟩;obtain⟨hc3,hf3,hz3⟩:=qz hb3))
 refine hK.out _ _ kq (fun hS2=>?_);clear hK K;try simp only[AP]
 refine tr 6 fun K hK=>?_;go_simp
 (go_at_call 152;((with_reducible refine(HW2.out _ bl).mono ?_);rintro e w4 ⟨rfl,hb4⟩;obtain⟨hc4,hf4,hz4⟩:=qz hb4))
 refine hK.out _ _ kq (fun hS3=>?_);clear hK K;try simp only[AP]
 refine tq 7 ?_;refine wpAnyH_done (by kernel_rfl) (NoPanic.normal ?_) _;go_wp2;go_ret;exact⟨rfl,below_tr B0 bl⟩
def rgT (l:List G.Lk):List UInt8:=l.flatMap fun k=>32::(k.nm.data.toList++58::nT k.fr)
theorem rgT_len (q:List G.Lk) (h:∀k∈q,k.nm.size<=16 ∧ -1<=k.fr∧k.fr<=32):(rgT q).length<=40*q.length:=by
 induction q with
 |nil=>simp[rgT]
 |cons k q ih=>
  have f1:=ih fun z hz=>h z (List.mem_cons_of_mem _ hz);obtain⟨f2,f3,f4⟩:=h k (List.mem_cons_self ..);have f5:=nT_len k.fr ⟨by omega,by omega⟩;have f6:k.nm.data.toList.length=k.nm.size:=by simp
  have e:rgT (k::q)=(32::(k.nm.data.toList++58::nT k.fr))++rgT q:=rfl;rw[e];simp only[List.length_append,List.length_cons];omega
theorem rgT_step {l:List G.Lk} {k:Nat} {x:G.Lk} (h:l[k]?=some x):bts (rgT (l.take (k+1)))=bts (rgT (l.take k))++(⟨#[32]⟩++x.nm++⟨#[58]⟩++bts (itoa x.fr)):=by
 have e:rgT (l.take (k+1))=rgT (l.take k)++(([32]++x.nm.data.toList)++[58]++itoa x.fr):=by
  unfold rgT;rw[List.take_add_one,h,List.flatMap_append];simp[nT]
 rw[e,←ba_app,←ba_app,←ba_app,←ba_app,list_bts];rfl
theorem t_rig (i:Int) (l:Sl G.Lk) (w:World) (br:I64 i) (hl:l.l.length<=32) (hb:∀k∈l.l,k.nm.size<=16 ∧ -1<=k.fr∧k.fr<=32) (hL:LdW w) (hR:Rd G.Lk.cs 2 w l.a l.l):
  Calls Tryz.prog 273 #[.agg #[.int .i64 i,.slice l.a l.l.length l.c]] w fun e w'=>e=.returned (.string (bts (txt (.rig i l.l))))∧Below w.heap.size w w':=by
 have x0:=Blk.new w 183 #[.int .i64 i,.slice l.a l.l.length l.c];have B0:=bl_alloc (below_refl w) (.cells #[.int .i64 i,.slice l.a l.l.length l.c] 183);have b0:=x0.cell 0;have b1:=x0.cell 1;simp only[GA] at b0 b1;have lw:=x0.lt;have hL0:=hL.on B0;have hR0:=hR.on B0;have hs1:(wsT [i]).length<=21:=by have:=wsT_len [i] (fun x hx=>by simp at hx;subst hx;exact br);simpa using this
 have HE1:=hid (show(⟨#[114,105,103]⟩:ByteArray)++bts (wsT [i])=bts ([114,105,103]++wsT [i]) by rw[show(⟨#[114,105,103]⟩:ByteArray)=bts [114,105,103] from rfl,ba_app]);have HE2:=hid (show bts ([114,105,103]++wsT [i])++bts (rgT l.l)=bts (txt (.rig i l.l)) by rw[ba_app];rfl);have hs2:(bts ([114,105,103]++wsT [i])).size<=30:=by rw[bts_size];simp;omega
 have HB:=hid hb;have HLN:=hid (fun k=>(show(bts (rgT (l.l.take k))).size<=1280 by
  have:=rgT_len (l.l.take k) fun x hx=>hb x (List.mem_of_mem_take hx);rw[List.length_take] at this;rw[bts_size];omega))
 have HST:=hid (fun(S0:ByteArray) k x (h:l.l[k]?=some x)=>(show S0++bts (rgT (l.l.take (k+1)))=S0++bts (rgT (l.l.take k))++(⟨#[32]⟩++x.nm++⟨#[58]⟩++bts (itoa x.fr)) by rw[rgT_step h];exact ByteArray.append_assoc.symm));have HA:=hid (show l.l.take l.l.length=l.l from List.take_length);have H0:=hid (show bts ([114,105,103]++wsT [i])++bts (rgT (l.l.take 0))=bts ([114,105,103]++wsT [i]) by rw[ba_app];simp[rgT]);clear hb hL hR x0 hs1;go_enter Tryz.func273,Tryz.ntmps273
 go_upto_region 1 with fail
 generalize (w.alloc (.cells #[.int .i64 i,.slice l.a l.l.length l.c] 183))=w1 at *;have HL:=hid hL0;have HR:=hid hR0;have HW1:=hid (show Calls Tryz.prog 152 #[.string ⟨#[114,105,103]⟩,.slice (some ⟨w1.heap.size,0,none⟩) 1 1] (w1.alloc (.cells #[.int .i64 i] 3)) (fun e w'=>e=.returned (.string (bts ([114,105,103]++wsT [i])))∧Below (w1.alloc (.cells #[.int .i64 i] 3)).heap.size (w1.alloc (.cells #[.int .i64 i] 3)) w') from by
  rw[←HE1.out];exact f_words ⟨#[114,105,103]⟩ _ [i] 1 _ (by decide) (by simp) (fun x hx=>by simp at hx;subst hx;exact br) (hL0.on (bl_alloc (below_refl _) _)) (rd_at w1 _ [i] rfl))
 clear HE1 hL0 hR0;generalize bts ([114,105,103]++wsT [i])=S0 at *;go_upto_region 2 with (go_at_call 152;((with_reducible refine HW1.out.mono ?_);rintro e w2 ⟨rfl,hb2⟩))
 have B2:Below w1.heap.size w1 w2:=below_tr (bl_alloc (below_refl _) _) hb2;have c1:=((bcell B2).1 w.heap.size 1 lw).trans b1;clear b0 b1 HW1 hb2;go_wp2;go_loopw [3,13] (fun s j wr=>∃k:Nat,k<=l.l.length∧j=.int .i64 k∧s=.string (S0++bts (rgT (l.l.take k)))∧Below w1.heap.size w1 wr) (fun _ j _=>l.l.length-(RowKit.intOf j).toNat)
 case atStart=>exact⟨0,by omega,rfl,by rw[H0.out],B2⟩
 case round=>
  obtain⟨k,hk,rfl,rfl,hbw⟩:=hrel;have k0:=nn k;by_cases hlt:k<l.l.length
  ·have k1:(k:Int)<(l.l.length:Int):=by omega
   obtain⟨x,b,off,hx,ha,hbl,c0,d1⟩:=G.rdL (HR.out.on hbw) hlt;obtain⟨x1,x2,x3⟩:=HB.out x (List.mem_of_getElem? hx);have hst:=hid (HST.out S0 k x hx);have hls:=HLN.out k;have HI:=hid (fun W (h:Below wr.heap.size wr W)=>c_ItoaV x.fr W (by omega) (by omega) (((HL.out.on hbw).on h).tab));have hs3:(bts (itoa x.fr)).size<=21:=by have:=itoa_len (n:=x.fr) (by omega) (by omega);rw[bts_size];omega
   have B5:=bl_alloc (below_refl wr) (.cells #[.string x.nm,.int .i64 x.fr] 104);have x5:=Blk.new wr 104 #[.string x.nm,.int .i64 x.fr];have e0:=x5.cell 0;have e1:=x5.cell 1;have l5:=x5.lt;simp only[GA] at e0 e1;obtain⟨XN,XF⟩:=x;obtain⟨LA,LL,LC⟩:=l;dsimp only at *;subst ha;clear hx x5;have hz:(S0++bts (rgT (LL.take k))).size<=1400:=by rw[ByteArray.size_append];omega
   generalize S0++bts (rgT (LL.take k))=ST at *;generalize bts (itoa XF)=S1 at *;go_upto_region 5 with fail
   generalize (wr.alloc (.cells #[.string XN,.int .i64 XF] 104))=w5 at *;have z1:¬9223372036854775807<1+XN.size:=by omega
   have z2:¬9223372036854775807<1+XN.size+1:=by omega
   have z3:¬9223372036854775807<1+XN.size+1+S1.size:=by omega
   have z4:¬9223372036854775807<ST.size+(1+XN.size+1+S1.size):=by omega
   refine wp_region_noPanic ?_;refine th w5 fun hS0=>?_;refine tq 0 ?_;refine tq 1 ?_;refine tq 2 ?_;refine tq 3 ?_;refine tq 4 ?_;refine tq 5 ?_;refine tq 6 ?_;refine tr 7 fun K hK=>?_;go_simp
   (go_at_call 70;((with_reducible refine(HI.out _ bl).mono ?_);rintro e w6 ⟨rfl,hb6⟩;obtain⟨hc6,hf6,hz6⟩:=qz hb6))
   refine hK.out _ _ kq (fun hS1=>?_);clear hK K;try simp only[AP]
   refine tq 8 ?_;refine tq 9 ?_;refine tq 10 ?_;refine wpAnyH_done (by kernel_rfl) (NoPanic.normal ?_) _;go_wp2;go_roundw
   case rel=>exact⟨k+1,by omega,by go_num,by rw[hst.out],below_tr hbw bl⟩
   case measure=>simp[RowKit.intOf];omega
  ·obtain rfl:k=l.l.length:=by omega
   rw[HA.out,HE2.out];go_wp2;go_ret;exact⟨rfl,below_tr B0 hbw⟩
theorem d_day (T:Nat->Prop) (nb sb rb:Nat) (L:LS) (w:World) (hN:Nxt T nb sb rb w L) (hI:Inv L.val):
  Calls Tryz.prog 270 #[.agg #[],.pointer (some ⟨nb,0,none⟩)] w (DeedP (.day) T nb sb rb L w):=by
 have x0:=Blk.new w 169 #[];have B0:=bl_alloc (below_refl w) (.cells #[] 169);have hN0:=hN.on B0;obtain⟨u0,u1⟩:=upN_bd hI;have dd0:0<=L.day:=hI.d0;have dd1:L.day<=100000:=hI.d1;have lnb:=hN0.lt;have hfz:=hN0.blk.frozen;have c17:(w.alloc (.cells #[] 169)).cell? ⟨nb,17,none⟩=some (.int .i64 L.day):=hN0.cel 17 _ rfl;have c18:(w.alloc (.cells #[] 169)).cell? ⟨nb,18,none⟩=some (.slice L.gusts.a L.gusts.l.length L.gusts.c):=hN0.cel 18 _ rfl;have HX2:=hid (show deed .day L.val=if (decide (upN L.val=0)&&decide (L.day<100000))=false then .error 10 else .ok {L.val with day:=L.day+1,gusts:=[]} from rfl);have hw1:IntKind.i64.wrap (L.day+1)=L.day+1:=fits_wrap ⟨by omega,by omega⟩;go_enter Tryz.func270,Tryz.ntmps270
 go_upto_region 1 with fail
 generalize (w.alloc (.cells #[] 169))=w1 at *;have HAL:=hid (fun w' (h:Below w1.heap.size w1 w')=>(hN0.on h).aloft hI);have HN0:=hid hN0;clear hI hN0;generalize hU:upN L.val=U at *;by_cases hz:U=0
 ·have g1:(U==0)=true:=by simpa using hz
  by_cases hd:L.day<100000
  ·have g2:decide (L.day<100000)=true:=decide_eq_true hd;have HX:=hid (show deed .day L.val=.ok {L.val with day:=L.day+1,gusts:=[]} by rw[HX2.out,if_neg (by rw[decide_eq_true hz,g2];simp)]);clear hz hU;go_upto_region 2 with (first|(go_at_call 268;((with_reducible refine(HAL.out _ bl).mono ?_);rintro e w3 ⟨rfl,hb3⟩;obtain⟨hc3,hf3,hz3⟩:=qz hb3))|(go_at_call 131;((with_reducible refine(f_must_ok _ _).mono ?_);rintro e w' ⟨rfl,rfl⟩)))
   have B3:Below w1.heap.size w1 w3:=bl;obtain⟨hcx,hfx⟩:=bcell B3;have q1:=(hcx nb 17 lnb).trans c17;have q2:=(hcx nb 18 lnb).trans c18;have qf1:=(hfx nb 17 lnb).trans (hfz 17);have qf2:=(hfx nb 18 lnb).trans (hfz 18);go_wp2;go_end0
   have st:=nb_step2 (nb_step (nb:=nb) (below_tr B0 B3) 17 (.int .i64 (L.day+1))) 18 (.slice none 0 0);have K:=hN.kept st;exact deed_ok (L':={L with day:=L.day+1,gusts:=⟨none,[],0⟩}) HX.out rfl ⟨(((HN0.out.blk.below B3 lnb).set_ 17 (.int .i64 (L.day+1))).set_ 18 (.slice none 0 0)),⟨K.su,got_nil _ _ _ _,K.rigs,K.rk,K.sites,K.sk,K.items,K.back⟩,K.stp,rfl,rfl⟩
  ·have g2:decide (L.day<100000)=false:=decide_eq_false hd;have HX:=hid (show deed .day L.val=.error 10 by rw[HX2.out,if_pos (by rw[g2];simp)]);clear hz hU;go_wp2_with (first|(go_at_call 268;((with_reducible refine(HAL.out _ bl).mono ?_);rintro e w3 ⟨rfl,hb3⟩;obtain⟨hc3,hf3,hz3⟩:=qz hb3))|(go_at_call 131;((with_reducible refine(f_must_no _ _).mono ?_);rintro e w' ⟨rfl,rfl⟩)))
   exact⟨rfl,deed_err HX.out bl⟩
 ·have g1:(U==0)=false:=by simpa using hz
  have HX:=hid (show deed .day L.val=.error 10 by rw[HX2.out,if_pos (by rw[decide_eq_false hz];simp)]);clear hz hU;go_wp2_with (first|(go_at_call 268;((with_reducible refine(HAL.out _ bl).mono ?_);rintro e w3 ⟨rfl,hb3⟩;obtain⟨hc3,hf3,hz3⟩:=qz hb3))|(go_at_call 131;((with_reducible refine(f_must_no _ _).mono ?_);rintro e w' ⟨rfl,rfl⟩)))
  exact⟨rfl,deed_err HX.out bl⟩
end Go.Proofs.YtjkkfcghkeoedaaGreatDoor.Fi
