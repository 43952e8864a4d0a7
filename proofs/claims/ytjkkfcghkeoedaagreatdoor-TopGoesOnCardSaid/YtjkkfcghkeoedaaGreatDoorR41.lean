/- The parts of the proof, part 41. -/
import Derived.Test.YtjkkfcghkeoedaaGreatDoorR0
import Derived.Test.YtjkkfcghkeoedaaGreatDoorR40
set_option maxHeartbeats 16000000
set_option maxRecDepth 20000
set_option linter.unusedSimpArgs false
set_option linter.unusedVariables false
namespace Go.Proofs.YtjkkfcghkeoedaaGreatDoor.Fi
open Go.RowKit Go.Lib Tx
theorem isBuf_on {t e:TypeId} {B b:Nat} {bs:List Value} {w w':World} (h:Lib.IsBuffer t e B b bs w) (hb:Below w.heap.size w w'):Lib.IsBuffer t e B b bs w':=by
 have hl:=h.lt;obtain⟨h1,v,lr,h2,h3,h4⟩:=h;exact⟨h1,v,lr,(hb.block b hl).trans h2,own_on h3 hb,h4⟩
theorem byteCells_app (a b:List UInt8):Lib.byteCells (a++b)=Lib.byteCells a++Lib.byteCells b:=by unfold Lib.byteCells;rw[List.map_append]
theorem line_str (e:En):bts (itoa e.n)++⟨#[32]⟩++bts (itoa e.d)++⟨#[32]⟩++bts (decDigits e.s)++⟨#[32]⟩++e.t++⟨#[10]⟩=bts (lnT e++[10]):=by
 rw[←bts_eta e.t,show(⟨#[32]⟩:ByteArray)=bts [32] from rfl,show(⟨#[10]⟩:ByteArray)=bts [10] from rfl];simp only[ba_app];congr 1;unfold lnT nT;simp
theorem f_BytesA {b:Nat} {L:LS} {T:Nat->Prop} {w:World} (hF:FirmAt w b L T) (hI:Inv L.val) (hL:LdW w):
  Calls Tryz.prog 17 #[.pointer (some ⟨b,0,none⟩)] w fun e w'=>∃v,e=.returned v∧w'.ownsRow w.heap.size 5 1 v (bytT L.lines.l).length (Lib.byteCells (bytT L.lines.l))∧Below w.heap.size w w':=by
 have c24:w.cell? ⟨b,24,none⟩=some (.slice L.lines.a L.lines.l.length L.lines.c):=hF.cel 24 _ rfl;have lb:=hF.blk.lt;have hll:L.lines.l.length<=2000:=hI.ll;have HR:=hid (own_rd' En.cs_len hF.row);have HT:=hid (show ∀e∈L.lines.l,e.t.size<=100000∧e.s<18446744073709551616∧0<=e.d∧e.d<=100000∧0<=e.n∧e.n<=2000 from hI.lt);have HL:=hid hL;obtain⟨LL,hLL⟩:∃x,x=L.lines:=⟨_,rfl⟩;rw[←hLL] at c24 hll HR HT ⊢;clear hF hI hL hLL;obtain⟨A,l,c⟩:=LL;dsimp only at *;have HLL:=hid (bytT_le (l:=l) (m:=100100) fun e he=>by
  obtain⟨h1,h2,h3,h4,h5,h6⟩:=HT.out e he;exact(lnT_len (e:=e) ⟨by omega,by omega⟩ ⟨by omega,by omega⟩ h2 h1).1)
 obtain⟨n,hn⟩:∃n,l.length=n:=⟨_,rfl⟩;rw[hn] at c24 hll;have HN:=hid hn;clear hn;have B1:=bl_alloc (below_refl w) (.cells #[.slice none 0 0,.int .i64 0,.int .i8 0] 136);have F1:=hid (Lib.fresh_isBuffer 136 5 w);go_enter Tryz.func17,Tryz.ntmps17
 go_upto_region 4 with fail
 have lz:w.heap.size<(w.alloc (.cells #[.slice none 0 0,.int .i64 0,.int .i8 0] 136)).heap.size:=by simp
 have c24':=((bcell B1).1 b 24 lb).trans c24;generalize w.alloc (.cells #[.slice none 0 0,.int .i64 0,.int .i8 0] 136)=w1 at *;go_wp2;go_loopw [14] (fun i wr=>∃k:Nat,k<=n∧i=.int .i64 k∧Hid (Lib.IsBuffer 136 5 w.heap.size w.heap.size (Lib.byteCells (bytT (l.take k))) wr)∧Below w.heap.size w wr∧w.heap.size<wr.heap.size) (fun i _=>n-(RowKit.intOf i).toNat)
 case atStart=>exact⟨0,Nat.zero_le _,rfl,F1,B1,lz⟩
 case round=>
  obtain⟨k,hk,rfl,HB,hbw,lwr⟩:=hrel;have k0:=nn k;by_cases hlt:k<n
  ·have k1:(k:Int)<(n:Int):=by omega
   obtain⟨x,hx⟩:=get_lt (l:=l) (k:=k) (by rw[HN.out];omega);obtain⟨b1,o1,ha1,lb1,hc1⟩:=(HR.out.on hbw).get hx;have cx0:wr.cell? ⟨b1,o1+k*4,none⟩=some (.int .i64 x.n):=hc1 0 _ rfl;have cx1:wr.cell? ⟨b1,o1+k*4+1,none⟩=some (.int .i64 x.d):=hc1 1 _ rfl;have cx2:wr.cell? ⟨b1,o1+k*4+2,none⟩=some (.string x.t):=hc1 2 _ rfl;have cx3:wr.cell? ⟨b1,o1+k*4+3,none⟩=some (.int .u64 (x.s:Nat)):=hc1 3 _ rfl;subst ha1;obtain⟨t1,t2,t3,t4,t5,t6⟩:=HT.out x (List.mem_of_getElem? hx);have HST:=hid (bytT_step hx);have HSR:=hid (line_str x);have HBL:=hid (show(Lib.byteCells (bytT (l.take k))).length<=300000000 by
    rw[Lib.byteCells_length];have h1:=bytT_le (l:=l.take k) (m:=100100) fun e he=>by
     obtain⟨h1,h2,h3,h4,h5,h6⟩:=HT.out e (List.mem_of_mem_take he);exact(lnT_len (e:=e) ⟨by omega,by omega⟩ ⟨by omega,by omega⟩ h2 h1).1
    rw[List.length_take] at h1;have h2:min k l.length<=2000:=by have:=HN.out;omega
    have h3:=Nat.mul_le_mul_right (100100+1) h2;omega)
   clear hx hc1;go_upto_region 7 with fail
   have Bq:=bl_alloc (below_refl wr) (.cells #[.int .i64 x.n,.int .i64 x.d,.string x.t,.int .u64 (x.s:Nat)] 62);have xq:=Blk.new wr 62 #[.int .i64 x.n,.int .i64 x.d,.string x.t,.int .u64 (x.s:Nat)];have q0:=xq.cell 0;have q1:=xq.cell 1;have q2:=xq.cell 2;have q3:=xq.cell 3;simp only[GA] at q0 q1 q2 q3;have lq:=xq.lt;have HBq:=hid (isBuf_on HB.out Bq);have hbq:=below_tr hbw Bq;clear xq HB hbw Bq cx0 cx1 cx2 cx3;generalize wr.alloc (.cells #[.int .i64 x.n,.int .i64 x.d,.string x.t,.int .u64 (x.s:Nat)] 62)=wq at *;have lwq:w.heap.size<=wq.heap.size:=by omega
   have HI1:=hid (fun W (h:Below w.heap.size w W)=>c_ItoaV x.n W (by omega) (by omega) (HL.out.on h).tab);have HI2:=hid (fun W (h:Below w.heap.size w W)=>c_ItoaV x.d W (by omega) (by omega) (HL.out.on h).tab);have HD:=hid (fun W (h:Below w.heap.size w W)=>f_digits x.s t2 W (HL.out.on h).tab);have s1:(bts (itoa x.n)).size<=21:=by have:=itoa_len (n:=x.n) (by omega) (by omega);rw[bts_size];omega
   have s2:(bts (itoa x.d)).size<=21:=by have:=itoa_len (n:=x.d) (by omega) (by omega);rw[bts_size];omega
   have s3:=dig_size t2;have HWR:=hid (fun W (h:Below wq.heap.size wq W) (s:ByteArray) (hs:s.size<=1000000)=>Tryz.Buffer_WriteString w.heap.size w.heap.size (Lib.byteCells (bytT (l.take k))) s W (isBuf_on HBq.out h) (Nat.le_trans lwq h.size) (fun v hv=>by
    obtain⟨c,_,rfl⟩:=List.mem_map.1 hv;rfl) (by have:=HBL.out;omega))
   generalize bts (itoa x.n)=S1 at *;generalize bts (itoa x.d)=S2 at *;generalize bts (decDigits x.s)=S3 at *;generalize x.t=S4 at *;have z1:¬9223372036854775807<S1.size+1:=by omega
   have z2:¬9223372036854775807<S1.size+1+S2.size:=by omega
   have z3:¬9223372036854775807<S1.size+1+S2.size+1:=by omega
   have z4:¬9223372036854775807<S1.size+1+S2.size+1+S3.size:=by omega
   have z5:¬9223372036854775807<S1.size+1+S2.size+1+S3.size+1:=by omega
   have z6:¬9223372036854775807<S1.size+1+S2.size+1+S3.size+1+S4.size:=by omega
   have z7:¬9223372036854775807<S1.size+1+S2.size+1+S3.size+1+S4.size+1:=by omega
   have z8:(S1++(⟨#[32]⟩:ByteArray)++S2++(⟨#[32]⟩:ByteArray)++S3++(⟨#[32]⟩:ByteArray)++S4++(⟨#[10]⟩:ByteArray)).size<=1000000:=by
    simp only[ByteArray.size_append];show _+1+_+1+_+1+_+1<=_;omega
   refine wp_region_noPanic ?_;refine wp_region_last 18 (fun w'=>(∀b o,b<wq.heap.size->w'.cell? ⟨b,o,none⟩=wq.cell? ⟨b,o,none⟩)∧(∀b o,b<wq.heap.size->w'.frozen? ⟨b,o,none⟩=wq.frozen? ⟨b,o,none⟩)∧Below wq.heap.size wq w') (by kernel_rfl) (kq_draw kq_refl) (fun hS0=>?_);refine wpAnyL_tk 0 18 ?gv1 rfl ?_;try simp only[AP]
   refine wpAnyL_tk 1 19 ?gv2 rfl ?_;try simp only[AP]
   refine wpAnyL_tk 4 22 ?gv3 rfl ?_;try simp only[AP]
   refine wpAnyL_tk 5 23 ?gv4 rfl ?_;try simp only[AP]
   refine wpAnyL_tk 9 27 ?gv5 rfl ?_;try simp only[AP]
   refine wpAnyL_tk 10 28 ?gv6 rfl ?_;try simp only[AP]
   refine wpAnyL_tk 14 32 ?gv7 rfl ?_;try simp only[AP]
   refine wpAnyL_tk 15 33 ?gv8 rfl ?_;try simp only[AP]
   refine wpAnyL_ready (rs:=[2]) (by kernel_rfl) (by simp) ?_;refine AllReadyL.cons rfl (fun K hK=>?_) AllReadyL.nil;go_simp
   (go_at_call 70;((with_reducible refine(HI1.out _ (below_tr hbq bl)).mono ?_);rintro e w3 ⟨rfl,hb3⟩;obtain⟨hc3,hf3,hz3⟩:=qz hb3))
   refine hK.out _ _ kq (fun hS1=>?_);clear hK K;try simp only[AP]
   refine wpAnyL_tk 3 21 ?gv9 rfl ?_;try simp only[AP]
   refine wpAnyL_ready (rs:=[6]) (by kernel_rfl) (by simp) ?_;refine AllReadyL.cons rfl (fun K hK=>?_) AllReadyL.nil;go_simp
   (go_at_call 70;((with_reducible refine(HI2.out _ (below_tr hbq bl)).mono ?_);rintro e w4 ⟨rfl,hb4⟩;obtain⟨hc4,hf4,hz4⟩:=qz hb4))
   refine hK.out _ _ kq (fun hS2=>?_);clear hK K;try simp only[AP]
   refine wpAnyL_tk 7 25 ?gv10 rfl ?_;try simp only[AP]
   refine wpAnyL_tk 8 26 ?gv11 rfl ?_;try simp only[AP]
   refine wpAnyL_ready (rs:=[11]) (by kernel_rfl) (by simp) ?_;refine AllReadyL.cons rfl (fun K hK=>?_) AllReadyL.nil;go_simp
   (go_at_call 71;((with_reducible refine(HD.out _ (below_tr hbq bl)).mono ?_);rintro e w5 ⟨rfl,hb5⟩;obtain⟨hc5,hf5,hz5⟩:=qz hb5))
   refine hK.out _ _ kq (fun hS3=>?_);clear hK K;try simp only[AP]
   refine wpAnyL_tk 12 30 ?gv12 rfl ?_;try simp only[AP]
   refine wpAnyL_tk 13 31 ?gv13 rfl ?_;try simp only[AP]
   refine wpAnyL_tk 16 34 ?gv14 rfl ?_;try simp only[AP]
   refine wpAnyL_tk 17 35 ?gv15 rfl ?_;try simp only[AP]
   refine wpAnyL_last (by kernel_rfl) rfl (fun K hK=>?_);go_simp
   (go_at_call 69;((with_reducible refine(HWR.out _ bl _ z8).mono ?_);rintro e w9 ⟨rfl,HB9,hb9⟩))
   refine hK.out _ _ ?_;clear hK K;try simp only[AP]
   refine wpAnyL_done (by kernel_rfl) (NoPanic.normal ?_) _;have hw9:Below w.heap.size w w9:=hbq.trans (((show Below wq.heap.size wq _ from bl).mono lwq).trans hb9);go_wp2;go_roundw
   case rel=>
    refine⟨k+1,by omega,by go_num,hid ?_,hw9,Nat.lt_of_lt_of_le (Nat.lt_of_le_of_lt (Nat.le_refl _) (by omega:w.heap.size<wq.heap.size)) ?_⟩
    ·rw[HST.out,byteCells_app];rw[HSR.out,bts_list] at HB9;exact HB9
    ·exact(show wq.heap.size<=w9.heap.size by have:=hb9.size;have:=hb5.size;simp at *;omega)
   case measure=>simp[RowKit.intOf];omega
  ·obtain rfl:n=k:=by omega
   have HLT:=hid (show l.take n=l by rw[←HN.out,List.take_length]);have HBY:=hid (Tryz.Buffer_Bytes w.heap.size w.heap.size (Lib.byteCells (bytT (l.take n))) wr HB.out);rw[HLT.out] at HBY;go_wp2_with (go_at_call 72;((with_reducible refine HBY.out.mono ?_);rintro e w9 ⟨v,rfl,ho,q,rfl⟩))
   go_ret;exact⟨v,rfl,by rw[←Lib.byteCells_length (bytT l)];exact ho,below_drewN hbw q⟩
def TxS (x:St):Prop:=∀e∈x.lines,e.t.size<=5000
theorem ts_new (x:Su):TxS (new x):=fun e h=>by cases h
theorem ts_doC {c:Cm} {x:St} (hI:Inv x) (hc:CmOk c) (h:TxS x):TxS (doC c x).2:=by
 rcases doC_or c x with⟨_,h1⟩|⟨y,hl,hd,h1⟩
 ·rw[h1];exact h
 ·rw[h1];intro e he;have he:e∈x.lines++[wrt x.lines y.day (bts (txt c))]:=he;rcases List.mem_append.1 he with h2|h2
  ·exact h e h2
  ·rw[List.mem_singleton.1 h2];show(bts (txt c)).size<=5000;rw[bts_size];exact(inv_deed hI hc hd).2.2
theorem ts_lins (br:St->Int->List UInt8):∀(P:List (List UInt8)) (x:St),(∀p∈P,p.length<=100000)->Inv x->TxS x->TxS (linsR br x P).2
 |[],_,_,_,h=>h
 |p::P,x,hP,hI,h=>by
  have hp:=hP p (List.mem_cons_self ..);have h2:Inv (linR br x p).2∧TxS (linR br x p).2:=by
   unfold linR;split
   ·exact⟨hI,h⟩
   split
   ·exact⟨hI,h⟩
   split
   ·exact⟨hI,h⟩
   ·rename_i c hc
    exact⟨inv_doC hI (cmd_ok hp hc),ts_doC hI (cmd_ok hp hc) h⟩
  exact ts_lins br P _ (fun q hq=>hP q (List.mem_cons_of_mem _ hq)) h2.1 h2.2
theorem ts_doR (br:St->Int->List UInt8) {x:St} {s:List UInt8} (hs:s.length<=100000) (hI:Inv x) (h:TxS x):TxS (doR br x s).2:=by
 unfold doR;split
 ·exact h
 ·exact ts_lins br _ _ (fun p hp=>Nat.le_trans (cut_szZ 10 s p hp) hs) hI h
structure Kb (w:World) (N:Nat->Prop) (v:Value) (l:List UInt8):Prop where
 own:∃B,w.ownsRow B 5 1 v l.length (Lib.byteCells l)
 nf:∀g,v.ownBlock=some g->¬N g
theorem Kb.below {w w':World} {N:Nat->Prop} {v:Value} {l:List UInt8} (h:Kb w N v l) (hb:Below w.heap.size w w'):Kb w' N v l:=
 ⟨h.own.imp fun _ k=>own_on k hb,h.nf⟩
theorem Kb.fut {w w':World} {b g:Nat} {L L' M:LS} {T T':Nat->Prop} {v:Value} {l:List UInt8} (h:Kb w (fun x=>Foot b L x∨Foot g M x) v l) (hf:Fut w b L T w' L' T'):Kb w' (fun x=>Foot b L' x∨Foot g M x) v l:=by
 obtain⟨B,ho⟩:=h.own;refine⟨⟨B,own_stp ho hf.stp (fun x hx hn=>h.nf x hx (.inl hn))⟩,fun x hx hn=>?_⟩;rcases hn with hn|hn
 ·rcases hf.ff x hn with h1|h1
  ·exact h.nf x hx (.inl h1)
  ·have:=(own_ge ho x hx).2;omega
 ·exact h.nf x hx (.inr hn)
theorem Kb.swap {w:World} {b g:Nat} {L M:LS} {v:Value} {l:List UInt8} (h:Kb w (fun x=>Foot b L x∨Foot g M x) v l):Kb w (fun x=>Foot g M x∨Foot b L x) v l:=
 ⟨h.own,fun x hx hn=>h.nf x hx hn.symm⟩
theorem Two.read {w w2 w3 w4 w5:World} {b g:Nat} {L L1 M:LS} {T T1 U:Nat->Prop} (hL:LdW w) (hb2:Below w.heap.size w w2) (hfp:∀x,Foot b L x->w.heap.size<=x) (hf:Fut w2 b L T w3 L1 T1) (hi:Inv L1.val)
  (hb4:Below w3.heap.size w3 w4) (hb5:Below w4.heap.size w4 w5) (hq:FirmAt w5 g M U) (hiq:Inv M.val) (hU:∀x,U x->w4.heap.size<=x∧x<w5.heap.size) (hM:∀x,Foot g M x->w4.heap.size<=x):Two w w5 b L1 (fun x=>T1 x∧x<w3.heap.size) g M U:=by
 have z2:=hb2.size;have z3:=hf.stp.size;have z4:=hb4.size;have z5:=hb5.size;have hc:=hf.cut;have hl:=hc.at_.flt;have hfp1:∀x,Foot b L1 x->w.heap.size<=x:=fun x hx=>by
  rcases hf.ff x hx with h1|h1
  ·exact hfp x h1
  ·omega
 have hB3:Below w.heap.size w w3:=below_stp hb2 hf.stp (fun x hx e=>by have:=hfp x e;omega) z2;refine⟨hL,below_tr (below_tr hB3 hb4) hb5,(hc.at_.on hb4).on hb5,hq,hi,hiq,hfp1,fun x hx=>by have:=hM x hx;omega,fun x hx=>by have:=hx.2;omega,fun x hx=>(hU x hx).2,fun x hx=>⟨fun h=>?_,fun h=>?_⟩,fun x hx=>⟨fun h=>?_,fun h=>?_⟩⟩
 ·have:=hl x hx;have:=(hU x h).1;omega
 ·have:=hl x hx;have:=hM x h;omega
 ·have:=hM x hx;have:=h.2;omega
 ·have:=hM x hx;have:=hl x h;omega
def GoP (w0:World) (b:Nat) (x:St) (s:List UInt8) (g:Nat) (M:LS) (U:Nat->Prop) (v:Value) (l:List UInt8) (e:Ending) (w':World):Prop:=
 ∃A,e=.returned (.string A)∧∃L' T',Hid (A=bts (doR bearsT x s).1∧L'.val=(doR bearsT x s).2∧Two w0 w' b L' T' g M U∧Kb w' (fun x=>Foot b L' x∨Foot g M x) v l)
theorem Two.goes {w0 w:World} {b g:Nat} {L M:LS} {T U:Nat->Prop} {v:Value} {l:List UInt8} (h:Two w0 w b L T g M U) (k:Kb w (fun x=>Foot b L x∨Foot g M x) v l) (s:List UInt8):Calls Tryz.prog 16 #[.pointer (some ⟨b,0,none⟩),.string (bts s)] w (GoP w0 b L.val s g M U v l):=by
 refine(f_DoA s h.p h.ip h.env).mono ?_;rintro e w' ⟨rfl,L',T',hv,hi,hl,hf⟩;exact⟨_,rfl,L',_,hid ⟨rfl,hv,h.step hf hi,k.fut hf⟩⟩
theorem conv_pre {w:World} {N:Nat} {A:Option Addr} {c:Nat} {a b:List UInt8} (h:ByR w N A (a++b) c):(convert 54 9 (.slice A a.length c)).run Tryz.prog w=.ok (.string (bts a)) w:=by
 have h2:ByR w N A a c:=by
  refine⟨fun h0=>?_,h.na,by have:=h.lc;rw[List.length_append] at this;omega⟩;obtain⟨g,o,e,hg,hc⟩:=h.rd (by rw[List.length_append];omega);exact⟨g,o,e,hg,fun i hi=>by rw[hc i (by rw[List.length_append];omega),List.getD_eq_getElem?_getD,List.getElem?_append_left hi,←List.getD_eq_getElem?_getD]⟩
 cases A with
 |none=>
  obtain rfl:=h2.na rfl;have hl:a=[]:=List.length_eq_zero_iff.1 (Nat.le_zero.1 h2.lc);subst hl;exact conv_nil w
 |some ad=>exact conv_by h2
theorem conv_all {w:World} {N:Nat} {A:Option Addr} {c:Nat} {a:List UInt8} (h:ByR w N A a c):(convert 54 9 (.slice A a.length c)).run Tryz.prog w=.ok (.string (bts a)) w:=
 conv_pre (b:=[]) (by rw[List.append_nil];exact h)
theorem short_byt:∀{l:List En},(∀e∈l,(0<=e.n∧e.n<=100000)∧(0<=e.d∧e.d<=100000)∧e.s<18446744073709551616∧e.t.data.toList≠[]∧(10:UInt8)∉e.t.data.toList∧e.t.size<=5000)->Short (bytT l)
 |[],_=>by
  intro p hp;have h:cutZ 10 (bytT [])=[[]]:=rfl;rw[h] at hp;rcases List.mem_cons.1 hp with rfl|hp
  ·exact⟨Nat.zero_le _,lnX_nil⟩
  ·cases hp
 |e::l,h=>by
  intro p hp;obtain⟨h1,h2,h3,h4,h5,h6⟩:=h e (List.mem_cons_self ..);rw[bytT_cons,cut_piece (lnT_nl h5)] at hp;rcases List.mem_cons.1 hp with rfl|hp
  ·have h7:=(lnT_len (e:=e) ⟨by omega,by omega⟩ ⟨by omega,by omega⟩ h3 (by omega)).1;have h8:=lnO_good h1 h2 h3 h4;rw[lnO_eq] at h8;have h9:lnX (lnT e)=e:=by
    cases hq:lnQ (lnT e)
    ·rw[hq] at h8;cases h8
    ·rw[hq] at h8;exact Option.some.inj h8
   exact⟨by omega,by rw[h9];omega⟩
  ·exact short_byt (fun z hz=>h z (List.mem_cons_of_mem _ hz)) p hp
theorem short_of {x:St} (hI:Inv x) (hn:LnOk x) (ht:TxS x):Short (bytT x.lines)∧(bytT x.lines).length<=300000000:=by
 refine⟨short_byt fun e he=>?_,?_⟩
 ·obtain⟨k,hk⟩:=List.getElem?_of_mem he;obtain⟨h1,h2,h3,_,h5,h6⟩:=hn.n k e hk;obtain⟨_,q2,q3,q4,q5,q6⟩:=hI.lt e he;exact⟨⟨q5,by omega⟩,⟨q3,q4⟩,q2,h6,h5,ht e he⟩
 ·have h1:=bytT_le (l:=x.lines) (m:=100100) fun e he=>by
   obtain⟨h1,h2,h3,h4,h5,h6⟩:=hI.lt e he;exact(lnT_len (e:=e) ⟨by omega,by omega⟩ ⟨by omega,by omega⟩ h2 h1).1
  have h2:=hI.ll;have h3:=Nat.mul_le_mul_right (100100+1) h2;omega
structure One (w0 w3 w':World) (b:Nat) (x:Su) (L L1:LS) (T T1:Nat->Prop):Prop where
 bel:Below w0.heap.size w0 w3
 fp:∀z,Foot b L z->w0.heap.size<=z
 fut:Fut w3 b L T w' L1 T1
 inv:Inv L1.val
 xe:L1.val.x=x
 ln:LnOk L1.val
 ts:TxS L1.val
theorem One.below {w0 w3 w':World} {b:Nat} {x:Su} {L L1:LS} {T T1:Nat->Prop} (h:One w0 w3 w' b x L L1 T T1):Below w0.heap.size w0 w':=
 below_stp h.bel h.fut.stp (fun z hz e=>by have:=h.fp z e;omega) h.bel.size
structure Bth (w0 w':World) (b:Nat) (L1:LS) (T1:Nat->Prop) (g:Nat) (M:LS) (U:Nat->Prop) (v:Value) (l:List UInt8):Prop where
 two:Two w0 w' b L1 T1 g M U
 kb:Kb w' (fun z=>Foot b L1 z∨Foot g M z) v l
 val:M.val=L1.val
theorem wpList_load_rowH {P:Program} {ops:Array Oper} {rest:List Oper} {o:Oper} {a:Act} {w:World} {Q:Exit->Act->World->Prop} (hw:Region.wanted o (yielded ops a.tmps)=true) (ty:TypeId) (x:Operand) (ho:o.op=.load ty x)
  (g:Nat) (hx:a.eval x=.pointer (some ⟨g,0,none⟩)) (t:TypeId) (cs:Array Value) (fr:Nat×Nat) (d:TypeDesc) (hg:w.heap[g]?=some (.cells cs t fr))
  (hu:P.underlying ty=some d) (hd:(match d with|.struct _|.array _ _=>true|_=>false)=true) (hi:(P.info? ty).map (·.size)=some cs.size)
  (h:wpList P ops Q rest (a.put o.dst (.agg cs)) w):wpList P ops Q (o::rest) a w:=
 wpList_step fun K hK=>by rw[if_pos hw];exact wp_load_row ty x ho g hx t cs fr d hg hu hd hi (hK _ _ h)
theorem l_TopGoesOn (x:LSu) (s t:ByteArray) (w:World) (hL:LdW w) (hS:SuOk (fun _=>True) w x) (hle:I64 x.cl.le) (hgw:∀i∈x.gear.l,G.IW i):
  Calls Tryz.prog 4 #[.agg x.cs.toArray,.string s,.string t] w fun e w'=>e=.returned (.bool true)∧Below w.heap.size w w':=by
 have x0:=Blk.new w 32 x.cs.toArray;have B0:=bl_alloc (below_refl w) (.cells x.cs.toArray 32);have HAW:=hid (fun W (h:Below w.heap.size w W)=>f_awake10 W (hL.on h));have HHV:=hid (fun W (h:Below w.heap.size w W)=>f_heavy10 x W (hS.on h) hle hgw);have HNW:=hid (fun W (h:Below w.heap.size w W) (hm:Hvy x)=>f_NewT x W (hS.on h) hm.w hm.v);have HDO:=hid (fun(w2 w3:World) (b:Nat) (L:LS) (T:Nat->Prop) (h:Below w.heap.size w w2) (n1:NwQ x w2 b L T w3) (s:List UInt8) (hs:s.length<=100000)=>(show Calls Tryz.prog 16 #[.pointer (some ⟨b,0,none⟩),.string (bts s)] w3 fun e w'=>∃S,e=.returned (.string S)∧∃L1 T1,Hid (One w w3 w' b x.val L L1 T T1) from by
  have hfp:∀z,Foot b L z->w.heap.size<=z:=fun z hz=>Nat.le_trans h.size (n1.ft z hz);have hE:Env w3 b L:=⟨w,hL,below_tr h n1.bel,hfp⟩;refine(f_DoA s n1.at_ n1.inv hE).mono ?_;rintro e w' ⟨rfl,L',T',hv,hi,_,hf⟩;refine⟨_,rfl,L',T',hid ⟨below_tr h n1.bel,hfp,hf,hi,by rw[hv,doR_x,n1.val];rfl,by rw[hv];exact ln_doR bearsT hs n1.inv (by rw[n1.val];exact ln_new _),by rw[hv];exact ts_doR bearsT hs n1.inv (by rw[n1.val];exact ts_new _)⟩⟩))
 have HBY:=hid (fun(W:World) (b:Nat) (L1:LS) (T1:Nat->Prop) (hF:FirmAt W b L1 T1) (hI:Inv L1.val) (hLW:LdW W)=>(show Calls Tryz.prog 17 #[.pointer (some ⟨b,0,none⟩)] W fun e w'=>∃A c,e=.returned (.slice A (bytT L1.lines.l).length c)∧w'.ownsRow W.heap.size 5 1 (.slice A (bytT L1.lines.l).length c) (bytT L1.lines.l).length (Lib.byteCells (bytT L1.lines.l))∧ByR w' w'.heap.size A (bytT L1.lines.l) c∧Below W.heap.size W w' from by
  refine(f_BytesA hF hI hLW).mono ?_;rintro e w' ⟨v,rfl,ho,hb⟩;obtain⟨A,c,rfl,hr⟩:=by_own ho;exact⟨A,c,rfl,ho,hr,hb⟩))
 have HRX:=hid (fun(w3 w4 w5:World) (b:Nat) (L L1:LS) (T T1:Nat->Prop) (h1:One w w3 w4 b x.val L L1 T T1) (hm:Hvy x) (A:Option Addr) (c:Nat) (ho:w5.ownsRow w4.heap.size 5 1 (.slice A (bytT L1.lines.l).length c) (bytT L1.lines.l).length (Lib.byteCells (bytT L1.lines.l))) (hr:ByR w5 w5.heap.size A (bytT L1.lines.l) c) (hb5:Below w4.heap.size w4 w5)=>
  (show Calls Tryz.prog 18 #[.agg x.cs.toArray,.slice A (bytT L1.lines.l).length c] w5 fun e w'=>∃g,e=.returned (.tuple #[.pointer (some ⟨g,0,none⟩),.int .i64 0])∧∃M U,Hid (Bth w w' b L1 (fun z=>T1 z∧z<w4.heap.size) g M U (.slice A (bytT L1.lines.l).length c) (bytT L1.lines.l)) from by
  have hs:=short_of h1.inv h1.ln h1.ts;have hB5:=below_tr h1.below hb5;refine(f_ReadT x A _ c w5 (hS.on hB5) hm.w hm.v hr hs.2 hs.1 (hL.on hB5)).mono ?_;rintro e w' ⟨hb,hp⟩;have hg:readO x.val (bytT L1.lines.l)=.ok L1.val:=by
   have:=read_good h1.ln (by rw[h1.xe];exact hm.v) h1.inv.ll;rw[h1.xe] at this;exact this
  rw[hg] at hp;obtain⟨g,M,U,rfl,hFM,hvM,hiM,hU,hfM⟩:=hp;refine⟨g,rfl,M,U,hid ⟨Two.read hL h1.bel h1.fp h1.fut h1.inv hb5 hb hFM hiM hU hfM,⟨⟨_,own_on ho hb⟩,fun z hz hn=>?_⟩,hvM⟩⟩;have hq:=own_ge ho z hz;rcases hn with hn|hn
  ·have:=h1.fut.at_.flt z hn;omega
  ·have:=hfM z hn;omega))
 have hCs:=su_cs x;have lN:w.heap.size<(w.alloc (.cells x.cs.toArray 32)).heap.size:=x0.lt;clear hS hle hgw;obtain⟨CA,hCA⟩:∃CA,x.cs.toArray=CA:=⟨_,rfl⟩;rw[hCA] at x0 B0 HHV HNW HRX hCs lN ⊢;clear hCA;obtain⟨s,rfl⟩:=of_bts s;obtain⟨t,rfl⟩:=of_bts t;by_cases hst:(2500:Int)<((bts s).size:Int)∨(2500:Int)<((bts t).size:Int)
 ·rcases (by omega:(2500:Int)<((bts s).size:Int)∨(¬(2500:Int)<((bts s).size:Int)∧(2500:Int)<((bts t).size:Int))) with h1|⟨h1,h2⟩
  all_goals
   go_enter Tryz.func4,Tryz.ntmps4
   go_wp2_with (go_at_call 15;((with_reducible refine(HAW.out _ B0).mono ?_);rintro e w1 ⟨rfl,hb1⟩))
   go_ret;exact⟨rfl,below_tr B0 hb1⟩
 have hs1:¬(2500:Int)<((bts s).size:Int):=fun h=>hst (.inl h);have ht1:¬(2500:Int)<((bts t).size:Int):=fun h=>hst (.inr h);clear hst;have hsl:s.length<=100000:=by rw[bts_size] at hs1;omega
 go_enter Tryz.func4,Tryz.ntmps4
 go_upto_region 8 with (first
  |(refine wpList_load_rowH rfl 32 _ rfl w.heap.size rfl 32 CA (0,0) _ x0 Tryz.underlying32 rfl hCs ?_)|(refine wpList_load_row rfl 32 _ rfl w.heap.size rfl 32 CA (0,0) _ x2 Tryz.underlying32 rfl hCs ?_)
  |(go_at_call 14;go_loud ((with_reducible refine(HHV.out _ B0).mono ?_);rintro e w2 ⟨⟨r,rfl,hsm⟩,hb2⟩;have x2:=x0.below hb2 lN;have B2:=below_tr B0 hb2;have lN2:=Nat.lt_of_lt_of_le lN hb2.size;replace hsm:=hid hsm;cases r))
  |(go_at_call 15;((with_reducible refine(HAW.out _ B2).mono ?_);rintro e w3 ⟨rfl,hb3⟩))
  |(go_at_call 7;((with_reducible refine(HNW.out w2 B2 (by first|exact hsm.out|exact hsm.out rfl|exact hsm.out trivial)).mono ?_);rintro e w3 ⟨b,L,T,rfl,n1⟩))
  |(go_at_call 16;((with_reducible refine(HDO.out _ _ _ _ _ B2 n1.out s hsl).mono ?_);rintro e w4 ⟨S0,rfl,L1,T1,H1⟩))
  |(go_at_call 17;((with_reducible refine(HBY.out _ _ _ _ H1.out.fut.at_ H1.out.inv (hL.on H1.out.below)).mono ?_);rintro e w5 ⟨A,c,rfl,ho5,hr5,hb5⟩)))
 rotate_left
 ·go_ret;exact⟨rfl,below_tr B2 hb3⟩
 have HM:=hid (show Hvy x by first|exact hsm.out|exact hsm.out rfl|exact hsm.out trivial);have HR1:=hid (HRX.out _ _ _ _ _ _ _ _ H1.out HM.out A c ho5 hr5 hb5);have B5:=below_tr H1.out.below hb5;have x5:=((H1.out.fut.stp.blk (x2.below n1.out.bel lN2) (fun h=>by have:=n1.out.ft _ h;omega)).below hb5 (by
  have h1:=n1.out.bel.size;have h2:=H1.out.fut.stp.size;omega))
 have hI1:=hid H1.out.inv;have htl:t.length<=100000:=by rw[bts_size] at ht1;omega
 clear hsm HHV HNW HDO HRX HBY n1 x0 x2 lN lN2 hb2 B0 hs1 ht1 hsl ho5 hr5 H1 HM
 go_upto_region 11 with (first
  |(refine wpList_load_row rfl 32 _ rfl w.heap.size rfl 32 CA (0,0) _ x5 Tryz.underlying32 rfl hCs ?_)
  |(go_at_call 18;((with_reducible refine HR1.out.mono ?_);rintro e w6 ⟨g,rfl,M,U,H2⟩))
  |(go_at_call 13;((with_reducible refine(H2.out.two.same H2.out.val.symm).mono ?_);rintro e w7 ⟨rfl,hb7⟩)))
 have H3:=hid (show Bth w w7 b L1 _ g M U _ _ from⟨H2.out.two.below hb7,H2.out.kb.below hb7,H2.out.val⟩);clear H2 hb7 HR1 x5 hCs;generalize hl0:bytT L1.lines.l=l0 at *;have HD1:=hid (show Calls Tryz.prog 16 #[.pointer (some ⟨b,0,none⟩),.string (bts t)] w7 fun e w'=>∃S,e=.returned (.string S)∧∃L2 T2,Hid (S=bts (doR bearsT L1.val t).1∧L2.val=(doR bearsT L1.val t).2∧Two w w' b L2 T2 g M U∧Kb w' (fun z=>Foot b L2 z∨Foot g M z) (.slice A l0.length c) l0) from by
  refine(H3.out.two.goes H3.out.kb t).mono ?_;rintro e w' ⟨S,rfl,L2,T2,h⟩;exact⟨S,rfl,L2,T2,h⟩)
 have HD2:=hid (fun(w8:World) (S:ByteArray) (L2:LS) (T2:Nat->Prop) (h:S=bts (doR bearsT L1.val t).1∧L2.val=(doR bearsT L1.val t).2∧Two w w8 b L2 T2 g M U∧Kb w8 (fun z=>Foot b L2 z∨Foot g M z) (.slice A l0.length c) l0)=>
  (show Calls Tryz.prog 16 #[.pointer (some ⟨g,0,none⟩),.string (bts t)] w8 fun e w'=>e=.returned (.string S)∧∃M2 U2,Hid (M2.val=L2.val∧Two w w' b L2 T2 g M2 U2∧Kb w' (fun z=>Foot b L2 z∨Foot g M2 z) (.slice A l0.length c) l0) from by
  refine(h.2.2.1.swap.goes h.2.2.2.swap t).mono ?_;rintro e w' ⟨S2,rfl,M2,U2,h2⟩;obtain⟨q1,q2,q3,q4⟩:=h2.out;have q3:=q3.swap;rw[H3.out.val] at q1 q2;exact⟨by rw[q1,h.1],M2,U2,hid ⟨by rw[q2,h.2.1],q3,q4.swap⟩⟩))
 go_upto_region 13 with (first
  |(go_at_call 16;((with_reducible refine HD1.out.mono ?_);rintro e w8 ⟨S,rfl,L2,T2,H4⟩))
  |(go_at_call 16;((with_reducible refine(HD2.out _ _ _ _ H4.out).mono ?_);rintro e w10 ⟨rfl,M2,U2,H5⟩)))
 obtain⟨EX,hEX⟩:∃EX,bytT L2.lines.l=l0++EX:=by
  obtain⟨ex,he⟩:=grow_doR bearsT L1.val t;refine⟨bytT ex,?_⟩;have h1:L2.lines.l=L1.lines.l++ex:=by
   have h2:=H4.out.2.1;rw[←h2] at he;exact he
  rw[h1,bytT_app,hl0]
 have hml:bytT M2.lines.l=bytT L2.lines.l:=by
  have h:=congrArg St.lines H5.out.1;have h:M2.lines.l=L2.lines.l:=h;rw[h]
 have HSM:=hid (fun W (h:Below w10.heap.size w10 W)=>(H5.out.2.1.below h).same H5.out.1.symm);have HBP:=hid (fun W (h:Below w10.heap.size w10 W)=>(show Calls Tryz.prog 17 #[.pointer (some ⟨b,0,none⟩)] W fun e w'=>∃A c,e=.returned (.slice A (bytT L2.lines.l).length c)∧ByR w' w'.heap.size A (bytT L2.lines.l) c∧Below W.heap.size W w' from by
  have h2:=H5.out.2.1.below h;refine(f_BytesA h2.p h2.ip (hL.on h2.bel)).mono ?_;rintro e w' ⟨v,rfl,ho,hb⟩;obtain⟨A,c,rfl,hr⟩:=by_own ho;exact⟨A,c,rfl,hr,hb⟩))
 have HBQ:=hid (fun W (h:Below w10.heap.size w10 W)=>(show Calls Tryz.prog 17 #[.pointer (some ⟨g,0,none⟩)] W fun e w'=>∃A c,e=.returned (.slice A (bytT L2.lines.l).length c)∧ByR w' w'.heap.size A (bytT L2.lines.l) c∧Below W.heap.size W w' from by
  have h2:=H5.out.2.1.below h;refine(f_BytesA h2.q h2.iq (hL.on h2.bel)).mono ?_;rintro e w' ⟨v,rfl,ho,hb⟩;rw[hml] at ho;obtain⟨A,c,rfl,hr⟩:=by_own ho;exact⟨A,c,rfl,hr,hb⟩))
 have HAX:=hid (fun W (h:Below w10.heap.size w10 W)=>HAW.out W (H5.out.2.1.below h).bel);have HCV:=hid (fun W (h:Below w10.heap.size w10 W)=>(show(convert 54 9 (.slice A l0.length c)).run Tryz.prog W=.ok (.string (bts l0)) W from by
  obtain⟨B,ho⟩:=(H5.out.2.2.below h).own;exact conv_own ho))
 have HEN:=hid (fun W (h:Below w10.heap.size w10 W)=>(H5.out.2.1.below h).bel);generalize bytT L2.lines.l=BL at *;have HPR:=hid (fun W A' c' (h:ByR W W.heap.size A' BL c')=>(show(convert 54 9 (.slice A' l0.length c')).run Tryz.prog W=.ok (.string (bts l0)) W from conv_pre (b:=EX) (by rw[←hEX];exact h)));have hle:l0.length<=BL.length:=by rw[hEX,List.length_append];omega
 clear hml hEX H4 H5 HD1 HD2 H3 HAW hL hl0;refine wp_region_noPanic ?_;refine wp_region_any (by kernel_rfl) ?_;change wpAny _ _ _ _ _ _ _ (World.drew _)
 refine wpAny_take (i:=0) (oi:={dst:=some 62,op:=_,type:=_,pos:=_,after:=_,guard:=none}) (v:=?gv1) rfl (by kernel_rfl) (by kernel_rfl) (by kernel_rfl) (fun _ _ _ h=>h) (Or.inl ⟨by rfl,?gy1⟩) ?_
 case gy1=>(intro w';go_simp;try with_reducible rfl)
 try simp only[AP]
 refine wpAny_take (i:=1) (oi:={dst:=some 63,op:=_,type:=_,pos:=_,after:=_,guard:=none}) (v:=?gv2) rfl (by kernel_rfl) (by kernel_rfl) (by kernel_rfl) (fun _ _ _ h=>h) (Or.inl ⟨by rfl,?gy2⟩) ?_
 case gy2=>(intro w';go_simp;try with_reducible rfl)
 try simp only[AP]
 refine wpAny_take (i:=2) (oi:={dst:=some 64,op:=_,type:=_,pos:=_,after:=_,guard:=none}) (v:=?gv3) rfl (by kernel_rfl) (by kernel_rfl) (by kernel_rfl) (fun _ _ _ h=>h) (Or.inl ⟨by rfl,?gy3⟩) ?_
 case gy3=>(intro w';go_simp;try with_reducible rfl)
 try simp only[AP]
 refine wpAny_take (i:=3) (oi:={dst:=some 65,op:=_,type:=_,pos:=_,after:=_,guard:=none}) (v:=?gv4) rfl (by kernel_rfl) (by kernel_rfl) (by kernel_rfl) (fun _ _ _ h=>h) (Or.inl ⟨by rfl,?gy4⟩) ?_
 case gy4=>(intro w';go_simp;try with_reducible rfl)
 try simp only[AP]
 refine wpAny_take (i:=4) (oi:={dst:=some 66,op:=_,type:=_,pos:=_,after:=_,guard:=some (3,true)}) (v:=?gv5) rfl (by kernel_rfl) (by kernel_rfl) (by kernel_rfl) (fun _ _ _ h=>h) (Or.inl ⟨by rfl,?gy5⟩) ?_
 case gy5=>(intro w';go_simp;try with_reducible rfl)
 try simp only[AP]
 refine wpAny_take (i:=5) (oi:={dst:=some 67,op:=_,type:=_,pos:=_,after:=_,guard:=some (3,true)}) (v:=?gv6) rfl (by kernel_rfl) (by kernel_rfl) (by kernel_rfl) (fun _ _ _ h=>h) (Or.inl ⟨by rfl,?gy6⟩) ?_
 case gy6=>(intro w';go_simp;try with_reducible rfl)
 try simp only[AP]
 refine wpAny_ready (rs:=[6]) (by kernel_rfl) (by simp) ?_;refine AllReady.cons rfl (fun K hK=>?_) AllReady.nil;go_simp
 (go_at_call 13;((with_reducible refine(HSM.out _ bl).mono ?_);rintro e wS ⟨rfl,hbS⟩;obtain⟨hcS,hfS,hzS⟩:=qz hbS))
 refine hK _ _ ?_;clear hK K;try simp only[AP]
 refine wpAny_take (i:=7) (oi:={dst:=some 69,op:=_,type:=_,pos:=_,after:=_,guard:=none}) (v:=?gv7) rfl (by kernel_rfl) (by kernel_rfl) (by kernel_rfl) (fun _ _ _ h=>h) (Or.inl ⟨by rfl,?gy7⟩) ?_
 case gy7=>(intro w';go_simp;try with_reducible rfl)
 try simp only[AP]
 refine wpAny_take (i:=8) (oi:={dst:=some 70,op:=_,type:=_,pos:=_,after:=_,guard:=none}) (v:=?gv8) rfl (by kernel_rfl) (by kernel_rfl) (by kernel_rfl) (fun _ _ _ h=>h) (Or.inl ⟨by rfl,?gy8⟩) ?_
 case gy8=>(intro w';go_simp;try with_reducible rfl)
 try simp only[AP]
 refine wpAny_take (i:=9) (oi:={dst:=some 71,op:=_,type:=_,pos:=_,after:=_,guard:=some (8,true)}) (v:=?gv9) rfl (by kernel_rfl) (by kernel_rfl) (by kernel_rfl) (fun _ _ _ h=>h) (Or.inl ⟨by rfl,?gy9⟩) ?_
 case gy9=>(intro w';go_simp;try with_reducible rfl)
 try simp only[AP]
 refine wpAny_take (i:=12) (oi:={dst:=some 74,op:=_,type:=_,pos:=_,after:=_,guard:=some (8,true)}) (v:=?gv10) rfl (by kernel_rfl) (by kernel_rfl) (by kernel_rfl) (fun _ _ _ h=>h) (Or.inl ⟨by rfl,?gy10⟩) ?_
 case gy10=>(intro w';go_simp;try with_reducible rfl)
 try simp only[AP]
 refine wpAny_ready (rs:=[10]) (by kernel_rfl) (by simp) ?_;refine AllReady.cons rfl (fun K hK=>?_) AllReady.nil;go_simp
 (go_at_call 17;((with_reducible refine(HBP.out _ bl).mono ?_);rintro e wA ⟨AA,cA,rfl,byA,hbA⟩;obtain⟨hcA,hfA,hzA⟩:=qz hbA;have cvA:=conv_all byA;have HCA:=hid (fun W (h:Below wA.heap.size wA W)=>conv_all ((byA.below h)));have HC0A:=hid (fun W (h:Below wA.heap.size wA W)=>HCV.out W (below_tr (show Below w10.heap.size w10 wA from bl) h))))
 refine hK _ _ ?_;clear hK K;try simp only[AP]
 refine wpAny_of_held (S:=(fun w'=>(∀b o,b<wA.heap.size->w'.cell? ⟨b,o,none⟩=wA.cell? ⟨b,o,none⟩)∧(∀b o,b<wA.heap.size->w'.frozen? ⟨b,o,none⟩=wA.frozen? ⟨b,o,none⟩)∧Below wA.heap.size wA w')) _ _ _ _ ?_;have hS0:(fun w'=>(∀b o,b<wA.heap.size->w'.cell? ⟨b,o,none⟩=wA.cell? ⟨b,o,none⟩)∧(∀b o,b<wA.heap.size->w'.frozen? ⟨b,o,none⟩=wA.frozen? ⟨b,o,none⟩)∧Below wA.heap.size wA w') wA:=kq_refl;refine tg 11 73 8 true ?gv11 rfl ?_ (hy:=?gy11)
 case gy11=>(intro w' hSw;have hcv:=HCA.out w' hSw.2.2;go_simp;try with_reducible rfl)
 try simp only[AP]
 refine tr 13 fun K hK=>?_;go_simp
 (go_at_call 17;((with_reducible refine(HBQ.out _ bl).mono ?_);rintro e wB ⟨AB,cB,rfl,byB,hbB⟩;obtain⟨hcB,hfB,hzB⟩:=qz hbB;have cvB:=conv_all byB;have HCB:=hid (fun W (h:Below wB.heap.size wB W)=>conv_all ((byB.below h)));have HC0B:=hid (fun W (h:Below wB.heap.size wB W)=>HCV.out W (below_tr (show Below w10.heap.size w10 wB from bl) h))))
 refine hK.out _ _ kq (fun hS3=>?_);clear hK K;try simp only[AP]
 refine tr 14 fun K hK=>?_;go_simp
 refine hK.out _ _ kq (fun hS4=>?_);clear hK K;try simp only[AP]
 refine tq 15 ?_;refine tq 16 ?_;refine tq 17 ?_;refine tq 18 ?_;refine tq 21 ?_;refine tq 22 ?_;refine tr 19 fun K hK=>?_;go_simp
 (go_at_call 17;((with_reducible refine(HBP.out _ bl).mono ?_);rintro e wC ⟨AC,cC,rfl,byC,hbC⟩;obtain⟨hcC,hfC,hzC⟩:=qz hbC;skip))
 refine hK.out _ _ kq (fun hS5=>?_);clear hK K;try simp only[AP]
 refine tq 20 ?_;refine tq 23 ?_;refine tq 24 ?_;refine tq 25 ?_;refine tq 26 ?_;refine tq 28 ?_;refine tq 29 ?_;refine tq 32 ?_;refine tg 33 95 25 true ?gv26 rfl ?_ (hy:=?gy26)
 case gy26=>(intro w' hSw;have hcv:=HC0A.out w' hSw.2.2;go_simp;try with_reducible rfl)
 try simp only[AP]
 refine tr 27 fun K hK=>?_;go_simp
 (go_at_call 17;((with_reducible refine(HBP.out _ bl).mono ?_);rintro e wD ⟨AD,cD,rfl,byD,hbD⟩;obtain⟨hcD,hfD,hzD⟩:=qz hbD;have cvD:=HPR.out wD AD cD byD;have lcD:l0.length<=cD:=Nat.le_trans hle byD.lc))
 refine hK.out _ _ kq (fun hS6=>?_);clear hK K;try simp only[AP]
 refine tq 30 ?_;refine tr 31 fun K hK=>?_;go_simp
 refine hK.out _ _ kq (fun hS7=>?_);clear hK K;try simp only[AP]
 refine tq 34 ?_;refine tq 35 ?_;refine tq 36 ?_;refine tr 37 fun K hK=>?_;go_simp
 (go_at_call 15;((with_reducible refine(HAX.out _ bl).mono ?_);rintro e wE ⟨rfl,hbE⟩;obtain⟨hcE,hfE,hzE⟩:=qz hbE))
 refine hK.out _ _ kq (fun hS8=>?_);clear hK K;try simp only[AP]
 refine tq 38 ?_;refine tq 39 ?_;refine wpAnyH_done (by kernel_rfl) (NoPanic.normal ?_) _;rotate_left
 all_goals
  try simp only[Act.put,List.getElem_toArray,List.getElem_cons_zero,List.getElem_cons_succ,List.setIfInBounds_toArray,List.set_cons_zero,List.set_cons_succ]
  go_wp2;go_ret;exact⟨rfl,HEN.out _ bl⟩
end Go.Proofs.YtjkkfcghkeoedaaGreatDoor.Fi
namespace Go.Proofs.YtjkkfcghkeoedaaGreatDoor.Fi
open Go.ChangeShapes Go.WideShapes Go.ChangeAt Go.RowKit Go.Deep Go.Joins Tx
theorem i64_of {n:Int} (h:(Lit.int .i64 n).wf=true):-9223372036854775808<=n∧n<=9223372036854775807:=by
 have h1:(decide (IntKind.i64.min<=n)&&decide (n<=IntKind.i64.max))=true:=h;rw[show IntKind.i64.min=-9223372036854775808 from rfl,show IntKind.i64.max=9223372036854775807 from rfl,Bool.and_eq_true,decide_eq_true_eq,decide_eq_true_eq] at h1;exact⟨h1.1,h1.2⟩
section
variable {H:Type} {enc:TypeId×Value->H} {P:Program} {w:World} {base:Nat} {spare:Nat->Bool} {held:Bool}
theorem open_rdin {α:Type} (encα:α->List Value) (ok:α->Prop) (sz:Nat) {t e:TypeId} {n0:Nat} {cs:List Value} {x:DataW H×List MemPlace} (ht:P.underlying t=some (.slice e)) (hC:P.cellsOf e=sz) (hz:0<sz)
  (hdec:∀n cs x,DataW.trod enc P w base spare held n e cs=some x->∃a:α,cs=encα a∧ok a)
  (hf:DataW.trod enc P w base spare held n0 t cs=some x):
  ∃(A:Option Addr) (l:List α) (c:Nat),cs=[.slice A l.length c]∧Rd encα sz w A l∧l.length<=maxLen∧(∀a∈l,ok a)∧l.length<=c∧c<=maxLen:=by
 rcases open_slice ht hf with⟨hcs,_⟩|⟨a,n,c,m,n',D,Pl,hcs,_,hl,hm,hmm,_,hi⟩
 ·exact⟨none,[],0,hcs,Rd.nil_,by simp,by simp,by simp,by simp⟩
 ·rw[hC] at hi;have hlm:n<=m:=by rw[hmm];split<;>omega
  have hex:∀i,i<n->∃y:α,ok y∧∀j u,(encα y)[j]?=some u->w.cell? (a.add (i*sz+j))=some u:=fun i hin=>by
   obtain⟨cs',hc,htr⟩:=hi i (by omega);obtain⟨y,rfl,hy⟩:=hdec _ _ _ htr;obtain⟨_,hlen,hat⟩:=World.cells?_some hc;refine⟨y,hy,fun j u hu=>?_⟩;have hj:j<sz:=by
    rcases Nat.lt_or_ge j sz with h1|h1
    ·exact h1
    ·rw[List.getElem?_eq_none (by omega)] at hu;cases hu
   have:=hat j hj;rw[hu] at this;rwa [Go.Deep.add_add] at this
  obtain⟨l,hll,hlp⟩:=list_of n hex;subst hll;refine⟨some a,l,c,hcs,fun hne=>?_,by omega,fun y hy=>?_,hl,hm⟩
  ·have hl0:0<l.length:=List.length_pos_iff.2 hne;obtain⟨cs',hc,htr⟩:=hi 0 (by omega);obtain⟨_,hlen,hat⟩:=World.cells?_some hc;have hc0:=hat 0 hz;rw[List.getElem?_eq_getElem (by omega)] at hc0;simp only[Nat.zero_mul] at hc0;have hspot:a.spot=none:=by
    have hs:=World.cell?_spot hc0;simpa[Addr.add] using hs
   obtain⟨b,off,spot⟩:=a;simp only at hspot;subst hspot;have hb:=World.block_lt_of_cell? w _ hc0;refine⟨b,off,rfl,by simpa[Addr.add] using hb,fun k x hx j v hv=>?_⟩;have:=(hlp k x hx).2 j v hv;rw[addr_add0] at this;rw[Nat.add_assoc];exact this
  ·obtain⟨i,hi',hiy⟩:=List.getElem_of_mem hy;exact(hlp i y (by rw[List.getElem?_eq_getElem hi',hiy])).1
end
section
variable {H:Type} {enc:TypeId×Value->H} {w:World} {base:Nat} {spare:Nat->Bool} {held:Bool}
structure OpIn (w:World) (o:Op):Prop where
 k:o.k<256
 st:I64 o.st
 n:I64 o.n
 nm:o.nm.size<=maxLen
 rk:Rd G.Lk.cs 2 w o.lk.a o.lk.l
 lk:∀k∈o.lk.l,G.LW k
 lc:o.lk.l.length<=o.lk.c∧o.lk.c<=maxLen
 rd:Rd zC 1 w o.ld.a o.ld.l
 ld:∀z∈o.ld.l,I64 z
 dc:o.ld.l.length<=o.ld.c∧o.ld.c<=maxLen
end
theorem OpIn.ok {w:World} {o:Op} (h:OpIn w o):OpOk w o:=⟨h.rk,Nat.le_trans h.lc.1 h.lc.2,fun k hk=>(h.lk k hk).1,h.nm,h.rd,Nat.le_trans h.dc.1 h.dc.2⟩
end Go.Proofs.YtjkkfcghkeoedaaGreatDoor.Fi
