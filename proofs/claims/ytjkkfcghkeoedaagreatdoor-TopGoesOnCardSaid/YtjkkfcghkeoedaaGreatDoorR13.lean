/- The parts of the proof, part 13. -/
import Derived.Test.YtjkkfcghkeoedaaGreatDoorR0
import Derived.Test.YtjkkfcghkeoedaaGreatDoorR12
import Derived.Laws.IdiomStrings
import Derived.Laws.Concat
set_option maxHeartbeats 16000000
set_option maxRecDepth 20000
set_option linter.unusedSimpArgs false
set_option linter.unusedVariables false
namespace Go.Proofs.YtjkkfcghkeoedaaGreatDoor.Fi
open Go.RowKit Go.Lib Tx
theorem wsT_step {l:List Int} {k:Nat} {x:Int} (h:l[k]?=some x):wsT (l.take (k+1))=wsT (l.take k)++32::nT x:=by unfold wsT;rw[List.take_add_one,h,List.flatMap_append];simp
theorem wsT_len (l:List Int) (h:∀x∈l,-9223372036854775808<=x∧x<=9223372036854775807):(wsT l).length<=21*l.length:=by
 induction l with
 |nil=>simp[wsT]
 |cons x l ih=>
  have h1:=ih fun y hy=>h y (List.mem_cons_of_mem _ hy);have h2:=h x (List.mem_cons_self ..);have h3:=itoa_len (n:=x) h2.1 h2.2;have e:wsT (x::l)=(32::nT x)++wsT l:=by unfold wsT;simp
  rw[e];unfold nT;simp only[List.length_append,List.length_cons];omega
theorem f_words (s:ByteArray) (A:Option Addr) (l:List Int) (c:Nat) (w:World) (hs:s.size<=1000000000) (hl:l.length<=1000000) (hb:∀x∈l,-9223372036854775808<=x∧x<=9223372036854775807) (hL:LdW w) (hR:Rd zC 1 w A l):
  Calls Tryz.prog 152 #[.string s,.slice A l.length c] w fun e w'=>e=.returned (.string (s++bts (wsT l)))∧Below w.heap.size w w':=by
 have HLN:=hid (fun k=>(show(bts (wsT (l.take k))).size<=21000000 by
  have:=wsT_len (l.take k) fun x hx=>hb x (List.mem_of_mem_take hx);rw[List.length_take] at this;rw[bts_size];omega))
 have HST:=hid (fun k x (h:l[k]?=some x)=>(show s++bts (wsT (l.take (k+1)))=s++bts (wsT (l.take k))++(⟨#[32]⟩++bts (itoa x)) by
  rw[wsT_step h,show(⟨#[32]⟩:ByteArray)=bts [32] from rfl,ba_app,ByteArray.append_assoc,ba_app];rfl))
 have H0:=hid (show s++bts (wsT (l.take 0))=s from ByteArray.ext (by simp[wsT,bts,ByteArray.data_append]));have HA:=hid (show l.take l.length=l from List.take_length);go_enter Tryz.func152,Tryz.ntmps152
 go_wp2;go_loopw [0,9] (fun v i wr=>∃k:Nat,k<=l.length∧i=.int .i64 k∧v=.string (s++bts (wsT (l.take k)))∧Below w.heap.size w wr) (fun _ i _=>l.length-(RowKit.intOf i).toNat)
 case atStart=>exact⟨0,by omega,rfl,by rw[H0.out],below_refl _⟩
 case round=>
  obtain⟨k,hk,rfl,rfl,hbw⟩:=hrel;have k0:=nn k;by_cases hlt:k<l.length
  ·have k1:(k:Int)<(l.length:Int):=by omega
   obtain⟨x,b,off,hx,rfl,hbl,c0⟩:=rd_int (hR.on hbw) hlt;obtain⟨x1,x2⟩:=hb x (List.mem_of_getElem? hx);have HI:=hid (c_ItoaV x wr x1 x2 (hL.on hbw).tab);have hs1:(bts (itoa x)).size<=21:=by have:=itoa_len x1 x2;rw[bts_size];omega
   have hls:=HLN.out k;have hst:=hid (HST.out k x hx);have hz:(s++bts (wsT (l.take k))).size<=1021000000:=by rw[ByteArray.size_append];omega
   clear hx hls;generalize s++bts (wsT (l.take k))=ST at *;generalize bts (itoa x)=S1 at *;have z1:¬9223372036854775807<1+S1.size:=by omega
   have z2:¬9223372036854775807<ST.size+(1+S1.size):=by omega
   go_wp2_with (go_at_call 70;((with_reducible refine HI.out.mono ?_);rintro e w3 ⟨rfl,hb3⟩))
   go_roundw
   case rel=>exact⟨k+1,by omega,by go_num,by rw[hst.out],below_tr hbw hb3⟩
   case measure=>simp[RowKit.intOf];omega
  ·obtain rfl:k=l.length:=by omega
   rw[HA.out];go_wp2;go_ret;exact⟨rfl,hbw⟩
theorem rd_new (w:World) (l:List Int):Rd zC 1 (w.alloc (.cells (l.map (Value.int .i64)).toArray 3)) (some ⟨w.heap.size,0,none⟩) l:=fun hne=>by
 refine⟨w.heap.size,0,rfl,by simp,fun k x hx j v hv=>?_⟩;have hb:=Blk.new w 3 (l.map (Value.int .i64)).toArray;have hj:j=0:=by
  rcases Nat.lt_or_ge j 1 with h|h
  ·omega
  ·rw[List.getElem?_eq_none (by simpa[zC] using h)] at hv;cases hv
 subst hj;cases hv;rw[show 0+k*1+0=k by omega,hb.cell k];simp[hx]
theorem t_gust (g:Int) (w:World) (bg:-9223372036854775808<=g∧g<=9223372036854775807) (hL:LdW w):
  Calls Tryz.prog 317 #[.agg #[.int .i64 g]] w fun e w'=>e=.returned (.string (bts (txt (.gust g))))∧Below w.heap.size w w':=by
 have B0:=bl_alloc (below_refl w) (.cells #[.int .i64 g] 237);have B1:=bl_alloc B0 (.cells #[.int .i64 g] 3);have hr:Rd zC 1 ((w.alloc (.cells #[.int .i64 g] 237)).alloc (.cells #[.int .i64 g] 3)) (some ⟨w.heap.size+1,0,none⟩) [g]:=by
  have h:=rd_new (w.alloc (.cells #[.int .i64 g] 237)) [g];rw[World.size_alloc] at h;exact h
 have HE:=hid (show(⟨#[103,117,115,116]⟩:ByteArray)++bts (wsT [g])=bts (txt (.gust g)) by rw[show(⟨#[103,117,115,116]⟩:ByteArray)=bts [103,117,115,116] from rfl,ba_app];rfl);have HW:Hid (Calls Tryz.prog 152 #[.string ⟨#[103,117,115,116]⟩,.slice (some ⟨w.heap.size+1,0,none⟩) 1 1] ((w.alloc (.cells #[.int .i64 g] 237)).alloc (.cells #[.int .i64 g] 3)) (fun e w'=>e=.returned (.string (bts (txt (.gust g))))∧Below ((w.alloc (.cells #[.int .i64 g] 237)).alloc (.cells #[.int .i64 g] 3)).heap.size ((w.alloc (.cells #[.int .i64 g] 237)).alloc (.cells #[.int .i64 g] 3)) w')):=hid (by rw[←HE.out];exact f_words ⟨#[103,117,115,116]⟩ _ [g] 1 _ (by decide) (by simp) (fun x hx=>by simp at hx;subst hx;exact bg) (hL.on B1) hr);clear hr HE;go_enter Tryz.func317,Tryz.ntmps317
 go_wp2_with (go_at_call 152;((with_reducible refine HW.out.mono ?_);rintro e w3 ⟨rfl,hb3⟩))
 go_ret;exact⟨rfl,below_tr B1 hb3⟩
theorem t_dog (i:Int) (w:World) (bi:-9223372036854775808<=i∧i<=9223372036854775807) (hL:LdW w):
  Calls Tryz.prog 319 #[.agg #[.int .i64 i]] w fun e w'=>e=.returned (.string (bts (txt (.dog i))))∧Below w.heap.size w w':=by
 have B0:=bl_alloc (below_refl w) (.cells #[.int .i64 i] 239);have B1:=bl_alloc B0 (.cells #[.int .i64 i] 3);have hr:Rd zC 1 ((w.alloc (.cells #[.int .i64 i] 239)).alloc (.cells #[.int .i64 i] 3)) (some ⟨w.heap.size+1,0,none⟩) [i]:=by
  have h:=rd_new (w.alloc (.cells #[.int .i64 i] 239)) [i];rw[World.size_alloc] at h;exact h
 have HE:=hid (show(⟨#[100,111,103]⟩:ByteArray)++bts (wsT [i])=bts (txt (.dog i)) by rw[show(⟨#[100,111,103]⟩:ByteArray)=bts [100,111,103] from rfl,ba_app];rfl);have HW:Hid (Calls Tryz.prog 152 #[.string ⟨#[100,111,103]⟩,.slice (some ⟨w.heap.size+1,0,none⟩) 1 1] ((w.alloc (.cells #[.int .i64 i] 239)).alloc (.cells #[.int .i64 i] 3)) (fun e w'=>e=.returned (.string (bts (txt (.dog i))))∧Below ((w.alloc (.cells #[.int .i64 i] 239)).alloc (.cells #[.int .i64 i] 3)).heap.size ((w.alloc (.cells #[.int .i64 i] 239)).alloc (.cells #[.int .i64 i] 3)) w')):=hid (by rw[←HE.out];exact f_words ⟨#[100,111,103]⟩ _ [i] 1 _ (by decide) (by simp) (fun x hx=>by simp at hx;subst hx;exact bi) (hL.on B1) hr);clear hr HE;go_enter Tryz.func319,Tryz.ntmps319
 go_wp2_with (go_at_call 152;((with_reducible refine HW.out.mono ?_);rintro e w3 ⟨rfl,hb3⟩))
 go_ret;exact⟨rfl,below_tr B1 hb3⟩
theorem t_strike (r:Int) (w:World) (br:-9223372036854775808<=r∧r<=9223372036854775807) (hL:LdW w):
  Calls Tryz.prog 326 #[.agg #[.int .i64 r]] w fun e w'=>e=.returned (.string (bts (txt (.strike r))))∧Below w.heap.size w w':=by
 have B0:=bl_alloc (below_refl w) (.cells #[.int .i64 r] 241);have B1:=bl_alloc B0 (.cells #[.int .i64 r] 3);have hr:Rd zC 1 ((w.alloc (.cells #[.int .i64 r] 241)).alloc (.cells #[.int .i64 r] 3)) (some ⟨w.heap.size+1,0,none⟩) [r]:=by
  have h:=rd_new (w.alloc (.cells #[.int .i64 r] 241)) [r];rw[World.size_alloc] at h;exact h
 have HE:=hid (show(⟨#[115,116,114,105,107,101]⟩:ByteArray)++bts (wsT [r])=bts (txt (.strike r)) by rw[show(⟨#[115,116,114,105,107,101]⟩:ByteArray)=bts [115,116,114,105,107,101] from rfl,ba_app];rfl);have HW:Hid (Calls Tryz.prog 152 #[.string ⟨#[115,116,114,105,107,101]⟩,.slice (some ⟨w.heap.size+1,0,none⟩) 1 1] ((w.alloc (.cells #[.int .i64 r] 241)).alloc (.cells #[.int .i64 r] 3)) (fun e w'=>e=.returned (.string (bts (txt (.strike r))))∧Below ((w.alloc (.cells #[.int .i64 r] 241)).alloc (.cells #[.int .i64 r] 3)).heap.size ((w.alloc (.cells #[.int .i64 r] 241)).alloc (.cells #[.int .i64 r] 3)) w')):=hid (by rw[←HE.out];exact f_words ⟨#[115,116,114,105,107,101]⟩ _ [r] 1 _ (by decide) (by simp) (fun x hx=>by simp at hx;subst hx;exact br) (hL.on B1) hr);clear hr HE;go_enter Tryz.func326,Tryz.ntmps326
 go_wp2_with (go_at_call 152;((with_reducible refine HW.out.mono ?_);rintro e w3 ⟨rfl,hb3⟩))
 go_ret;exact⟨rfl,below_tr B1 hb3⟩
theorem t_cut (i:Int) (w:World) (bi:-9223372036854775808<=i∧i<=9223372036854775807) (hL:LdW w):
  Calls Tryz.prog 328 #[.agg #[.int .i64 i]] w fun e w'=>e=.returned (.string (bts (txt (.cut i))))∧Below w.heap.size w w':=by
 have B0:=bl_alloc (below_refl w) (.cells #[.int .i64 i] 242);have B1:=bl_alloc B0 (.cells #[.int .i64 i] 3);have hr:Rd zC 1 ((w.alloc (.cells #[.int .i64 i] 242)).alloc (.cells #[.int .i64 i] 3)) (some ⟨w.heap.size+1,0,none⟩) [i]:=by
  have h:=rd_new (w.alloc (.cells #[.int .i64 i] 242)) [i];rw[World.size_alloc] at h;exact h
 have HE:=hid (show(⟨#[102,101,108,108]⟩:ByteArray)++bts (wsT [i])=bts (txt (.cut i)) by rw[show(⟨#[102,101,108,108]⟩:ByteArray)=bts [102,101,108,108] from rfl,ba_app];rfl);have HW:Hid (Calls Tryz.prog 152 #[.string ⟨#[102,101,108,108]⟩,.slice (some ⟨w.heap.size+1,0,none⟩) 1 1] ((w.alloc (.cells #[.int .i64 i] 242)).alloc (.cells #[.int .i64 i] 3)) (fun e w'=>e=.returned (.string (bts (txt (.cut i))))∧Below ((w.alloc (.cells #[.int .i64 i] 242)).alloc (.cells #[.int .i64 i] 3)).heap.size ((w.alloc (.cells #[.int .i64 i] 242)).alloc (.cells #[.int .i64 i] 3)) w')):=hid (by rw[←HE.out];exact f_words ⟨#[102,101,108,108]⟩ _ [i] 1 _ (by decide) (by simp) (fun x hx=>by simp at hx;subst hx;exact bi) (hL.on B1) hr);clear hr HE;go_enter Tryz.func328,Tryz.ntmps328
 go_wp2_with (go_at_call 152;((with_reducible refine HW.out.mono ?_);rintro e w3 ⟨rfl,hb3⟩))
 go_ret;exact⟨rfl,below_tr B1 hb3⟩
theorem t_bill (i:Int) (w:World) (bi:-9223372036854775808<=i∧i<=9223372036854775807) (hL:LdW w):
  Calls Tryz.prog 335 #[.agg #[.int .i64 i]] w fun e w'=>e=.returned (.string (bts (txt (.bill i))))∧Below w.heap.size w w':=by
 have B0:=bl_alloc (below_refl w) (.cells #[.int .i64 i] 243);have B1:=bl_alloc B0 (.cells #[.int .i64 i] 3);have hr:Rd zC 1 ((w.alloc (.cells #[.int .i64 i] 243)).alloc (.cells #[.int .i64 i] 3)) (some ⟨w.heap.size+1,0,none⟩) [i]:=by
  have h:=rd_new (w.alloc (.cells #[.int .i64 i] 243)) [i];rw[World.size_alloc] at h;exact h
 have HE:=hid (show(⟨#[98,105,108,108]⟩:ByteArray)++bts (wsT [i])=bts (txt (.bill i)) by rw[show(⟨#[98,105,108,108]⟩:ByteArray)=bts [98,105,108,108] from rfl,ba_app];rfl);have HW:Hid (Calls Tryz.prog 152 #[.string ⟨#[98,105,108,108]⟩,.slice (some ⟨w.heap.size+1,0,none⟩) 1 1] ((w.alloc (.cells #[.int .i64 i] 243)).alloc (.cells #[.int .i64 i] 3)) (fun e w'=>e=.returned (.string (bts (txt (.bill i))))∧Below ((w.alloc (.cells #[.int .i64 i] 243)).alloc (.cells #[.int .i64 i] 3)).heap.size ((w.alloc (.cells #[.int .i64 i] 243)).alloc (.cells #[.int .i64 i] 3)) w')):=hid (by rw[←HE.out];exact f_words ⟨#[98,105,108,108]⟩ _ [i] 1 _ (by decide) (by simp) (fun x hx=>by simp at hx;subst hx;exact bi) (hL.on B1) hr);clear hr HE;go_enter Tryz.func335,Tryz.ntmps335
 go_wp2_with (go_at_call 152;((with_reducible refine HW.out.mono ?_);rintro e w3 ⟨rfl,hb3⟩))
 go_ret;exact⟨rfl,below_tr B1 hb3⟩
theorem t_up (i m:Int) (w:World) (bi:-9223372036854775808<=i∧i<=9223372036854775807) (bm:-9223372036854775808<=m∧m<=9223372036854775807) (hL:LdW w):
  Calls Tryz.prog 312 #[.agg #[.int .i64 i,.int .i64 m]] w fun e w'=>e=.returned (.string (bts (txt (.up i m))))∧Below w.heap.size w w':=by
 have B0:=bl_alloc (below_refl w) (.cells #[.int .i64 i,.int .i64 m] 195);have B1:=bl_alloc B0 (.cells #[.int .i64 i,.int .i64 m] 3);have hr:Rd zC 1 ((w.alloc (.cells #[.int .i64 i,.int .i64 m] 195)).alloc (.cells #[.int .i64 i,.int .i64 m] 3)) (some ⟨w.heap.size+1,0,none⟩) [i,m]:=by
  have h:=rd_new (w.alloc (.cells #[.int .i64 i,.int .i64 m] 195)) [i,m];rw[World.size_alloc] at h;exact h
 have HE:=hid (show(⟨#[117,112]⟩:ByteArray)++bts (wsT [i,m])=bts (txt (.up i m)) by rw[show(⟨#[117,112]⟩:ByteArray)=bts [117,112] from rfl,ba_app];rfl);have HW:Hid (Calls Tryz.prog 152 #[.string ⟨#[117,112]⟩,.slice (some ⟨w.heap.size+1,0,none⟩) 2 2] ((w.alloc (.cells #[.int .i64 i,.int .i64 m] 195)).alloc (.cells #[.int .i64 i,.int .i64 m] 3)) (fun e w'=>e=.returned (.string (bts (txt (.up i m))))∧Below ((w.alloc (.cells #[.int .i64 i,.int .i64 m] 195)).alloc (.cells #[.int .i64 i,.int .i64 m] 3)).heap.size ((w.alloc (.cells #[.int .i64 i,.int .i64 m] 195)).alloc (.cells #[.int .i64 i,.int .i64 m] 3)) w')):=hid (by rw[←HE.out];exact f_words ⟨#[117,112]⟩ _ [i,m] 2 _ (by decide) (by simp) (fun x hx=>by simp at hx;rcases hx with rfl|rfl;exact bi;exact bm) (hL.on B1) hr);clear hr HE;go_enter Tryz.func312,Tryz.ntmps312
 go_wp2_with (go_at_call 152;((with_reducible refine HW.out.mono ?_);rintro e w3 ⟨rfl,hb3⟩))
 go_ret;exact⟨rfl,below_tr B1 hb3⟩
theorem t_down (i m:Int) (w:World) (bi:-9223372036854775808<=i∧i<=9223372036854775807) (bm:-9223372036854775808<=m∧m<=9223372036854775807) (hL:LdW w):
  Calls Tryz.prog 314 #[.agg #[.int .i64 i,.int .i64 m]] w fun e w'=>e=.returned (.string (bts (txt (.down i m))))∧Below w.heap.size w w':=by
 have B0:=bl_alloc (below_refl w) (.cells #[.int .i64 i,.int .i64 m] 196);have B1:=bl_alloc B0 (.cells #[.int .i64 i,.int .i64 m] 3);have hr:Rd zC 1 ((w.alloc (.cells #[.int .i64 i,.int .i64 m] 196)).alloc (.cells #[.int .i64 i,.int .i64 m] 3)) (some ⟨w.heap.size+1,0,none⟩) [i,m]:=by
  have h:=rd_new (w.alloc (.cells #[.int .i64 i,.int .i64 m] 196)) [i,m];rw[World.size_alloc] at h;exact h
 have HE:=hid (show(⟨#[100,111,119,110]⟩:ByteArray)++bts (wsT [i,m])=bts (txt (.down i m)) by rw[show(⟨#[100,111,119,110]⟩:ByteArray)=bts [100,111,119,110] from rfl,ba_app];rfl);have HW:Hid (Calls Tryz.prog 152 #[.string ⟨#[100,111,119,110]⟩,.slice (some ⟨w.heap.size+1,0,none⟩) 2 2] ((w.alloc (.cells #[.int .i64 i,.int .i64 m] 196)).alloc (.cells #[.int .i64 i,.int .i64 m] 3)) (fun e w'=>e=.returned (.string (bts (txt (.down i m))))∧Below ((w.alloc (.cells #[.int .i64 i,.int .i64 m] 196)).alloc (.cells #[.int .i64 i,.int .i64 m] 3)).heap.size ((w.alloc (.cells #[.int .i64 i,.int .i64 m] 196)).alloc (.cells #[.int .i64 i,.int .i64 m] 3)) w')):=hid (by rw[←HE.out];exact f_words ⟨#[100,111,119,110]⟩ _ [i,m] 2 _ (by decide) (by simp) (fun x hx=>by simp at hx;rcases hx with rfl|rfl;exact bi;exact bm) (hL.on B1) hr);clear hr HE;go_enter Tryz.func314,Tryz.ntmps314
 go_wp2_with (go_at_call 152;((with_reducible refine HW.out.mono ?_);rintro e w3 ⟨rfl,hb3⟩))
 go_ret;exact⟨rfl,below_tr B1 hb3⟩
theorem t_day (w:World):Calls Tryz.prog 271 #[.agg #[]] w fun e w'=>e=.returned (.string (bts (txt .day)))∧Below w.heap.size w w':=by
 go_enter Tryz.func271,Tryz.ntmps271
 go_wp2;go_ret;exact⟨rfl,bl⟩
theorem t_look (m:ByteArray) (w:World) (hm:m.size<=1000000000):Calls Tryz.prog 286 #[.agg #[.string m]] w fun e w'=>e=.returned (.string (bts (txt (.look m))))∧Below w.heap.size w w':=by
 have HE:=hid (show bts (txt (.look m))=(⟨#[108,111,111,107,32]⟩:ByteArray)++m by
  rw[show(⟨#[108,111,111,107,32]⟩:ByteArray)=bts [108,111,111,107,32] from rfl];conv=>rhs;rw[←list_bts m]
  rw[ba_app];rfl)
 have z1:¬9223372036854775807<5+m.size:=by omega
 rw[HE.out];go_enter Tryz.func286,Tryz.ntmps286
 go_wp2;go_ret;exact⟨rfl,bl⟩
theorem t_call (m:ByteArray) (w:World) (hm:m.size<=1000000000):Calls Tryz.prog 289 #[.agg #[.string m]] w fun e w'=>e=.returned (.string (bts (txt (.call m))))∧Below w.heap.size w w':=by
 have HE:=hid (show bts (txt (.call m))=(⟨#[99,97,108,108,32]⟩:ByteArray)++m by
  rw[show(⟨#[99,97,108,108,32]⟩:ByteArray)=bts [99,97,108,108,32] from rfl];conv=>rhs;rw[←list_bts m]
  rw[ba_app];rfl)
 have z1:¬9223372036854775807<5+m.size:=by omega
 rw[HE.out];go_enter Tryz.func289,Tryz.ntmps289
 go_wp2;go_ret;exact⟨rfl,bl⟩
def CloP {α:Type} (enc:α->List Value) (sz:Nat) (t:TypeId) (l:List α) (w:World) (e:Ending) (w':World):Prop:=
 ∃y:Sl α,e=.returned y.v∧y.l=l∧w'.ownsRow w.heap.size t sz y.v y.l.length (fl enc y.l)∧y.l.length<=y.c∧y.c<=maxLen∧Below w.heap.size w w'
theorem got_own {α:Type} {enc:α->List Value} {sz base:Nat} {W:World} {e:TypeId} {y:Sl α} {T:Nat->Prop} (hs:∀a,(enc a).length=sz) (h:W.ownsRow base e sz y.v y.l.length (fl enc y.l)) (hT:∀b,base<=b->b<W.heap.size->T b):Got T W enc sz y:=by
 have hc:=own_caps h;refine⟨own_rd' hs h,fun hne a ha=>?_,hc.1,hc.2⟩;obtain⟨b,off,e',hb,_⟩:=own_rd' hs h hne;rw[e'] at ha;cases ha;have:=own_ge h b (by show(Value.slice y.a _ _).ownBlock=_;rw[e'];rfl);exact hT b this.1 this.2
theorem info_Item:∃i:TypeInfo,Tryz.prog.info? 67=some i∧i.zero=some (.agg #[.string ByteArray.empty,.int .i64 0,.int .i64 0,.string ByteArray.empty])∧i.size=4∧i.bytes=48:=info_parts (by kernel_rfl)
theorem c_CloneItem (x:Sl G.It) (w:World) (hl:x.l.length<=100000) (hR:Rd G.It.cs 4 w x.a x.l):
  Calls Tryz.prog 23 #[.slice x.a x.l.length x.c] w (CloP G.It.cs 4 67 x.l w):=by
 obtain⟨i0,hi,hi1,hi2,hi3⟩:=info_Item;have hq:∀(w:World) (a:Option Addr) (n c n' c':Nat),(binOp .eql 26 (.slice a n c) (.slice none n' c')).run Tryz.prog w=.ok (.bool a.isNone) w:=fun w a n c n' c'=>Lib.run_eql_slice_nil w _ _ a n c n' c' Tryz.underlying26;obtain⟨A,l,c⟩:=x;dsimp only at *;cases A with
 |none=>
  have h0:l=[]:=by
   by_cases h:l=[]
   ·exact h
   ·obtain⟨_,_,e,_⟩:=hR h;cases e
  subst h0;go_enter Tryz.func23,Tryz.ntmps23
  go_wp2;go_ret;exact⟨⟨none,[],0⟩,rfl,rfl,World.ownsRow_nil w _ _ _,Nat.le_refl _,by simp,below_refl _⟩
 |some a=>
  have hcl:∀j u,(fl G.It.cs l)[j]?=some u->(w.alloc (.cells #[] 67)).cell? (a.add j)=some u:=by
   have hR:=hR.on (bl_alloc (below_refl w) (.cells #[] 67));by_cases h0:l=[]
   ·subst h0;intro j u hj;simp[fl] at hj
   ·obtain⟨b,off,e,hb,hc⟩:=hR h0;cases e;exact rd_fl (enc:=G.It.cs) (sz:=4) (fun _=>rfl) hR
  have hone:∀u∈fl G.It.cs l,u.oneCell'=true:=fun u hu=>by
   unfold fl at hu;obtain⟨y,_,hu⟩:=List.mem_flatMap.1 hu;simp[G.It.cs] at hu;rcases hu with rfl|rfl|rfl|rfl<;>rfl
  have hlen:=fl_length (enc:=G.It.cs) (sz:=4) (fun _=>rfl) l;go_enter Tryz.func23,Tryz.ntmps23
  go_wp2_with (at_builtin;refine wpList_append_own _ rfl _ _ 26 rfl w.heap.size 67 i0 (.agg #[.string ByteArray.empty,.int .i64 0,.int .i64 0,.string ByteArray.empty]) 4 48 (by kernel_rfl) hi hi1 hi2 hi3 rfl (by omega) _ _ _ rfl (World.ownsRow_made w #[] 0 (Nat.le_refl _) (Nat.zero_le _) (by simp)) a l.length c (fl G.It.cs l) rfl hlen hcl hone (by first|omega|(unfold maxLen;omega)|(simp;done)|(simp;omega)) (by first|omega|(unfold maxLen;omega)|(simp;done)|(simp;omega)) (by first|omega|(unfold maxLen;omega)|(simp;done)|(simp;omega)) ?_;intro v4 w4 hown4 hgrow4 _)
  have own4:w4.ownsRow w.heap.size 67 4 v4 l.length (fl G.It.cs l):=by simpa using hown4
  obtain⟨ad,cp,rfl⟩:=own_slice own4;have hc:=own_caps own4;have B4:Below w.heap.size w w4:=bl_grown (bl_alloc (below_refl w) (.cells #[] 67)) hgrow4 (fun r h=>Nat.le_of_eq (Option.some.inj (show some w.heap.size=some r from h))) (by simp);go_wp2;go_ret;exact⟨⟨ad,l,cp⟩,rfl,rfl,own4,hc.1,hc.2,B4⟩
theorem info_Link:∃i:TypeInfo,Tryz.prog.info? 104=some i∧i.zero=some (.agg #[.string ByteArray.empty,.int .i64 0])∧i.size=2∧i.bytes=24:=info_parts (by kernel_rfl)
theorem c_CloneLink (x:Sl G.Lk) (w:World) (hl:x.l.length<=100000) (hR:Rd G.Lk.cs 2 w x.a x.l):
  Calls Tryz.prog 105 #[.slice x.a x.l.length x.c] w (CloP G.Lk.cs 2 104 x.l w):=by
 obtain⟨i0,hi,hi1,hi2,hi3⟩:=info_Link;have hq:∀(w:World) (a:Option Addr) (n c n' c':Nat),(binOp .eql 99 (.slice a n c) (.slice none n' c')).run Tryz.prog w=.ok (.bool a.isNone) w:=fun w a n c n' c'=>Lib.run_eql_slice_nil w _ _ a n c n' c' Tryz.underlying99;obtain⟨A,l,c⟩:=x;dsimp only at *;cases A with
 |none=>
  have h0:l=[]:=by
   by_cases h:l=[]
   ·exact h
   ·obtain⟨_,_,e,_⟩:=hR h;cases e
  subst h0;go_enter Tryz.func105,Tryz.ntmps105
  go_wp2;go_ret;exact⟨⟨none,[],0⟩,rfl,rfl,World.ownsRow_nil w _ _ _,Nat.le_refl _,by simp,below_refl _⟩
 |some a=>
  have hcl:∀j u,(fl G.Lk.cs l)[j]?=some u->(w.alloc (.cells #[] 104)).cell? (a.add j)=some u:=by
   have hR:=hR.on (bl_alloc (below_refl w) (.cells #[] 104));by_cases h0:l=[]
   ·subst h0;intro j u hj;simp[fl] at hj
   ·obtain⟨b,off,e,hb,hc⟩:=hR h0;cases e;exact rd_fl (enc:=G.Lk.cs) (sz:=2) (fun _=>rfl) hR
  have hone:∀u∈fl G.Lk.cs l,u.oneCell'=true:=fun u hu=>by
   unfold fl at hu;obtain⟨y,_,hu⟩:=List.mem_flatMap.1 hu;simp[G.Lk.cs] at hu;rcases hu with rfl|rfl<;>rfl
  have hlen:=fl_length (enc:=G.Lk.cs) (sz:=2) (fun _=>rfl) l;go_enter Tryz.func105,Tryz.ntmps105
  go_wp2_with (at_builtin;refine wpList_append_own _ rfl _ _ 99 rfl w.heap.size 104 i0 (.agg #[.string ByteArray.empty,.int .i64 0]) 2 24 (by kernel_rfl) hi hi1 hi2 hi3 rfl (by omega) _ _ _ rfl (World.ownsRow_made w #[] 0 (Nat.le_refl _) (Nat.zero_le _) (by simp)) a l.length c (fl G.Lk.cs l) rfl hlen hcl hone (by first|omega|(unfold maxLen;omega)|(simp;done)|(simp;omega)) (by first|omega|(unfold maxLen;omega)|(simp;done)|(simp;omega)) (by first|omega|(unfold maxLen;omega)|(simp;done)|(simp;omega)) ?_;intro v4 w4 hown4 hgrow4 _)
  have own4:w4.ownsRow w.heap.size 104 2 v4 l.length (fl G.Lk.cs l):=by simpa using hown4
  obtain⟨ad,cp,rfl⟩:=own_slice own4;have hc:=own_caps own4;have B4:Below w.heap.size w w4:=bl_grown (bl_alloc (below_refl w) (.cells #[] 104)) hgrow4 (fun r h=>Nat.le_of_eq (Option.some.inj (show some w.heap.size=some r from h))) (by simp);go_wp2;go_ret;exact⟨⟨ad,l,cp⟩,rfl,rfl,own4,hc.1,hc.2,B4⟩
theorem info_Int:∃i:TypeInfo,Tryz.prog.info? 3=some i∧i.zero=some (.int .i64 0)∧i.size=1∧i.bytes=8:=info_parts (by kernel_rfl)
theorem c_CloneInt (x:Sl Int) (w:World) (hl:x.l.length<=100000) (hR:Rd zC 1 w x.a x.l):
  Calls Tryz.prog 107 #[.slice x.a x.l.length x.c] w (CloP zC 1 3 x.l w):=by
 obtain⟨i0,hi,hi1,hi2,hi3⟩:=info_Int;have hq:∀(w:World) (a:Option Addr) (n c n' c':Nat),(binOp .eql 40 (.slice a n c) (.slice none n' c')).run Tryz.prog w=.ok (.bool a.isNone) w:=fun w a n c n' c'=>Lib.run_eql_slice_nil w _ _ a n c n' c' Tryz.underlying40;obtain⟨A,l,c⟩:=x;dsimp only at *;cases A with
 |none=>
  have h0:l=[]:=by
   by_cases h:l=[]
   ·exact h
   ·obtain⟨_,_,e,_⟩:=hR h;cases e
  subst h0;go_enter Tryz.func107,Tryz.ntmps107
  go_wp2;go_ret;exact⟨⟨none,[],0⟩,rfl,rfl,World.ownsRow_nil w _ _ _,Nat.le_refl _,by simp,below_refl _⟩
 |some a=>
  have hcl:∀j u,(fl zC l)[j]?=some u->(w.alloc (.cells #[] 3)).cell? (a.add j)=some u:=by
   have hR:=hR.on (bl_alloc (below_refl w) (.cells #[] 3));by_cases h0:l=[]
   ·subst h0;intro j u hj;simp[fl] at hj
   ·obtain⟨b,off,e,hb,hc⟩:=hR h0;cases e;exact rd_fl (enc:=zC) (sz:=1) (fun _=>rfl) hR
  have hone:∀u∈fl zC l,u.oneCell'=true:=fun u hu=>by
   unfold fl at hu;obtain⟨y,_,hu⟩:=List.mem_flatMap.1 hu;simp[zC] at hu;subst hu;rfl
  have hlen:=fl_length (enc:=zC) (sz:=1) (fun _=>rfl) l;go_enter Tryz.func107,Tryz.ntmps107
  go_wp2_with (at_builtin;refine wpList_append_own _ rfl _ _ 40 rfl w.heap.size 3 i0 (.int .i64 0) 1 8 (by kernel_rfl) hi hi1 hi2 hi3 rfl (by omega) _ _ _ rfl (World.ownsRow_made w #[] 0 (Nat.le_refl _) (Nat.zero_le _) (by simp)) a l.length c (fl zC l) rfl hlen hcl hone (by first|omega|(unfold maxLen;omega)|(simp;done)|(simp;omega)) (by first|omega|(unfold maxLen;omega)|(simp;done)|(simp;omega)) (by first|omega|(unfold maxLen;omega)|(simp;done)|(simp;omega)) ?_;intro v4 w4 hown4 hgrow4 _)
  have own4:w4.ownsRow w.heap.size 3 1 v4 l.length (fl zC l):=by simpa using hown4
  obtain⟨ad,cp,rfl⟩:=own_slice own4;have hc:=own_caps own4;have B4:Below w.heap.size w w4:=bl_grown (bl_alloc (below_refl w) (.cells #[] 3)) hgrow4 (fun r h=>Nat.le_of_eq (Option.some.inj (show some w.heap.size=some r from h))) (by simp);go_wp2;go_ret;exact⟨⟨ad,l,cp⟩,rfl,rfl,own4,hc.1,hc.2,B4⟩
theorem info_Str:∃i:TypeInfo,Tryz.prog.info? 9=some i∧i.zero=some (.string ByteArray.empty)∧i.size=1∧i.bytes=16:=info_parts (by kernel_rfl)
theorem c_CloneStr (x:Sl ByteArray) (w:World) (hl:x.l.length<=100000) (hR:Rd G.sC 1 w x.a x.l):
  Calls Tryz.prog 108 #[.slice x.a x.l.length x.c] w (CloP G.sC 1 9 x.l w):=by
 obtain⟨i0,hi,hi1,hi2,hi3⟩:=info_Str;have hq:∀(w:World) (a:Option Addr) (n c n' c':Nat),(binOp .eql 43 (.slice a n c) (.slice none n' c')).run Tryz.prog w=.ok (.bool a.isNone) w:=fun w a n c n' c'=>Lib.run_eql_slice_nil w _ _ a n c n' c' Tryz.underlying43;obtain⟨A,l,c⟩:=x;dsimp only at *;cases A with
 |none=>
  have h0:l=[]:=by
   by_cases h:l=[]
   ·exact h
   ·obtain⟨_,_,e,_⟩:=hR h;cases e
  subst h0;go_enter Tryz.func108,Tryz.ntmps108
  go_wp2;go_ret;exact⟨⟨none,[],0⟩,rfl,rfl,World.ownsRow_nil w _ _ _,Nat.le_refl _,by simp,below_refl _⟩
 |some a=>
  have hcl:∀j u,(fl G.sC l)[j]?=some u->(w.alloc (.cells #[] 9)).cell? (a.add j)=some u:=by
   have hR:=hR.on (bl_alloc (below_refl w) (.cells #[] 9));by_cases h0:l=[]
   ·subst h0;intro j u hj;simp[fl] at hj
   ·obtain⟨b,off,e,hb,hc⟩:=hR h0;cases e;exact rd_fl (enc:=G.sC) (sz:=1) (fun _=>rfl) hR
  have hone:∀u∈fl G.sC l,u.oneCell'=true:=fun u hu=>by
   unfold fl at hu;obtain⟨y,_,hu⟩:=List.mem_flatMap.1 hu;simp[G.sC] at hu;subst hu;rfl
  have hlen:=fl_length (enc:=G.sC) (sz:=1) (fun _=>rfl) l;go_enter Tryz.func108,Tryz.ntmps108
  go_wp2_with (at_builtin;refine wpList_append_own _ rfl _ _ 43 rfl w.heap.size 9 i0 (.string ByteArray.empty) 1 16 (by kernel_rfl) hi hi1 hi2 hi3 rfl (by omega) _ _ _ rfl (World.ownsRow_made w #[] 0 (Nat.le_refl _) (Nat.zero_le _) (by simp)) a l.length c (fl G.sC l) rfl hlen hcl hone (by first|omega|(unfold maxLen;omega)|(simp;done)|(simp;omega)) (by first|omega|(unfold maxLen;omega)|(simp;done)|(simp;omega)) (by first|omega|(unfold maxLen;omega)|(simp;done)|(simp;omega)) ?_;intro v4 w4 hown4 hgrow4 _)
  have own4:w4.ownsRow w.heap.size 9 1 v4 l.length (fl G.sC l):=by simpa using hown4
  obtain⟨ad,cp,rfl⟩:=own_slice own4;have hc:=own_caps own4;have B4:Below w.heap.size w w4:=bl_grown (bl_alloc (below_refl w) (.cells #[] 9)) hgrow4 (fun r h=>Nat.le_of_eq (Option.some.inj (show some w.heap.size=some r from h))) (by simp);go_wp2;go_ret;exact⟨⟨ad,l,cp⟩,rfl,rfl,own4,hc.1,hc.2,B4⟩
theorem info_Entry:∃i:TypeInfo,Tryz.prog.info? 62=some i∧i.zero=some (.agg #[.int .i64 0,.int .i64 0,.string ByteArray.empty,.int .u64 0])∧i.size=4∧i.bytes=40:=info_parts (by kernel_rfl)
theorem info_Course:∃i:TypeInfo,Tryz.prog.info? 115=some i∧i.zero=some (.agg #[.int .i64 0,.int .i64 0,.int .i64 0,.int .i64 0,.int .i64 0,.int .i64 0])∧i.size=6∧i.bytes=48:=info_parts (by kernel_rfl)
theorem c_CloneCourse (x:Sl S.Course) (w:World) (hl:x.l.length<=100000) (hR:Rd S.Course.cs 6 w x.a x.l):
  Calls Tryz.prog 135 #[.slice x.a x.l.length x.c] w (CloP S.Course.cs 6 115 x.l w):=by
 obtain⟨i0,hi,hi1,hi2,hi3⟩:=info_Course;have hq:∀(w:World) (a:Option Addr) (n c n' c':Nat),(binOp .eql 64 (.slice a n c) (.slice none n' c')).run Tryz.prog w=.ok (.bool a.isNone) w:=fun w a n c n' c'=>Lib.run_eql_slice_nil w _ _ a n c n' c' Tryz.underlying64;obtain⟨A,l,c⟩:=x;dsimp only at *;cases A with
 |none=>
  have h0:l=[]:=by
   by_cases h:l=[]
   ·exact h
   ·obtain⟨_,_,e,_⟩:=hR h;cases e
  subst h0;go_enter Tryz.func135,Tryz.ntmps135
  go_wp2;go_ret;exact⟨⟨none,[],0⟩,rfl,rfl,World.ownsRow_nil w _ _ _,Nat.le_refl _,by simp,below_refl _⟩
 |some a=>
  have hcl:∀j u,(fl S.Course.cs l)[j]?=some u->(w.alloc (.cells #[] 115)).cell? (a.add j)=some u:=by
   have hR:=hR.on (bl_alloc (below_refl w) (.cells #[] 115));by_cases h0:l=[]
   ·subst h0;intro j u hj;simp[fl] at hj
   ·obtain⟨b,off,e,hb,hc⟩:=hR h0;cases e;exact rd_fl (enc:=S.Course.cs) (sz:=6) (fun _=>rfl) hR
  have hone:∀u∈fl S.Course.cs l,u.oneCell'=true:=fun u hu=>by
   unfold fl at hu;obtain⟨y,_,hu⟩:=List.mem_flatMap.1 hu;simp[S.Course.cs] at hu;rcases hu with rfl|rfl|rfl|rfl|rfl|rfl<;>rfl
  have hlen:=fl_length (enc:=S.Course.cs) (sz:=6) (fun _=>rfl) l;go_enter Tryz.func135,Tryz.ntmps135
  go_wp2_with (at_builtin;refine wpList_append_own _ rfl _ _ 64 rfl w.heap.size 115 i0 (.agg #[.int .i64 0,.int .i64 0,.int .i64 0,.int .i64 0,.int .i64 0,.int .i64 0]) 6 48 (by kernel_rfl) hi hi1 hi2 hi3 rfl (by omega) _ _ _ rfl (World.ownsRow_made w #[] 0 (Nat.le_refl _) (Nat.zero_le _) (by simp)) a l.length c (fl S.Course.cs l) rfl hlen hcl hone (by first|omega|(unfold maxLen;omega)|(simp;done)|(simp;omega)) (by first|omega|(unfold maxLen;omega)|(simp;done)|(simp;omega)) (by first|omega|(unfold maxLen;omega)|(simp;done)|(simp;omega)) ?_;intro v4 w4 hown4 hgrow4 _)
  have own4:w4.ownsRow w.heap.size 115 6 v4 l.length (fl S.Course.cs l):=by simpa using hown4
  obtain⟨ad,cp,rfl⟩:=own_slice own4;have hc:=own_caps own4;have B4:Below w.heap.size w w4:=bl_grown (bl_alloc (below_refl w) (.cells #[] 115)) hgrow4 (fun r h=>Nat.le_of_eq (Option.some.inj (show some w.heap.size=some r from h))) (by simp);go_wp2;go_ret;exact⟨⟨ad,l,cp⟩,rfl,rfl,own4,hc.1,hc.2,B4⟩
theorem info_Joint:∃i:TypeInfo,Tryz.prog.info? 144=some i∧i.zero=some (.agg #[.int .i64 0,.bool false])∧i.size=2∧i.bytes=16:=info_parts (by kernel_rfl)
theorem c_CloneJoint (x:Sl Jt) (w:World) (hl:x.l.length<=100000) (hR:Rd Jt.cs 2 w x.a x.l):
  Calls Tryz.prog 136 #[.slice x.a x.l.length x.c] w (CloP Jt.cs 2 144 x.l w):=by
 obtain⟨i0,hi,hi1,hi2,hi3⟩:=info_Joint;have hq:∀(w:World) (a:Option Addr) (n c n' c':Nat),(binOp .eql 65 (.slice a n c) (.slice none n' c')).run Tryz.prog w=.ok (.bool a.isNone) w:=fun w a n c n' c'=>Lib.run_eql_slice_nil w _ _ a n c n' c' Tryz.underlying65;obtain⟨A,l,c⟩:=x;dsimp only at *;cases A with
 |none=>
  have h0:l=[]:=by
   by_cases h:l=[]
   ·exact h
   ·obtain⟨_,_,e,_⟩:=hR h;cases e
  subst h0;go_enter Tryz.func136,Tryz.ntmps136
  go_wp2;go_ret;exact⟨⟨none,[],0⟩,rfl,rfl,World.ownsRow_nil w _ _ _,Nat.le_refl _,by simp,below_refl _⟩
 |some a=>
  have hcl:∀j u,(fl Jt.cs l)[j]?=some u->(w.alloc (.cells #[] 144)).cell? (a.add j)=some u:=by
   have hR:=hR.on (bl_alloc (below_refl w) (.cells #[] 144));by_cases h0:l=[]
   ·subst h0;intro j u hj;simp[fl] at hj
   ·obtain⟨b,off,e,hb,hc⟩:=hR h0;cases e;exact rd_fl (enc:=Jt.cs) (sz:=2) (fun _=>rfl) hR
  have hone:∀u∈fl Jt.cs l,u.oneCell'=true:=fun u hu=>by
   unfold fl at hu;obtain⟨y,_,hu⟩:=List.mem_flatMap.1 hu;simp[Jt.cs] at hu;rcases hu with rfl|rfl<;>rfl
  have hlen:=fl_length (enc:=Jt.cs) (sz:=2) (fun _=>rfl) l;go_enter Tryz.func136,Tryz.ntmps136
  go_wp2_with (at_builtin;refine wpList_append_own _ rfl _ _ 65 rfl w.heap.size 144 i0 (.agg #[.int .i64 0,.bool false]) 2 16 (by kernel_rfl) hi hi1 hi2 hi3 rfl (by omega) _ _ _ rfl (World.ownsRow_made w #[] 0 (Nat.le_refl _) (Nat.zero_le _) (by simp)) a l.length c (fl Jt.cs l) rfl hlen hcl hone (by first|omega|(unfold maxLen;omega)|(simp;done)|(simp;omega)) (by first|omega|(unfold maxLen;omega)|(simp;done)|(simp;omega)) (by first|omega|(unfold maxLen;omega)|(simp;done)|(simp;omega)) ?_;intro v4 w4 hown4 hgrow4 _)
  have own4:w4.ownsRow w.heap.size 144 2 v4 l.length (fl Jt.cs l):=by simpa using hown4
  obtain⟨ad,cp,rfl⟩:=own_slice own4;have hc:=own_caps own4;have B4:Below w.heap.size w w4:=bl_grown (bl_alloc (below_refl w) (.cells #[] 144)) hgrow4 (fun r h=>Nat.le_of_eq (Option.some.inj (show some w.heap.size=some r from h))) (by simp);go_wp2;go_ret;exact⟨⟨ad,l,cp⟩,rfl,rfl,own4,hc.1,hc.2,B4⟩
theorem info_Rig:∃i:TypeInfo,Tryz.prog.info? 101=some i∧i.zero=some (.agg #[.int .i64 0,.slice none 0 0])∧i.size=2∧i.bytes=32:=info_parts (by kernel_rfl)
theorem c_CloneRig (x:Sl LRg) (w:World) (hl:x.l.length<=100000) (hR:Rd LRg.cs 2 w x.a x.l):
  Calls Tryz.prog 132 #[.slice x.a x.l.length x.c] w (CloP LRg.cs 2 101 x.l w):=by
 obtain⟨i0,hi,hi1,hi2,hi3⟩:=info_Rig;have hq:∀(w:World) (a:Option Addr) (n c n' c':Nat),(binOp .eql 71 (.slice a n c) (.slice none n' c')).run Tryz.prog w=.ok (.bool a.isNone) w:=fun w a n c n' c'=>Lib.run_eql_slice_nil w _ _ a n c n' c' Tryz.underlying71;obtain⟨A,l,c⟩:=x;dsimp only at *;cases A with
 |none=>
  have h0:l=[]:=by
   by_cases h:l=[]
   ·exact h
   ·obtain⟨_,_,e,_⟩:=hR h;cases e
  subst h0;go_enter Tryz.func132,Tryz.ntmps132
  go_wp2;go_ret;exact⟨⟨none,[],0⟩,rfl,rfl,World.ownsRow_nil w _ _ _,Nat.le_refl _,by simp,below_refl _⟩
 |some a=>
  have hcl:∀j u,(fl LRg.cs l)[j]?=some u->(w.alloc (.cells #[] 101)).cell? (a.add j)=some u:=by
   have hR:=hR.on (bl_alloc (below_refl w) (.cells #[] 101));by_cases h0:l=[]
   ·subst h0;intro j u hj;simp[fl] at hj
   ·obtain⟨b,off,e,hb,hc⟩:=hR h0;cases e;exact rd_fl (enc:=LRg.cs) (sz:=2) (fun _=>rfl) hR
  have hone:∀u∈fl LRg.cs l,u.oneCell'=true:=fun u hu=>by
   unfold fl at hu;obtain⟨y,_,hu⟩:=List.mem_flatMap.1 hu;simp[LRg.cs] at hu;rcases hu with rfl|rfl<;>rfl
  have hlen:=fl_length (enc:=LRg.cs) (sz:=2) (fun _=>rfl) l;go_enter Tryz.func132,Tryz.ntmps132
  go_wp2_with (at_builtin;refine wpList_append_own _ rfl _ _ 71 rfl w.heap.size 101 i0 (.agg #[.int .i64 0,.slice none 0 0]) 2 32 (by kernel_rfl) hi hi1 hi2 hi3 rfl (by omega) _ _ _ rfl (World.ownsRow_made w #[] 0 (Nat.le_refl _) (Nat.zero_le _) (by simp)) a l.length c (fl LRg.cs l) rfl hlen hcl hone (by first|omega|(unfold maxLen;omega)|(simp;done)|(simp;omega)) (by first|omega|(unfold maxLen;omega)|(simp;done)|(simp;omega)) (by first|omega|(unfold maxLen;omega)|(simp;done)|(simp;omega)) ?_;intro v4 w4 hown4 hgrow4 _)
  have own4:w4.ownsRow w.heap.size 101 2 v4 l.length (fl LRg.cs l):=by simpa using hown4
  obtain⟨ad,cp,rfl⟩:=own_slice own4;have hc:=own_caps own4;have B4:Below w.heap.size w w4:=bl_grown (bl_alloc (below_refl w) (.cells #[] 101)) hgrow4 (fun r h=>Nat.le_of_eq (Option.some.inj (show some w.heap.size=some r from h))) (by simp);go_wp2;go_ret;exact⟨⟨ad,l,cp⟩,rfl,rfl,own4,hc.1,hc.2,B4⟩
theorem info_Site:∃i:TypeInfo,Tryz.prog.info? 108=some i∧i.zero=some (.agg #[.slice none 0 0,.bool false,.int .i64 0])∧i.size=3∧i.bytes=40:=info_parts (by kernel_rfl)
theorem c_CloneSite (x:Sl LSi) (w:World) (hl:x.l.length<=100000) (hR:Rd LSi.cs 3 w x.a x.l):
  Calls Tryz.prog 133 #[.slice x.a x.l.length x.c] w (CloP LSi.cs 3 108 x.l w):=by
 obtain⟨i0,hi,hi1,hi2,hi3⟩:=info_Site;have hq:∀(w:World) (a:Option Addr) (n c n' c':Nat),(binOp .eql 69 (.slice a n c) (.slice none n' c')).run Tryz.prog w=.ok (.bool a.isNone) w:=fun w a n c n' c'=>Lib.run_eql_slice_nil w _ _ a n c n' c' Tryz.underlying69;obtain⟨A,l,c⟩:=x;dsimp only at *;cases A with
 |none=>
  have h0:l=[]:=by
   by_cases h:l=[]
   ·exact h
   ·obtain⟨_,_,e,_⟩:=hR h;cases e
  subst h0;go_enter Tryz.func133,Tryz.ntmps133
  go_wp2;go_ret;exact⟨⟨none,[],0⟩,rfl,rfl,World.ownsRow_nil w _ _ _,Nat.le_refl _,by simp,below_refl _⟩
 |some a=>
  have hcl:∀j u,(fl LSi.cs l)[j]?=some u->(w.alloc (.cells #[] 108)).cell? (a.add j)=some u:=by
   have hR:=hR.on (bl_alloc (below_refl w) (.cells #[] 108));by_cases h0:l=[]
   ·subst h0;intro j u hj;simp[fl] at hj
   ·obtain⟨b,off,e,hb,hc⟩:=hR h0;cases e;exact rd_fl (enc:=LSi.cs) (sz:=3) (fun _=>rfl) hR
  have hone:∀u∈fl LSi.cs l,u.oneCell'=true:=fun u hu=>by
   unfold fl at hu;obtain⟨y,_,hu⟩:=List.mem_flatMap.1 hu;simp[LSi.cs] at hu;rcases hu with rfl|rfl|rfl<;>rfl
  have hlen:=fl_length (enc:=LSi.cs) (sz:=3) (fun _=>rfl) l;go_enter Tryz.func133,Tryz.ntmps133
  go_wp2_with (at_builtin;refine wpList_append_own _ rfl _ _ 69 rfl w.heap.size 108 i0 (.agg #[.slice none 0 0,.bool false,.int .i64 0]) 3 40 (by kernel_rfl) hi hi1 hi2 hi3 rfl (by omega) _ _ _ rfl (World.ownsRow_made w #[] 0 (Nat.le_refl _) (Nat.zero_le _) (by simp)) a l.length c (fl LSi.cs l) rfl hlen hcl hone (by first|omega|(unfold maxLen;omega)|(simp;done)|(simp;omega)) (by first|omega|(unfold maxLen;omega)|(simp;done)|(simp;omega)) (by first|omega|(unfold maxLen;omega)|(simp;done)|(simp;omega)) ?_;intro v4 w4 hown4 hgrow4 _)
  have own4:w4.ownsRow w.heap.size 108 3 v4 l.length (fl LSi.cs l):=by simpa using hown4
  obtain⟨ad,cp,rfl⟩:=own_slice own4;have hc:=own_caps own4;have B4:Below w.heap.size w w4:=bl_grown (bl_alloc (below_refl w) (.cells #[] 108)) hgrow4 (fun r h=>Nat.le_of_eq (Option.some.inj (show some w.heap.size=some r from h))) (by simp);go_wp2;go_ret;exact⟨⟨ad,l,cp⟩,rfl,rfl,own4,hc.1,hc.2,B4⟩
end Go.Proofs.YtjkkfcghkeoedaaGreatDoor.Fi
