/- The parts of the proof, part 23. -/
import Derived.Test.YtmjgljdmjpabdaaGreatDoorJ0
import Derived.Test.YtmjgljdmjpabdaaGreatDoorJ22
import Derived.Deep.DeepCutAuto
import Derived.Test.YtmjgljdmjpabdaaGreatDoorProg
import Derived.Recover
import Derived.Defers
import Derived.Laws.Pointers
set_option linter.unusedSimpArgs false
set_option linter.unusedVariables false
namespace Go.Proofs.YtmjgljdmjpabdaaGreatDoor.Fi
open Go.RowKit Go.Lib Tx
def sumS (b : Nat) (n d : Int) (t : ByteArray) : ByteArray := bts (decDigits b) ++ ⟨#[32]⟩ ++ bts (itoa n) ++ ⟨#[32]⟩ ++ bts (itoa d) ++ ⟨#[32]⟩ ++ t
theorem sumS_list (b : Nat) (n d : Int) (t : ByteArray) : (sumS b n d t).data.toList = decDigits b ++ 32 :: (nT n ++ 32 :: (nT d ++ 32 :: t.data.toList)) := by
 unfold sumS nT bts
 simp [ByteArray.data_append]
theorem dig_size {b : Nat} (h : b < 18446744073709551616) : (bts (decDigits b)).size ≤ 20 := by
 have e : (10 : Nat) ^ (19 + 1) = 100000000000000000000 := rfl
 have := decD_le (u := b) (k := 19) (by omega)
 rw [bts_size]; omega
set_option maxHeartbeats 4000000 in
set_option maxRecDepth 20000 in
theorem f_sumOf (b : Nat) (n d : Int) (t : ByteArray) (s : Int) (w : World) (hb : b < 18446744073709551616) (hn : I64 n) (hd : I64 d) (ht : t.size ≤ 1000000) (hL : LdW w) :
  Calls Tryz.prog 163 #[.int .u64 (b : Nat), .agg #[.int .i64 n, .int .i64 d, .string t, .int .u64 s]] w fun e w' => e = .returned (.int .u64 (sumL b n d t.data.toList : Nat)) ∧ Below w.heap.size w w' := by
 have HD := Lib.hid (fun W (h : Below w.heap.size w W) => f_digits b hb W (hL.on h).tab)
 have HI1 := Lib.hid (fun W (h : Below w.heap.size w W) => c_ItoaV n W hn.1 hn.2 (hL.on h).tab)
 have HI2 := Lib.hid (fun W (h : Below w.heap.size w W) => c_ItoaV d W hd.1 hd.2 (hL.on h).tab)
 have s1 := dig_size hb
 have s2 : (bts (itoa n)).size ≤ 21 := by have := itoa_len hn.1 hn.2; rw [bts_size]; omega
 have s3 : (bts (itoa d)).size ≤ 21 := by have := itoa_len hd.1 hd.2; rw [bts_size]; omega
 have hsz : (sumS b n d t).size ≤ 1000000000 := by unfold sumS; simp only [ByteArray.size_append]; show _ + 1 + _ + 1 + _ + 1 + _ ≤ _; omega
 have HH := Lib.hid (fun W => (show Calls Tryz.prog 197 #[.string (sumS b n d t)] W fun e w' => e = .returned (.int .u64 (sumL b n d t.data.toList : Nat)) ∧ W = w' by
  have := f_hash (sumS b n d t) W hsz
  rw [sumS_list] at this; exact this))
 have HSS := Lib.hid (show sumS b n d t = bts (decDigits b) ++ ⟨#[32]⟩ ++ bts (itoa n) ++ ⟨#[32]⟩ ++ bts (itoa d) ++ ⟨#[32]⟩ ++ t from rfl)
 rw [HSS.out] at HH
 clear HSS hsz
 have x0 := Blk.new w 66 #[.int .i64 n, .int .i64 d, .string t, .int .u64 s]
 have B0 := bl_alloc (below_refl w) (.cells #[.int .i64 n, .int .i64 d, .string t, .int .u64 s] 66)
 have q0 := x0.cell 0
 have q1 := x0.cell 1
 have q2 := x0.cell 2
 simp only [GA] at q0 q1 q2
 have lw := x0.lt
 generalize sumL b n d t.data.toList = R at *
 generalize bts (itoa n) = S1 at *
 generalize bts (itoa d) = S2 at *
 generalize bts (decDigits b) = D at *
 have z1 : ¬ 9223372036854775807 < D.size + 1 := by omega
 have z2 : ¬ 9223372036854775807 < D.size + 1 + S1.size := by omega
 have z3 : ¬ 9223372036854775807 < D.size + 1 + S1.size + 1 := by omega
 have z4 : ¬ 9223372036854775807 < D.size + 1 + S1.size + 1 + S2.size := by omega
 have z5 : ¬ 9223372036854775807 < D.size + 1 + S1.size + 1 + S2.size + 1 := by omega
 have z6 : ¬ 9223372036854775807 < D.size + 1 + S1.size + 1 + S2.size + 1 + t.size := by omega
 clear x0
 go_enter Tryz.func163, Tryz.ntmps163
 go_upto_region 1 with fail
 generalize (w.alloc (.cells #[.int .i64 n, .int .i64 d, .string t, .int .u64 s] 66)) = w1 at *
 refine wp_region_noPanic ?_
 refine wp_region_held_drew (S := (fun w' => (∀ b o, b < w1.heap.size → w'.cell? ⟨b, o, none⟩ = w1.cell? ⟨b, o, none⟩) ∧ (∀ b o, b < w1.heap.size → w'.frozen? ⟨b, o, none⟩ = w1.frozen? ⟨b, o, none⟩) ∧ Below w1.heap.size w1 w')) (by kernel_rfl) (kq_draw kq_refl) (fun hS0 => ?_)
 refine tk 0 5 ?gv1 rfl ?_; try simp only [AP]
 refine tk 3 8 ?gv2 rfl ?_; try simp only [AP]
 refine tk 4 9 ?gv3 rfl ?_; try simp only [AP]
 refine tk 8 13 ?gv4 rfl ?_; try simp only [AP]
 refine tk 9 14 ?gv5 rfl ?_; try simp only [AP]
 refine tk 13 18 ?gv6 rfl ?_; try simp only [AP]
 refine tk 14 19 ?gv7 rfl ?_; try simp only [AP]
 refine wpAnyH_ready (rs := [1]) (by kernel_rfl) (by simp) ?_
 refine AllReadyH.cons rfl (fun K hK => ?_) AllReadyH.nil
 go_simp
 (go_at_call 65; ((with_reducible refine (HD.out _ (below_tr B0 bl)).mono ?_); rintro e w3 ⟨rfl, hb3⟩; obtain ⟨hc3, hf3⟩ := bcell hb3; have hz3 := hb3.size; (try simp [SZ] at hz3); (try simp only [SZ] at hc3 hf3)))
 refine hK.out _ _ kq (fun hS1 => ?_)
 clear hK K
 try simp only [AP]
 refine tk 2 7 ?gv8 rfl ?_; try simp only [AP]
 refine wpAnyH_ready (rs := [5]) (by kernel_rfl) (by simp) ?_
 refine AllReadyH.cons rfl (fun K hK => ?_) AllReadyH.nil
 go_simp
 (go_at_call 64; ((with_reducible refine (HI1.out _ (below_tr B0 bl)).mono ?_); rintro e w4 ⟨rfl, hb4⟩; obtain ⟨hc4, hf4⟩ := bcell hb4; have hz4 := hb4.size; (try simp [SZ] at hz4); (try simp only [SZ] at hc4 hf4)))
 refine hK.out _ _ kq (fun hS2 => ?_)
 clear hK K
 try simp only [AP]
 refine tk 6 11 ?gv9 rfl ?_; try simp only [AP]
 refine tk 7 12 ?gv10 rfl ?_; try simp only [AP]
 refine wpAnyH_ready (rs := [10]) (by kernel_rfl) (by simp) ?_
 refine AllReadyH.cons rfl (fun K hK => ?_) AllReadyH.nil
 go_simp
 (go_at_call 64; ((with_reducible refine (HI2.out _ (below_tr B0 bl)).mono ?_); rintro e w5 ⟨rfl, hb5⟩; obtain ⟨hc5, hf5⟩ := bcell hb5; have hz5 := hb5.size; (try simp [SZ] at hz5); (try simp only [SZ] at hc5 hf5)))
 refine hK.out _ _ kq (fun hS3 => ?_)
 clear hK K
 try simp only [AP]
 refine tk 11 16 ?gv11 rfl ?_; try simp only [AP]
 refine tk 12 17 ?gv12 rfl ?_; try simp only [AP]
 refine tk 15 20 ?gv13 rfl ?_; try simp only [AP]
 refine wpAnyH_ready (rs := [16]) (by kernel_rfl) (by simp) ?_
 refine AllReadyH.cons rfl (fun K hK => ?_) AllReadyH.nil
 go_simp
 (go_at_call 197; ((with_reducible refine (HH.out _).mono ?_); rintro e w' ⟨rfl, rfl⟩))
 refine hK.out _ _ kq (fun hS4 => ?_)
 clear hK K
 try simp only [AP]
 refine tk 17 4 ?gv14 rfl ?_; try simp only [AP]
 refine wpAnyH_done (by kernel_rfl) (NoPanic.normal ?_) _
 go_wp2
 go_ret
 exact ⟨rfl, below_tr B0 bl⟩
theorem rdEn {w : World} {A : Option Addr} {l : List En} (h : Rd En.cs 4 w A l) {k : Nat} (hk : k < l.length) :
  ∃ x b off, l[k]? = some x ∧ A = some ⟨b, off, none⟩ ∧ b < w.heap.size ∧ w.cell? ⟨b, off + k * 4, none⟩ = some (.int .i64 x.n) ∧ w.cell? ⟨b, off + k * 4 + 1, none⟩ = some (.int .i64 x.d) ∧ w.cell? ⟨b, off + k * 4 + 2, none⟩ = some (.string x.t) ∧ w.cell? ⟨b, off + k * 4 + 3, none⟩ = some (.int .u64 (x.s : Nat)) := by
 obtain ⟨x, hx⟩ := get_lt hk
 obtain ⟨b, off, e, hb, hc⟩ := h.get hx
 exact ⟨x, b, off, hx, e, hb, hc 0 _ rfl, hc 1 _ rfl, hc 2 _ rfl, hc 3 _ rfl⟩
theorem load_en {W : World} {b : Nat} {x y z u : Value} (h : Blk W b 66 #[x, y, z, u]) : (loadVar 66 ⟨b, 0, none⟩).run Tryz.prog W = .ok (.agg #[x, y, z, u]) W := by
 have h0 := h.cell 0
 have h1 := h.cell 1
 have h2 := h.cell 2
 have h3 := h.cell 3
 simp only [GA] at h0 h1 h2 h3
 simp [go_sem, h0, h1, h2, h3]
abbrev enV (e : En) : Value := .agg #[.int .i64 e.n, .int .i64 e.d, .string e.t, .int .u64 (e.s : Nat)]
set_option maxHeartbeats 4000000 in
set_option maxRecDepth 20000 in
theorem f_written (A : Option Addr) (l : List En) (c : Nat) (d : Int) (t : ByteArray) (w : World) (hl : l.length ≤ 2000) (hs : ∀ e ∈ l, e.s < 18446744073709551616) (hd : I64 d) (ht : t.size ≤ 1000000) (hL : LdW w) (hR : Rd En.cs 4 w A l) :
  Calls Tryz.prog 134 #[.slice A l.length c, .int .i64 d, .string t] w fun e w' => e = .returned (enV (wrt l d t)) ∧ Below w.heap.size w w' := by
 have HSU := Lib.hid (fun (b : Nat) (hb : b < 18446744073709551616) W (h : Below w.heap.size w W) => f_sumOf b (l.length : Int) d t 0 W hb ⟨by omega, by omega⟩ hd ht (hL.on h))
 by_cases h0 : 0 < l.length
 ·obtain ⟨m, hm⟩ : ∃ m, l.length = m + 1 := ⟨l.length - 1, by omega⟩
  obtain ⟨x, b, off, hx, rfl, hb, _, _, _, c3⟩ := rdEn hR (k := m) (by omega)
  have hls : lastS l = x.s := by unfold lastS; rw [List.getLast?_eq_getElem?, hm, Nat.add_sub_cancel, hx]
  have HS := Lib.hid (HSU.out x.s (hs x (List.mem_of_getElem? hx)))
  have HW := Lib.hid (show wrt l d t = ⟨l.length, d, t, sumL x.s l.length d t.data.toList⟩ by unfold wrt; rw [hls])
  have hwm : IntKind.i64.wrap ((l.length : Int) - 1) = (m : Int) := by rw [fits_wrap ⟨by omega, by omega⟩]; omega
  have m0 : (0 : Int) ≤ (m : Int) := Int.natCast_nonneg _
  have m1 : (m : Int) < (l.length : Int) := by omega
  have d1 : decide (0 < (l.length : Int)) = true := decide_eq_true (by omega)
  have d2 : decide (0 < l.length) = true := decide_eq_true h0
  rw [HW.out]
  clear hx hm h0 hls HSU hR hs
  generalize l.length = N at *
  generalize sumL x.s N d t.data.toList = R at *
  have x0 := (Blk.new w 66 #[.int .i64 0, .int .i64 0, .string ⟨#[]⟩, .int .u64 0]).alloc (.cells #[.int .i64 (N : Int), .int .i64 d, .string t, .int .u64 0] 66)
  have x1 := Blk.new (w.alloc (.cells #[.int .i64 0, .int .i64 0, .string ⟨#[]⟩, .int .u64 0] 66)) 66 #[.int .i64 (N : Int), .int .i64 d, .string t, .int .u64 0]
  rw [World.size_alloc] at x1
  have B1 := bl_alloc (bl_alloc (below_refl w) (.cells #[.int .i64 0, .int .i64 0, .string ⟨#[]⟩, .int .u64 0] 66)) (.cells #[.int .i64 (N : Int), .int .i64 d, .string t, .int .u64 0] 66)
  go_enter Tryz.func134, Tryz.ntmps134
  go_upto_region 5 with fail
  generalize ((w.alloc (.cells #[.int .i64 0, .int .i64 0, .string ⟨#[]⟩, .int .u64 0] 66)).alloc (.cells #[.int .i64 (N : Int), .int .i64 d, .string t, .int .u64 0] 66)) = w1 at *
  have l0 := x0.lt
  have l1 := x1.lt
  have e0 := x1.cell 0
  have e1 := x1.cell 1
  have e2 := x1.cell 2
  have e3 := x1.cell 3
  have f0 := x0.cell 0
  have f1 := x0.cell 1
  have f2 := x0.cell 2
  have f3 := x0.cell 3
  simp only [GA] at e0 e1 e2 e3 f0 f1 f2 f3
  have af0 := x0.frozen 0
  have af1 := x0.frozen 1
  have af2 := x0.frozen 2
  have af3 := x0.frozen 3
  have ag3 := x1.frozen 3
  go_wp2_with (go_at_call 163; ((with_reducible refine (HS.out _ B1).mono ?_); rintro e w3 ⟨rfl, hb3⟩; obtain ⟨hc3, hf3⟩ := bcell hb3; have hz3 := hb3.size))
  have HB := (((((x0.below hb3 l0).far (p := ⟨w.heap.size + 1, 3, none⟩) (fun e => by have e' : w.heap.size = w.heap.size + 1 := e; omega) (.int .u64 (R : Nat))).set_ 0 (.int .i64 (N : Int))).set_ 1 (.int .i64 d)).set_ 2 (.string t)).set_ 3 (.int .u64 (R : Nat))
  clear hc3 hf3
  refine bodyPost_ret (v := enV ⟨N, d, t, R⟩) (res_c rfl rfl (load_en HB)) rfl ⟨rfl, ?_⟩
  (repeat' (first | assumption | exact below_refl _ | refine bl_alloc ?_ _ | refine Below.setCell ?_ ?_ _ | refine below_draw ?_ | refine below_drewN ?_ _ | refine below_tr ?_ (by assumption))) <;> (first | omega | (simp; done) | (simp; omega))
 ·have hl0 : l = [] := List.eq_nil_of_length_eq_zero (by omega)
  subst hl0
  have HS := Lib.hid (fun W (h : Below w.heap.size w W) => (show Calls Tryz.prog 163 #[.int .u64 0, .agg #[.int .i64 0, .int .i64 d, .string t, .int .u64 0]] W fun e w' => e = .returned (.int .u64 (sumL 0 0 d t.data.toList : Nat)) ∧ Below W.heap.size W w' from HSU.out 0 (by omega) W h))
  have HW := Lib.hid (show wrt [] d t = ⟨0, d, t, sumL 0 0 d t.data.toList⟩ from rfl)
  rw [HW.out]
  clear HW HSU hR hs hl
  generalize sumL 0 0 d t.data.toList = R at *
  have x0 := (Blk.new w 66 #[.int .i64 0, .int .i64 0, .string ⟨#[]⟩, .int .u64 0]).alloc (.cells #[.int .i64 0, .int .i64 d, .string t, .int .u64 0] 66)
  have x1 := Blk.new (w.alloc (.cells #[.int .i64 0, .int .i64 0, .string ⟨#[]⟩, .int .u64 0] 66)) 66 #[.int .i64 0, .int .i64 d, .string t, .int .u64 0]
  rw [World.size_alloc] at x1
  have B1 := bl_alloc (bl_alloc (below_refl w) (.cells #[.int .i64 0, .int .i64 0, .string ⟨#[]⟩, .int .u64 0] 66)) (.cells #[.int .i64 0, .int .i64 d, .string t, .int .u64 0] 66)
  go_enter Tryz.func134, Tryz.ntmps134
  go_upto_region 5 with fail
  generalize ((w.alloc (.cells #[.int .i64 0, .int .i64 0, .string ⟨#[]⟩, .int .u64 0] 66)).alloc (.cells #[.int .i64 0, .int .i64 d, .string t, .int .u64 0] 66)) = w1 at *
  have l0 := x0.lt
  have l1 := x1.lt
  have e0 := x1.cell 0
  have e1 := x1.cell 1
  have e2 := x1.cell 2
  have e3 := x1.cell 3
  have f0 := x0.cell 0
  have f1 := x0.cell 1
  have f2 := x0.cell 2
  have f3 := x0.cell 3
  simp only [GA] at e0 e1 e2 e3 f0 f1 f2 f3
  have af0 := x0.frozen 0
  have af1 := x0.frozen 1
  have af2 := x0.frozen 2
  have af3 := x0.frozen 3
  have ag3 := x1.frozen 3
  go_wp2_with (go_at_call 163; ((with_reducible refine (HS.out _ B1).mono ?_); rintro e w3 ⟨rfl, hb3⟩; obtain ⟨hc3, hf3⟩ := bcell hb3; have hz3 := hb3.size))
  have HB := (((((x0.below hb3 l0).far (p := ⟨w.heap.size + 1, 3, none⟩) (fun e => by have e' : w.heap.size = w.heap.size + 1 := e; omega) (.int .u64 (R : Nat))).set_ 0 (.int .i64 0)).set_ 1 (.int .i64 d)).set_ 2 (.string t)).set_ 3 (.int .u64 (R : Nat))
  clear hc3 hf3
  refine bodyPost_ret (v := enV ⟨0, d, t, R⟩) (res_c rfl rfl (load_en HB)) rfl ⟨rfl, ?_⟩
  (repeat' (first | assumption | exact below_refl _ | refine bl_alloc ?_ _ | refine Below.setCell ?_ ?_ _ | refine below_draw ?_ | refine below_drewN ?_ _ | refine below_tr ?_ (by assumption))) <;> (first | omega | (simp; done) | (simp; omega))
end Go.Proofs.YtmjgljdmjpabdaaGreatDoor.Fi
namespace Go.Proofs.YtmjgljdmjpabdaaGreatDoor.Fi
open Go.RowKit Go.Lib
abbrev failV (k : Int) : Value := .iface 213 (.agg #[.int .i64 k])
set_option maxHeartbeats 1000000 in
set_option maxRecDepth 20000 in
theorem do1_panicking (E : Nat) (k x : Int) (w : World) (hc : w.cell? ⟨E, 0, none⟩ = some (.int .i64 x)) (hz : w.frozen? ⟨E, 0, none⟩ = false) :
  CallsD Tryz.prog 130 #[.pointer (some ⟨E, 0, none⟩)] (.panicking [{ v := failV k, recovered := false }]) w fun e u' w' =>
   e = .returned (.tuple #[]) ∧ u' = .panicking [{ v := failV k, recovered := true }] ∧ w' = (w.setCell ⟨E, 0, none⟩ (.int .i64 k)).alloc (.cells #[.int .i64 k] 213) := by
 have hb : E < w.heap.size := World.block_lt_of_cell? w ⟨E, 0, none⟩ hc
 have hc1 : (w.alloc (.cells #[.int .i64 k] 213)).cell? ⟨E, 0, none⟩ = some (.int .i64 x) := (World.cell?_alloc_lt _ _ _ hb).trans hc
 have hz1 : (w.alloc (.cells #[.int .i64 k] 213)).frozen? ⟨E, 0, none⟩ = false := (World.frozen?_alloc_past _ E 0 hb).trans hz
 have ht : ∀ (xT : TypeId) (w : World), (Instr.typeAssert (failV k) xT 213 true).run Tryz.prog w = .ok (.tuple #[.agg #[.int .i64 k], .bool true]) w := fun _ _ => by kernel_rfl
 refine callsD_of_wpS Tryz.func130 rfl fun c₀ cs hu => ?_
 simp only [Tryz.ntmps130, List.size_toArray, List.length_cons, List.length_nil, Nat.reduceAdd, Nat.reduceSub, Array.replicate_succ, Array.replicate_zero, List.push_toArray, List.append_toArray, List.nil_append, List.cons_append]
 apply wpS_seq
 apply wpS_region
 simp [wpOpsS, go_sem, recoverD, hu, Exit.thenS]
 refine wpS_of_wp ?_
 go_wp2
 simp_all [bodyPostS, results, Tryz.results130]
set_option maxHeartbeats 1000000 in
set_option maxRecDepth 20000 in
theorem do1_idle (p : Addr) (w : World) :
  CallsD Tryz.prog 130 #[.pointer (some p)] .returning w fun e u' w' => e = .returned (.tuple #[]) ∧ u' = .returning ∧ w' = w := by
 refine callsD_of_wpS Tryz.func130 rfl fun c₀ cs hu => ?_
 simp only [Tryz.ntmps130, List.size_toArray, List.length_cons, List.length_nil, Nat.reduceAdd, Nat.reduceSub, Array.replicate_succ, Array.replicate_zero, List.push_toArray, List.append_toArray, List.nil_append, List.cons_append]
 apply wpS_seq
 apply wpS_region
 simp [wpOpsS, go_sem, recoverD, hu, Exit.thenS]
 refine wpS_of_wp ?_
 go_wp2
 cases c₀
 simp_all [bodyPostS, results, Tryz.results130]
end Go.Proofs.YtmjgljdmjpabdaaGreatDoor.Fi
