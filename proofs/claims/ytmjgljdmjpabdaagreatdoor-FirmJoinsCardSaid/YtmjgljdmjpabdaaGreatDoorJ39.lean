/- The statement FirmJoins is proved: whatever the input, the law returns true and each argument reads as it read before. No condition. -/
import Derived.Test.YtmjgljdmjpabdaaGreatDoorJ0
import Derived.Test.YtmjgljdmjpabdaaGreatDoorJ38
import Derived.Test.YtmjgljdmjpabdaaGreatDoorCards
set_option linter.unusedSimpArgs false
set_option linter.unusedVariables false
namespace Go.Proofs.YtmjgljdmjpabdaaGreatDoor.Fi
open Go.RowKit Go.Lib Tx
theorem FirmAt.beside {b g : Nat} {L L' M : LS} {T T' U : Nat → Prop} {w w' : World} (h : FirmAt w g M U) (hf : Fut w b L T w' L' T') (hd : ∀ x, Foot b L x → ¬ U x ∧ ¬ Foot g M x) : FirmAt w' g M U :=
 h.stp hf.stp (fun x hx hn => (hd x hn).1 hx) (fun x hx hn => (hd x hn).2 hx)
theorem FirmAt.flt {b : Nat} {L : LS} {T : Nat → Prop} {w : World} (h : FirmAt w b L T) : ∀ g, Foot b L g → g < w.heap.size := by
 rintro g (rfl | hg)
 ·exact h.blk.lt
 ·exact (own_ge h.row g hg).2
structure Small (x : LSu) : Prop where
 s : x.stk.l.length ≤ 10
 ss : ∀ y ∈ x.stk.l, y.l.length ≤ 70
 j : x.jnt.l.length ≤ 10
 jj : ∀ y ∈ x.jnt.l, y.l.length ≤ 220
 g : x.gear.l.length ≤ 80
def LgP (SM : Prop) (e : Ending) : Prop := ∃ r : Bool, e = .returned (.bool r) ∧ (r = false → SM)
set_option maxHeartbeats 8000000 in
set_option maxRecDepth 20000 in
theorem f_large {T : Nat → Prop} (x : LSu) (w : World) (hS : SuOk T w x) :
  Calls Tryz.prog 6 #[.agg x.cs.toArray] w fun e w' => LgP (Small x) e ∧ Below w.heap.size w w' := by
 have x0 := Blk.new w 32 x.cs.toArray
 have B0 := bl_alloc (below_refl w) (.cells x.cs.toArray 32)
 have c0 : (w.alloc (.cells x.cs.toArray 32)).cell? ⟨w.heap.size, 0, none⟩ = some (.slice x.stk.a x.stk.l.length x.stk.c) := x0.cell 0
 have c1 : (w.alloc (.cells x.cs.toArray 32)).cell? ⟨w.heap.size, 1, none⟩ = some (.slice x.jnt.a x.jnt.l.length x.jnt.c) := x0.cell 1
 have c8 : (w.alloc (.cells x.cs.toArray 32)).cell? ⟨w.heap.size, 8, none⟩ = some (.slice x.gear.a x.gear.l.length x.gear.c) := x0.cell 8
 have lb := x0.lt
 have hst := hS.stk.rd.on B0
 have hjn := hS.jnt.rd.on B0
 have hge := hS.gear.rd.on B0
 obtain ⟨CA, hCA⟩ : ∃ CA, CA = x.cs.toArray := ⟨_, rfl⟩
 rw [← hCA] at B0 c0 c1 c8 lb hst hjn hge ⊢
 clear x0 hS hCA
 obtain ⟨⟨sa, sl, sc⟩, ⟨ja, jl, jc⟩, cl, ⟨ga, gl, gc⟩, ru, rt, mn⟩ := x
 dsimp only at *
 have HE : ∀ (Q : Prop), (Small ⟨⟨sa, sl, sc⟩, ⟨ja, jl, jc⟩, cl, ⟨ga, gl, gc⟩, ru, rt, mn⟩ ↔ sl.length ≤ 10 ∧ (∀ y ∈ sl, y.l.length ≤ 70) ∧ jl.length ≤ 10 ∧ (∀ y ∈ jl, y.l.length ≤ 220) ∧ gl.length ≤ 80) := fun _ => ⟨fun h => ⟨h.s, h.ss, h.j, h.jj, h.g⟩, fun ⟨h1, h2, h3, h4, h5⟩ => ⟨h1, h2, h3, h4, h5⟩⟩
 have HSM := Lib.hid (HE True)
 clear HE
 generalize Small ⟨⟨sa, sl, sc⟩, ⟨ja, jl, jc⟩, cl, ⟨ga, gl, gc⟩, ru, rt, mn⟩ = SM at *
 go_enter Tryz.func6, Tryz.ntmps6
 go_upto_region 1 with fail
 generalize w.alloc (.cells CA 32) = w1 at *
 rcases (by omega : (10 : Int) < (sl.length : Int) ∨ (¬ (10 : Int) < (sl.length : Int) ∧ (10 : Int) < (jl.length : Int)) ∨ (¬ (10 : Int) < (sl.length : Int) ∧ ¬ (10 : Int) < (jl.length : Int) ∧ (80 : Int) < (gl.length : Int)) ∨ (¬ (10 : Int) < (sl.length : Int) ∧ ¬ (10 : Int) < (jl.length : Int) ∧ ¬ (80 : Int) < (gl.length : Int))) with h1 | ⟨h1, h2⟩ | ⟨h1, h2, h3⟩ | ⟨h1, h2, h3⟩
 ·go_wp2
  go_ret
  exact ⟨⟨true, rfl, fun h => by cases h⟩, B0⟩
 ·go_wp2
  go_ret
  exact ⟨⟨true, rfl, fun h => by cases h⟩, B0⟩
 ·go_wp2
  go_ret
  exact ⟨⟨true, rfl, fun h => by cases h⟩, B0⟩
 go_wp2
 go_loop [4] (fun i => ∃ k : Nat, k ≤ sl.length ∧ i = .int .i64 k ∧ Hid (∀ y ∈ sl.take k, y.l.length ≤ 70)) (fun i => sl.length - (RowKit.intOf i).toNat)
 case atStart => exact ⟨0, by omega, rfl, Lib.hid (by simp)⟩
 case round =>
  obtain ⟨k, hk, rfl, HK⟩ := hrel
  have k0 : (0 : Int) ≤ (k : Int) := Int.natCast_nonneg _
  by_cases hlt : k < sl.length
  ·have k1 : (k : Int) < (sl.length : Int) := by omega
   obtain ⟨y, hy⟩ := get_lt hlt
   obtain ⟨b, off, rfl, hb, hc⟩ := hst.get hy
   have d0 : w1.cell? ⟨b, off + k, none⟩ = some (.slice y.a y.l.length y.c) := by have := hc 0 _ rfl; simpa using this
   have HK2 := Lib.hid (fun (h : y.l.length ≤ 70) => (show ∀ z ∈ sl.take (k + 1), z.l.length ≤ 70 from fun z hz => by
    rw [List.take_add_one, hy] at hz
    rcases List.mem_append.1 hz with hz | hz
    ·exact HK.out z hz
    ·simp at hz; rw [hz]; exact h))
   clear hc hy HK
   rcases (by omega : ((6 : Int) < (y.l.length : Int) ∧ (y.l.length : Int) ≤ 60) ∨ ((6 : Int) < (y.l.length : Int) ∧ ¬ (y.l.length : Int) ≤ 60 ∧ (70 : Int) < (y.l.length : Int)) ∨ ((6 : Int) < (y.l.length : Int) ∧ ¬ (y.l.length : Int) ≤ 60 ∧ ¬ (70 : Int) < (y.l.length : Int)) ∨ (¬ (6 : Int) < (y.l.length : Int) ∧ ¬ (70 : Int) < (y.l.length : Int))) with g1 | ⟨g1, g2, g3⟩ | ⟨g1, g2, g3⟩ | ⟨g1, g3⟩
   ·go_wp2
    go_ret
    exact ⟨⟨true, rfl, fun h => by cases h⟩, B0⟩
   ·go_wp2
    go_ret
    exact ⟨⟨true, rfl, fun h => by cases h⟩, B0⟩
   all_goals
    have HK3 := Lib.hid (HK2.out (by omega))
    go_wp2
    go_round
    case rel => exact ⟨k + 1, by omega, by go_num, HK3⟩
    case measure => simp [RowKit.intOf]; omega
  ·obtain rfl : k = sl.length := by omega
   have HS := Lib.hid (show ∀ y ∈ sl, y.l.length ≤ 70 by have := HK.out; rwa [List.take_length] at this)
   clear HK
   go_wp2
   go_loop [5] (fun i => ∃ k : Nat, k ≤ jl.length ∧ i = .int .i64 k ∧ Hid (∀ y ∈ jl.take k, y.l.length ≤ 220)) (fun i => jl.length - (RowKit.intOf i).toNat)
   case atStart => exact ⟨0, by omega, rfl, Lib.hid (by simp)⟩
   case round =>
    obtain ⟨k, hk, rfl, HK⟩ := hrel
    have k0 : (0 : Int) ≤ (k : Int) := Int.natCast_nonneg _
    by_cases hlt : k < jl.length
    ·have k1 : (k : Int) < (jl.length : Int) := by omega
     obtain ⟨y, hy⟩ := get_lt hlt
     obtain ⟨b, off, rfl, hb, hc⟩ := hjn.get hy
     have d0 : w1.cell? ⟨b, off + k, none⟩ = some (.slice y.a y.l.length y.c) := by have := hc 0 _ rfl; simpa using this
     have HK2 := Lib.hid (fun (h : y.l.length ≤ 220) => (show ∀ z ∈ jl.take (k + 1), z.l.length ≤ 220 from fun z hz => by
      rw [List.take_add_one, hy] at hz
      rcases List.mem_append.1 hz with hz | hz
      ·exact HK.out z hz
      ·simp at hz; rw [hz]; exact h))
     clear hc hy HK
     rcases (by omega : ((10 : Int) < (y.l.length : Int) ∧ (y.l.length : Int) ≤ 200) ∨ ((10 : Int) < (y.l.length : Int) ∧ ¬ (y.l.length : Int) ≤ 200 ∧ (220 : Int) < (y.l.length : Int)) ∨ ((10 : Int) < (y.l.length : Int) ∧ ¬ (y.l.length : Int) ≤ 200 ∧ ¬ (220 : Int) < (y.l.length : Int)) ∨ (¬ (10 : Int) < (y.l.length : Int) ∧ ¬ (220 : Int) < (y.l.length : Int))) with g1 | ⟨g1, g2, g3⟩ | ⟨g1, g2, g3⟩ | ⟨g1, g3⟩
     ·go_wp2
      go_ret
      exact ⟨⟨true, rfl, fun h => by cases h⟩, B0⟩
     ·go_wp2
      go_ret
      exact ⟨⟨true, rfl, fun h => by cases h⟩, B0⟩
     all_goals
      have HK3 := Lib.hid (HK2.out (by omega))
      go_wp2
      go_round
      case rel => exact ⟨k + 1, by omega, by go_num, HK3⟩
      case measure => simp [RowKit.intOf]; omega
    ·obtain rfl : k = jl.length := by omega
     have HJ := Lib.hid (show ∀ y ∈ jl, y.l.length ≤ 220 by have := HK.out; rwa [List.take_length] at this)
     have HSL := Lib.hid (show SM from HSM.out.2 ⟨by omega, HS.out, by omega, HJ.out, by omega⟩)
     clear HK HS HJ HSM
     go_wp2
     go_loopw [3, 6] (fun n i wr => ∃ (k : Nat) (z : Int), k ≤ gl.length ∧ i = .int .i64 k ∧ n = .int .i64 z ∧ Below w1.heap.size w1 wr) (fun _ i _ => gl.length - (RowKit.intOf i).toNat)
     case atStart => exact ⟨0, 0, by omega, rfl, rfl, below_refl _⟩
     case round =>
      obtain ⟨k, z, hk, rfl, rfl, hbw⟩ := hrel
      rename World => wr
      have k0 : (0 : Int) ≤ (k : Int) := Int.natCast_nonneg _
      have e8 := ((bcell hbw).1 w.heap.size 8 lb).trans c8
      by_cases hlt : k < gl.length
      ·have k1 : (k : Int) < (gl.length : Int) := by omega
       obtain ⟨y, hy⟩ := get_lt hlt
       obtain ⟨b, off, rfl, hb, hc⟩ := (hge.on hbw).get hy
       have d0 : wr.cell? ⟨b, off + k * 4, none⟩ = some (.string y.nm) := hc 0 _ rfl
       have d3 : wr.cell? ⟨b, off + k * 4 + 3, none⟩ = some (.string y.bt) := hc 3 _ rfl
       clear hc hy
       go_wp2
       go_quiet (fail)
       go_wp2
       go_roundw
       case rel => exact ⟨k + 1, _, by omega, by go_num, rfl, below_drewN hbw _⟩
       case measure => simp [RowKit.intOf]; omega
      ·obtain rfl : k = gl.length := by omega
       go_wp2
       go_ret
       exact ⟨⟨_, rfl, fun _ => HSL.out⟩, below_tr B0 hbw⟩
structure NwQ (x : LSu) (w : World) (b : Nat) (L : LS) (T : Nat → Prop) (w' : World) : Prop where
 bel : Below w.heap.size w w'
 at_ : FirmAt w' b L T
 val : L.val = new x.val
 inv : Inv L.val
 tt : ∀ g, T g → w.heap.size ≤ g ∧ g < w'.heap.size
 ft : ∀ g, Foot b L g → w.heap.size ≤ g
theorem f_NewT {T : Nat → Prop} (x : LSu) (w : World) (hS : SuOk T w x) (hW : SuW x) (hv : vSu x.val = true) : Calls Tryz.prog 7 #[.agg x.cs.toArray] w fun e w' => ∃ b L T, e = .returned (.tuple #[.pointer (some ⟨b, 0, none⟩), .int .i64 0]) ∧ Hid (NwQ x w b L T w') := by
 refine (f_New x w hS hW).mono ?_
 rintro e w' ⟨hb, hn⟩
 rw [hv] at hn
 obtain ⟨b, L, T, rfl, hF, hval, hT, hft⟩ := hn
 exact ⟨b, L, _, rfl, Lib.hid ⟨hb, hF.cut, hval, by rw [hval]; exact inv_new hv, fun g hg => ⟨hT g hg.1, hg.2⟩, hft⟩⟩
theorem f_NewF {T : Nat → Prop} (x : LSu) (w : World) (hS : SuOk T w x) (hW : SuW x) (hv : vSu x.val = false) : Calls Tryz.prog 7 #[.agg x.cs.toArray] w fun e w' => e = .returned (.tuple #[.pointer none, .int .i64 1]) ∧ Below w.heap.size w w' := by
 refine (f_New x w hS hW).mono ?_
 rintro e w' ⟨hb, hn⟩
 rw [hv] at hn
 exact ⟨hn, hb⟩
structure Two (w0 w : World) (b : Nat) (L : LS) (T : Nat → Prop) (g : Nat) (M : LS) (U : Nat → Prop) : Prop where
 ld : LdW w0
 bel : Below w0.heap.size w0 w
 p : FirmAt w b L T
 q : FirmAt w g M U
 ip : Inv L.val
 iq : Inv M.val
 fp : ∀ x, Foot b L x → w0.heap.size ≤ x
 fq : ∀ x, Foot g M x → w0.heap.size ≤ x
 tp : ∀ x, T x → x < w.heap.size
 tq : ∀ x, U x → x < w.heap.size
 dp : ∀ x, Foot b L x → ¬ U x ∧ ¬ Foot g M x
 dq : ∀ x, Foot g M x → ¬ T x ∧ ¬ Foot b L x
theorem Two.swap {w0 w : World} {b g : Nat} {L M : LS} {T U : Nat → Prop} (h : Two w0 w b L T g M U) : Two w0 w g M U b L T := ⟨h.ld, h.bel, h.q, h.p, h.iq, h.ip, h.fq, h.fp, h.tq, h.tp, h.dq, h.dp⟩
theorem Two.env {w0 w : World} {b g : Nat} {L M : LS} {T U : Nat → Prop} (h : Two w0 w b L T g M U) : Env w b L := ⟨w0, h.ld, h.bel, h.fp⟩
theorem Two.step {w0 w w' : World} {b g : Nat} {L L' M : LS} {T T' U : Nat → Prop} (h : Two w0 w b L T g M U) (hf : Fut w b L T w' L' T') (hi : Inv L'.val) : Two w0 w' b L' (fun x => T' x ∧ x < w'.heap.size) g M U := by
 have hz := hf.stp.size
 have hM := h.q.flt
 refine ⟨h.ld, below_stp h.bel hf.stp (fun x hx e => by have := h.fp x e; omega) h.bel.size, hf.cut.at_, h.q.beside hf h.dp, hi, h.iq, ?_, h.fq, fun x hx => hx.2, fun x hx => Nat.lt_of_lt_of_le (h.tq x hx) hz, ?_, ?_⟩
 ·intro x hx
  rcases hf.ff x hx with h1 | h1
  ·exact h.fp x h1
  ·exact Nat.le_trans h.bel.size h1
 ·intro x hx
  rcases hf.ff x hx with h1 | h1
  ·exact h.dp x h1
  ·exact ⟨fun h2 => by have := h.tq x h2; omega, fun h2 => by have := hM x h2; omega⟩
 ·intro x hx
  refine ⟨fun h2 => ?_, fun h2 => ?_⟩
  ·rcases hf.tt x h2.1 with h1 | h1
   ·exact (h.dq x hx).1 h1
   ·have := hM x hx; omega
  ·rcases hf.ff x h2 with h1 | h1
   ·exact (h.dq x hx).2 h1
   ·have := hM x hx; omega
theorem Two.below {w0 w w' : World} {b g : Nat} {L M : LS} {T U : Nat → Prop} (h : Two w0 w b L T g M U) (hb : Below w.heap.size w w') : Two w0 w' b L T g M U :=
 ⟨h.ld, below_tr h.bel hb, h.p.on hb, h.q.on hb, h.ip, h.iq, h.fp, h.fq, fun x hx => Nat.lt_of_lt_of_le (h.tp x hx) hb.size, fun x hx => Nat.lt_of_lt_of_le (h.tq x hx) hb.size, h.dp, h.dq⟩
theorem Two.make {w w1 w2 w3 : World} {x : LSu} {b g : Nat} {L M : LS} {T U : Nat → Prop} (hL : LdW w) (h1 : Below w.heap.size w w1) (n1 : NwQ x w1 b L T w2) (n2 : NwQ x w2 g M U w3) : Two w w3 b L T g M U := by
 obtain ⟨hb1, hF, hv1, hi1, hT, hft⟩ := n1
 obtain ⟨hb2, hG, hv2, hi2, hU, hgt⟩ := n2
 have hz := h1.size
 have hz1 := hb1.size
 have hz2 := hb2.size
 have hM := hF.flt
 refine ⟨hL, below_tr (below_tr h1 hb1) hb2, hF.on hb2, hG, hi1, hi2, fun y hy => Nat.le_trans hz (hft y hy), fun y hy => by have := hgt y hy; omega, fun y hy => by have := (hT y hy).2; omega, fun y hy => (hU y hy).2, ?_, ?_⟩
 ·intro y hy
  have := hM y hy
  exact ⟨fun h => by have := (hU y h).1; omega, fun h => by have := hgt y h; omega⟩
 ·intro y hy
  have := hgt y hy
  exact ⟨fun h => by have := (hT y h).2; omega, fun h => by have := hM y h; omega⟩
def TwP (w0 : World) (b : Nat) (x : St) (s : List UInt8) (g : Nat) (M : LS) (U : Nat → Prop) (e : Ending) (w' : World) : Prop :=
 ∃ A, e = .returned (.string A) ∧ A.size ≤ 70000000000 ∧ Hid (A = bts (doR bearsT x s).1) ∧ ∃ L' T', Hid (L'.val = (doR bearsT x s).2) ∧ Hid (Two w0 w' b L' T' g M U)
theorem Two.do_ {w0 w : World} {b g : Nat} {L M : LS} {T U : Nat → Prop} (h : Two w0 w b L T g M U) (s : List UInt8) {S : ByteArray} (hs : S = bts s) : Calls Tryz.prog 8 #[.pointer (some ⟨b, 0, none⟩), .string S] w (TwP w0 b L.val s g M U) := by
 subst hs
 refine (f_DoA s h.p h.ip h.env).mono ?_
 rintro e w' ⟨rfl, L', T', hv, hi, hl, hf⟩
 exact ⟨_, rfl, by rw [bts_size]; exact hl, Lib.hid rfl, L', _, Lib.hid hv, Lib.hid (h.step hf hi)⟩
theorem joins_val (x : St) (s t : List UInt8) (hs : s.length ≤ 2000) (ht : t.length ≤ 2000) :
  bts (doR bearsT x (s ++ 10 :: t)).1 = bts (doR bearsT x (s ++ [10])).1 ++ bts (doR bearsT (doR bearsT x (s ++ [10])).2 t).1 ∧ (doR bearsT x (s ++ 10 :: t)).2 = (doR bearsT (doR bearsT x (s ++ [10])).2 t).2 := by
 have h := doR_join bearsT x s t (by omega)
 rw [h]
 exact ⟨by rw [ba_app], rfl⟩
theorem Two.do3 {w0 w : World} {b g : Nat} {L L1 L2 M : LS} {T U : Nat → Prop} {s t : List UInt8} {A B : ByteArray} (h : Two w0 w g M U b L2 T) (hs : ((bts s).size : Int) ≤ 2000) (ht : ((bts t).size : Int) ≤ 2000) (hA : A = bts (doR bearsT L.val (s ++ [10])).1) (h1 : L1.val = (doR bearsT L.val (s ++ [10])).2)
  (hB : B = bts (doR bearsT L1.val t).1) (h2 : L2.val = (doR bearsT L1.val t).2) (hM : M.val = L.val) :
  Calls Tryz.prog 8 #[.pointer (some ⟨g, 0, none⟩), .string (bts s ++ ⟨#[10]⟩ ++ bts t)] w fun e w' => e = .returned (.string (A ++ B)) ∧ ∃ M' U', Hid (L2.val = M'.val ∧ Two w0 w' g M' U' b L2 T) := by
 rw [bts_size] at hs ht
 obtain ⟨j1, j2⟩ := joins_val L.val s t (by omega) (by omega)
 rw [← h1, ← hA, ← hB] at j1
 rw [← h1, ← h2] at j2
 refine (h.do_ (s ++ 10 :: t) (by rw [bts_nl, ba_app, List.append_assoc]; rfl)).mono ?_
 rintro e w' ⟨C, rfl, _, hC, M', U', hv, htw⟩
 have hC := hC.out
 rw [hM, j1] at hC
 have hv := hv.out
 rw [hM, j2] at hv
 exact ⟨by rw [hC], M', U', Lib.hid ⟨hv.symm, htw.out⟩⟩
theorem Two.same {w0 w : World} {b g : Nat} {L M : LS} {T U : Nat → Prop} (h : Two w0 w b L T g M U) (hv : L.val = M.val) : Calls Tryz.prog 9 #[.pointer (some ⟨b, 0, none⟩), .pointer (some ⟨g, 0, none⟩)] w fun e w' => e = .returned (.bool true) ∧ Below w.heap.size w w' := f_Same h.p h.q h.ip hv
theorem of_bts (s : ByteArray) : ∃ l, s = bts l := by
 obtain ⟨⟨l⟩⟩ := s
 exact ⟨l, rfl⟩
set_option maxHeartbeats 8000000 in
set_option maxRecDepth 20000 in
theorem l_FirmJoins (x : LSu) (s t : ByteArray) (w : World) (hL : LdW w) (hS : SuOk (fun _ => True) w x) (hle : I64 x.cl.le) (hgw : ∀ i ∈ x.gear.l, G.IW i) :
  Calls Tryz.prog 3 #[.agg x.cs.toArray, .string s, .string t] w fun e w' => e = .returned (.bool true) ∧ Below w.heap.size w w' := by
 have x0 := Blk.new w 32 x.cs.toArray
 have B0 := bl_alloc (below_refl w) (.cells x.cs.toArray 32)
 have HAW := Lib.hid (fun W (h : Below w.heap.size w W) => f_awake W (hL.on h))
 have HLG := Lib.hid (fun W (h : Below w.heap.size w W) => f_large x W (hS.on h))
 have HNW := Lib.hid (fun W (h : Below w.heap.size w W) (hm : Small x) hv => f_NewT x W (hS.on h) ⟨by have := hm.s; omega, fun y hy => by have := hm.ss y hy; omega, by have := hm.j; omega, fun y hy => by have := hm.jj y hy; omega, hle, by have := hm.g; omega, hgw⟩ hv)
 have HNF := Lib.hid (fun W (h : Below w.heap.size w W) (hm : Small x) hv => f_NewF x W (hS.on h) ⟨by have := hm.s; omega, fun y hy => by have := hm.ss y hy; omega, by have := hm.j; omega, fun y hy => by have := hm.jj y hy; omega, hle, by have := hm.g; omega, hgw⟩ hv)
 have hCs := su_cs x
 have lN : w.heap.size < (w.alloc (.cells x.cs.toArray 32)).heap.size := x0.lt
 clear hS hle hgw
 obtain ⟨CA, hCA⟩ : ∃ CA, x.cs.toArray = CA := ⟨_, rfl⟩
 rw [hCA] at x0 B0 HLG HNW HNF hCs lN ⊢
 clear hCA
 obtain ⟨s, rfl⟩ := of_bts s
 obtain ⟨t, rfl⟩ := of_bts t
 go_enter Tryz.func3, Tryz.ntmps3
 go_upto_region 3 with (go_at_call 5; ((with_reducible refine (HAW.out _ B0).mono ?_); rintro e w1 ⟨rfl, hb1⟩))
 have x1 := x0.below hb1 lN
 have B1 := below_tr B0 hb1
 have lN1 := Nat.lt_of_lt_of_le lN hb1.size
 clear x0 B0 hb1 lN HAW
 have HLG1 := Lib.hid (HLG.out w1 B1)
 clear HLG
 by_cases hst : (2000 : Int) < ((bts s).size : Int) ∨ (2000 : Int) < ((bts t).size : Int)
 ·rcases (by omega : (2000 : Int) < ((bts s).size : Int) ∨ (¬ (2000 : Int) < ((bts s).size : Int) ∧ (2000 : Int) < ((bts t).size : Int))) with h1 | ⟨h1, h2⟩
  all_goals
   go_wp2_with (first | (refine wpList_load_row rfl 32 _ rfl w.heap.size rfl 32 CA (0, 0) _ x1 Tryz.underlying32 rfl hCs ?_) | (go_at_call 6; go_loud ((with_reducible refine HLG1.out.mono ?_); rintro e w2 ⟨⟨r, rfl, hsm⟩, hb2⟩; have x2 := x1.below hb2 lN1; have B2 := below_tr B1 hb2; have lN2 := Nat.lt_of_lt_of_le lN1 hb2.size; replace hsm := Lib.hid hsm; cases r)))
   all_goals
    go_ret
    exact ⟨rfl, B2⟩
 have hs1 : ¬ (2000 : Int) < ((bts s).size : Int) := fun h => hst (.inl h)
 have ht1 : ¬ (2000 : Int) < ((bts t).size : Int) := fun h => hst (.inr h)
 clear hst
 have zs : ¬ 9223372036854775807 < (bts s).size + 1 := by omega
 have zt : ¬ 9223372036854775807 < (bts s).size + 1 + (bts t).size := by omega
 cases hv : vSu x.val
 ·go_wp2_with (first
   | (refine wpList_load_row rfl 32 _ rfl w.heap.size rfl 32 CA (0, 0) _ x1 Tryz.underlying32 rfl hCs ?_) | (refine wpList_load_row rfl 32 _ rfl w.heap.size rfl 32 CA (0, 0) _ x2 Tryz.underlying32 rfl hCs ?_) | (refine wpList_load_row rfl 32 _ rfl w.heap.size rfl 32 CA (0, 0) _ x3 Tryz.underlying32 rfl hCs ?_) | (go_at_call 6; go_loud ((with_reducible refine HLG1.out.mono ?_); rintro e w2 ⟨⟨r, rfl, hsm⟩, hb2⟩; have x2 := x1.below hb2 lN1; have B2 := below_tr B1 hb2; have lN2 := Nat.lt_of_lt_of_le lN1 hb2.size; replace hsm := Lib.hid hsm; cases r))
   | (go_at_call 7; ((with_reducible refine (HNF.out w2 B2 (by first | exact hsm.out | exact hsm.out rfl | exact hsm.out trivial) hv).mono ?_); rintro e w3 ⟨rfl, hb3⟩; have x3 := x2.below hb3 lN2; have B3 := below_tr B2 hb3))
   | (go_at_call 7; ((with_reducible refine (HNF.out w3 B3 (by first | exact hsm.out | exact hsm.out rfl | exact hsm.out trivial) hv).mono ?_); rintro e w4 ⟨rfl, hb4⟩; have B4 := below_tr B3 hb4)))
  all_goals
   go_ret
   first | exact ⟨rfl, B4⟩ | exact ⟨rfl, B2⟩
 go_wp2_with (first
  | (refine wpList_load_row rfl 32 _ rfl w.heap.size rfl 32 CA (0, 0) _ x1 Tryz.underlying32 rfl hCs ?_) | (refine wpList_load_row rfl 32 _ rfl w.heap.size rfl 32 CA (0, 0) _ x2 Tryz.underlying32 rfl hCs ?_) | (refine wpList_load_row rfl 32 _ rfl w.heap.size rfl 32 CA (0, 0) _ x3 Tryz.underlying32 rfl hCs ?_) | (go_at_call 6; go_loud ((with_reducible refine HLG1.out.mono ?_); rintro e w2 ⟨⟨r, rfl, hsm⟩, hb2⟩; have x2 := x1.below hb2 lN1; have B2 := below_tr B1 hb2; have lN2 := Nat.lt_of_lt_of_le lN1 hb2.size; replace hsm := Lib.hid hsm; cases r))
  | (go_at_call 7; ((with_reducible refine (HNW.out w2 B2 (by first | exact hsm.out | exact hsm.out rfl | exact hsm.out trivial) hv).mono ?_); rintro e w3 ⟨b, L, T, rfl, n1⟩; have x3 := x2.below n1.out.bel lN2; have B3 := below_tr B2 n1.out.bel))
  | (go_at_call 7; ((with_reducible refine (HNW.out w3 B3 (by first | exact hsm.out | exact hsm.out rfl | exact hsm.out trivial) hv).mono ?_); rintro e w4 ⟨g, M, U, rfl, n2⟩; have t4 := Lib.hid (Two.make hL B2 n1.out n2.out)))
  | (go_at_call 8; ((with_reducible refine (t4.out.do_ (s ++ [10]) (bts_nl s)).mono ?_); rintro e w5 ⟨A, rfl, zA, hA, L1, T1, v1, t5⟩))
  | (go_at_call 8; ((with_reducible refine (t5.out.do_ t rfl).mono ?_); rintro e w6 ⟨B, rfl, zB, hB, L2, T2, v2, t6⟩; have zAB : ¬ 9223372036854775807 < A.size + B.size := (by omega)))
  | (go_at_call 8; go_loud ((with_reducible refine (t6.out.swap.do3 (L := L) (L1 := L1) (s := s) (t := t) (by omega) (by omega) hA.out v1.out hB.out v2.out (n2.out.val.trans n1.out.val.symm)).mono ?_); rintro e w7 ⟨rfl, M1, U1, t7⟩))
  | (go_at_call 9; ((with_reducible refine (t7.out.2.swap.same t7.out.1).mono ?_); rintro e w8 ⟨rfl, hb8⟩))
  | (go_at_call 9; ((with_reducible refine ((t7.out.2.below hb8).same t7.out.1.symm).mono ?_); rintro e w9 ⟨rfl, hb9⟩)))
 all_goals
  go_ret
  first | exact ⟨rfl, below_tr (below_tr t7.out.2.bel hb8) hb9⟩ | exact ⟨rfl, B2⟩
end Go.Proofs.YtmjgljdmjpabdaaGreatDoor.Fi
namespace Go.Proofs.YtmjgljdmjpabdaaGreatDoor.Fi
open Go.ChangeShapes Go.WideShapes Go.ChangeAt Go.RowKit Go.Deep Go.Joins Tx
theorem i64_of {n : Int} (h : (Lit.int .i64 n).wf = true) : -9223372036854775808 ≤ n ∧ n ≤ 9223372036854775807 := by
 have h1 : (decide (IntKind.i64.min ≤ n) && decide (n ≤ IntKind.i64.max)) = true := h
 rw [show IntKind.i64.min = -9223372036854775808 from rfl, show IntKind.i64.max = 9223372036854775807 from rfl, Bool.and_eq_true, decide_eq_true_eq, decide_eq_true_eq] at h1
 exact ⟨h1.1, h1.2⟩
section
variable {H : Type} {enc : TypeId × Value → H} {P : Program} {w : World} {base : Nat} {spare : Nat → Bool} {held : Bool}
theorem open_rdin {α : Type} (encα : α → List Value) (ok : α → Prop) (sz : Nat) {t e : TypeId} {n0 : Nat} {cs : List Value} {x : DataW H × List MemPlace} (ht : P.underlying t = some (.slice e)) (hC : P.cellsOf e = sz) (hz : 0 < sz)
  (hdec : ∀ n cs x, DataW.trod enc P w base spare held n e cs = some x → ∃ a : α, cs = encα a ∧ ok a)
  (hf : DataW.trod enc P w base spare held n0 t cs = some x) :
  ∃ (A : Option Addr) (l : List α) (c : Nat), cs = [.slice A l.length c] ∧ Rd encα sz w A l ∧ l.length ≤ maxLen ∧ (∀ a ∈ l, ok a) ∧ l.length ≤ c ∧ c ≤ maxLen := by
 rcases open_slice ht hf with ⟨hcs, _⟩ | ⟨a, n, c, m, n', D, Pl, hcs, _, hl, hm, hmm, _, hi⟩
 ·exact ⟨none, [], 0, hcs, Rd.nil_, by simp, by simp, by simp, by simp⟩
 ·rw [hC] at hi
  have hlm : n ≤ m := by rw [hmm]; split <;> omega
  have hex : ∀ i, i < n → ∃ y : α, ok y ∧ ∀ j u, (encα y)[j]? = some u → w.cell? (a.add (i * sz + j)) = some u := fun i hin => by
   obtain ⟨cs', hc, htr⟩ := hi i (by omega)
   obtain ⟨y, rfl, hy⟩ := hdec _ _ _ htr
   obtain ⟨_, hlen, hat⟩ := World.cells?_some hc
   refine ⟨y, hy, fun j u hu => ?_⟩
   have hj : j < sz := by
    rcases Nat.lt_or_ge j sz with h1 | h1
    ·exact h1
    ·rw [List.getElem?_eq_none (by omega)] at hu; cases hu
   have := hat j hj
   rw [hu] at this
   rwa [Go.Deep.add_add] at this
  obtain ⟨l, hll, hlp⟩ := list_of n hex
  subst hll
  refine ⟨some a, l, c, hcs, fun hne => ?_, by omega, fun y hy => ?_, hl, hm⟩
  ·have hl0 : 0 < l.length := List.length_pos_iff.2 hne
   obtain ⟨cs', hc, htr⟩ := hi 0 (by omega)
   obtain ⟨_, hlen, hat⟩ := World.cells?_some hc
   have hc0 := hat 0 hz
   rw [List.getElem?_eq_getElem (by omega)] at hc0
   simp only [Nat.zero_mul] at hc0
   have hspot : a.spot = none := by
    have hs := World.cell?_spot hc0
    simpa [Addr.add] using hs
   obtain ⟨b, off, spot⟩ := a
   simp only at hspot
   subst hspot
   have hb := World.block_lt_of_cell? w _ hc0
   refine ⟨b, off, rfl, by simpa [Addr.add] using hb, fun k x hx j v hv => ?_⟩
   have := (hlp k x hx).2 j v hv
   rw [addr_add0] at this
   rw [Nat.add_assoc]; exact this
  ·obtain ⟨i, hi', hiy⟩ := List.getElem_of_mem hy
   exact (hlp i y (by rw [List.getElem?_eq_getElem hi', hiy])).1
end
section
variable {H : Type} {enc : TypeId × Value → H} {w : World} {base : Nat} {spare : Nat → Bool} {held : Bool}
structure OpIn (w : World) (o : Op) : Prop where
 k : o.k < 256
 st : I64 o.st
 n : I64 o.n
 nm : o.nm.size ≤ maxLen
 rk : Rd G.Lk.cs 2 w o.lk.a o.lk.l
 lk : ∀ k ∈ o.lk.l, G.LW k
 lc : o.lk.l.length ≤ o.lk.c ∧ o.lk.c ≤ maxLen
 rd : Rd zC 1 w o.ld.a o.ld.l
 ld : ∀ z ∈ o.ld.l, I64 z
 dc : o.ld.l.length ≤ o.ld.c ∧ o.ld.c ≤ maxLen
end
theorem OpIn.ok {w : World} {o : Op} (h : OpIn w o) : OpOk w o := ⟨h.rk, Nat.le_trans h.lc.1 h.lc.2, fun k hk => (h.lk k hk).1, h.nm, h.rd, Nat.le_trans h.dc.1 h.dc.2⟩
def Cl.cs (c : Cl) : List Value := [.int .i64 c.fi, .int .i64 c.ga, .int .i64 c.tp, .int .i64 c.le, .int .i64 c.la, .int .i64 c.st]
def ruCs (c : V.Ru) : List Value := [.int .i64 c.s, .int .i64 c.g, .int .i64 c.c]
def Rt.cs (c : Rt) : List Value := [.int .i64 c.lo, .int .i64 c.hi, .int .i64 c.ab, .int .i64 c.co]
section
variable {H : Type} {enc : TypeId × Value → H} {w : World} {base : Nat} {spare : Nat → Bool} {held : Bool}
theorem dec_course (n : Nat) (cs : List Value) (x) (h : DataW.trod enc Tryz.prog w base spare held n 132 cs = some x) : ∃ a : S.Course, cs = S.Course.cs a ∧ True := by
 obtain ⟨hl, hf⟩ := dec_fields Tryz.underlying132 (by kernel_rfl) (by kernel_rfl) n cs x h
 match cs, hl with
 | [c0, c1, c2, c3, c4, c5], _ =>
  obtain ⟨m0, y0, e0⟩ := hf 0 _ c0 rfl rfl
  obtain ⟨m1, y1, e1⟩ := hf 1 _ c1 rfl rfl
  obtain ⟨m2, y2, e2⟩ := hf 2 _ c2 rfl rfl
  obtain ⟨m3, y3, e3⟩ := hf 3 _ c3 rfl rfl
  obtain ⟨m4, y4, e4⟩ := hf 4 _ c4 rfl rfl
  obtain ⟨m5, y5, e5⟩ := hf 5 _ c5 rfl rfl
  obtain ⟨a0, g0, f0⟩ := dec_int Tryz.underlying3 _ _ _ e0
  obtain ⟨a1, g1, f1⟩ := dec_int Tryz.underlying3 _ _ _ e1
  obtain ⟨a2, g2, f2⟩ := dec_int Tryz.underlying3 _ _ _ e2
  obtain ⟨a3, g3, f3⟩ := dec_int Tryz.underlying3 _ _ _ e3
  obtain ⟨a4, g4, f4⟩ := dec_int Tryz.underlying3 _ _ _ e4
  obtain ⟨a5, g5, f5⟩ := dec_int Tryz.underlying3 _ _ _ e5
  cases g0; cases g1; cases g2; cases g3; cases g4; cases g5
  exact ⟨⟨a0, a1, a2, a3, a4, a5⟩, rfl, trivial⟩
theorem dec_climb (n : Nat) (cs : List Value) (x) (h : DataW.trod enc Tryz.prog w base spare held n 25 cs = some x) : ∃ a : Cl, cs = Cl.cs a ∧ I64 a.le := by
 obtain ⟨hl, hf⟩ := dec_fields Tryz.underlying25 (by kernel_rfl) (by kernel_rfl) n cs x h
 match cs, hl with
 | [c0, c1, c2, c3, c4, c5], _ =>
  obtain ⟨m0, y0, e0⟩ := hf 0 _ c0 rfl rfl
  obtain ⟨m1, y1, e1⟩ := hf 1 _ c1 rfl rfl
  obtain ⟨m2, y2, e2⟩ := hf 2 _ c2 rfl rfl
  obtain ⟨m3, y3, e3⟩ := hf 3 _ c3 rfl rfl
  obtain ⟨m4, y4, e4⟩ := hf 4 _ c4 rfl rfl
  obtain ⟨m5, y5, e5⟩ := hf 5 _ c5 rfl rfl
  obtain ⟨a0, g0, f0⟩ := dec_int Tryz.underlying3 _ _ _ e0
  obtain ⟨a1, g1, f1⟩ := dec_int Tryz.underlying3 _ _ _ e1
  obtain ⟨a2, g2, f2⟩ := dec_int Tryz.underlying3 _ _ _ e2
  obtain ⟨a3, g3, f3⟩ := dec_int Tryz.underlying3 _ _ _ e3
  obtain ⟨a4, g4, f4⟩ := dec_int Tryz.underlying3 _ _ _ e4
  obtain ⟨a5, g5, f5⟩ := dec_int Tryz.underlying3 _ _ _ e5
  cases g0; cases g1; cases g2; cases g3; cases g4; cases g5
  exact ⟨⟨a0, a1, a2, a3, a4, a5⟩, rfl, i64_of f3⟩
theorem dec_rule (n : Nat) (cs : List Value) (x) (h : DataW.trod enc Tryz.prog w base spare held n 28 cs = some x) : ∃ a : V.Ru, cs = ruCs a ∧ True := by
 obtain ⟨hl, hf⟩ := dec_fields Tryz.underlying28 (by kernel_rfl) (by kernel_rfl) n cs x h
 match cs, hl with
 | [c0, c1, c2], _ =>
  obtain ⟨m0, y0, e0⟩ := hf 0 _ c0 rfl rfl
  obtain ⟨m1, y1, e1⟩ := hf 1 _ c1 rfl rfl
  obtain ⟨m2, y2, e2⟩ := hf 2 _ c2 rfl rfl
  obtain ⟨a0, g0, f0⟩ := dec_int Tryz.underlying3 _ _ _ e0
  obtain ⟨a1, g1, f1⟩ := dec_int Tryz.underlying3 _ _ _ e1
  obtain ⟨a2, g2, f2⟩ := dec_int Tryz.underlying3 _ _ _ e2
  cases g0; cases g1; cases g2
  exact ⟨⟨a0, a1, a2⟩, rfl, trivial⟩
theorem dec_rate (n : Nat) (cs : List Value) (x) (h : DataW.trod enc Tryz.prog w base spare held n 30 cs = some x) : ∃ a : Rt, cs = Rt.cs a ∧ True := by
 obtain ⟨hl, hf⟩ := dec_fields Tryz.underlying30 (by kernel_rfl) (by kernel_rfl) n cs x h
 match cs, hl with
 | [c0, c1, c2, c3], _ =>
  obtain ⟨m0, y0, e0⟩ := hf 0 _ c0 rfl rfl
  obtain ⟨m1, y1, e1⟩ := hf 1 _ c1 rfl rfl
  obtain ⟨m2, y2, e2⟩ := hf 2 _ c2 rfl rfl
  obtain ⟨m3, y3, e3⟩ := hf 3 _ c3 rfl rfl
  obtain ⟨a0, g0, f0⟩ := dec_int Tryz.underlying3 _ _ _ e0
  obtain ⟨a1, g1, f1⟩ := dec_int Tryz.underlying3 _ _ _ e1
  obtain ⟨a2, g2, f2⟩ := dec_int Tryz.underlying3 _ _ _ e2
  obtain ⟨a3, g3, f3⟩ := dec_int Tryz.underlying3 _ _ _ e3
  cases g0; cases g1; cases g2; cases g3
  exact ⟨⟨a0, a1, a2, a3⟩, rfl, trivial⟩
theorem dec_joint (n : Nat) (cs : List Value) (x) (h : DataW.trod enc Tryz.prog w base spare held n 134 cs = some x) : ∃ a : Jt, cs = a.cs ∧ True := by
 obtain ⟨hl, hf⟩ := dec_fields Tryz.underlying134 (by kernel_rfl) (by kernel_rfl) n cs x h
 match cs, hl with
 | [c0, c1], _ =>
  obtain ⟨m0, y0, e0⟩ := hf 0 _ c0 rfl rfl
  obtain ⟨m1, y1, e1⟩ := hf 1 _ c1 rfl rfl
  obtain ⟨a0, g0, f0⟩ := dec_int Tryz.underlying3 _ _ _ e0
  obtain ⟨a1, g1, _⟩ := DataW.trod_bool Tryz.underlying4 e1
  cases g0; cases g1
  exact ⟨⟨a0, a1⟩, rfl, trivial⟩
theorem dec_item (n : Nat) (cs : List Value) (x) (h : DataW.trod enc Tryz.prog w base spare held n 71 cs = some x) : ∃ a : G.It, cs = a.cs ∧ G.IW a := by
 obtain ⟨hl, hf⟩ := dec_fields Tryz.underlying71 (by kernel_rfl) (by kernel_rfl) n cs x h
 match cs, hl with
 | [c0, c1, c2, c3], _ =>
  obtain ⟨m0, y0, e0⟩ := hf 0 _ c0 rfl rfl
  obtain ⟨m1, y1, e1⟩ := hf 1 _ c1 rfl rfl
  obtain ⟨m2, y2, e2⟩ := hf 2 _ c2 rfl rfl
  obtain ⟨m3, y3, e3⟩ := hf 3 _ c3 rfl rfl
  obtain ⟨a0, g0, _, f0⟩ := DataW.trod_string Tryz.underlying9 e0
  obtain ⟨a1, g1, f1⟩ := dec_int Tryz.underlying3 _ _ _ e1
  obtain ⟨a2, g2, f2⟩ := dec_int Tryz.underlying3 _ _ _ e2
  obtain ⟨a3, g3, _, f3⟩ := DataW.trod_string Tryz.underlying9 e3
  cases g0; cases g1; cases g2; cases g3
  exact ⟨⟨a0, a1, a2, a3⟩, rfl, f0, f3, (i64_of f1).1, (i64_of f1).2, (i64_of f2).1, (i64_of f2).2⟩
theorem dec_courses (n : Nat) (cs : List Value) (x) (h : DataW.trod enc Tryz.prog w base spare held n 68 cs = some x) : ∃ a : Sl S.Course, cs = a.cs ∧ Got (fun _ => True) w S.Course.cs 6 a := by
 obtain ⟨A, l, c, g, h1, h2, h3, h4, h5⟩ := open_rdin S.Course.cs (fun _ => True) 6 Tryz.underlying68 (by kernel_rfl) (by decide) (fun n cs x h => dec_course n cs x h) h
 exact ⟨⟨A, l, c⟩, g, h1, fun _ _ _ => trivial, h4, h5⟩
theorem dec_joints (n : Nat) (cs : List Value) (x) (h : DataW.trod enc Tryz.prog w base spare held n 69 cs = some x) : ∃ a : Sl Jt, cs = a.cs ∧ Got (fun _ => True) w Jt.cs 2 a := by
 obtain ⟨A, l, c, g, h1, h2, h3, h4, h5⟩ := open_rdin Jt.cs (fun _ => True) 2 Tryz.underlying69 (by kernel_rfl) (by decide) (fun n cs x h => dec_joint n cs x h) h
 exact ⟨⟨A, l, c⟩, g, h1, fun _ _ _ => trivial, h4, h5⟩
structure SuIn (w : World) (x : LSu) : Prop where
 ok : SuOk (fun _ => True) w x
 le : I64 x.cl.le
 gw : ∀ i ∈ x.gear.l, G.IW i
set_option maxRecDepth 50000 in
set_option maxHeartbeats 2000000 in
theorem dec_setup (n : Nat) (cs : List Value) (x) (h : DataW.trod enc Tryz.prog w base spare held n 32 cs = some x) : ∃ a : LSu, cs = a.cs ∧ SuIn w a := by
 obtain ⟨ys, n', _, _, hlen, hyl, hf⟩ := DataW.trod_struct Tryz.underlying32 h
 have hl : cs.length = 17 := hlen.trans (by kernel_rfl)
 match cs, hl with
 | [c0, c1, c2, c3, c4, c5, c6, c7, c8, c9, c10, c11, c12, c13, c14, c15, c16], _ =>
  have h0 := hf 0 _ rfl
  rw [List.getElem?_eq_getElem (show 0 < ys.length by rw [hyl]; decide)] at h0
  change DataW.trod enc Tryz.prog w base spare held n' 22 (([c0, c1, c2, c3, c4, c5, c6, c7, c8, c9, c10, c11, c12, c13, c14, c15, c16].drop 0).take (Tryz.prog.cellsOf 22)) = _ at h0
  rw [show Tryz.prog.cellsOf 22 = 1 by kernel_rfl] at h0
  have k0 : DataW.trod enc Tryz.prog w base spare held n' 22 [c0] = some _ := h0
  have h1 := hf 1 _ rfl
  rw [List.getElem?_eq_getElem (show 1 < ys.length by rw [hyl]; decide)] at h1
  change DataW.trod enc Tryz.prog w base spare held n' 23 (([c0, c1, c2, c3, c4, c5, c6, c7, c8, c9, c10, c11, c12, c13, c14, c15, c16].drop 1).take (Tryz.prog.cellsOf 23)) = _ at h1
  rw [show Tryz.prog.cellsOf 23 = 1 by kernel_rfl] at h1
  have k1 : DataW.trod enc Tryz.prog w base spare held n' 23 [c1] = some _ := h1
  have h2 := hf 2 _ rfl
  rw [List.getElem?_eq_getElem (show 2 < ys.length by rw [hyl]; decide)] at h2
  change DataW.trod enc Tryz.prog w base spare held n' 25 (([c0, c1, c2, c3, c4, c5, c6, c7, c8, c9, c10, c11, c12, c13, c14, c15, c16].drop 2).take (Tryz.prog.cellsOf 25)) = _ at h2
  rw [show Tryz.prog.cellsOf 25 = 6 by kernel_rfl] at h2
  have k2 : DataW.trod enc Tryz.prog w base spare held n' 25 [c2, c3, c4, c5, c6, c7] = some _ := h2
  have h3 := hf 3 _ rfl
  rw [List.getElem?_eq_getElem (show 3 < ys.length by rw [hyl]; decide)] at h3
  change DataW.trod enc Tryz.prog w base spare held n' 26 (([c0, c1, c2, c3, c4, c5, c6, c7, c8, c9, c10, c11, c12, c13, c14, c15, c16].drop 8).take (Tryz.prog.cellsOf 26)) = _ at h3
  rw [show Tryz.prog.cellsOf 26 = 1 by kernel_rfl] at h3
  have k3 : DataW.trod enc Tryz.prog w base spare held n' 26 [c8] = some _ := h3
  have h4 := hf 4 _ rfl
  rw [List.getElem?_eq_getElem (show 4 < ys.length by rw [hyl]; decide)] at h4
  change DataW.trod enc Tryz.prog w base spare held n' 28 (([c0, c1, c2, c3, c4, c5, c6, c7, c8, c9, c10, c11, c12, c13, c14, c15, c16].drop 9).take (Tryz.prog.cellsOf 28)) = _ at h4
  rw [show Tryz.prog.cellsOf 28 = 3 by kernel_rfl] at h4
  have k4 : DataW.trod enc Tryz.prog w base spare held n' 28 [c9, c10, c11] = some _ := h4
  have h5 := hf 5 _ rfl
  rw [List.getElem?_eq_getElem (show 5 < ys.length by rw [hyl]; decide)] at h5
  change DataW.trod enc Tryz.prog w base spare held n' 30 (([c0, c1, c2, c3, c4, c5, c6, c7, c8, c9, c10, c11, c12, c13, c14, c15, c16].drop 12).take (Tryz.prog.cellsOf 30)) = _ at h5
  rw [show Tryz.prog.cellsOf 30 = 4 by kernel_rfl] at h5
  have k5 : DataW.trod enc Tryz.prog w base spare held n' 30 [c12, c13, c14, c15] = some _ := h5
  have h6 := hf 6 _ rfl
  rw [List.getElem?_eq_getElem (show 6 < ys.length by rw [hyl]; decide)] at h6
  change DataW.trod enc Tryz.prog w base spare held n' 3 (([c0, c1, c2, c3, c4, c5, c6, c7, c8, c9, c10, c11, c12, c13, c14, c15, c16].drop 16).take (Tryz.prog.cellsOf 3)) = _ at h6
  rw [show Tryz.prog.cellsOf 3 = 1 by kernel_rfl] at h6
  have k6 : DataW.trod enc Tryz.prog w base spare held n' 3 [c16] = some _ := h6
  obtain ⟨A0, l0, d0, g0, r0, _, q0, p0, s0⟩ := open_rdin Sl.cs (fun y => Got (fun _ => True) w S.Course.cs 6 y) 1 Tryz.underlying22 (by kernel_rfl) (by decide) (fun n cs x h => dec_courses n cs x h) k0
  obtain ⟨A1, l1, d1, g1, r1, _, q1, p1, s1⟩ := open_rdin Sl.cs (fun y => Got (fun _ => True) w Jt.cs 2 y) 1 Tryz.underlying23 (by kernel_rfl) (by decide) (fun n cs x h => dec_joints n cs x h) k1
  obtain ⟨⟨u0, u1, u2, u3, u4, u5⟩, g2, hle⟩ := dec_climb _ _ _ k2
  obtain ⟨A3, l3, d3, g3, r3, _, q3, p3, s3⟩ := open_rdin G.It.cs G.IW 4 Tryz.underlying26 (by kernel_rfl) (by decide) (fun n cs x h => dec_item n cs x h) k3
  obtain ⟨⟨t0, t1, t2⟩, g4, _⟩ := dec_rule _ _ _ k4
  obtain ⟨⟨v0, v1, v2, v3⟩, g5, _⟩ := dec_rate _ _ _ k5
  obtain ⟨m, g6, _⟩ := dec_int Tryz.underlying3 _ _ _ k6
  cases g0; cases g1; cases g2; cases g3; cases g4; cases g5; cases g6
  exact ⟨⟨⟨A0, l0, d0⟩, ⟨A1, l1, d1⟩, ⟨u0, u1, u2, u3, u4, u5⟩, ⟨A3, l3, d3⟩, ⟨t0, t1, t2⟩, ⟨v0, v1, v2, v3⟩, m⟩, rfl, ⟨⟨r0, fun _ _ _ => trivial, p0, s0⟩, q0, ⟨r1, fun _ _ _ => trivial, p1, s1⟩, q1, ⟨r3, fun _ _ _ => trivial, p3, s3⟩⟩, hle, q3⟩
end
end Go.Proofs.YtmjgljdmjpabdaaGreatDoor.Fi
namespace Go.Proofs.YtmjgljdmjpabdaaGreatDoor
open Go.RowKit
theorem f_FirmJoins (x : Fi.LSu) (s t : ByteArray) (w : World) (hL : Tx.LdW w) (hx : Fi.SuIn w x) (_ : s.size ≤ maxLen) (_ : t.size ≤ maxLen) :
  Calls Tryz.prog 3 #[.agg x.cs.toArray, .string s, .string t] w fun e w' => e = .returned (.bool true) ∧ Below w.heap.size w w' := Fi.l_FirmJoins x s t w hL hx.ok hx.le hx.gw
end Go.Proofs.YtmjgljdmjpabdaaGreatDoor
namespace Go.Proofs.YtmjgljdmjpabdaaGreatDoor
open Go.ChangeShapes Go.WideShapes Go.ChangeAt Go.RowKit Go.Deep Go.Joins
open Go.ChangeMaps (open_string shut_string)
set_option maxRecDepth 100000 in
set_option maxHeartbeats 1000000 in
theorem lifted_FirmJoins (os : Os) (started : os.Started) (H : Type) (enc : TypeId × Value → H) :
  ReturnsInHanded {} Tryz.checked os 3 .any (fun w args => (Rows.firmJoinsSpec.pre enc Tryz.prog Tryz.f3 [] false w args ∧ laidMetH Tryz.prog laidL w) ∧ sizedMet enc Tryz.prog Tryz.f3 (OpenSpec.ofChange Rows.firmJoinsSpec) false w args) (Rows.firmJoinsSpec.post enc Tryz.prog Tryz.f3 false true false false) := by
 refine ret_ls own started (by kernel_rfl) Tryz.func3
  (ChangeSpec.witness_shaped (enc := enc) (C := Tryz.checked) (os := os) (X := fun w _ => laidMetH Tryz.prog laidL w) false (World.laidAll Tryz.prog os laidL) #[.agg #[.slice none 0 0, .slice none 0 0, .int .i64 0, .int .i64 0, .int .i64 0, .int .i64 0, .int .i64 0, .int .i64 0, .slice none 0 0, .int .i64 0, .int .i64 0, .int .i64 0, .int .i64 0, .int .i64 0, .int .i64 0, .int .i64 0, .int .i64 0], .string ByteArray.empty, .string ByteArray.empty] 8 (World.laidAll_os _ _ _) (World.shaped_of_ZipB (by kernel_rfl) (by kernel_rfl)) (by kernel_rfl) (by kernel_rfl) (by kernel_rfl) (door_met os _)) ?_
 intro W base args ds gs before hval0 hW hL hsh
 have hval : ∀ (j : Nat) t v, Tryz.f3.params[j]? = some t → args[j]? = some v → Value.okWide Tryz.prog W .any base t v := hval0
 have hW' := hW
 obtain ⟨p, q, hA0, hV, rfl, hfz, hnd⟩ := hW
 have hA : DataW.TrodAll enc Tryz.prog W 0 (fun _ => true) true Tryz.f3.params.toList args.toList ds p := hA0
 rw [Tryz.params3] at hA hval
 obtain ⟨v0, vs0, d0, ds0, p0, q0, hargs, rfl, rfl, h0, r0⟩ := trodAll_cons hA
 obtain ⟨v1, vs1, d1, ds1, p1, q1, rfl, rfl, rfl, h1, r1⟩ := trodAll_cons r0
 obtain ⟨v2, vs2, d2, ds2, p2, q2, rfl, rfl, rfl, h2, r2⟩ := trodAll_cons r1
 obtain ⟨rfl, rfl, rfl⟩ := trodAll_nil r2
 obtain rfl : args = #[v0, v1, v2] := by cases args; simp_all
 obtain ⟨rfl, rfl⟩ := trodVars_none hV
 have k0 := h0
 have lt0 : ∀ x ∈ p0, x.block < W.heap.size := by obtain ⟨m, hm⟩ := k0; exact DataW.trod_lt m _ _ _ hm
 have k1 := h1
 have lt1 : ∀ x ∈ p1, x.block < W.heap.size := by obtain ⟨m, hm⟩ := k1; exact DataW.trod_lt m _ _ _ hm
 have k2 := h2
 have lt2 : ∀ x ∈ p2, x.block < W.heap.size := by obtain ⟨m, hm⟩ := k2; exact DataW.trod_lt m _ _ _ hm
 obtain ⟨a0, e0, w0⟩ := open_aggv Fi.LSu.cs (Fi.SuIn W) Tryz.underlying32 (fun n cs x h => Fi.dec_setup n cs x h) (hval 0 32 v0 rfl rfl) h0
 subst e0
 obtain ⟨a1, e1, _, _, w1⟩ := open_string Tryz.underlying9 (hval 1 9 v1 rfl rfl) h1
 subst e1
 obtain ⟨a2, e2, _, _, w2⟩ := open_string Tryz.underlying9 (hval 2 9 v2 rfl rfl) h2
 subst e2
 clear hA0 hval0
 refine (f_FirmJoins a0 a1 a2 W (ld_of hL hsh) w0 w1 w2).mono fun e W' ⟨he, bel⟩ => ?_
 subst he
 exact ⟨_, rfl, _, _, _, [], _, [], hW', trodAll_mk1 (shut_bool Tryz.underlying4 _), (trodAll_cons_mk (Below.trod laidOut (by kernel_rfl) (of_decide_eq_true (by kernel_rfl)) k0 bel lt0) (trodAll_cons_mk (Below.trod laidOut (by kernel_rfl) (of_decide_eq_true (by kernel_rfl)) k1 bel lt1) (trodAll_cons_mk (Below.trod laidOut (by kernel_rfl) (of_decide_eq_true (by kernel_rfl)) k2 bel lt2) trodAll_mk0))), rfl, bel.frame _, fun h => by cases h⟩
theorem firmJoins_holds : Rows.FirmJoinsSaid :=
 OpenClaim.holds_of_wide 3 Tryz.f3 rfl rfl rfl rfl rfl rfl rfl ⟨rfl, rfl, rfl, rfl, rfl⟩ rfl rfl rfl rfl rfl (by kernel_rfl) Tryz.func3 (by kernel_rfl)
  (of_decide_eq_true (by kernel_rfl)) (by unfold Func.isWrapper; rw [if_neg (of_decide_eq_false (by kernel_rfl))]; exact ⟨rfl, rfl⟩)
  (fun os started H enc _ => lifted_FirmJoins os started H enc)
theorem firmJoins_card : Rows.FirmJoinsCardSaid :=
 Claim7.holds_tied_plain_at .later [] [.data, .data, .data, .data, .sentinel, .sentinel, .pinned] true (true, "a6c54a08782b66771d1e3c7f8a7ed283a95e29eb5274b162556a0a08fd4eac72") true
  firmJoins_holds (fun _ h => by cases h) (by kernel_rfl) (fun _ h => by cases h) firmJoins_row_tie rfl ⟨rfl, rfl⟩ (by kernel_rfl) rfl
  (fun f fn hf hfn => by
   obtain rfl : f = 3 := Option.some.inj ((show Tryz.prog.funcNamed "steeplejack/steeplejacklaw10.FirmJoins" = some 3 by kernel_rfl).symm.trans hf) |>.symm
   obtain rfl : fn = Tryz.f3 := (Option.some.inj (Tryz.func3.symm.trans hfn)).symm
   exact ⟨by kernel_rfl, fun j t ht => by
    rw [Tryz.params3] at ht
    have hm : t ∈ [32, 9, 9] := by simpa using Array.mem_of_getElem? ht
    have hall : ([32, 9, 9].all fun u => !Tryz.prog.wantsStandIn u) = true := by kernel_rfl
    exact (show Tryz.prog.wantsStandIn t = false by simpa using List.all_eq_true.1 hall t hm)⟩)
  (by kernel_rfl)
#print axioms firmJoins_card
end Go.Proofs.YtmjgljdmjpabdaaGreatDoor
