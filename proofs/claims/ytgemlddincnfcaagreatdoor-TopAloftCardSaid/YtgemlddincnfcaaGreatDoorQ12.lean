/- The parts of the proof, part 12. -/
import Derived.Test.YtgemlddincnfcaaGreatDoorQ0
import Derived.Test.YtgemlddincnfcaaGreatDoorQ11
import Derived.Deep.AppendLies
set_option maxHeartbeats 16000000
set_option maxRecDepth 20000
set_option linter.unusedSimpArgs false
set_option linter.unusedVariables false
namespace Go.Proofs.YtgemlddincnfcaaGreatDoor.Fi
open Go.RowKit Go.Lib Tx
structure Sl (α : Type) where
 a : Option Addr
 l : List α
 c : Nat
abbrev Sl.v {α : Type} (x : Sl α) : Value := .slice x.a x.l.length x.c
def Sl.cs {α : Type} (x : Sl α) : List Value := [x.v]
theorem Sl.cs_len {α : Type} (x : Sl α) : x.cs.length = 1 := rfl
def Jt.cs (j : Jt) : List Value := [.int .i64 j.h, .bool j.s]
theorem Jt.cs_len (j : Jt) : j.cs.length = 2 := rfl
def En.cs (e : En) : List Value := [.int .i64 e.n, .int .i64 e.d, .string e.t, .int .u64 (e.s : Nat)]
theorem En.cs_len (e : En) : e.cs.length = 4 := rfl
structure LSu where
 stk : Sl (Sl S.Course)
 jnt : Sl (Sl Jt)
 cl : Cl
 gear : Sl G.It
 ru : V.Ru
 rt : Rt
 men : Int
structure LRg where
 st : Int
 lk : Sl G.Lk
structure LSi where
 dogs : Sl Int
 fel : Bool
 men : Int
structure LS where
 x : LSu
 day : Int
 gusts : Sl Int
 rigs : Sl LRg
 sites : Sl LSi
 items : Sl G.It
 back : Sl ByteArray
 money : Int
 lines : Sl En
def LRg.cs (r : LRg) : List Value := [.int .i64 r.st, r.lk.v]
theorem LRg.cs_len (r : LRg) : r.cs.length = 2 := rfl
def LSi.cs (s : LSi) : List Value := [s.dogs.v, .bool s.fel, .int .i64 s.men]
theorem LSi.cs_len (s : LSi) : s.cs.length = 3 := rfl
abbrev LSu.cs (x : LSu) : List Value := [x.stk.v, x.jnt.v, .int .i64 x.cl.fi, .int .i64 x.cl.ga, .int .i64 x.cl.tp, .int .i64 x.cl.le, .int .i64 x.cl.la, .int .i64 x.cl.st, x.gear.v, .int .i64 x.ru.s, .int .i64 x.ru.g, .int .i64 x.ru.c, .int .i64 x.rt.lo, .int .i64 x.rt.hi, .int .i64 x.rt.ab, .int .i64 x.rt.co, .int .i64 x.men]
abbrev LS.cs (x : LS) : List Value := [x.x.stk.v, x.x.jnt.v, .int .i64 x.x.cl.fi, .int .i64 x.x.cl.ga, .int .i64 x.x.cl.tp, .int .i64 x.x.cl.le, .int .i64 x.x.cl.la, .int .i64 x.x.cl.st, x.x.gear.v, .int .i64 x.x.ru.s, .int .i64 x.x.ru.g, .int .i64 x.x.ru.c, .int .i64 x.x.rt.lo, .int .i64 x.x.rt.hi, .int .i64 x.x.rt.ab, .int .i64 x.x.rt.co, .int .i64 x.x.men, .int .i64 x.day, x.gusts.v, x.rigs.v, x.sites.v, x.items.v, x.back.v, .int .i64 x.money, x.lines.v]
def LSu.val (x : LSu) : Su := ⟨x.stk.l.map (·.l), x.jnt.l.map (·.l), x.cl, x.gear.l, x.ru, x.rt, x.men⟩
def LRg.val (r : LRg) : Rig := ⟨r.st, r.lk.l⟩
def LSi.val (s : LSi) : Sit := ⟨s.dogs.l, s.fel, s.men⟩
def LS.val (x : LS) : St := ⟨x.x.val, x.day, x.gusts.l, x.rigs.l.map LRg.val, x.sites.l.map LSi.val, x.items.l, x.back.l, x.money, x.lines.l⟩
structure Got (T : Nat -> Prop) (w : World) {α : Type} (enc : α -> List Value) (sz : Nat) (x : Sl α) : Prop where
 rd : Rd enc sz w x.a x.l
 tt : x.l ≠ [] -> ∀ a, x.a = some a -> T a.block
 lc : x.l.length <= x.c
 cm : x.c <= maxLen
section
variable {T T' : Nat -> Prop} {w w' : World} {α : Type} {enc : α -> List Value} {sz : Nat} {x : Sl α}
theorem Got.len (h : Got T w enc sz x) : x.l.length <= maxLen := Nat.le_trans h.lc h.cm
theorem Got.stp {N : Nat -> Prop} (h : Got T w enc sz x) (hs : Stp N w w') (hn : ∀ b, T b -> ¬ N b) : Got T w' enc sz x := by
 refine ⟨fun hne => ?_, h.tt, h.lc, h.cm⟩
 obtain ⟨b, off, e, hb, hc⟩ := h.rd hne
 exact ⟨b, off, e, Nat.lt_of_lt_of_le hb hs.size, fun k y hy j v hv => hs.cell (hc k y hy j v hv) (hn b (h.tt hne _ e))⟩
theorem Got.on (h : Got T w enc sz x) (hb : Below w.heap.size w w') : Got T w' enc sz x := ⟨h.rd.on hb, h.tt, h.lc, h.cm⟩
theorem Got.mono (h : Got T w enc sz x) (ht : ∀ b, b < w.heap.size -> T b -> T' b) : Got T' w enc sz x := by
 refine ⟨h.rd, fun hne a ha => ?_, h.lc, h.cm⟩
 obtain ⟨b, off, e, hb, _⟩ := h.rd hne
 have := h.tt hne _ ha
 rw [e] at ha; cases ha
 exact ht b hb this
theorem got_nil (T : Nat -> Prop) (w : World) (enc : α -> List Value) (sz : Nat) : Got T w enc sz ⟨none, [], 0⟩ := ⟨Rd.nil_, fun h => absurd rfl h, by simp, by simp⟩
end
theorem own_caps {W : World} {base sz k : Nat} {e : TypeId} {A : Option Addr} {c : Nat} {xs : List Value} (h : W.ownsRow base e sz (.slice A k c) k xs) : k <= c ∧ c <= maxLen := by
 rcases h.2 with ⟨h1, h0⟩ | ⟨g', cap, cur, h1, hB, hh, h2, h3, h4, h5⟩
 ·cases h1; exact ⟨Nat.le_refl _, by simp⟩
 ·cases h1; exact ⟨h2, h3⟩
structure SuOk (T : Nat -> Prop) (w : World) (x : LSu) : Prop where
 stk : Got T w Sl.cs 1 x.stk
 stks : ∀ y ∈ x.stk.l, Got T w S.Course.cs 6 y
 jnt : Got T w Sl.cs 1 x.jnt
 jnts : ∀ y ∈ x.jnt.l, Got T w Jt.cs 2 y
 gear : Got T w G.It.cs 4 x.gear
structure StOk (T : Nat -> Prop) (w : World) (x : LS) : Prop where
 su : SuOk T w x.x
 gusts : Got T w zC 1 x.gusts
 rigs : Got T w LRg.cs 2 x.rigs
 rk : ∀ r ∈ x.rigs.l, Got T w G.Lk.cs 2 r.lk
 sites : Got T w LSi.cs 3 x.sites
 sk : ∀ s ∈ x.sites.l, Got T w zC 1 s.dogs
 items : Got T w G.It.cs 4 x.items
 back : Got T w G.sC 1 x.back
section
variable {T T' N : Nat -> Prop} {w w' : World}
theorem SuOk.stp {x : LSu} (h : SuOk T w x) (hs : Stp N w w') (hn : ∀ b, T b -> ¬ N b) : SuOk T w' x := ⟨h.stk.stp hs hn, fun y hy => (h.stks y hy).stp hs hn, h.jnt.stp hs hn, fun y hy => (h.jnts y hy).stp hs hn, h.gear.stp hs hn⟩
theorem SuOk.on {x : LSu} (h : SuOk T w x) (hb : Below w.heap.size w w') : SuOk T w' x := ⟨h.stk.on hb, fun y hy => (h.stks y hy).on hb, h.jnt.on hb, fun y hy => (h.jnts y hy).on hb, h.gear.on hb⟩
theorem SuOk.mono {x : LSu} (h : SuOk T w x) (ht : ∀ b, b < w.heap.size -> T b -> T' b) : SuOk T' w x := ⟨h.stk.mono ht, fun y hy => (h.stks y hy).mono ht, h.jnt.mono ht, fun y hy => (h.jnts y hy).mono ht, h.gear.mono ht⟩
theorem StOk.stp {x : LS} (h : StOk T w x) (hs : Stp N w w') (hn : ∀ b, T b -> ¬ N b) : StOk T w' x :=
 ⟨h.su.stp hs hn, h.gusts.stp hs hn, h.rigs.stp hs hn, fun y hy => (h.rk y hy).stp hs hn, h.sites.stp hs hn, fun y hy => (h.sk y hy).stp hs hn, h.items.stp hs hn, h.back.stp hs hn⟩
theorem StOk.on {x : LS} (h : StOk T w x) (hb : Below w.heap.size w w') : StOk T w' x :=
 ⟨h.su.on hb, h.gusts.on hb, h.rigs.on hb, fun y hy => (h.rk y hy).on hb, h.sites.on hb, fun y hy => (h.sk y hy).on hb, h.items.on hb, h.back.on hb⟩
theorem StOk.mono {x : LS} (h : StOk T w x) (ht : ∀ b, b < w.heap.size -> T b -> T' b) : StOk T' w x :=
 ⟨h.su.mono ht, h.gusts.mono ht, h.rigs.mono ht, fun y hy => (h.rk y hy).mono ht, h.sites.mono ht, fun y hy => (h.sk y hy).mono ht, h.items.mono ht, h.back.mono ht⟩
end
def Foot (b : Nat) (L : LS) : Nat -> Prop := fun g => g = b ∨ L.lines.v.ownBlock = some g
structure FirmAt (w : World) (b : Nat) (L : LS) (T : Nat -> Prop) : Prop where
 blk : Blk w b 87 L.cs.toArray
 ok : StOk T w L
 row : w.ownsRow 0 73 4 L.lines.v L.lines.l.length (fl En.cs L.lines.l)
 ft : ∀ g, T g -> ¬ Foot b L g
 bl : L.lines.v.ownBlock ≠ some b
theorem FirmAt.stp {w w' : World} {b : Nat} {L : LS} {T N : Nat -> Prop} (h : FirmAt w b L T) (hs : Stp N w w') (hT : ∀ g, T g -> ¬ N g) (hF : ∀ g, Foot b L g -> ¬ N g) : FirmAt w' b L T := by
 refine ⟨hs.blk h.blk (hF b (.inl rfl)), h.ok.stp hs hT, ?_, h.ft, h.bl⟩
 refine ⟨h.row.1, ?_⟩
 rcases h.row.2 with ⟨h1, h0⟩ | ⟨g', cap, cur, h1, hB, hh, h2, h3, h4, h5⟩
 ·exact .inl ⟨h1, h0⟩
 ·exact .inr ⟨g', cap, cur, h1, hB, (hs.block g' (lt_of_block hh) (hF g' (.inr (by rw [h1]; rfl)))).trans hh, h2, h3, h4, h5⟩
theorem FirmAt.on {w w' : World} {b : Nat} {L : LS} {T : Nat -> Prop} (h : FirmAt w b L T) (hb : Below w.heap.size w w') : FirmAt w' b L T :=
 ⟨h.blk.below hb h.blk.lt, h.ok.on hb, own_on h.row hb, h.ft, h.bl⟩
structure Fut (w : World) (b : Nat) (L : LS) (T : Nat -> Prop) (w' : World) (L' : LS) (T' : Nat -> Prop) : Prop where
 at_ : FirmAt w' b L' T'
 stp : Stp (Foot b L) w w'
 tt : ∀ g, T' g -> T g ∨ w.heap.size <= g
 ff : ∀ g, Foot b L' g -> Foot b L g ∨ w.heap.size <= g
theorem Fut.refl {w : World} {b : Nat} {L : LS} {T : Nat -> Prop} (h : FirmAt w b L T) : Fut w b L T w L T := ⟨h, Stp.refl _ _, fun _ h => .inl h, fun _ h => .inl h⟩
theorem Fut.of_below {w w' : World} {b : Nat} {L : LS} {T : Nat -> Prop} (h : FirmAt w b L T) (hb : Below w.heap.size w w') : Fut w b L T w' L T :=
 ⟨h.on hb, (Stp.refl _ _).below hb (Nat.le_refl _), fun _ h => .inl h, fun _ h => .inl h⟩
theorem stp_tr {N N' : Nat -> Prop} {w w1 w2 : World} (h : Stp N w w1) (k : Stp N' w1 w2) (hn : ∀ g, N' g -> N g ∨ w.heap.size <= g) : Stp N w w2 :=
 ⟨k.os.trans h.os, k.tape.trans h.tape, k.output.trans h.output, Nat.le_trans h.size k.size, fun g hg hng => (k.block g (Nat.lt_of_lt_of_le hg h.size) (fun q => by rcases hn g q with q | q; exact hng q; omega)).trans (h.block g hg hng)⟩
theorem Fut.trans {w w1 w2 : World} {b : Nat} {L L1 L2 : LS} {T T1 T2 : Nat -> Prop} (h : Fut w b L T w1 L1 T1) (k : Fut w1 b L1 T1 w2 L2 T2) : Fut w b L T w2 L2 T2 := by
 have hs := h.stp.size
 refine ⟨k.at_, stp_tr h.stp k.stp h.ff, fun g hg => ?_, fun g hg => ?_⟩
 ·rcases k.tt g hg with h1 | h1
  ·exact h.tt g h1
  ·exact .inr (Nat.le_trans hs h1)
 ·rcases k.ff g hg with h1 | h1
  ·exact h.ff g h1
  ·exact .inr (Nat.le_trans hs h1)
theorem wn_iff {n a b : Int} : wn n a b = true ↔ a <= n ∧ n <= b := by simp [wn]
abbrev clV (c : Cl) : Value := .agg #[.int .i64 c.fi, .int .i64 c.ga, .int .i64 c.tp, .int .i64 c.le, .int .i64 c.la, .int .i64 c.st]
abbrev clA (c : Cl) : Array Value := #[.int .i64 c.fi, .int .i64 c.ga, .int .i64 c.tp, .int .i64 c.le, .int .i64 c.la, .int .i64 c.st]
theorem l_within (n lo hi : Int) (w : World) :
  Calls Tryz.prog 107 #[.int .i64 n, .int .i64 lo, .int .i64 hi] w fun e w' => e = .returned (.bool (wn n lo hi)) ∧ w = w' := by
 by_cases h1 : lo <= n
 ·have t1 : decide (lo <= n) = true := by simpa using h1
  go_enter Tryz.func107, Tryz.ntmps107
  go_wp2
  go_ret
  exact ⟨ret_bool (by simp [wn, h1]), rfl⟩
 ·have t1 : decide (lo <= n) = false := by simpa using h1
  go_enter Tryz.func107, Tryz.ntmps107
  go_wp2
  go_ret
  exact ⟨ret_bool (by unfold wn; rw [t1]; rfl), rfl⟩
theorem l_withinV {n lo hi : Int} {b : Bool} (h : wn n lo hi = b) (w : World) :
  Calls Tryz.prog 107 #[.int .i64 n, .int .i64 lo, .int .i64 hi] w fun e w' => e = .returned (.bool b) ∧ w = w' := h ▸ l_within n lo hi w
theorem rdJ {w : World} {A : Option Addr} {l : List Jt} (h : Rd Jt.cs 2 w A l) {k : Nat} (hk : k < l.length) :
  ∃ x b off, l[k]? = some x ∧ A = some ⟨b, off, none⟩ ∧ b < w.heap.size ∧ w.cell? ⟨b, off + k * 2, none⟩ = some (.int .i64 x.h) ∧ w.cell? ⟨b, off + k * 2 + 1, none⟩ = some (.bool x.s) := by
 obtain ⟨x, hx⟩ := get_lt hk
 obtain ⟨b, off, e, hb, hc⟩ := h.get hx
 exact ⟨x, b, off, hx, e, hb, hc 0 _ rfl, hc 1 _ rfl⟩
theorem jAt_of {l : List Jt} {i : Nat} {x : Jt} (h : l[i]? = some x) : jAt l i = x := by simp [jAt, h]
theorem vJ_no {l : List Jt} {k : Nat} (hk : k < l.length) (h : okJ l k = false) : vJ l = false := by
 unfold vJ
 rw [Bool.and_eq_false_iff]; left
 rw [List.all_eq_false]
 exact ⟨k, by simpa using hk, by simp [h]⟩
theorem vJ_yes {l : List Jt} (h : (List.range l.length).all (okJ l) = true) : vJ l = decide (l.length <= 200) := by unfold vJ; rw [h, Bool.true_and]
theorem all_stepJ {p : Nat -> Bool} {k : Nat} (h : (List.range k).all p = true) (hk : p k = true) : (List.range (k + 1)).all p = true := by
 rw [List.range_succ, List.all_append, h]; simp [hk]
theorem l_ValidJoints (A : Option Addr) (l : List Jt) (c : Nat) (w : World) (hl : l.length <= 100000) (hR : Rd Jt.cs 2 w A l) :
  Calls Tryz.prog 69 #[.slice A l.length c] w fun e w' => e = .returned (.bool (vJ l)) ∧ Below w.heap.size w w' := by
 go_enter Tryz.func69, Tryz.ntmps69
 go_wp2
 go_loopw [7] (fun i wr => ∃ k : Nat, k <= l.length ∧ i = .int .i64 k ∧ Below w.heap.size w wr ∧ Hid ((List.range k).all (okJ l) = true)) (fun i _ => l.length - (RowKit.intOf i).toNat)
 case atStart => exact ⟨0, by omega, rfl, below_refl _, Lib.hid rfl⟩
 case round =>
  obtain ⟨k, hk, rfl, hbw, HI⟩ := hrel
  have k0 := nn k
  by_cases hlt : k < l.length
  ·have k1 : (k : Int) < (l.length : Int) := by omega
   obtain ⟨x, b, off, hx, rfl, hb, c0, c1⟩ := rdJ (hR.on hbw) hlt
   have HX := Lib.hid (jAt_of hx)
   cases h1 : wn x.h 1 200000
   ·have HE := Lib.hid (vJ_no hlt (by unfold okJ; rw [HX.out, h1]; rfl))
    obtain ⟨XH, XS⟩ := x
    dsimp only at *
    clear hx
    go_wp2
    go_quiet ((go_at_call 107; with_reducible exact quiet_left (l_withinV h1 _)))
    go_wp2
    go_ret
    exact ⟨ret_bool HE.out.symm, below_drewN (bl_alloc hbw _) _⟩
   by_cases hk0 : 0 < k
   ·obtain ⟨y, b', off', hy, e', hb', d0, d1⟩ := rdJ (hR.on hbw) (show k - 1 < l.length by omega)
    cases e'
    have hw1 : IntKind.i64.wrap ((k : Int) - 1) = ((k - 1 : Nat) : Int) := by rw [fits_wrap ⟨by omega, by omega⟩]; omega
    have q0 : (0 : Int) <= ((k - 1 : Nat) : Int) := Int.natCast_nonneg _
    have q1 : ((k - 1 : Nat) : Int) < (l.length : Int) := by omega
    have HY := Lib.hid (jAt_of hy)
    by_cases h2 : x.h <= y.h
    ·have HE := Lib.hid (vJ_no hlt (by unfold okJ; rw [HX.out, HY.out, h1, decide_eq_false (show ¬ k = 0 by omega), decide_eq_false (show ¬ y.h < x.h by omega)]; rfl))
     obtain ⟨XH, XS⟩ := x
     dsimp only at *
     clear hx hy
     go_wp2
     go_quiet ((go_at_call 107; with_reducible exact quiet_left (l_withinV h1 _)))
     go_wp2
     go_ret
     exact ⟨ret_bool HE.out.symm, below_drewN (bl_alloc hbw _) _⟩
    ·have HO := Lib.hid (all_stepJ HI.out (show okJ l k = true by unfold okJ; rw [HX.out, HY.out, h1, decide_eq_true (show y.h < x.h by omega), Bool.or_true]; rfl))
     have n2 : decide (x.h <= y.h) = false := decide_eq_false h2
     obtain ⟨XH, XS⟩ := x
     dsimp only at *
     clear hx hy
     go_wp2
     go_quiet ((go_at_call 107; with_reducible exact quiet_left (l_withinV h1 _)))
     go_wp2
     go_roundw
     case rel => exact ⟨k + 1, by omega, by go_num, below_drewN (bl_alloc hbw _) _, HO⟩
     case measure => simp [RowKit.intOf]; omega
   ·have hk00 : k = 0 := by omega
    have n8 : decide (0 < k) = false := decide_eq_false hk0
    have HO := Lib.hid (all_stepJ HI.out (show okJ l k = true by unfold okJ; rw [HX.out, h1, decide_eq_true hk00]; rfl))
    obtain ⟨XH, XS⟩ := x
    dsimp only at *
    clear hx hk00
    go_wp2
    go_quiet ((go_at_call 107; with_reducible exact quiet_left (l_withinV h1 _)))
    go_wp2
    go_roundw
    case rel => exact ⟨k + 1, by omega, by go_num, below_drewN (bl_alloc hbw _) _, HO⟩
    case measure => simp [RowKit.intOf]; omega
  ·obtain rfl : k = l.length := by omega
   have HE := Lib.hid (vJ_yes HI.out)
   go_wp2
   go_ret
   exact ⟨ret_bool (by rw [HE.out]; simp; omega), hbw⟩
theorem l_ValidJointsV {A : Option Addr} {l : List Jt} {c : Nat} {w : World} {b : Bool} (h : vJ l = b) (hl : l.length <= 100000) (hR : Rd Jt.cs 2 w A l) :
  Calls Tryz.prog 69 #[.slice A l.length c] w fun e w' => e = .returned (.bool b) ∧ Below w.heap.size w w' := h ▸ l_ValidJoints A l c w hl hR
def clN (c : Cl) : List Int := [c.fi, c.ga, c.tp, c.le]
theorem vCl_no {c : Cl} {k : Nat} {x : Int} (hx : (clN c)[k]? = some x) (h : wn x 1 200000 = false) : vCl c = false := by
 unfold vCl
 match k, hx with
 | 0, hx => cases hx; rw [h]; rfl
 | 1, hx => cases hx; rw [h]; simp
 | 2, hx => cases hx; rw [h]; simp
 | 3, hx => cases hx; rw [h]; simp
 | k + 4, hx => simp [clN] at hx
theorem vCl_yes {c : Cl} (h : (clN c).all (fun x => wn x 1 200000) = true) : vCl c = (wn c.la 0 (c.le - 1) && wn c.st 1 1000000) := by
 rw [List.all_eq_true] at h
 unfold vCl
 rw [h c.fi (by simp [clN]), h c.ga (by simp [clN]), h c.tp (by simp [clN]), h c.le (by simp [clN])]; rfl
theorem all_take_step {α : Type} {p : α -> Bool} {l : List α} {k : Nat} {x : α} (h : (l.take k).all p = true) (hx : l[k]? = some x) (hp : p x = true) : (l.take (k + 1)).all p = true := by
 rw [List.take_add_one, hx, List.all_append, h]; simp [hp]
theorem l_ValidClimb0 (c : Cl) (w : World) (hle : -9223372036854775808 <= c.le ∧ c.le <= 9223372036854775807) :
  Calls Tryz.prog 70 #[clV c] w fun e w' => e = .returned (.bool (vCl c)) ∧ Below w.heap.size w w' := by
 have x0 := Blk.new w 25 (clA c)
 have B0 := bl_alloc (below_refl w) (.cells (clA c) 25)
 have HE := Lib.hid (fun h => vCl_yes (c := c) h)
 have q3 := x0.cell 3
 have q4 := x0.cell 4
 have q5 := x0.cell 5
 simp only [GA] at q3 q4 q5
 go_enter Tryz.func70, Tryz.ntmps70
 go_upto_region 2 with fail
 have B1 := bl_alloc B0 (.cells #[.int .i64 c.fi, .int .i64 c.ga, .int .i64 c.tp, .int .i64 c.le] 3)
 have r0 : Rd zC 1 ((w.alloc (.cells (clA c) 25)).alloc (.cells #[.int .i64 c.fi, .int .i64 c.ga, .int .i64 c.tp, .int .i64 c.le] 3)) (some ⟨w.heap.size + 1, 0, none⟩) (clN c) := by
  intro hne
  have hb := Blk.new (w.alloc (.cells (clA c) 25)) 3 #[.int .i64 c.fi, .int .i64 c.ga, .int .i64 c.tp, .int .i64 c.le]
  rw [World.size_alloc] at hb
  refine ⟨w.heap.size + 1, 0, rfl, hb.lt, fun k x hx j v hv => ?_⟩
  have hj : j = 0 := by
   rcases Nat.lt_or_ge j 1 with h | h
   ·omega
   ·rw [List.getElem?_eq_none (by simpa [zC] using h)] at hv; cases hv
  subst hj
  cases hv
  rw [show 0 + k * 1 + 0 = k by omega, hb.cell k]
  match k, hx with
  | 0, hx => cases hx; rfl
  | 1, hx => cases hx; rfl
  | 2, hx => cases hx; rfl
  | 3, hx => cases hx; rfl
  | k + 4, hx => simp [clN] at hx
 have x1 := x0.alloc (.cells #[.int .i64 c.fi, .int .i64 c.ga, .int .i64 c.tp, .int .i64 c.le] 3)
 clear q3 q4 q5 x0 B0
 generalize (w.alloc (.cells (clA c) 25)).alloc (.cells #[.int .i64 c.fi, .int .i64 c.ga, .int .i64 c.tp, .int .i64 c.le] 3) = w2 at *
 go_loopw [15] (fun i wr => ∃ k : Nat, k <= 4 ∧ i = .int .i64 k ∧ wr = w2 ∧ Hid (((clN c).take k).all (fun x => wn x 1 200000) = true)) (fun i _ => 4 - (RowKit.intOf i).toNat)
 case atStart => exact ⟨0, by omega, rfl, rfl, Lib.hid rfl⟩
 case round =>
  obtain ⟨k, hk, rfl, rfl, HI⟩ := hrel
  have k0 := nn k
  by_cases hlt : k < 4
  ·have k1 : (k : Int) < 4 := by omega
   obtain ⟨x, b, off, hx, e, hb, c0⟩ := rd_int r0 (show k < (clN c).length from hlt)
   cases e
   have HX := Lib.hid hx
   rw [Nat.zero_add] at c0
   clear hx
   cases h1 : wn x 1 200000
   ·have HN := Lib.hid (vCl_no HX.out h1)
    go_wp2_with (go_at_call 107; ((with_reducible refine (l_withinV h1 _).mono ?_); rintro e w' ⟨rfl, rfl⟩))
    go_ret
    exact ⟨ret_bool HN.out.symm, B1⟩
   ·have HS := Lib.hid (all_take_step HI.out HX.out h1)
    go_wp2_with (go_at_call 107; ((with_reducible refine (l_withinV h1 _).mono ?_); rintro e w' ⟨rfl, rfl⟩))
    go_roundw
    case rel => exact ⟨k + 1, by omega, by go_num, trivial, HS⟩
    case measure => simp [RowKit.intOf]; omega
  ·obtain rfl : k = 4 := by omega
   have HV := Lib.hid (HE.out HI.out)
   have hw1 : IntKind.i64.wrap (c.le - 1) = c.le - 1 := by
    have h1 := HI.out
    rw [List.all_eq_true] at h1
    have h2 := h1 c.le (by simp [clN])
    unfold wn at h2
    simp only [Bool.and_eq_true, decide_eq_true_eq] at h2
    exact fits_wrap ⟨by omega, by omega⟩
   have p3 := x1.cell 3
   have p4 := x1.cell 4
   have p5 := x1.cell 5
   simp only [GA] at p3 p4 p5
   clear HI
   cases h1 : wn c.la 0 (c.le - 1)
   ·rw [h1] at HV
    go_wp2_with (go_at_call 107; ((with_reducible refine (l_withinV h1 _).mono ?_); rintro e w' ⟨rfl, rfl⟩))
    go_ret
    exact ⟨ret_bool (by rw [HV.out]; rfl), B1⟩
   ·cases h2 : wn c.st 1 1000000
    all_goals
     rw [h1, h2] at HV
     go_wp2_with (first | (go_at_call 107; ((with_reducible refine (l_withinV h1 _).mono ?_); rintro e w' ⟨rfl, rfl⟩)) | (go_at_call 107; ((with_reducible refine (l_withinV h2 _).mono ?_); rintro e w' ⟨rfl, rfl⟩)))
     go_ret
     exact ⟨ret_bool (by rw [HV.out]; rfl), B1⟩
theorem l_ValidClimb (c : Cl) (w : World) (hle : -9223372036854775808 < c.le ∧ c.le <= 9223372036854775807) :
  Calls Tryz.prog 70 #[clV c] w fun e w' => e = .returned (.bool (vCl c)) ∧ Below w.heap.size w w' := l_ValidClimb0 c w ⟨by omega, hle.2⟩
theorem l_ValidClimbW {c : Cl} {v : Bool} (h : vCl c = v) (w : World) (hle : -9223372036854775808 <= c.le ∧ c.le <= 9223372036854775807) :
  Calls Tryz.prog 70 #[clV c] w fun e w' => e = .returned (.bool v) ∧ Below w.heap.size w w' := h ▸ l_ValidClimb0 c w hle
theorem l_ValidClimbV {c : Cl} {v : Bool} (h : vCl c = v) (w : World) (hle : -9223372036854775808 < c.le ∧ c.le <= 9223372036854775807) :
  Calls Tryz.prog 70 #[clV c] w fun e w' => e = .returned (.bool v) ∧ Below w.heap.size w w' := h ▸ l_ValidClimb c w hle
theorem l_last (c : Cl) (j : Jt) (w : World) (h0 : -1000000000000 <= j.h ∧ j.h <= 1000000000000) (h1 : -1000000000000 <= c.ga ∧ c.ga <= 1000000000000) :
  Calls Tryz.prog 59 #[clV c, .agg #[.int .i64 j.h, .bool j.s]] w fun e w' => e = .returned (.bool (lastB c j)) ∧ Below w.heap.size w w' := by
 have hw1 : IntKind.i64.wrap (j.h + c.ga) = j.h + c.ga := fits_wrap ⟨by omega, by omega⟩
 by_cases h : c.tp <= j.h + c.ga
 ·have hd : decide (c.tp <= j.h + c.ga) = true := decide_eq_true h
  go_enter Tryz.func59, Tryz.ntmps59
  go_wp2
  go_ret
  exact ⟨ret_bool (by unfold lastB; rw [hd]), bl⟩
 ·have hd : decide (c.tp <= j.h + c.ga) = false := decide_eq_false h
  go_enter Tryz.func59, Tryz.ntmps59
  go_wp2
  go_ret
  exact ⟨ret_bool (by unfold lastB; rw [hd]), bl⟩
end Go.Proofs.YtgemlddincnfcaaGreatDoor.Fi
namespace Go.Proofs.YtgemlddincnfcaaGreatDoor.Fi
open Go.RowKit Go.Lib Go.Maps Tx
theorem upM_comm (a m n : Int) : upM (upM a m) n = upM (upM a n) m := by unfold upM; grind
theorem upM_no {a m : Int} (h : ¬ 0 < m) : upM a m = a := by unfold upM; rw [if_neg (fun q => h q.1)]
theorem upF_filter (a : Int) (l : List Int) : l.foldl upM a = (l.filter fun m => decide (0 < m)).foldl upM a := by
 induction l generalizing a with
 | nil => rfl
 | cons m l ih =>
  by_cases h : 0 < m
  ·rw [List.filter_cons_of_pos (by simpa using h), List.foldl_cons, List.foldl_cons, ih]
  ·rw [List.filter_cons_of_neg (by simpa using h), List.foldl_cons, upM_no h, ih]
theorem upF_perm {l m : List Int} (h : l.Perm m) (a : Int) : l.foldl upM a = m.foldl upM a := by
 induction h generalizing a with
 | nil => rfl
 | cons x _ ih => simp only [List.foldl_cons]; exact ih _
 | swap x y l => simp only [List.foldl_cons]; rw [upM_comm]
 | trans _ _ h1 h2 => rw [h1, h2]
theorem upF_one (l : List Int) : l.foldl upM 1 = 1 := by
 induction l with
 | nil => rfl
 | cons m l ih =>
  have : upM 1 m = 1 := by unfold upM; rw [if_neg (by omega)]
  rw [List.foldl_cons, this, ih]
theorem upF_bd (l : List Int) (a B : Int) (h0 : 0 <= a) (ha : a <= B) (hl : ∀ m ∈ l, m + 1 <= B) : 0 <= l.foldl upM a ∧ l.foldl upM a <= B := by
 induction l generalizing a with
 | nil => exact ⟨h0, ha⟩
 | cons m l ih =>
  rw [List.foldl_cons]
  have h1 := hl m (List.mem_cons_self ..)
  refine ih _ ?_ ?_ fun x hx => hl x (List.mem_cons_of_mem _ hx)
  ·unfold upM; split <;> omega
  ·unfold upM; split <;> omega
theorem nds_len (c : Cl) : ∀ l, (nds c l).length = l.length
 | [] => rfl
 | j :: r => by simp [nds, nds_len c r]
theorem nds_drop (c : Cl) : ∀ (l : List Jt) (k : Nat), (nds c l).drop k = nds c (l.drop k)
 | [], k => by simp [nds]
 | j :: r, 0 => rfl
 | j :: r, k + 1 => by simp only [nds, List.drop_succ_cons]; exact nds_drop c r k
theorem ndA_head {c : Cl} {l : List Jt} {k : Nat} {j : Jt} (h : l[k]? = some j) : ndA c l k = if j.s = true then (if lastB c j = true then 1 else (((l.drop (k + 1)).zip (nds c (l.drop (k + 1)))).filter fun q => decide (q.1.h - j.h <= c.ga)).foldl (fun a q => upM a q.2) 0) else 0 := by
 have hk := (List.getElem?_eq_some_iff.1 h).1
 have e : l.drop k = j :: l.drop (k + 1) := by
  rw [List.drop_eq_getElem_cons hk]; congr 1
  rw [List.getElem?_eq_getElem hk] at h; exact Option.some.inj h
 have h1 := nds_drop c l k
 rw [e] at h1
 have h2 : (nds c l).getD k 0 = ((nds c l).drop k).getD 0 0 := by simp [List.getD_eq_getElem?_getD]
 unfold ndA
 rw [h2, h1]; rfl
theorem ndA_bd (c : Cl) (l : List Jt) : ∀ k, 0 <= ndA c l k ∧ ndA c l k <= l.length := by
 have go : ∀ l, ∀ m ∈ nds c l, 0 <= m ∧ m <= (l.length : Int) := fun l => by
  induction l with
  | nil => intro m hm; cases hm
  | cons j r ih =>
   intro m hm
   rw [nds] at hm
   rcases List.mem_cons.1 hm with rfl | hm
   ·split
    ·split
     ·simp; omega
     ·rw [show (((r.zip (nds c r)).filter fun q => decide (q.1.h - j.h <= c.ga)).foldl (fun a q => upM a q.2) 0) = (((r.zip (nds c r)).filter fun q => decide (q.1.h - j.h <= c.ga)).map (·.2)).foldl upM 0 by rw [List.foldl_map]]
      have := upF_bd (((r.zip (nds c r)).filter fun q => decide (q.1.h - j.h <= c.ga)).map (·.2)) 0 ((r.length : Int) + 1) (by omega) (by omega) fun m hm => by
       obtain ⟨q, hq, rfl⟩ := List.mem_map.1 hm
       have := ih q.2 (List.of_mem_zip (show (q.1, q.2) ∈ _ from (List.mem_filter.1 hq).1)).2
       omega
      simp only [List.length_cons]; omega
    ·simp; omega
   ·have := ih m hm
    simp only [List.length_cons]; omega
 intro k
 unfold ndA
 rw [List.getD_eq_getElem?_getD]
 cases h : (nds c l)[k]? with
 | none => simp
 | some m => exact go l m (List.mem_of_getElem? h)
theorem ndA_sound {c : Cl} {l : List Jt} {k : Nat} (h : (jAt l k).s = false) : ndA c l k = 0 := by
 unfold jAt at h
 cases hk : l[k]? with
 | none =>
  unfold ndA
  rw [List.getD_eq_getElem?_getD, List.getElem?_eq_none]; · rfl
  rw [nds_len]; exact List.getElem?_eq_none_iff.1 hk
 | some j =>
  rw [ndA_head hk, if_neg]
  rw [hk] at h; simpa using h
def MpIs (w : World) (b n : Nat) (f : Nat -> Int) : Prop := ∃ D, G.OZ w b n D ∧ Tidy D ∧ ∀ k : Nat, D.atKey (G.kyZ (k : Nat)) (G.i64d 0) = G.i64d (f k) ∧ Maps.has D (G.kyZ (k : Nat)) = decide (f k ≠ 0)
theorem mp_made (w : World) : MpIs (w.alloc (.map #[] 0)) w.heap.size 0 fun _ => 0 := ⟨.map [], World.ownsMap_made w _ _ _, tidy_empty, fun _ => ⟨rfl, rfl⟩⟩
theorem mp_stp {N : Nat -> Prop} {w w' : World} {b n : Nat} {f : Nat -> Int} (h : MpIs w b n f) (k : Stp N w w') (hn : ¬ N b) : MpIs w' b n f := by
 obtain ⟨D, h1, h2⟩ := h
 exact ⟨D, G.oz_stp h1 k hn, h2⟩
theorem mp_lt {w : World} {b n : Nat} {f : Nat -> Int} (h : MpIs w b n f) : b < w.heap.size := by
 obtain ⟨D, ⟨es, clock, hb, _⟩, _⟩ := h
 exact lt_of_block hb
theorem mp_on {w w' : World} {b n : Nat} {f : Nat -> Int} (h : MpIs w b n f) (hb : Below w.heap.size w w') : MpIs w' b n f :=
 mp_stp h ((Stp.refl (fun _ => False) w).below hb (Nat.le_refl _)) (fun q => q)
set_option maxRecDepth 100000 in
theorem mp_look {w : World} {b n : Nat} {f : Nat -> Int} (h : MpIs w b n f) (k : Nat) (hk : k <= 9223372036854775807) :
  (Instr.lookup 214 (.map (some b)) (.int .i64 (k : Nat)) false).run Tryz.prog w = .ok (.int .i64 (f k)) w := by
 obtain ⟨D, h1, h2, h3⟩ := h
 obtain ⟨c, hr, hc, _⟩ := h1.lookup_int G.lawZ G.und_mapZ G.und_int (G.zeroN _) (G.keyZ (WalkArith.wf_i64 (n := ((k : Nat) : Int)) (by omega)))
 have := (h3 k).1
 have e := hc.symm.trans this
 injection e with e
 injection e with _ e
 rw [hr, e]
set_option maxRecDepth 100000 in
theorem mp_look_ok {w : World} {b n : Nat} {f : Nat -> Int} (h : MpIs w b n f) (k : Nat) (hk : k <= 9223372036854775807) :
  (Instr.lookup 214 (.map (some b)) (.int .i64 (k : Nat)) true).run Tryz.prog w = .ok (.tuple #[.int .i64 (f k), .bool (decide (f k ≠ 0))]) w := by
 obtain ⟨D, h1, h2, h3⟩ := h
 obtain ⟨v, ps, hr, hv⟩ := h1.look_ok G.lawZ G.und_mapZ (G.zeroN _) (plainElem_int (P := Tryz.prog) G.und_int (by decide : (Lit.int .i64 0).wf = true)) (G.keyZ (WalkArith.wf_i64 (n := ((k : Nat) : Int)) (by omega)))
 obtain ⟨c, rfl, hc, _⟩ := plainElem_int_inv G.und_int hv
 have e1 := congrArg Prod.fst hc
 have e := e1.symm.trans ((h3 k).1)
 injection e with e
 injection e with _ e
 rw [hr, (h3 k).2, e]
theorem mp_put {w' : World} {b n : Nat} {f : Nat -> Int} {D : DataW Unit} {k : Nat} {v : Int} (h2 : Tidy D) (h3 : ∀ k : Nat, D.atKey (G.kyZ (k : Nat)) (G.i64d 0) = G.i64d (f k) ∧ Maps.has D (G.kyZ (k : Nat)) = decide (f k ≠ 0)) (hv : v ≠ 0)
  (hw : G.OZ w' b n (D.put (G.kyZ (k : Nat)) (G.i64d v))) : MpIs w' b n fun x => if x = k then v else f x := by
 refine ⟨_, hw, h2.put (G.kyZL _) _, fun x => ?_⟩
 dsimp only
 by_cases h : x = k
 ·subst h
  simp only [↓reduceIte]
  exact ⟨atKey_put_same h2.isMap (G.kyZL _) _ _, by rw [has_put_same h2.isMap (G.kyZL _), decide_eq_true hv]⟩
 ·simp only [h, ↓reduceIte]
  have hne : G.kyZ ((x : Nat) : Int) ≠ G.kyZ ((k : Nat) : Int) := fun e => h (by unfold G.kyZ at e; injection e with _ e; omega)
  exact ⟨by rw [atKey_put_other hne]; exact (h3 x).1, by rw [has_put_other hne]; exact (h3 x).2⟩
theorem sdN_yes {l : List Jt} {k : Nat} (h : (jAt l k).s = true) : sdN l (k + 1) = sdN l k ++ [k] := by unfold sdN; rw [List.range_succ, List.filter_append]; simp [h]
theorem sdN_no {l : List Jt} {k : Nat} (h : (jAt l k).s = false) : sdN l (k + 1) = sdN l k := by unfold sdN; rw [List.range_succ, List.filter_append]; simp [h]
theorem sdN_len (l : List Jt) (k : Nat) : (sdN l k).length <= k := by have := List.length_filter_le (fun i => (jAt l i).s) (List.range k); simpa [sdN] using this
theorem sdN_mem {l : List Jt} {k n : Nat} (h : n ∈ sdN l k) : n < k ∧ (jAt l n).s = true := by unfold sdN at h; rw [List.mem_filter, List.mem_range] at h; exact h
structure JB (l : List Jt) : Prop where
 h : ∀ (k : Nat) (x : Jt), l[k]? = some x -> 1 <= x.h ∧ x.h <= 200000
 n : l.length <= 200
theorem jb_of {l : List Jt} (h : vJ l = true) : JB l := by
 unfold vJ at h
 rw [Bool.and_eq_true, List.all_eq_true, decide_eq_true_eq] at h
 refine ⟨fun k x hx => ?_, h.2⟩
 have h1 := h.1 k (by rw [List.mem_range]; exact (List.getElem?_eq_some_iff.1 hx).1)
 unfold okJ at h1
 rw [jAt_of hx, Bool.and_eq_true, wn_iff] at h1
 exact h1.1
theorem info_intF : ∃ i : TypeInfo, Tryz.prog.info? 3 = some i ∧ i.zero = some (.int .i64 0) ∧ i.size = 1 ∧ i.bytes = 8 := info_parts (by kernel_rfl)
theorem l_sound (A : Option Addr) (l : List Jt) (c : Nat) (w : World) (hl : l.length <= 100000) (hR : Rd Jt.cs 2 w A l) :
  Calls Tryz.prog 280 #[.slice A l.length c] w fun e w' => ∃ v, e = .returned v ∧ w'.ownsRow w.heap.size 3 1 v (sdN l l.length).length (S.natV (sdN l l.length)) ∧ Below w.heap.size w w' := by
 obtain ⟨i0, hi, hi1, hi2, hi3⟩ := info_intF
 have HN := Lib.hid (fun k h => sdN_no (l := l) (k := k) h)
 have HY := Lib.hid (fun k h => sdN_yes (l := l) (k := k) h)
 have HLn := Lib.hid (fun k => sdN_len l k)
 go_enter Tryz.func280, Tryz.ntmps280
 go_wp2
 go_loopw [3, 8] (fun v i wr => ∃ k : Nat, k <= l.length ∧ i = .int .i64 k ∧ Below w.heap.size w wr ∧ wr.ownsRow w.heap.size 3 1 v (sdN l k).length (S.natV (sdN l k))) (fun _ i _ => l.length - (RowKit.intOf i).toNat)
 case atStart => exact ⟨0, by omega, rfl, below_refl _, World.ownsRow_nil w _ _ _⟩
 case round =>
  obtain ⟨k, hk, rfl, hbw, hown⟩ := hrel
  obtain ⟨ad, cp, rfl⟩ := own_slice hown
  have hbvs := hbw.size
  have k0 := nn k
  by_cases hlt : k < l.length
  ·have k1 : (k : Int) < (l.length : Int) := by omega
   obtain ⟨x, b, off, hx, rfl, hb, c0, c1⟩ := rdJ (hR.on hbw) hlt
   have hj := jAt_of hx
   obtain ⟨XH, XS⟩ := x
   dsimp only at *
   clear hx
   have hkl := HLn.out k
   cases XS
   ·have hq := HN.out k (by rw [hj])
    clear hj
    go_wp2
    go_roundw
    case rel => exact ⟨k + 1, by omega, by go_num, bl_alloc hbw _, by rw [hq]; exact hown.alloc _⟩
    case measure => simp [RowKit.intOf]; omega
   ·have hq := HY.out k (by rw [hj])
    clear hj
    go_upto_region 6 with fail
    have bj := bl_alloc hbw (.cells #[.int .i64 XH, .bool true] 124)
    have oj := hown.alloc (.cells #[.int .i64 XH, .bool true] 124)
    have sj := bj.size
    generalize wr.alloc (.cells #[.int .i64 XH, .bool true] 124) = wj at *
    go_wp2_with (at_builtin; (refine wpList_append_own _ rfl _ _ 48 rfl w.heap.size 3 i0 (.int .i64 0) 1 8 (by kernel_rfl) hi hi1 hi2 hi3 rfl (by omega) _ _ _ rfl (oj.alloc _) ⟨wj.heap.size, 0, none⟩ 1 1 [.int .i64 (k : Nat)] rfl rfl (cells_new wj [.int .i64 (k : Nat)] 3) (fun u hu => by simp at hu; subst hu; rfl) (by unfold maxLen; omega) (by omega) (by simp; omega) ?_; intro v4 w4 hown4 hgrow4 _))
    have B4 : Below w.heap.size w w4 := bl_app bj oj hgrow4 (Nat.le_refl _) sj
    have e4 : (sdN l (k + 1)).length = (sdN l k).length + 1 := by rw [hq]; simp
    have hown5 : w4.ownsRow w.heap.size 3 1 v4 (sdN l (k + 1)).length (S.natV (sdN l (k + 1))) := by rw [e4, hq]; simpa [S.natV] using hown4
    clear hown4 hgrow4 hown
    go_wp2
    go_roundw
    case rel => exact ⟨k + 1, by omega, by go_num, B4, hown5⟩
    case measure => simp [RowKit.intOf]; omega
  ·obtain rfl : k = l.length := by omega
   go_wp2
   go_ret
   exact ⟨_, rfl, hown, hbw⟩
theorem l_follows (c : Cl) (A : Option Addr) (l : List Jt) (cc : Nat) (b : Int) (n : Nat) (w : World) (hJ : JB l) (hn : n < l.length) (hb : b < (l.length : Int)) (hR : Rd Jt.cs 2 w A l) :
  Calls Tryz.prog 58 #[clV c, .slice A l.length cc, .int .i64 b, .int .i64 (n : Nat)] w fun e w' => e = .returned (.bool (folB c l b n)) ∧ Below w.heap.size w w' := by
 have x0 := Blk.new w 25 (clA c)
 have B0 := bl_alloc (below_refl w) (.cells (clA c) 25)
 have hn2 := hJ.n
 have n0 := nn n
 have n1 : (n : Int) < (l.length : Int) := by omega
 obtain ⟨x, bb, off, hx, rfl, hbl, c0, c1⟩ := rdJ (hR.on B0) hn
 obtain ⟨x1, x2⟩ := hJ.h n x hx
 have HX := Lib.hid (jAt_of hx)
 have q0 := x0.cell 0
 have q1 := x0.cell 1
 simp only [GA] at q0 q1
 by_cases hbn : b < 0
 ·have HE := Lib.hid (show folB c l b n = decide (x.h <= c.fi) by unfold folB; rw [if_pos hbn, HX.out])
  rw [HE.out]
  clear hx hR HE HX
  cases h3 : decide (x.h <= c.fi)
  all_goals
   go_enter Tryz.func58, Tryz.ntmps58
   go_wp2_with fail
   go_quiet (fail)
   go_wp2
   go_ret
   exact ⟨rfl, bl⟩
 ·obtain ⟨m, rfl⟩ := Int.eq_ofNat_of_zero_le (show 0 <= b by omega)
  have hm : m < l.length := by omega
  obtain ⟨y, b', off', hy, e', hb', d0, d1⟩ := rdJ (hR.on B0) hm
  cases e'
  obtain ⟨y1, y2⟩ := hJ.h m y hy
  have HY := Lib.hid (jAt_of hy)
  have hw1 : IntKind.i64.wrap (x.h - y.h) = x.h - y.h := fits_wrap ⟨by omega, by omega⟩
  have m0 := nn m
  have m1 : (m : Int) < (l.length : Int) := by omega
  have HE := Lib.hid (show folB c l (m : Int) n = (decide ((m : Int) < (n : Int)) && decide (x.h - y.h <= c.ga)) by unfold folB; rw [if_neg hbn, HX.out, Int.toNat_natCast, HY.out])
  rw [HE.out]
  clear hx hy hR HE HX HY
  by_cases h2 : (m : Int) < (n : Int)
  ·rw [decide_eq_true h2, Bool.true_and]
   have g2 : m < n := by omega
   cases h3 : decide (x.h - y.h <= c.ga)
   all_goals
    go_enter Tryz.func58, Tryz.ntmps58
    go_wp2_with fail
    go_quiet (fail)
    go_wp2
    go_ret
    exact ⟨rfl, bl⟩
  ·have g1 : decide ((m : Int) < (n : Int)) = false := decide_eq_false h2
   have g2 : decide (m < n) = false := decide_eq_false (by omega)
   rw [g1, Bool.false_and]
   go_enter Tryz.func58, Tryz.ntmps58
   go_wp2_with fail
   go_quiet (fail)
   go_wp2
   go_ret
   exact ⟨rfl, bl⟩
theorem l_followsV {c : Cl} {A : Option Addr} {l : List Jt} {cc : Nat} {b : Int} {n : Nat} {w : World} {v : Bool} (h : folB c l b n = v) (hJ : JB l) (hn : n < l.length) (hb : b < (l.length : Int)) (hR : Rd Jt.cs 2 w A l) :
  Calls Tryz.prog 58 #[clV c, .slice A l.length cc, .int .i64 b, .int .i64 (n : Nat)] w fun e w' => e = .returned (.bool v) ∧ Below w.heap.size w w' := h ▸ l_follows c A l cc b n w hJ hn hb hR
def accN (c : Cl) (l : List Jt) (d : Nat) (a0 : Int) (q : List Nat) : Int := q.foldl (fun a x => if folB c l (d : Int) x = true then upM a (ndA c l x) else a) a0
theorem accN_snoc (c : Cl) (l : List Jt) (d : Nat) (a0 : Int) (q : List Nat) (x : Nat) : accN c l d a0 (q ++ [x]) = if folB c l (d : Int) x = true then upM (accN c l d a0 q) (ndA c l x) else accN c l d a0 q := by unfold accN; rw [List.foldl_append]; rfl
theorem accN_fold (c : Cl) (l : List Jt) (d : Nat) (a0 : Int) (q : List Nat) : accN c l d a0 q = ((q.filter fun x => folB c l (d : Int) x).map (ndA c l)).foldl upM a0 := by
 unfold accN
 rw [List.foldl_map, List.foldl_filter]
theorem accN_bd {c : Cl} {l : List Jt} {d : Nat} {a0 : Int} {q : List Nat} (h : a0 = 0 ∨ a0 = 1) : 0 <= accN c l d a0 q ∧ accN c l d a0 q <= l.length + 1 := by
 rw [accN_fold]
 refine upF_bd _ _ _ (by omega) (by omega) fun m hm => ?_
 obtain ⟨x, _, rfl⟩ := List.mem_map.1 hm
 have := ndA_bd c l x
 omega
theorem acc_nd {c : Cl} {l : List Jt} {d : Nat} {j : Jt} {q : List Nat} (hj : l[d]? = some j) (hs : j.s = true) (hq : q.Perm ((sdN l l.length).filter fun x => decide (d < x))) :
  accN c l d (if lastB c j = true then 1 else 0) q = ndA c l d := by
 rw [accN_fold, ndA_head hj, if_pos hs]
 by_cases hl : lastB c j = true
 ·rw [if_pos hl, if_pos hl, upF_one]
 rw [if_neg hl, if_neg hl]
 have e1 : ((((l.drop (d + 1)).zip (nds c (l.drop (d + 1)))).filter fun q => decide (q.1.h - j.h <= c.ga)).foldl (fun a q => upM a q.2) 0) = ((((l.drop (d + 1)).zip (nds c (l.drop (d + 1)))).filter fun q => decide (q.1.h - j.h <= c.ga)).map (·.2)).foldl upM 0 := by rw [List.foldl_map]
 have hd := (List.getElem?_eq_some_iff.1 hj).1
 have e3 : ((List.range l.length).filter fun x => decide (d < x)) = (List.range (l.length - (d + 1))).map (fun x => x + (d + 1)) := by
  have : List.range l.length = List.range (d + 1) ++ (List.range (l.length - (d + 1))).map (fun x => x + (d + 1)) := by
   conv => lhs; rw [show l.length = (d + 1) + (l.length - (d + 1)) by omega, List.range_add]
   congr 1
   apply List.map_congr_left
   intro x _; omega
  rw [this, List.filter_append, List.filter_eq_nil_iff.2 (fun x hx => by rw [List.mem_range] at hx; simp; omega), List.nil_append, List.filter_eq_self.2]
  intro x hx
  obtain ⟨y, _, rfl⟩ := List.mem_map.1 hx
  simp; omega
 have e2 : ((l.drop (d + 1)).zip (nds c (l.drop (d + 1)))) = ((List.range l.length).filter fun x => decide (d < x)).map fun x => (jAt l x, ndA c l x) := by
  rw [← nds_drop]
  apply List.ext_getElem?
  intro i
  rw [e3, List.map_map, List.getElem?_map]
  rcases Nat.lt_or_ge i (l.length - (d + 1)) with hi | hi
  ·have h1 : (l.drop (d + 1))[i]? = some (l[i + (d + 1)]'(by omega)) := by rw [List.getElem?_drop, show d + 1 + i = i + (d + 1) by omega, List.getElem?_eq_getElem (by omega)]
   have h2 : ((nds c l).drop (d + 1))[i]? = some ((nds c l)[i + (d + 1)]'(by rw [nds_len]; omega)) := by rw [List.getElem?_drop, show d + 1 + i = i + (d + 1) by omega, List.getElem?_eq_getElem]
   have h3 : ((l.drop (d + 1)).zip ((nds c l).drop (d + 1)))[i]? = some (l[i + (d + 1)]'(by omega), (nds c l)[i + (d + 1)]'(by rw [nds_len]; omega)) := List.getElem?_zip_eq_some.2 ⟨h1, h2⟩
   rw [h3, List.getElem?_eq_getElem (by simpa using hi)]
   simp only [List.getElem_range, Option.map_some, Function.comp]
   congr 1
   unfold jAt ndA
   rw [List.getElem?_eq_getElem (by omega), List.getD_eq_getElem?_getD, List.getElem?_eq_getElem]
   rfl
  ·rw [List.getElem?_eq_none (by simp; omega), List.getElem?_eq_none (by simpa using hi)]; rfl
 have e6 : (((l.drop (d + 1)).zip (nds c (l.drop (d + 1)))).filter fun q => decide (q.1.h - j.h <= c.ga)).map (·.2) = (((List.range l.length).filter fun x => decide (d < x)).filter fun x => decide ((jAt l x).h - j.h <= c.ga)).map (ndA c l) := by
  rw [e2, List.filter_map, List.map_map]; rfl
 have e4 : ∀ (L : List Nat), (L.map (ndA c l)).filter (fun m => decide (0 < m)) = (L.filter fun x => decide (0 < ndA c l x)).map (ndA c l) := fun L => by
  rw [List.filter_map]; rfl
 rw [e1, e6, upF_filter 0 (List.map (ndA c l) ((q.filter _))), e4, upF_filter 0 (List.map (ndA c l) (List.filter (fun x => decide ((jAt l x).h - j.h <= c.ga)) _)), e4]
 refine upF_perm ?_ 0
 refine List.Perm.map _ ?_
 have p1 := (hq.filter fun x => folB c l (d : Int) x).filter fun x => decide (0 < ndA c l x)
 refine p1.trans (List.Perm.of_eq ?_)
 unfold sdN
 rw [List.filter_filter, List.filter_filter, List.filter_filter, List.filter_filter, List.filter_filter]
 apply List.filter_congr
 intro x hx
 have hxs : (jAt l x).s = false -> ¬ 0 < ndA c l x := fun h => by rw [ndA_sound h]; omega
 by_cases h1 : 0 < ndA c l x
 ·have h2 : (jAt l x).s = true := by cases h : (jAt l x).s; exact absurd h1 (hxs h); rfl
  rw [decide_eq_true h1, h2]
  by_cases h3 : d < x
  ·have h4 : folB c l (d : Int) x = decide ((jAt l x).h - j.h <= c.ga) := by
    unfold folB
    rw [if_neg (by omega), decide_eq_true (show (d : Int) < (x : Int) by omega), Bool.true_and, Int.toNat_natCast, jAt_of hj]
   rw [h4, decide_eq_true h3]
   simp
  ·rw [decide_eq_false h3]; simp
 ·rw [decide_eq_false h1]; simp
end Go.Proofs.YtgemlddincnfcaaGreatDoor.Fi
