/- The parts of the proof, part 14. -/
import Derived.Test.YtgemlddincnfcaaGreatDoorQ0
import Derived.Test.YtgemlddincnfcaaGreatDoorQ13
import Derived.Laws.IdiomStrings
import Derived.Laws.Concat
set_option maxHeartbeats 16000000
set_option maxRecDepth 20000
set_option linter.unusedSimpArgs false
set_option linter.unusedVariables false
namespace Go.Proofs.YtgemlddincnfcaaGreatDoor.Fi
open Go.Lib Tx
def zA (l : List Int) (i : Nat) : Int := l.getD i 0
def okA (n : Nat) (l : List Int) (i : Nat) : Bool := wn (zA l i) 0 ((n : Int) - 1) && (decide (i = 0) || decide (zA l (i - 1) < zA l i))
def ascB (n : Nat) (l : List Int) : Bool := (List.range l.length).all (okA n l)
def befA (l : List Int) (i : Nat) : Int := if i = 0 then -1 else zA l (i - 1)
def stpB (c : Cl) (l : List Jt) (d : List Int) (i : Nat) : Bool := (jAt l (zA d i).toNat).s && folB c l (befA d i) (zA d i).toNat
def rgtB (c : Cl) (l : List Jt) (d : List Int) : Bool :=
 (vCl c && vJ l) && (decide (0 < d.length) && (ascB l.length d && ((List.range d.length).all (stpB c l d) && lastB c (jAt l (zA d (d.length - 1)).toNat))))
structure Wl where
 c : Cl
 l : List Jt
 d : List Int
def hgt (w : Wl) (i : Nat) : Int := (jAt w.l (zA w.d i).toNat).h
def onN (w : Wl) (f : Nat) : Nat := (((List.range (w.d.length - f)).takeWhile fun i => decide (hgt w (f + i) <= hgt w f + w.c.le))).length
def endB (w : Wl) (f : Nat) : Bool := decide (w.c.tp <= hgt w f + w.c.le)
def aftB (w : Wl) (b : Int) (f : Nat) : Bool := decide (2 <= onN w f) && (if b < 0 then decide (hgt w f <= w.c.fi) else decide (b < (f : Int)) && decide (hgt w f - hgt w b.toNat <= w.c.le - w.c.la))
def rsS (w : Wl) (g : Nat -> Int) (f : Nat) (a : Int) (x : Nat) : Int := if aftB w (f : Int) x = true then upM a (g x) else a
def rs0 (w : Wl) (f : Nat) : Int := if endB w f = true then 1 else 0
def rsF (w : Wl) : Nat -> Nat -> Int
 | 0, _ => 0
 | k + 1, f => if f < w.d.length then ((List.range (w.d.length - (f + 1))).map (fun i => f + 1 + i)).foldl (rsS w (rsF w k) f) (rs0 w f) else 0
def rsA (w : Wl) (f : Nat) : Int := rsF w (w.d.length - f) f
def nxtP (w : Wl) (b m : Int) (x : Nat) : Bool := decide (b < (x : Int)) && (decide (rsA w x = m) && aftB w b x)
def nxtO (w : Wl) (b m : Int) : Option Nat := (List.range w.d.length).find? (nxtP w b m)
def grdF (w : Wl) : Nat -> Int -> List Nat
 | 0, _ => []
 | m + 1, b => match nxtO w b ((m + 1 : Nat) : Int) with
  | none => []
  | some x => x :: grdF w m (x : Nat)
def ladT (w : Wl) (n : Nat) : Option (List Nat) := if (nxtO w (-1) ((n + 1 : Nat) : Int)).isSome = true then some (grdF w (n + 1) (-1)) else none
def ladN (w : Wl) : Option (List Nat) := (List.range w.d.length).findSome? (ladT w)
def ladL (w : Wl) : List Int := if rgtB w.c w.l w.d = true then (match ladN w with | some x => toZ x | none => []) else []
def ladE (w : Wl) : Int := if (vCl w.c && vJ w.l) = true then (if rgtB w.c w.l w.d = true then (match ladN w with | some _ => 0 | none => 8) else 10) else 1
def setB (w : Wl) (s : List Int) : Bool :=
 rgtB w.c w.l w.d && (decide (0 < s.length) && (ascB w.d.length s && ((List.range s.length).all (fun i => aftB w (befA s i) (zA s i).toNat) && endB w (zA s (s.length - 1)).toNat)))
def brgE (w : Wl) (s : List Int) : Int := if (vCl w.c && vJ w.l) = true then (if setB w s = true then 0 else 10) else 1
def brgS (w : Wl) (a f : Int) : Int := min a (w.c.st * ((onN w f.toNat : Nat) - 1 : Int))
def brgV (w : Wl) (s : List Int) : Int := if brgE w s = 0 then s.foldl (brgS w) 1000000000 else 0
def walA (x : St) (i : Int) : Wl := ⟨x.x.cl, jntA x i, (siteA x i).dogs⟩
def bearsT (x : St) (i : Int) : List UInt8 :=
 if ladE (walA x i) ≠ 0 then errT (ladE (walA x i)) else tldT (brgE (walA x i) (ladL (walA x i))) [brgV (walA x i) (ladL (walA x i))]
theorem upF_mem : ∀ (L : List Int) (a r : Int), 0 <= a -> L.foldl upM a = r -> r = a ∨ (0 < r - 1 ∧ r - 1 ∈ L)
 | [], a, r, _, h => .inl h.symm
 | m :: L, a, r, ha, h => by
  rw [List.foldl_cons] at h
  have h0 : 0 <= upM a m := by unfold upM; split <;> omega
  rcases upF_mem L _ r h0 h with h1 | ⟨h1, h2⟩
  ·by_cases hc : 0 < m ∧ (a = 0 ∨ m + 1 < a)
   ·right
    have : upM a m = m + 1 := by unfold upM; rw [if_pos hc]
    rw [this] at h1
    exact ⟨by omega, by rw [show r - 1 = m by omega]; exact List.mem_cons_self ..⟩
   ·left
    have : upM a m = a := by unfold upM; rw [if_neg hc]
    rw [this] at h1; exact h1
  ·exact .inr ⟨h1, List.mem_cons_of_mem _ h2⟩
theorem rsS_fold (w : Wl) (g : Nat -> Int) (f : Nat) (a : Int) (q : List Nat) : q.foldl (rsS w g f) a = ((q.filter fun x => aftB w (f : Int) x).map g).foldl upM a := by
 rw [List.foldl_map, List.foldl_filter]; rfl
theorem rsS_congr {w : Wl} {g g' : Nat -> Int} {f : Nat} {q : List Nat} (h : ∀ x ∈ q, g x = g' x) (a : Int) : q.foldl (rsS w g f) a = q.foldl (rsS w g' f) a := by
 rw [rsS_fold, rsS_fold]; congr 1
 apply List.map_congr_left
 intro x hx
 exact h x (List.mem_filter.1 hx).1
theorem rsF_same (w : Wl) : ∀ (k k' f : Nat), w.d.length <= k + f -> w.d.length <= k' + f -> rsF w k f = rsF w k' f := by
 intro k
 induction k with
 | zero =>
  intro k' f h h'
  cases k' with
  | zero => rfl
  | succ k' => rw [rsF, rsF, if_neg (by omega)]
 | succ k ih =>
  intro k' f h h'
  cases k' with
  | zero => rw [rsF, rsF, if_neg (by omega)]
  | succ k' =>
   rw [rsF, rsF]
   by_cases hf : f < w.d.length
   ·rw [if_pos hf, if_pos hf]
    apply rsS_congr
    intro x hx
    obtain ⟨i, hi, rfl⟩ := List.mem_map.1 hx
    exact ih k' _ (by omega) (by omega)
   ·rw [if_neg hf, if_neg hf]
theorem rsA_eq {w : Wl} {f : Nat} (h : f < w.d.length) : rsA w f = ((List.range (w.d.length - (f + 1))).map (fun i => f + 1 + i)).foldl (rsS w (rsA w) f) (rs0 w f) := by
 unfold rsA
 rw [show w.d.length - f = (w.d.length - (f + 1)) + 1 by omega, rsF, if_pos h]
 apply rsS_congr
 intro x hx
 obtain ⟨i, hi, rfl⟩ := List.mem_map.1 hx
 exact rsF_same w _ _ _ (by omega) (by omega)
theorem rsA_out {w : Wl} {f : Nat} (h : ¬ f < w.d.length) : rsA w f = 0 := by
 unfold rsA; rw [show w.d.length - f = 0 by omega]; rfl
theorem rs0_01 (w : Wl) (f : Nat) : rs0 w f = 0 ∨ rs0 w f = 1 := by unfold rs0; split <;> simp
theorem rsA_bd (w : Wl) : ∀ (n f : Nat), w.d.length - f = n -> 0 <= rsA w f ∧ rsA w f <= (n : Int) := by
 intro n
 induction n using Nat.strongRecOn with
 | ind n ih =>
  intro f hf
  by_cases hl : f < w.d.length
  ·rw [rsA_eq hl, rsS_fold]
   have h0 := rs0_01 w f
   refine upF_bd _ _ _ (by omega) (by omega) fun m hm => ?_
   obtain ⟨x, hx, rfl⟩ := List.mem_map.1 hm
   obtain ⟨i, hi, rfl⟩ := List.mem_map.1 (List.mem_filter.1 hx).1
   rw [List.mem_range] at hi
   have := (ih (w.d.length - (f + 1 + i)) (by omega) _ rfl).2
   omega
  ·rw [rsA_out hl]; omega
theorem rsA_le (w : Wl) (f : Nat) : 0 <= rsA w f ∧ rsA w f <= (w.d.length : Int) := by
 have := rsA_bd w _ f rfl
 omega
theorem rsA_next {w : Wl} {f : Nat} {m : Nat} (h : rsA w f = ((m + 2 : Nat) : Int)) : ∃ x, nxtO w (f : Nat) ((m + 1 : Nat) : Int) = some x := by
 by_cases hl : f < w.d.length
 ·rw [rsA_eq hl, rsS_fold] at h
  have h0 := rs0_01 w f
  rcases upF_mem _ _ _ (by omega) h with h1 | ⟨h1, h2⟩
  ·exfalso; omega
  obtain ⟨x, hx, hxm⟩ := List.mem_map.1 h2
  obtain ⟨hx1, hx2⟩ := List.mem_filter.1 hx
  obtain ⟨i, hi, rfl⟩ := List.mem_map.1 hx1
  rw [List.mem_range] at hi
  cases hn : nxtO w (f : Nat) ((m + 1 : Nat) : Int) with
  | some y => exact ⟨y, rfl⟩
  | none =>
   have := (List.find?_eq_none.1 hn) (f + 1 + i) (by rw [List.mem_range]; omega)
   exfalso; apply this
   unfold nxtP
   simp only [Bool.and_eq_true, decide_eq_true_eq]
   exact ⟨by omega, by omega, hx2⟩
 ·rw [rsA_out hl] at h; exfalso; omega
theorem nxtO_some {w : Wl} {b m : Int} {x : Nat} (h : nxtO w b m = some x) : x < w.d.length ∧ b < (x : Int) ∧ rsA w x = m ∧ aftB w b x = true ∧ ∀ y, y < x -> nxtP w b m y = false := by
 have h1 := List.find?_some h
 unfold nxtP at h1
 simp only [Bool.and_eq_true, decide_eq_true_eq] at h1
 have h2 := List.mem_of_find?_eq_some h
 rw [List.mem_range] at h2
 refine ⟨h2, h1.1, h1.2.1, h1.2.2, fun y hy => ?_⟩
 obtain ⟨_, qs, bs, he, ha⟩ := List.find?_eq_some_iff_append.1 h
 have hlen : qs.length = x := by
  have h3 : (List.range w.d.length)[qs.length]? = some x := by rw [he]; simp
  rw [List.getElem?_range (by have := congrArg List.length he; simp at this; omega)] at h3
  exact Option.some.inj h3
 have h4 : y ∈ qs := by
  have h5 : (List.range w.d.length)[y]? = some y := List.getElem?_range (by omega)
  rw [he, List.getElem?_append_left (by omega)] at h5
  exact List.mem_of_getElem? h5
 have := ha y h4
 simpa using this
theorem nxtO_none {w : Wl} {b m : Int} (h : nxtO w b m = none) : ∀ y, y < w.d.length -> nxtP w b m y = false := fun y hy => by
 have := (List.find?_eq_none.1 h) y (by rw [List.mem_range]; exact hy)
 simpa using this
theorem grd_len {w : Wl} : ∀ (m : Nat) (b : Int), (nxtO w b ((m + 1 : Nat) : Int)).isSome = true -> (grdF w (m + 1) b).length = m + 1
 | 0, b, h => by
  obtain ⟨x, hx⟩ := Option.isSome_iff_exists.1 h
  rw [grdF, hx]; rfl
 | m + 1, b, h => by
  obtain ⟨x, hx⟩ := Option.isSome_iff_exists.1 h
  rw [grdF, hx]
  obtain ⟨y, hy⟩ := rsA_next (m := m) (nxtO_some hx).2.2.1
  have := grd_len m (x : Nat) (by rw [hy]; rfl)
  rw [List.length_cons, this]
end Go.Proofs.YtgemlddincnfcaaGreatDoor.Fi
namespace Go.Proofs.YtgemlddincnfcaaGreatDoor.Fi
open Go.RowKit Go.Lib Tx
abbrev FailE (e : Int) : Ending := .panicked [{ v := .iface 198 (.agg #[.int .i64 e]), recovered := false }]
abbrev DoneE : Ending := .returned (.tuple #[])
theorem f_must_ok (e : Int) (w : World) : Calls Tryz.prog 112 #[.bool true, .int .i64 e] w fun e' w' => e' = DoneE ∧ w = w' := by
 go_enter Tryz.func112, Tryz.ntmps112
 go_wp2
 go_end0
 exact ⟨rfl, rfl⟩
theorem f_must_no (e : Int) (w : World) : Calls Tryz.prog 112 #[.bool false, .int .i64 e] w fun e' w' => e' = FailE e ∧ w = w' := by
 go_enter Tryz.func112, Tryz.ntmps112
 go_wp2
 exact ⟨rfl, rfl, rfl⟩
theorem f_passed_ok (w : World) : Calls Tryz.prog 268 #[.int .i64 0] w fun e' w' => e' = DoneE ∧ w = w' := by
 go_enter Tryz.func268, Tryz.ntmps268
 go_wp2_with (go_at_call 112; ((with_reducible refine (f_must_ok _ _).mono ?_); rintro e w' ⟨rfl, rfl⟩))
 go_end0
 exact ⟨rfl, rfl⟩
theorem f_passed_no (e : Int) (h : e ≠ 0) (w : World) : Calls Tryz.prog 268 #[.int .i64 e] w fun e' w' => e' = FailE e ∧ w = w' := by
 have h1 : (e == 0) = false := beq_eq_false_iff_ne.2 h
 go_enter Tryz.func268, Tryz.ntmps268
 go_wp2_with (go_at_call 112; ((with_reducible refine (f_must_no _ _).mono ?_); rintro e w' ⟨rfl, rfl⟩))
 exact ⟨rfl, rfl, rfl⟩
theorem f_within (n lo hi : Int) (w : World) :
  Calls Tryz.prog 67 #[.int .i64 n, .int .i64 lo, .int .i64 hi] w fun e w' => e = .returned (.bool (wn n lo hi)) ∧ w = w' := by
 by_cases h1 : lo <= n
 ·have t1 : decide (lo <= n) = true := by simpa using h1
  go_enter Tryz.func67, Tryz.ntmps67
  go_wp2
  go_ret
  exact ⟨ret_bool (by simp [wn, h1]), rfl⟩
 ·have t1 : decide (lo <= n) = false := by simpa using h1
  go_enter Tryz.func67, Tryz.ntmps67
  go_wp2
  go_ret
  exact ⟨ret_bool (by unfold wn; rw [t1]; rfl), rfl⟩
theorem f_withinV {n lo hi : Int} {b : Bool} (h : wn n lo hi = b) (w : World) :
  Calls Tryz.prog 67 #[.int .i64 n, .int .i64 lo, .int .i64 hi] w fun e w' => e = .returned (.bool b) ∧ w = w' := h ▸ f_within n lo hi w
def Cel (w : World) (b : Nat) (L : LS) : Prop := ∀ (i : Nat) (v : Value), L.cs[i]? = some v -> w.cell? ⟨b, i, none⟩ = some v
theorem cel_of {w : World} {b : Nat} {t : TypeId} {L : LS} (h : Blk w b t L.cs.toArray) : Cel w b L := fun i v hv => by rw [h.cell i]; simpa using hv
theorem Cel.lt {w : World} {b : Nat} {L : LS} (h : Cel w b L) : b < w.heap.size := World.block_lt_of_cell? w ⟨b, 0, none⟩ (h 0 _ rfl)
theorem Cel.on {w w' : World} {b : Nat} {L : LS} (h : Cel w b L) (hb : Below w.heap.size w w') : Cel w' b L := fun i v hv => ((bcell hb).1 b i h.lt).trans (h i v hv)
theorem rdSi {w : World} {A : Option Addr} {l : List LSi} (h : Rd LSi.cs 3 w A l) {k : Nat} (hk : k < l.length) :
  ∃ x b off, l[k]? = some x ∧ A = some ⟨b, off, none⟩ ∧ b < w.heap.size ∧ w.cell? ⟨b, off + k * 3, none⟩ = some x.dogs.v ∧ w.cell? ⟨b, off + k * 3 + 1, none⟩ = some (.bool x.fel) ∧ w.cell? ⟨b, off + k * 3 + 2, none⟩ = some (.int .i64 x.men) := by
 obtain ⟨x, hx⟩ := get_lt hk
 obtain ⟨b, off, e, hb, hc⟩ := h.get hx
 exact ⟨x, b, off, hx, e, hb, hc 0 _ rfl, hc 1 _ rfl, hc 2 _ rfl⟩
def upK (l : List LSi) (k : Nat) : Int := (l.take k).foldl (fun a s => a + s.men) 0
theorem upK_step {l : List LSi} {k : Nat} {x : LSi} (h : l[k]? = some x) : upK l (k + 1) = upK l k + x.men := by unfold upK; rw [List.take_add_one, h, List.foldl_append]; rfl
theorem upK_all (L : LS) : upK L.sites.l L.sites.l.length = upN L.val := by
 unfold upK upN LS.val
 rw [List.take_length, List.foldl_map]
 rfl
theorem upK_bd {l : List LSi} (h : ∀ s ∈ l, 0 <= s.men ∧ s.men <= 1000) (hl : l.length <= 1000) (k : Nat) : 0 <= upK l k ∧ upK l k <= 1000000 := by
 have go : ∀ (q : List LSi) (a : Int), (∀ s ∈ q, 0 <= s.men ∧ s.men <= 1000) -> a <= q.foldl (fun a s => a + s.men) a ∧ q.foldl (fun a s => a + s.men) a <= a + 1000 * q.length := fun q => by
  induction q with
  | nil => intro a _; simp
  | cons s q ih =>
   intro a hq
   have h1 := hq s (List.mem_cons_self ..)
   have h2 := ih (a + s.men) fun x hx => hq x (List.mem_cons_of_mem _ hx)
   simp only [List.foldl_cons, List.length_cons]
   omega
 have h1 := go (l.take k) 0 fun s hs => h s (List.mem_of_mem_take hs)
 unfold upK
 rw [List.length_take] at h1
 omega
theorem f_aloft (b : Nat) (L : LS) (w : World) (hC : Cel w b L) (hR : Rd LSi.cs 3 w L.sites.a L.sites.l) (hl : L.sites.l.length <= 1000) (hm : ∀ s ∈ L.sites.l, 0 <= s.men ∧ s.men <= 1000) :
  Calls Tryz.prog 259 #[.pointer (some ⟨b, 0, none⟩)] w fun e w' => e = .returned (.int .i64 (upN L.val)) ∧ Below w.heap.size w w' := by
 have c20 : w.cell? ⟨b, 20, none⟩ = some (.slice L.sites.a L.sites.l.length L.sites.c) := hC 20 _ rfl
 have HU := Lib.hid (upK_all L)
 have HB := Lib.hid (upK_bd hm hl)
 rw [← HU.out]
 generalize L.sites.l = l at *
 generalize L.sites.a = A at *
 generalize L.sites.c = cc at *
 go_enter Tryz.func259, Tryz.ntmps259
 go_wp2
 go_loopw [3, 11] (fun n i wr => ∃ k : Nat, k <= l.length ∧ i = .int .i64 k ∧ n = .int .i64 (upK l k) ∧ Below w.heap.size w wr) (fun _ i _ => l.length - (RowKit.intOf i).toNat)
 case atStart => exact ⟨0, by omega, rfl, rfl, below_refl _⟩
 case round =>
  obtain ⟨k, hk, rfl, rfl, hbw⟩ := hrel
  have k0 := nn k
  by_cases hlt : k < l.length
  ·have k1 : (k : Int) < (l.length : Int) := by omega
   obtain ⟨x, bb, off, hx, rfl, hb, d0, d1, d2⟩ := rdSi (hR.on hbw) hlt
   have hst := upK_step hx
   obtain ⟨u1, u2⟩ := HB.out k
   obtain ⟨u3, u4⟩ := HB.out (k + 1)
   have hw1 : IntKind.i64.wrap (upK l k + x.men) = upK l k + x.men := fits_wrap ⟨by omega, by omega⟩
   have HST := Lib.hid hst
   obtain ⟨XD, XF, XM⟩ := x
   dsimp only at *
   clear hx hst
   go_wp2
   go_roundw
   case rel => exact ⟨k + 1, by omega, by go_num, by rw [HST.out], bl_alloc hbw _⟩
   case measure => simp [RowKit.intOf]; omega
  ·obtain rfl : k = l.length := by omega
   go_wp2
   go_ret
   exact ⟨rfl, hbw⟩
theorem f_goes (b : Nat) (L : LS) (A : Option Addr) (g : List Int) (c : Nat) (w : World) (hC : Cel w b L) (hg : g.length <= 100000) (hR : Rd zC 1 w A g) :
  Calls Tryz.prog 55 #[.pointer (some ⟨b, 0, none⟩), .slice A g.length c] w fun e w' => e = .returned (.bool (decide (V.rsE L.x.ru g = 10))) ∧ Below w.heap.size w w' := by
 have c9 : w.cell? ⟨b, 9, none⟩ = some (.int .i64 L.x.ru.s) := hC 9 _ rfl
 have c10 : w.cell? ⟨b, 10, none⟩ = some (.int .i64 L.x.ru.g) := hC 10 _ rfl
 have c11 : w.cell? ⟨b, 11, none⟩ = some (.int .i64 L.x.ru.c) := hC 11 _ rfl
 have HR := Lib.hid (V.p_Resumes A L.x.ru g c w hg hR)
 generalize V.rsN L.x.ru g = N at *
 generalize V.rsE L.x.ru g = E at *
 by_cases h : E = 10
 ·subst h
  go_enter Tryz.func55, Tryz.ntmps55
  go_wp2_with (go_at_call 106; ((with_reducible refine HR.out.mono ?_); rintro e w1 ⟨rfl, hb1⟩))
  go_ret
  exact ⟨rfl, hb1⟩
 ·have h1 : (E == 10) = false := beq_eq_false_iff_ne.2 h
  rw [decide_eq_false h]
  go_enter Tryz.func55, Tryz.ntmps55
  go_wp2_with (go_at_call 106; ((with_reducible refine HR.out.mono ?_); rintro e w1 ⟨rfl, hb1⟩))
  go_ret
  exact ⟨rfl, hb1⟩
theorem f_goesV {b : Nat} {L : LS} {A : Option Addr} {g : List Int} {c : Nat} {w : World} {v : Bool} (h : goB L.val g = v) (hC : Cel w b L) (hg : g.length <= 100000) (hR : Rd zC 1 w A g) :
  Calls Tryz.prog 55 #[.pointer (some ⟨b, 0, none⟩), .slice A g.length c] w fun e w' => e = .returned (.bool v) ∧ Below w.heap.size w w' := by
 have := f_goes b L A g c w hC hg hR
 unfold goB at h
 rw [← h]
 exact this
theorem f_at_no (b : Nat) (L : LS) (i : Int) (w : World) (hC : Cel w b L) (hl : L.sites.l.length <= 1000) (h : thB L.val i = false) :
  Calls Tryz.prog 256 #[.pointer (some ⟨b, 0, none⟩), .int .i64 i] w fun e w' => e = FailE 5 ∧ w = w' := by
 have c20 : w.cell? ⟨b, 20, none⟩ = some (.slice L.sites.a L.sites.l.length L.sites.c) := hC 20 _ rfl
 have h2 : wn i 0 ((L.sites.l.length : Int) - 1) = false := by unfold thB LS.val at h; simpa using h
 have hw1 : IntKind.i64.wrap ((L.sites.l.length : Int) - 1) = (L.sites.l.length : Int) - 1 := fits_wrap ⟨by omega, by omega⟩
 clear h
 generalize L.sites.l.length = n at *
 go_enter Tryz.func256, Tryz.ntmps256
 go_wp2_with (first | (go_at_call 67; ((with_reducible refine (f_withinV h2 _).mono ?_); rintro e w' ⟨rfl, rfl⟩)) | (go_at_call 112; ((with_reducible refine (f_must_no _ _).mono ?_); rintro e w' ⟨rfl, rfl⟩)))
 exact ⟨rfl, rfl, rfl⟩
theorem f_at (b : Nat) (L : LS) (i : Nat) (w : World) (sb so : Nat) (hC : Cel w b L) (hl : L.sites.l.length <= 1000) (h : i < L.sites.l.length) (ha : L.sites.a = some ⟨sb, so, none⟩) :
  Calls Tryz.prog 256 #[.pointer (some ⟨b, 0, none⟩), .int .i64 (i : Nat)] w fun e w' => e = .returned (.pointer (some ⟨sb, so + i * 3, none⟩)) ∧ w = w' := by
 have c20 : w.cell? ⟨b, 20, none⟩ = some (.slice L.sites.a L.sites.l.length L.sites.c) := hC 20 _ rfl
 rw [ha] at c20
 have h2 : wn (i : Nat) 0 ((L.sites.l.length : Int) - 1) = true := wn_iff.2 ⟨by omega, by omega⟩
 have hw1 : IntKind.i64.wrap ((L.sites.l.length : Int) - 1) = (L.sites.l.length : Int) - 1 := fits_wrap ⟨by omega, by omega⟩
 have i0 := nn i
 have i1 : (i : Int) < (L.sites.l.length : Int) := by omega
 generalize L.sites.l.length = n at *
 go_enter Tryz.func256, Tryz.ntmps256
 go_wp2_with (first | (go_at_call 67; ((with_reducible refine (f_withinV h2 _).mono ?_); rintro e w' ⟨rfl, rfl⟩)) | (go_at_call 112; ((with_reducible refine (f_must_ok _ _).mono ?_); rintro e w' ⟨rfl, rfl⟩)))
 go_ret
 exact ⟨rfl, rfl⟩
theorem f_rigAt_no (b : Nat) (L : LS) (i : Int) (w : World) (hC : Cel w b L) (hl : L.rigs.l.length <= 1000) (h : rtB L.val i = false) :
  Calls Tryz.prog 262 #[.pointer (some ⟨b, 0, none⟩), .int .i64 i] w fun e w' => e = FailE 5 ∧ w = w' := by
 have c19 : w.cell? ⟨b, 19, none⟩ = some (.slice L.rigs.a L.rigs.l.length L.rigs.c) := hC 19 _ rfl
 have h2 : wn i 0 ((L.rigs.l.length : Int) - 1) = false := by unfold rtB LS.val at h; simpa using h
 have hw1 : IntKind.i64.wrap ((L.rigs.l.length : Int) - 1) = (L.rigs.l.length : Int) - 1 := fits_wrap ⟨by omega, by omega⟩
 clear h
 generalize L.rigs.l.length = n at *
 go_enter Tryz.func262, Tryz.ntmps262
 go_wp2_with (first | (go_at_call 67; ((with_reducible refine (f_withinV h2 _).mono ?_); rintro e w' ⟨rfl, rfl⟩)) | (go_at_call 112; ((with_reducible refine (f_must_no _ _).mono ?_); rintro e w' ⟨rfl, rfl⟩)))
 exact ⟨rfl, rfl, rfl⟩
theorem f_rigAt (b : Nat) (L : LS) (i : Nat) (w : World) (sb so : Nat) (hC : Cel w b L) (hl : L.rigs.l.length <= 1000) (h : i < L.rigs.l.length) (ha : L.rigs.a = some ⟨sb, so, none⟩) :
  Calls Tryz.prog 262 #[.pointer (some ⟨b, 0, none⟩), .int .i64 (i : Nat)] w fun e w' => e = .returned (.pointer (some ⟨sb, so + i * 2, none⟩)) ∧ w = w' := by
 have c19 : w.cell? ⟨b, 19, none⟩ = some (.slice L.rigs.a L.rigs.l.length L.rigs.c) := hC 19 _ rfl
 rw [ha] at c19
 have h2 : wn (i : Nat) 0 ((L.rigs.l.length : Int) - 1) = true := wn_iff.2 ⟨by omega, by omega⟩
 have hw1 : IntKind.i64.wrap ((L.rigs.l.length : Int) - 1) = (L.rigs.l.length : Int) - 1 := fits_wrap ⟨by omega, by omega⟩
 have i0 := nn i
 have i1 : (i : Int) < (L.rigs.l.length : Int) := by omega
 generalize L.rigs.l.length = n at *
 go_enter Tryz.func262, Tryz.ntmps262
 go_wp2_with (first | (go_at_call 67; ((with_reducible refine (f_withinV h2 _).mono ?_); rintro e w' ⟨rfl, rfl⟩)) | (go_at_call 112; ((with_reducible refine (f_must_ok _ _).mono ?_); rintro e w' ⟨rfl, rfl⟩)))
 go_ret
 exact ⟨rfl, rfl⟩
theorem wsT_step {l : List Int} {k : Nat} {x : Int} (h : l[k]? = some x) : wsT (l.take (k + 1)) = wsT (l.take k) ++ 32 :: nT x := by unfold wsT; rw [List.take_add_one, h, List.flatMap_append]; simp
theorem wsT_len (l : List Int) (h : ∀ x ∈ l, -9223372036854775808 <= x ∧ x <= 9223372036854775807) : (wsT l).length <= 21 * l.length := by
 induction l with
 | nil => simp [wsT]
 | cons x l ih =>
  have h1 := ih fun y hy => h y (List.mem_cons_of_mem _ hy)
  have h2 := h x (List.mem_cons_self ..)
  have h3 := itoa_len (n := x) h2.1 h2.2
  have e : wsT (x :: l) = (32 :: nT x) ++ wsT l := by unfold wsT; simp
  rw [e]
  unfold nT
  simp only [List.length_append, List.length_cons]
  omega
theorem f_words (s : ByteArray) (A : Option Addr) (l : List Int) (c : Nat) (w : World) (hs : s.size <= 1000000000) (hl : l.length <= 1000000) (hb : ∀ x ∈ l, -9223372036854775808 <= x ∧ x <= 9223372036854775807) (hL : LdW w) (hR : Rd zC 1 w A l) :
  Calls Tryz.prog 150 #[.string s, .slice A l.length c] w fun e w' => e = .returned (.string (s ++ bts (wsT l))) ∧ Below w.heap.size w w' := by
 have HLN := Lib.hid (fun k => (show (bts (wsT (l.take k))).size <= 21000000 by
  have := wsT_len (l.take k) fun x hx => hb x (List.mem_of_mem_take hx)
  rw [List.length_take] at this
  rw [bts_size]; omega))
 have HST := Lib.hid (fun k x (h : l[k]? = some x) => (show s ++ bts (wsT (l.take (k + 1))) = s ++ bts (wsT (l.take k)) ++ (⟨#[32]⟩ ++ bts (itoa x)) by
  rw [wsT_step h, show (⟨#[32]⟩ : ByteArray) = bts [32] from rfl, ba_app, ByteArray.append_assoc, ba_app]; rfl))
 have H0 := Lib.hid (show s ++ bts (wsT (l.take 0)) = s from ByteArray.ext (by simp [wsT, bts, ByteArray.data_append]))
 have HA := Lib.hid (show l.take l.length = l from List.take_length)
 go_enter Tryz.func150, Tryz.ntmps150
 go_wp2
 go_loopw [0, 9] (fun v i wr => ∃ k : Nat, k <= l.length ∧ i = .int .i64 k ∧ v = .string (s ++ bts (wsT (l.take k))) ∧ Below w.heap.size w wr) (fun _ i _ => l.length - (RowKit.intOf i).toNat)
 case atStart => exact ⟨0, by omega, rfl, by rw [H0.out], below_refl _⟩
 case round =>
  obtain ⟨k, hk, rfl, rfl, hbw⟩ := hrel
  have k0 := nn k
  by_cases hlt : k < l.length
  ·have k1 : (k : Int) < (l.length : Int) := by omega
   obtain ⟨x, b, off, hx, rfl, hbl, c0⟩ := rd_int (hR.on hbw) hlt
   obtain ⟨x1, x2⟩ := hb x (List.mem_of_getElem? hx)
   have HI := Lib.hid (c_ItoaV x wr x1 x2 (hL.on hbw).tab)
   have hs1 : (bts (itoa x)).size <= 21 := by have := itoa_len x1 x2; rw [bts_size]; omega
   have hls := HLN.out k
   have hst := Lib.hid (HST.out k x hx)
   have hz : (s ++ bts (wsT (l.take k))).size <= 1021000000 := by rw [ByteArray.size_append]; omega
   clear hx hls
   generalize s ++ bts (wsT (l.take k)) = ST at *
   generalize bts (itoa x) = S1 at *
   have z1 : ¬ 9223372036854775807 < 1 + S1.size := by omega
   have z2 : ¬ 9223372036854775807 < ST.size + (1 + S1.size) := by omega
   go_wp2_with (go_at_call 95; ((with_reducible refine HI.out.mono ?_); rintro e w3 ⟨rfl, hb3⟩))
   go_roundw
   case rel => exact ⟨k + 1, by omega, by go_num, by rw [hst.out], below_tr hbw hb3⟩
   case measure => simp [RowKit.intOf]; omega
  ·obtain rfl : k = l.length := by omega
   rw [HA.out]
   go_wp2
   go_ret
   exact ⟨rfl, hbw⟩
theorem rd_new (w : World) (l : List Int) : Rd zC 1 (w.alloc (.cells (l.map (Value.int .i64)).toArray 3)) (some ⟨w.heap.size, 0, none⟩) l := fun hne => by
 refine ⟨w.heap.size, 0, rfl, by simp, fun k x hx j v hv => ?_⟩
 have hb := Blk.new w 3 (l.map (Value.int .i64)).toArray
 have hj : j = 0 := by
  rcases Nat.lt_or_ge j 1 with h | h
  ·omega
  ·rw [List.getElem?_eq_none (by simpa [zC] using h)] at hv; cases hv
 subst hj
 cases hv
 rw [show 0 + k * 1 + 0 = k by omega, hb.cell k]
 simp [hx]
theorem t_gust (g : Int) (w : World) (bg : -9223372036854775808 <= g ∧ g <= 9223372036854775807) (hL : LdW w) :
  Calls Tryz.prog 274 #[.agg #[.int .i64 g]] w fun e w' => e = .returned (.string (bts (txt (.gust g)))) ∧ Below w.heap.size w w' := by
 have B0 := bl_alloc (below_refl w) (.cells #[.int .i64 g] 153)
 have B1 := bl_alloc B0 (.cells #[.int .i64 g] 3)
 have hr : Rd zC 1 ((w.alloc (.cells #[.int .i64 g] 153)).alloc (.cells #[.int .i64 g] 3)) (some ⟨w.heap.size + 1, 0, none⟩) [g] := by
  have h := rd_new (w.alloc (.cells #[.int .i64 g] 153)) [g]
  rw [World.size_alloc] at h
  exact h
 have HE := Lib.hid (show (⟨#[103, 117, 115, 116]⟩ : ByteArray) ++ bts (wsT [g]) = bts (txt (.gust g)) by rw [show (⟨#[103, 117, 115, 116]⟩ : ByteArray) = bts [103, 117, 115, 116] from rfl, ba_app]; rfl)
 have HW : Hid (Calls Tryz.prog 150 #[.string ⟨#[103, 117, 115, 116]⟩, .slice (some ⟨w.heap.size + 1, 0, none⟩) 1 1] ((w.alloc (.cells #[.int .i64 g] 153)).alloc (.cells #[.int .i64 g] 3)) (fun e w' => e = .returned (.string (bts (txt (.gust g)))) ∧ Below ((w.alloc (.cells #[.int .i64 g] 153)).alloc (.cells #[.int .i64 g] 3)).heap.size ((w.alloc (.cells #[.int .i64 g] 153)).alloc (.cells #[.int .i64 g] 3)) w')) := Lib.hid (by rw [← HE.out]; exact f_words ⟨#[103, 117, 115, 116]⟩ _ [g] 1 _ (by decide) (by simp) (fun x hx => by simp at hx; subst hx; exact bg) (hL.on B1) hr)
 clear hr HE
 go_enter Tryz.func274, Tryz.ntmps274
 go_wp2_with (go_at_call 150; ((with_reducible refine HW.out.mono ?_); rintro e w3 ⟨rfl, hb3⟩))
 go_ret
 exact ⟨rfl, below_tr B1 hb3⟩
theorem t_dog (i : Int) (w : World) (bi : -9223372036854775808 <= i ∧ i <= 9223372036854775807) (hL : LdW w) :
  Calls Tryz.prog 276 #[.agg #[.int .i64 i]] w fun e w' => e = .returned (.string (bts (txt (.dog i)))) ∧ Below w.heap.size w w' := by
 have B0 := bl_alloc (below_refl w) (.cells #[.int .i64 i] 154)
 have B1 := bl_alloc B0 (.cells #[.int .i64 i] 3)
 have hr : Rd zC 1 ((w.alloc (.cells #[.int .i64 i] 154)).alloc (.cells #[.int .i64 i] 3)) (some ⟨w.heap.size + 1, 0, none⟩) [i] := by
  have h := rd_new (w.alloc (.cells #[.int .i64 i] 154)) [i]
  rw [World.size_alloc] at h
  exact h
 have HE := Lib.hid (show (⟨#[100, 111, 103]⟩ : ByteArray) ++ bts (wsT [i]) = bts (txt (.dog i)) by rw [show (⟨#[100, 111, 103]⟩ : ByteArray) = bts [100, 111, 103] from rfl, ba_app]; rfl)
 have HW : Hid (Calls Tryz.prog 150 #[.string ⟨#[100, 111, 103]⟩, .slice (some ⟨w.heap.size + 1, 0, none⟩) 1 1] ((w.alloc (.cells #[.int .i64 i] 154)).alloc (.cells #[.int .i64 i] 3)) (fun e w' => e = .returned (.string (bts (txt (.dog i)))) ∧ Below ((w.alloc (.cells #[.int .i64 i] 154)).alloc (.cells #[.int .i64 i] 3)).heap.size ((w.alloc (.cells #[.int .i64 i] 154)).alloc (.cells #[.int .i64 i] 3)) w')) := Lib.hid (by rw [← HE.out]; exact f_words ⟨#[100, 111, 103]⟩ _ [i] 1 _ (by decide) (by simp) (fun x hx => by simp at hx; subst hx; exact bi) (hL.on B1) hr)
 clear hr HE
 go_enter Tryz.func276, Tryz.ntmps276
 go_wp2_with (go_at_call 150; ((with_reducible refine HW.out.mono ?_); rintro e w3 ⟨rfl, hb3⟩))
 go_ret
 exact ⟨rfl, below_tr B1 hb3⟩
theorem t_strike (r : Int) (w : World) (br : -9223372036854775808 <= r ∧ r <= 9223372036854775807) (hL : LdW w) :
  Calls Tryz.prog 261 #[.agg #[.int .i64 r]] w fun e w' => e = .returned (.string (bts (txt (.strike r)))) ∧ Below w.heap.size w w' := by
 have B0 := bl_alloc (below_refl w) (.cells #[.int .i64 r] 137)
 have B1 := bl_alloc B0 (.cells #[.int .i64 r] 3)
 have hr : Rd zC 1 ((w.alloc (.cells #[.int .i64 r] 137)).alloc (.cells #[.int .i64 r] 3)) (some ⟨w.heap.size + 1, 0, none⟩) [r] := by
  have h := rd_new (w.alloc (.cells #[.int .i64 r] 137)) [r]
  rw [World.size_alloc] at h
  exact h
 have HE := Lib.hid (show (⟨#[115, 116, 114, 105, 107, 101]⟩ : ByteArray) ++ bts (wsT [r]) = bts (txt (.strike r)) by rw [show (⟨#[115, 116, 114, 105, 107, 101]⟩ : ByteArray) = bts [115, 116, 114, 105, 107, 101] from rfl, ba_app]; rfl)
 have HW : Hid (Calls Tryz.prog 150 #[.string ⟨#[115, 116, 114, 105, 107, 101]⟩, .slice (some ⟨w.heap.size + 1, 0, none⟩) 1 1] ((w.alloc (.cells #[.int .i64 r] 137)).alloc (.cells #[.int .i64 r] 3)) (fun e w' => e = .returned (.string (bts (txt (.strike r)))) ∧ Below ((w.alloc (.cells #[.int .i64 r] 137)).alloc (.cells #[.int .i64 r] 3)).heap.size ((w.alloc (.cells #[.int .i64 r] 137)).alloc (.cells #[.int .i64 r] 3)) w')) := Lib.hid (by rw [← HE.out]; exact f_words ⟨#[115, 116, 114, 105, 107, 101]⟩ _ [r] 1 _ (by decide) (by simp) (fun x hx => by simp at hx; subst hx; exact br) (hL.on B1) hr)
 clear hr HE
 go_enter Tryz.func261, Tryz.ntmps261
 go_wp2_with (go_at_call 150; ((with_reducible refine HW.out.mono ?_); rintro e w3 ⟨rfl, hb3⟩))
 go_ret
 exact ⟨rfl, below_tr B1 hb3⟩
theorem t_cut (i : Int) (w : World) (bi : -9223372036854775808 <= i ∧ i <= 9223372036854775807) (hL : LdW w) :
  Calls Tryz.prog 264 #[.agg #[.int .i64 i]] w fun e w' => e = .returned (.string (bts (txt (.cut i)))) ∧ Below w.heap.size w w' := by
 have B0 := bl_alloc (below_refl w) (.cells #[.int .i64 i] 139)
 have B1 := bl_alloc B0 (.cells #[.int .i64 i] 3)
 have hr : Rd zC 1 ((w.alloc (.cells #[.int .i64 i] 139)).alloc (.cells #[.int .i64 i] 3)) (some ⟨w.heap.size + 1, 0, none⟩) [i] := by
  have h := rd_new (w.alloc (.cells #[.int .i64 i] 139)) [i]
  rw [World.size_alloc] at h
  exact h
 have HE := Lib.hid (show (⟨#[102, 101, 108, 108]⟩ : ByteArray) ++ bts (wsT [i]) = bts (txt (.cut i)) by rw [show (⟨#[102, 101, 108, 108]⟩ : ByteArray) = bts [102, 101, 108, 108] from rfl, ba_app]; rfl)
 have HW : Hid (Calls Tryz.prog 150 #[.string ⟨#[102, 101, 108, 108]⟩, .slice (some ⟨w.heap.size + 1, 0, none⟩) 1 1] ((w.alloc (.cells #[.int .i64 i] 139)).alloc (.cells #[.int .i64 i] 3)) (fun e w' => e = .returned (.string (bts (txt (.cut i)))) ∧ Below ((w.alloc (.cells #[.int .i64 i] 139)).alloc (.cells #[.int .i64 i] 3)).heap.size ((w.alloc (.cells #[.int .i64 i] 139)).alloc (.cells #[.int .i64 i] 3)) w')) := Lib.hid (by rw [← HE.out]; exact f_words ⟨#[102, 101, 108, 108]⟩ _ [i] 1 _ (by decide) (by simp) (fun x hx => by simp at hx; subst hx; exact bi) (hL.on B1) hr)
 clear hr HE
 go_enter Tryz.func264, Tryz.ntmps264
 go_wp2_with (go_at_call 150; ((with_reducible refine HW.out.mono ?_); rintro e w3 ⟨rfl, hb3⟩))
 go_ret
 exact ⟨rfl, below_tr B1 hb3⟩
theorem t_bill (i : Int) (w : World) (bi : -9223372036854775808 <= i ∧ i <= 9223372036854775807) (hL : LdW w) :
  Calls Tryz.prog 298 #[.agg #[.int .i64 i]] w fun e w' => e = .returned (.string (bts (txt (.bill i)))) ∧ Below w.heap.size w w' := by
 have B0 := bl_alloc (below_refl w) (.cells #[.int .i64 i] 163)
 have B1 := bl_alloc B0 (.cells #[.int .i64 i] 3)
 have hr : Rd zC 1 ((w.alloc (.cells #[.int .i64 i] 163)).alloc (.cells #[.int .i64 i] 3)) (some ⟨w.heap.size + 1, 0, none⟩) [i] := by
  have h := rd_new (w.alloc (.cells #[.int .i64 i] 163)) [i]
  rw [World.size_alloc] at h
  exact h
 have HE := Lib.hid (show (⟨#[98, 105, 108, 108]⟩ : ByteArray) ++ bts (wsT [i]) = bts (txt (.bill i)) by rw [show (⟨#[98, 105, 108, 108]⟩ : ByteArray) = bts [98, 105, 108, 108] from rfl, ba_app]; rfl)
 have HW : Hid (Calls Tryz.prog 150 #[.string ⟨#[98, 105, 108, 108]⟩, .slice (some ⟨w.heap.size + 1, 0, none⟩) 1 1] ((w.alloc (.cells #[.int .i64 i] 163)).alloc (.cells #[.int .i64 i] 3)) (fun e w' => e = .returned (.string (bts (txt (.bill i)))) ∧ Below ((w.alloc (.cells #[.int .i64 i] 163)).alloc (.cells #[.int .i64 i] 3)).heap.size ((w.alloc (.cells #[.int .i64 i] 163)).alloc (.cells #[.int .i64 i] 3)) w')) := Lib.hid (by rw [← HE.out]; exact f_words ⟨#[98, 105, 108, 108]⟩ _ [i] 1 _ (by decide) (by simp) (fun x hx => by simp at hx; subst hx; exact bi) (hL.on B1) hr)
 clear hr HE
 go_enter Tryz.func298, Tryz.ntmps298
 go_wp2_with (go_at_call 150; ((with_reducible refine HW.out.mono ?_); rintro e w3 ⟨rfl, hb3⟩))
 go_ret
 exact ⟨rfl, below_tr B1 hb3⟩
theorem t_up (i m : Int) (w : World) (bi : -9223372036854775808 <= i ∧ i <= 9223372036854775807) (bm : -9223372036854775808 <= m ∧ m <= 9223372036854775807) (hL : LdW w) :
  Calls Tryz.prog 288 #[.agg #[.int .i64 i, .int .i64 m]] w fun e w' => e = .returned (.string (bts (txt (.up i m)))) ∧ Below w.heap.size w w' := by
 have B0 := bl_alloc (below_refl w) (.cells #[.int .i64 i, .int .i64 m] 156)
 have B1 := bl_alloc B0 (.cells #[.int .i64 i, .int .i64 m] 3)
 have hr : Rd zC 1 ((w.alloc (.cells #[.int .i64 i, .int .i64 m] 156)).alloc (.cells #[.int .i64 i, .int .i64 m] 3)) (some ⟨w.heap.size + 1, 0, none⟩) [i, m] := by
  have h := rd_new (w.alloc (.cells #[.int .i64 i, .int .i64 m] 156)) [i, m]
  rw [World.size_alloc] at h
  exact h
 have HE := Lib.hid (show (⟨#[117, 112]⟩ : ByteArray) ++ bts (wsT [i, m]) = bts (txt (.up i m)) by rw [show (⟨#[117, 112]⟩ : ByteArray) = bts [117, 112] from rfl, ba_app]; rfl)
 have HW : Hid (Calls Tryz.prog 150 #[.string ⟨#[117, 112]⟩, .slice (some ⟨w.heap.size + 1, 0, none⟩) 2 2] ((w.alloc (.cells #[.int .i64 i, .int .i64 m] 156)).alloc (.cells #[.int .i64 i, .int .i64 m] 3)) (fun e w' => e = .returned (.string (bts (txt (.up i m)))) ∧ Below ((w.alloc (.cells #[.int .i64 i, .int .i64 m] 156)).alloc (.cells #[.int .i64 i, .int .i64 m] 3)).heap.size ((w.alloc (.cells #[.int .i64 i, .int .i64 m] 156)).alloc (.cells #[.int .i64 i, .int .i64 m] 3)) w')) := Lib.hid (by rw [← HE.out]; exact f_words ⟨#[117, 112]⟩ _ [i, m] 2 _ (by decide) (by simp) (fun x hx => by simp at hx; rcases hx with rfl | rfl; exact bi; exact bm) (hL.on B1) hr)
 clear hr HE
 go_enter Tryz.func288, Tryz.ntmps288
 go_wp2_with (go_at_call 150; ((with_reducible refine HW.out.mono ?_); rintro e w3 ⟨rfl, hb3⟩))
 go_ret
 exact ⟨rfl, below_tr B1 hb3⟩
theorem t_down (i m : Int) (w : World) (bi : -9223372036854775808 <= i ∧ i <= 9223372036854775807) (bm : -9223372036854775808 <= m ∧ m <= 9223372036854775807) (hL : LdW w) :
  Calls Tryz.prog 255 #[.agg #[.int .i64 i, .int .i64 m]] w fun e w' => e = .returned (.string (bts (txt (.down i m)))) ∧ Below w.heap.size w w' := by
 have B0 := bl_alloc (below_refl w) (.cells #[.int .i64 i, .int .i64 m] 133)
 have B1 := bl_alloc B0 (.cells #[.int .i64 i, .int .i64 m] 3)
 have hr : Rd zC 1 ((w.alloc (.cells #[.int .i64 i, .int .i64 m] 133)).alloc (.cells #[.int .i64 i, .int .i64 m] 3)) (some ⟨w.heap.size + 1, 0, none⟩) [i, m] := by
  have h := rd_new (w.alloc (.cells #[.int .i64 i, .int .i64 m] 133)) [i, m]
  rw [World.size_alloc] at h
  exact h
 have HE := Lib.hid (show (⟨#[100, 111, 119, 110]⟩ : ByteArray) ++ bts (wsT [i, m]) = bts (txt (.down i m)) by rw [show (⟨#[100, 111, 119, 110]⟩ : ByteArray) = bts [100, 111, 119, 110] from rfl, ba_app]; rfl)
 have HW : Hid (Calls Tryz.prog 150 #[.string ⟨#[100, 111, 119, 110]⟩, .slice (some ⟨w.heap.size + 1, 0, none⟩) 2 2] ((w.alloc (.cells #[.int .i64 i, .int .i64 m] 133)).alloc (.cells #[.int .i64 i, .int .i64 m] 3)) (fun e w' => e = .returned (.string (bts (txt (.down i m)))) ∧ Below ((w.alloc (.cells #[.int .i64 i, .int .i64 m] 133)).alloc (.cells #[.int .i64 i, .int .i64 m] 3)).heap.size ((w.alloc (.cells #[.int .i64 i, .int .i64 m] 133)).alloc (.cells #[.int .i64 i, .int .i64 m] 3)) w')) := Lib.hid (by rw [← HE.out]; exact f_words ⟨#[100, 111, 119, 110]⟩ _ [i, m] 2 _ (by decide) (by simp) (fun x hx => by simp at hx; rcases hx with rfl | rfl; exact bi; exact bm) (hL.on B1) hr)
 clear hr HE
 go_enter Tryz.func255, Tryz.ntmps255
 go_wp2_with (go_at_call 150; ((with_reducible refine HW.out.mono ?_); rintro e w3 ⟨rfl, hb3⟩))
 go_ret
 exact ⟨rfl, below_tr B1 hb3⟩
theorem t_day (w : World) : Calls Tryz.prog 258 #[.agg #[]] w fun e w' => e = .returned (.string (bts (txt .day))) ∧ Below w.heap.size w w' := by
 go_enter Tryz.func258, Tryz.ntmps258
 go_wp2
 go_ret
 exact ⟨rfl, bl⟩
theorem t_look (m : ByteArray) (w : World) (hm : m.size <= 1000000000) : Calls Tryz.prog 292 #[.agg #[.string m]] w fun e w' => e = .returned (.string (bts (txt (.look m)))) ∧ Below w.heap.size w w' := by
 have HE := Lib.hid (show bts (txt (.look m)) = (⟨#[108, 111, 111, 107, 32]⟩ : ByteArray) ++ m by
  rw [show (⟨#[108, 111, 111, 107, 32]⟩ : ByteArray) = bts [108, 111, 111, 107, 32] from rfl]
  conv => rhs; rw [← list_bts m]
  rw [ba_app]; rfl)
 have z1 : ¬ 9223372036854775807 < 5 + m.size := by omega
 rw [HE.out]
 go_enter Tryz.func292, Tryz.ntmps292
 go_wp2
 go_ret
 exact ⟨rfl, bl⟩
theorem t_call (m : ByteArray) (w : World) (hm : m.size <= 1000000000) : Calls Tryz.prog 295 #[.agg #[.string m]] w fun e w' => e = .returned (.string (bts (txt (.call m)))) ∧ Below w.heap.size w w' := by
 have HE := Lib.hid (show bts (txt (.call m)) = (⟨#[99, 97, 108, 108, 32]⟩ : ByteArray) ++ m by
  rw [show (⟨#[99, 97, 108, 108, 32]⟩ : ByteArray) = bts [99, 97, 108, 108, 32] from rfl]
  conv => rhs; rw [← list_bts m]
  rw [ba_app]; rfl)
 have z1 : ¬ 9223372036854775807 < 5 + m.size := by omega
 rw [HE.out]
 go_enter Tryz.func295, Tryz.ntmps295
 go_wp2
 go_ret
 exact ⟨rfl, bl⟩
end Go.Proofs.YtgemlddincnfcaaGreatDoor.Fi
