/- The parts of the proof, part 8. -/
import Derived.Test.YtmjgljdmjpabdaaGreatDoorJ0
import Derived.Test.YtmjgljdmjpabdaaGreatDoorJ5
import Derived.Test.YtmjgljdmjpabdaaGreatDoorJ7
import Derived.Test.YtmjgljdmjpabdaaGreatDoorProg
import Derived.Shelf.Abstract
import Derived.WalkLawsBesides
import Derived.Deep.QuietTactic
import Derived.BigQuiet
import Derived.Deep.RegionHeld3
import Derived.Maps.OwnOps
import Derived.Maps.OwnSet
import Derived.Laws.Strings
import Derived.ArgAppend
import Derived.Deep.AppendLies
import Derived.Laws.OwnMore
import Derived.StillTail
import Derived.StillTailTactics
set_option linter.unusedSimpArgs false
set_option linter.unusedVariables false
namespace Go.Proofs.YtmjgljdmjpabdaaGreatDoor.G
open Go.RowKit Go.Maps
def isE (r : List Lk) (i : Int) : Bool := !(r.any fun x => x.fr == i)
def endN (r : List Lk) (k : Nat) : List Nat := (List.range k).filter fun i => isE r i
theorem endN_yes {r : List Lk} {k : Nat} (h : isE r k = true) : endN r (k + 1) = endN r k ++ [k] := by
 unfold endN; rw [List.range_succ, List.filter_append]; simp [h]
theorem endN_no {r : List Lk} {k : Nat} (h : isE r k = false) : endN r (k + 1) = endN r k := by
 unfold endN; rw [List.range_succ, List.filter_append]; simp [h]
theorem endN_len (r : List Lk) (k : Nat) : (endN r k).length ≤ k := by
 have := List.length_filter_le (fun i : Nat => isE r i) (List.range k)
 simpa [endN] using this
theorem p_isEnd1 (x : Lk) (n : Int) (bx : Nat) (w : World) (hc : w.cell? ⟨bx, 0, none⟩ = some (.int .i64 n)) (hb : bx < w.heap.size) :
  Calls Tryz.prog 273 #[lkV x, .pointer (some ⟨bx, 0, none⟩)] w fun e w' => e = .returned (.bool (x.fr == n)) ∧ Below w.heap.size w w' := by
 have hne : bx ≠ w.heap.size := by omega
 go_enter Tryz.func273, Tryz.ntmps273
 go_wp2
 go_ret
 exact ⟨rfl, bl⟩
set_option maxRecDepth 20000 in
theorem p_isEnd (B : Option Addr) (r : List Lk) (d : Nat) (n : Int) (w : World) (hn : r.length ≤ 100000) (hS : Rd Lk.cs 2 w B r) :
  Calls Tryz.prog 269 #[.slice B r.length d, .int .i64 n] w fun e w' => e = .returned (.bool (isE r n)) ∧ Below w.heap.size w w' := by
 have HC := Lib.hid (fun W (h : Below w.heap.size w W) (hb : Blk W w.heap.size 3 #[.int .i64 n]) => c_containsL B r d (fun x => x.fr == n) 273 #[.pointer (some ⟨w.heap.size, 0, none⟩)] W hn (hS.on h) (enters_of Tryz.func273 (by kernel_rfl) rfl)
  (fun V x hV _ => p_isEnd1 x n w.heap.size V ((hb.below hV hb.lt).cell 0) (hb.below hV hb.lt).lt))
 clear hS
 go_enter Tryz.func269, Tryz.ntmps269
 go_wp2_with (go_at_call 243; refine (HC.out _ (bl_alloc (below_refl _) _) (Blk.new _ _ _)).mono ?_; rintro e w1 ⟨rfl, hb1⟩; have hz1 := hb1.size; (try simp at hz1))
 go_ret
 exact ⟨rfl, bl⟩
theorem p_isEndV {B : Option Addr} {r : List Lk} {d : Nat} {n : Int} {w : World} {b : Bool} (h : isE r n = b) (hn : r.length ≤ 100000) (hS : Rd Lk.cs 2 w B r) :
  Calls Tryz.prog 269 #[.slice B r.length d, .int .i64 n] w fun e w' => e = .returned (.bool b) ∧ Below w.heap.size w w' := h ▸ p_isEnd B r d n w hn hS
set_option maxHeartbeats 1000000 in
set_option maxRecDepth 20000 in
theorem p_ends (B : Option Addr) (r : List Lk) (d : Nat) (w : World) (hn : r.length ≤ 100000) (hS : Rd Lk.cs 2 w B r) :
  Calls Tryz.prog 261 #[.slice B r.length d] w fun e w' => ∃ v, e = .returned v ∧ w'.ownsRow w.heap.size 3 1 v (endN r r.length).length (fl nC (endN r r.length)) ∧ Below w.heap.size w w' := by
 obtain ⟨i0, hi, hi1, hi2, hi3⟩ := info_int2
 go_enter Tryz.func261, Tryz.ntmps261
 go_wp2
 go_loopw [3, 7] (fun v i wr => ∃ k : Nat, k ≤ r.length ∧ i = .int .i64 k ∧ Below w.heap.size w wr ∧ wr.ownsRow w.heap.size 3 1 v (endN r k).length (fl nC (endN r k))) (fun _ i _ => r.length - (intOf i).toNat)
 case atStart => exact ⟨0, by omega, rfl, Below.refl _ _, World.ownsRow_nil w _ _ _⟩
 case round =>
  obtain ⟨k, hk, rfl, hbw, hown⟩ := hrel
  obtain ⟨ad, cp, rfl⟩ := own_slice hown
  have hlen := endN_len r k
  by_cases hlt : k < r.length
  ·have k0 : (0 : Int) ≤ (k : Int) := Int.natCast_nonneg _
   have k1 : (k : Int) < (r.length : Int) := by omega
   cases he : isE r k
   ·have HE := Lib.hid (p_isEndV (d := d) he hn (hS.on hbw))
    have HST := Lib.hid (endN_no he)
    clear he
    go_wp2_with (go_at_call 269; ((with_reducible refine (HE.out).mono ?_); rintro e w1 ⟨rfl, hb1⟩; obtain ⟨hc1, hf1⟩ := bcell hb1; have hz1 := hb1.size; (try simp [SZ] at hz1); (try simp only [SZ] at hc1 hf1)))
    go_roundw
    case rel => exact ⟨k + 1, by omega, by go_num, bl, by rw [HST.out]; exact own_on hown hb1⟩
    case measure => simp [intOf]; omega
   ·have HE := Lib.hid (p_isEndV (d := d) he hn (hS.on hbw))
    have HST := Lib.hid (endN_yes he)
    clear he
    go_wp2_with (first
     | ((go_at_call 269; ((with_reducible refine (HE.out).mono ?_); rintro e w1 ⟨rfl, hb1⟩; obtain ⟨hc1, hf1⟩ := bcell hb1; have hz1 := hb1.size; (try simp [SZ] at hz1); (try simp only [SZ] at hc1 hf1))); have hown1 := own_on hown hb1; have hbw1 : Below w.heap.size w w1 := bl)
     | (at_builtin; refine wpList_append_own _ rfl _ _ 43 rfl w.heap.size 3 i0 (.int .i64 0) 1 8 (by kernel_rfl) hi hi1 hi2 hi3 rfl (by omega) _ _ _ rfl (hown1.alloc _) ⟨w1.heap.size, 0, none⟩ 1 1 [.int .i64 k] rfl rfl (cells_new w1 [.int .i64 k] 3) (fun u hu => by simp at hu; subst hu; rfl) (by unfold maxLen; omega) (by omega) (by simp; have := hbw1.size; omega) ?_; intro v' w4 hown4 hgrow _))
    go_roundw
    case rel => exact ⟨k + 1, by omega, by go_num, bl_app hbw1 hown1 hgrow (Nat.le_refl _) hbw1.size, by rw [HST.out, fl_snoc, List.length_append]; exact hown4⟩
    case measure => simp [intOf]; omega
  ·obtain rfl : k = r.length := by omega
   go_wp2
   go_ret
   exact ⟨_, rfl, hown, hbw⟩
def endZ (r : List Lk) : List Int := (endN r r.length).map fun n : Nat => (n : Int)
theorem fl_nz (l : List Nat) : fl nC l = fl zC (l.map fun n : Nat => (n : Int)) := by
 induction l with
 | nil => rfl
 | cons x l ih => simp only [fl, List.map_cons, List.flatMap_cons] at ih ⊢; rw [ih]; rfl
theorem nz_own {w : World} {b : Nat} {v : Value} {l : List Nat} (h : w.ownsRow b 3 1 v l.length (fl nC l)) : w.ownsRow b 3 1 v (l.map fun n : Nat => (n : Int)).length (fl zC (l.map fun n : Nat => (n : Int))) := by
 rw [fl_nz] at h; rwa [List.length_map]
theorem own_ints {w : World} {b : Nat} {v : Value} {l : List Int} (h : w.ownsRow b 3 1 v l.length (fl zC l)) : ∃ A c, v = .slice A l.length c ∧ Rd zC 1 w A l := own_rd zC_len h
theorem p_endsZ (B : Option Addr) (r : List Lk) (d : Nat) (w : World) (hn : r.length ≤ 100000) (hS : Rd Lk.cs 2 w B r) :
  Calls Tryz.prog 261 #[.slice B r.length d] w fun e w' => ∃ v, e = .returned v ∧ w'.ownsRow w.heap.size 3 1 v (endZ r).length (fl zC (endZ r)) ∧ Below w.heap.size w w' := by
 refine (p_ends B r d w hn hS).mono ?_
 rintro e w' ⟨v, rfl, h, hb⟩
 exact ⟨v, rfl, nz_own h, hb⟩
abbrev onE (E : Int) (l : List Int) : List Int := if E = 0 then l else []
def LI (w : World) (g : Nat) (l : List Int) : Prop := ∃ cur, Blk w g 3 cur ∧ InRow zC 1 cur l
theorem LI.lt {w : World} {g : Nat} {l : List Int} (h : LI w g l) : g < w.heap.size := by obtain ⟨_, h, _⟩ := h; exact h.lt
theorem LI.cell {w : World} {g : Nat} {l : List Int} (h : LI w g l) {k : Nat} {x : Int} (hx : l[k]? = some x) : w.cell? ⟨g, k, none⟩ = some (.int .i64 x) := by
 obtain ⟨cur, hb, hr⟩ := h
 have := hr k x hx 0 _ rfl
 rw [Nat.mul_one, Nat.add_zero] at this
 rw [hb.cell]; exact this
theorem LI.frozen {w : World} {g : Nat} {l : List Int} (h : LI w g l) (k : Nat) : w.frozen? ⟨g, k, none⟩ = false := by obtain ⟨_, h, _⟩ := h; exact h.frozen k
theorem LI.rd {w : World} {g : Nat} {l : List Int} (h : LI w g l) : Rd zC 1 w (some ⟨g, 0, none⟩) l := by obtain ⟨_, h, hr⟩ := h; exact row_rd h hr
theorem inrow_set {cur : Array Value} {l : List Int} {k : Nat} {x : Int} (y : Int) (hc : InRow zC 1 cur l) (hx : l[k]? = some x) : InRow zC 1 (cur.setIfInBounds k (.int .i64 y)) (l.set k y) := fun k' z hz r u hu => by
 have hr : r = 0 := by
  rcases Nat.lt_or_ge r 1 with h | h
  ·omega
  ·rw [List.getElem?_eq_none (by rw [zC_len]; exact h)] at hu; cases hu
 subst hr
 rw [Nat.mul_one, Nat.add_zero]
 have h1 := hc k x hx 0 _ rfl
 rw [Nat.mul_one, Nat.add_zero] at h1
 have l1 := (Array.getElem?_eq_some_iff.1 h1).1
 have hkl : k < l.length := (List.getElem?_eq_some_iff.1 hx).1
 by_cases hk : k = k'
 ·subst hk
  rw [List.getElem?_set_self hkl] at hz
  cases hz
  rw [Array.getElem?_setIfInBounds_self_of_lt l1]; exact hu
 ·rw [List.getElem?_set_ne hk] at hz
  rw [Array.getElem?_setIfInBounds_ne hk]
  have := hc k' z hz 0 u hu
  rwa [Nat.mul_one, Nat.add_zero] at this
theorem LI.set {w : World} {g : Nat} {l : List Int} (h : LI w g l) {k : Nat} {x : Int} (hx : l[k]? = some x) (y : Int) : LI (w.setCell ⟨g, k, none⟩ (.int .i64 y)) g (l.set k y) := by
 obtain ⟨cur, hb, hr⟩ := h
 exact ⟨_, hb.set_ _ _, inrow_set y hr hx⟩
theorem LI.alloc {w : World} {g : Nat} {l : List Int} (h : LI w g l) (o : Obj) : LI (w.alloc o) g l := by obtain ⟨c, h, hr⟩ := h; exact ⟨c, h.alloc o, hr⟩
theorem LI.far {w : World} {g : Nat} {l : List Int} (h : LI w g l) {p : Addr} (hp : g ≠ p.block) (u : Value) : LI (w.setCell p u) g l := by obtain ⟨c, h, hr⟩ := h; exact ⟨c, h.far hp u, hr⟩
theorem LI.drew {w : World} {g : Nat} {l : List Int} (h : LI w g l) : LI w.drew g l := h
theorem LI.drewN {w : World} {g : Nat} {l : List Int} (h : LI w g l) (n : Nat) : LI (w.drewN n) g l := h
theorem LI.below {w w' : World} {g B : Nat} {l : List Int} (h : LI w g l) (hb : Below B w w') (hg : g < B) : LI w' g l := by obtain ⟨c, h, hr⟩ := h; exact ⟨c, h.below hb hg, hr⟩
theorem LI.on {w w' : World} {g : Nat} {l : List Int} (h : LI w g l) (hb : Below w.heap.size w w') : LI w' g l := h.below hb h.lt
theorem LI.grown {w w' : World} {g : Nat} {l : List Int} {row : Option Nat} (h : LI w g l) (k : w.grownBy w' row) (hn : some g ≠ row) : LI w' g l := by obtain ⟨c, h, hr⟩ := h; exact ⟨c, h.grown k hn, hr⟩
theorem own_LI {w : World} {b : Nat} {v : Value} {l : List Int} (h : w.ownsRow b 3 1 v l.length (fl zC l)) (h0 : 0 < l.length) : ∃ g cap, v = .slice (some ⟨g, 0, none⟩) l.length cap ∧ b ≤ g ∧ LI w g l := by
 obtain ⟨g, cap, cur, e, hg, hb, hr⟩ := own_row zC_len h h0
 exact ⟨g, cap, e, hg, cur, hb, hr⟩
structure VR (g : List It) (r : List Lk) : Prop where
 l0 : 1 ≤ r.length
 l1 : r.length ≤ 32
 lg : g.length ≤ 64
 fr : ∀ (k : Nat) (x : Lk), r[k]? = some x → frB k x.fr = true
 fnd : ∀ (k : Nat) (x : Lk), r[k]? = some x → 0 ≤ fndI g x.nm
 dst : ∀ (k : Nat) (x : Lk), r[k]? = some x → fndL r x.nm = k
 vg : vldG g = true
theorem vr_of {g : List It} {r : List Lk} (h : (vldG g && vldR g r) = true) : VR g r := by
 rw [Bool.and_eq_true] at h
 obtain ⟨h1, h2⟩ := h
 have h3 := h2
 unfold vldR at h2
 rw [Bool.and_eq_true, List.all_eq_true, wn_iff] at h2
 obtain ⟨h4, h5, h6⟩ := h2
 have h7 := h1
 unfold vldG at h7
 rw [Bool.and_eq_true] at h7
 have hk : ∀ (k : Nat) (x : Lk), r[k]? = some x → (0 ≤ fndI g x.nm ∧ frB k x.fr = true) ∧ fndL r x.nm = k := by
  intro k x hx
  have := h4 k (by simpa using (List.getElem?_eq_some_iff.1 hx).1)
  unfold okL at this
  rw [lkAt_of hx] at this
  rw [Bool.and_eq_true, Bool.and_eq_true] at this
  have h8 := fndl_of hx rfl
  have h9 := this.2
  simp at h9
  exact ⟨⟨by simpa using this.1.1, this.1.2⟩, by omega⟩
 exact ⟨by omega, by omega, by simpa using h7.2, fun k x hx => (hk k x hx).1.2, fun k x hx => (hk k x hx).1.1, fun k x hx => (hk k x hx).2, h1⟩
theorem VR.frs {g : List It} {r : List Lk} (h : VR g r) {k : Nat} {x : Lk} (hx : r[k]? = some x) : -1 ≤ x.fr ∧ x.fr < k ∧ (x.fr < 0 ↔ k = 0) := by
 have := h.fr k x hx
 unfold frB at this
 by_cases hk : k = 0
 ·rw [if_pos hk] at this
  have : x.fr = -1 := by simpa using this
  omega
 ·rw [if_neg hk, wn_iff] at this
  omega
def itR (g : List It) (x : Lk) : It := itAt g (fndI g x.nm).toNat
theorem VR.it {g : List It} {r : List Lk} (h : VR g r) {k : Nat} {x : Lk} (hx : r[k]? = some x) : g[(fndI g x.nm).toNat]? = some (itR g x) ∧ sndI (itR g x) = true := by
 have h1 := h.fnd k x hx
 have h2 := (fnd_bd g x.nm).2
 obtain ⟨y, hy⟩ := get_lt (show (fndI g x.nm).toNat < g.length by omega)
 have e : itR g x = y := itAt_of hy
 rw [e]
 refine ⟨hy, ?_⟩
 have h3 := h.vg
 rw [vldG_is, Bool.and_eq_true, Bool.and_eq_true, List.all_eq_true] at h3
 exact h3.2.1 y (List.mem_of_getElem? hy)
theorem snd_ld {x : It} (h : sndI x = true) : (1 ≤ x.ld ∧ x.ld ≤ 1000000) ∧ 0 ≤ x.du ∧ x.du ≤ 100000 := by
 unfold sndI at h
 simp only [Bool.and_eq_true, wn_iff] at h
 exact ⟨h.1.2, h.2⟩
def ldL (g : List It) (r : List Lk) : List Int := r.map fun x => (itR g x).ld
theorem VR.ld {g : List It} {r : List Lk} (h : VR g r) {k : Nat} {n : Int} (hx : (ldL g r)[k]? = some n) : 1 ≤ n ∧ n ≤ 1000000 := by
 unfold ldL at hx
 rw [List.getElem?_map] at hx
 cases hr : r[k]? with
 | none => rw [hr] at hx; cases hx
 | some x =>
  rw [hr] at hx; cases hx
  exact (snd_ld (h.it hr).2).1
def chF (r : List Lk) : Nat → Int → List Nat
 | 0, _ => []
 | f + 1, i => if i < 0 then [] else i.toNat :: chF r f (lkAt r i.toNat).fr
theorem chF_s (r : List Lk) (f : Nat) (i : Int) : chF r (f + 1) i = if i < 0 then [] else i.toNat :: chF r f (lkAt r i.toNat).fr := rfl
def chn (r : List Lk) (i : Int) : List Nat := chF r (i + 1).toNat i
theorem chn_neg {r : List Lk} {i : Int} (h : i < 0) : chn r i = [] := by
 unfold chn
 cases (i + 1).toNat with
 | zero => rfl
 | succ f => unfold chF; rw [if_pos h]
theorem chF_any {g : List It} {r : List Lk} (h : VR g r) : ∀ (f : Nat) (i : Int), i < r.length → (i + 1).toNat ≤ f → chF r f i = chn r i
 | 0, i, hi, hf => by rw [chn_neg (by omega)]; rfl
 | f + 1, i, hi, hf => by
  by_cases hn : i < 0
  ·rw [chn_neg hn]; unfold chF; rw [if_pos hn]
  ·obtain ⟨n, rfl⟩ := Int.eq_ofNat_of_zero_le (show 0 ≤ i by omega)
   obtain ⟨x, hx⟩ := get_lt (show n < r.length by omega)
   have hfr := h.frs hx
   rw [chn, show ((n : Int) + 1).toNat = n + 1 by omega, chF_s, if_neg hn, chF_s, if_neg hn, show ((n : Int)).toNat = n by omega, lkAt_of hx]
   congr 1
   rw [chF_any h f x.fr (by omega) (by omega), chF_any h n x.fr (by omega) (by omega)]
theorem chn_step {g : List It} {r : List Lk} (h : VR g r) {n : Nat} {x : Lk} (hx : r[n]? = some x) : chn r (n : Int) = n :: chn r x.fr := by
 have hn := (List.getElem?_eq_some_iff.1 hx).1
 have hfr := h.frs hx
 rw [← chF_any h (n + 1) n (by omega) (by omega)]
 rw [chF_s, if_neg (by omega), show ((n : Int)).toNat = n by omega, lkAt_of hx, chF_any h n x.fr (by omega) (by omega)]
theorem chn_lt {g : List It} {r : List Lk} (h : VR g r) : ∀ (f : Nat) (i : Int), i < r.length → (i + 1).toNat ≤ f → ∀ n ∈ chn r i, (n : Int) ≤ i
 | 0, i, hi, hf, n, hn => by rw [chn_neg (by omega)] at hn; cases hn
 | f + 1, i, hi, hf, n, hn => by
  by_cases hneg : i < 0
  ·rw [chn_neg hneg] at hn; cases hn
  ·obtain ⟨m, rfl⟩ := Int.eq_ofNat_of_zero_le (show 0 ≤ i by omega)
   obtain ⟨x, hx⟩ := get_lt (show m < r.length by omega)
   have hfr := h.frs hx
   rw [chn_step h hx] at hn
   rcases List.mem_cons.1 hn with rfl | hn
   ·omega
   ·have := chn_lt h f x.fr (by omega) (by omega) n hn
    omega
theorem getD_of {l : List Int} {k : Nat} {x : Int} (h : l[k]? = some x) : l.getD k 0 = x := by simp [List.getD_eq_getElem?_getD, h]
theorem end_pos {g : List It} {r : List Lk} (h : VR g r) : 0 < (endN r r.length).length := by
 have h0 := h.l0
 have hm : r.length - 1 ∈ endN r r.length := by
  unfold endN
  rw [List.mem_filter]
  refine ⟨by simp; omega, ?_⟩
  unfold isE
  rw [Bool.not_eq_true', List.any_eq_false]
  intro x hx
  obtain ⟨k, hk⟩ := List.getElem?_of_mem hx
  have := (h.frs hk).2.1
  have hl := (List.getElem?_eq_some_iff.1 hk).1
  simp; omega
 exact List.length_pos_of_mem hm
theorem endN_lt {r : List Lk} {k n : Nat} (h : (endN r r.length)[k]? = some n) : n < r.length := by
 have := List.mem_of_getElem? h
 unfold endN at this
 rw [List.mem_filter] at this
 simpa using this.1
def subC (l : List Int) (n : Int) (c : List Nat) : List Int := c.foldl (fun l i => l.set i (l.getD i 0 - n)) l
def Bd (l : List Int) : Prop := ∀ (i : Nat) (x : Int), l[i]? = some x → 0 ≤ x ∧ x ≤ 1000000
theorem Bd.getD {l : List Int} (h : Bd l) (i : Nat) : 0 ≤ l.getD i 0 ∧ l.getD i 0 ≤ 1000000 := by
 cases hx : l[i]? with
 | none => simp [List.getD_eq_getElem?_getD, hx]
 | some x => rw [getD_of hx]; exact h i x hx
theorem fits_wrap {n : Int} (h : -9223372036854775808 ≤ n ∧ n ≤ 9223372036854775807) : IntKind.i64.wrap n = n := by
 simp only [IntKind.wrap, IntKind.bits, IntKind.signed]
 simp
 omega
theorem info_item : ∃ i : TypeInfo, Tryz.prog.info? 71 = some i ∧ i.zero = some (.agg #[.string ByteArray.empty, .int .i64 0, .int .i64 0, .string ByteArray.empty]) ∧ i.size = 4 ∧ i.bytes = 48 := info_parts (by kernel_rfl)
def lkE (g : List It) (s : ByteArray) (d : Int) : Int := if vldG g = true then (if wn d 0 100000 = true then (if 0 ≤ fndI g s then 0 else 5) else 7) else 1
def setDu (g : List It) (i : Nat) (d : Int) : List It := g.set i ⟨(itAt g i).nm, (itAt g i).ld, d, (itAt g i).bt⟩
def lkL (g : List It) (s : ByteArray) (d : Int) : List It := if lkE g s d = 0 then setDu g (fndI g s).toNat d else []
theorem vldG_len {g : List It} (h : vldG g = true) : g.length ≤ 64 := by
 unfold vldG at h
 rw [Bool.and_eq_true] at h
 simpa using h.2
section
variable {P : Program} (w : World)
theorem step_append_grows {ops : Array Oper} {o : Oper} {a : Act} {K : Act → World → Prop} {Q : Exit → Act → World → Prop} {E : Prop} (hgd : o.guard = none) (s x : Operand) (t : TypeId)
  (ho : o.op = .call { callee := .builtin .append, args := #[s, x], argTypes := #[t, t] })
  (e : TypeId) (i : TypeInfo) (z : Value) (size bytes : Nat) (ht : P.underlying t = some (.slice e)) (hi : P.info? e = some i) (hz : i.zero = some z)
  (hsize : i.size = size) (hby : i.bytes = bytes) (hzs : z.cells.size = size) (hsz : 0 < size)
  (b : Addr) (n cap : Nat) (olds : List Value) (hs : a.eval s = .slice (some b) n cap) (hlo : olds.length = n * size) (holds : ∀ j u, olds[j]? = some u → w.cell? (b.add j) = some u)
  (ad : Addr) (m c : Nat) (news : List Value) (hx : a.eval x = .slice (some ad) m c) (hl : news.length = m * size) (hnews : ∀ j u, news[j]? = some u → w.cell? (ad.add j) = some u)
  (hg : cap < n + m) (h63 : n + m ≤ maxLen) (hbytes : (n + m) * bytes ≤ 140737488355328)
  (h : ∀ v' w', w'.ownsRow w.heap.size e size v' (n + m) (olds ++ news) → w.grownBy w' none → K (a.put o.dst v') w') :
  if Region.wanted o (yielded ops a.tmps) = true then Oper.wp P o a w K Q else E := by
 have hw : Region.wanted o (yielded ops a.tmps) = true := by simp [Region.wanted, hgd]
 rw [if_pos hw]
 obtain ⟨v', w', hrun, r1, r2⟩ := run_append_arg_grows (P := P) w t o.type e i z size bytes ht hi hz hsize hby hzs hsz b n cap olds hlo holds ad m c news hl hnews hg h63 hbytes
 unfold Oper.wp
 simp [execOp, ho, resolve, invoke, builtin, hs, hx, hrun, Result.andThen]
 exact h v' w' r1 r2
theorem step_append_own {ops : Array Oper} {o : Oper} {a : Act} {K : Act → World → Prop} {Q : Exit → Act → World → Prop} {E : Prop} (hgd : o.guard = none) (s x : Operand) (t : TypeId)
  (ho : o.op = .call { callee := .builtin .append, args := #[s, x], argTypes := #[t, t] })
  (base : Nat) (e : TypeId) (i : TypeInfo) (z : Value) (size bytes : Nat) (ht : P.underlying t = some (.slice e)) (hi : P.info? e = some i) (hz : i.zero = some z)
  (hsize : i.size = size) (hby : i.bytes = bytes) (hzs : z.cells.size = size) (hsz : 0 < size)
  (v : Value) (n : Nat) (xs : List Value) (hs : a.eval s = v) (hown : w.ownsRow base e size v n xs)
  (ad : Addr) (m c : Nat) (news : List Value) (hx : a.eval x = .slice (some ad) m c) (hl : news.length = m * size) (hnews : ∀ j u, news[j]? = some u → w.cell? (ad.add j) = some u) (h1 : ∀ u ∈ news, u.oneCell' = true)
  (h63 : n + m ≤ maxLen) (hbytes : (n + m) * bytes ≤ 140737488355328) (hbase : base ≤ w.heap.size)
  (h : ∀ v' w', w'.ownsRow base e size v' (n + m) (xs ++ news) → w.grownBy w' v.ownBlock → K (a.put o.dst v') w') :
  if Region.wanted o (yielded ops a.tmps) = true then Oper.wp P o a w K Q else E := by
 have hw : Region.wanted o (yielded ops a.tmps) = true := by simp [Region.wanted, hgd]
 rw [if_pos hw]
 obtain ⟨v', w', hrun, r1, r2, _⟩ := run_append_own (P := P) w base t o.type e i z size bytes ht hi hz hsize hby hzs hsz v n xs hown ad m c news hl hnews h1 h63 hbytes hbase
 unfold Oper.wp
 simp [execOp, ho, resolve, invoke, builtin, hs, hx, hrun, Result.andThen]
 exact h v' w' r1 r2
end
theorem rdI_take {w : World} {A : Option Addr} {l : List It} (h : Rd It.cs 4 w A l) (n : Nat) : Rd It.cs 4 w A (l.take n) := fun hne => by
 obtain ⟨b, off, e, hb, hc⟩ := h (by rintro rfl; simp at hne)
 refine ⟨b, off, e, hb, fun k x hx j v hv => hc k x ?_ j v hv⟩
 rw [List.getElem?_take] at hx
 split at hx
 ·exact hx
 ·cases hx
theorem rdI_drop {w : World} {b off : Nat} {l : List It} (h : Rd It.cs 4 w (some ⟨b, off, none⟩) l) (n : Nat) : Rd It.cs 4 w (some ⟨b, off + n * 4, none⟩) (l.drop n) := fun hne => by
 obtain ⟨b', off', e, hb, hc⟩ := h (by rintro rfl; simp at hne)
 cases e
 refine ⟨b, off + n * 4, rfl, hb, fun k x hx j v hv => ?_⟩
 rw [List.getElem?_drop] at hx
 rw [show off + n * 4 + k * 4 + j = off + (n + k) * 4 + j by omega]
 exact hc _ x hx j v hv
theorem c_indexZ (A : Option Addr) (l : List (Int)) (c : Nat) (p : Int → Bool) (f : FuncId) (cap : Array Value) (w : World) (hl : l.length ≤ 100000) (hR : Rd zC 1 w A l)
  (he : ∀ args W, (callFunc f args).run Tryz.prog W = .ok (.enter f args) W)
  (hf : ∀ W x, Below w.heap.size w W → x ∈ l → Calls Tryz.prog f (#[.int .i64 x] ++ cap) W fun e W' => e = .returned (.bool (p x)) ∧ Below W.heap.size W W') :
  Calls Tryz.prog 215 #[.slice A l.length c, .func (.func f) #[] cap] w fun e w' => e = .returned (.int .i64 (idxOf p l 0)) ∧ Below w.heap.size w w' := by
 have HF := Lib.hid hf
 clear hf
 go_enter Tryz.func215, Tryz.ntmps215
 go_wp2
 go_loopw [8] (fun i wr => ∃ k : Nat, k ≤ l.length ∧ i = .int .i64 k ∧ Below w.heap.size w wr ∧ Hid (idxOf p l 0 = idxOf p (l.drop k) k)) (fun i _ => l.length - (intOf i).toNat)
 case atStart => exact ⟨0, by omega, rfl, Below.refl _ _, rfl⟩
 case round =>
  obtain ⟨k, hk, rfl, hB, HI⟩ := hrel
  by_cases hlt : k < l.length
  ·obtain ⟨x, b, off, hx, rfl, hb, c0⟩ := rd_int (hR.on hB) hlt
   have HD := Lib.hid (idxOf_drop p l k x hx)
   have hm := List.mem_of_getElem? hx
   have HC := Lib.hid (HF.out wr x hB hm)
   clear hx hm
   cases hp : p x
   all_goals
    have HP := Lib.hid hp
    clear hp
    go_wp2_with fail
    refine HC.out.mono ?_
    rintro e w1 ⟨rfl, hb1⟩
    rw [HP.out]
    go_wp2
   ·go_roundw
    case rel => exact ⟨k + 1, by omega, by go_num, hB.trans (hb1.mono hB.size), by rw [HI.out, HD.out, HP.out]; rfl⟩
    case measure => simp [intOf]; omega
   ·go_ret
    exact ⟨ret_int (by rw [HI.out, HD.out, HP.out]; rfl), hB.trans (hb1.mono hB.size)⟩
  ·go_wp2
   go_ret
   exact ⟨ret_int (by rw [HI.out, List.drop_of_length_le (by omega)]; rfl), hB⟩
theorem c_containsZ (A : Option Addr) (l : List (Int)) (c : Nat) (p : Int → Bool) (f : FuncId) (cap : Array Value) (w : World) (hl : l.length ≤ 100000) (hR : Rd zC 1 w A l)
  (he : ∀ args W, (callFunc f args).run Tryz.prog W = .ok (.enter f args) W)
  (hf : ∀ W x, Below w.heap.size w W → x ∈ l → Calls Tryz.prog f (#[.int .i64 x] ++ cap) W fun e W' => e = .returned (.bool (p x)) ∧ Below W.heap.size W W') :
  Calls Tryz.prog 198 #[.slice A l.length c, .func (.func f) #[] cap] w fun e w' => e = .returned (.bool (l.any p)) ∧ Below w.heap.size w w' := by
 have HC := Lib.hid (c_indexZ A l c p f cap w hl hR he hf)
 have HA := Lib.hid (idxOf_nonneg p l 0)
 clear he hf hR
 go_enter Tryz.func198, Tryz.ntmps198
 go_wp2_with (go_at_call 215; refine HC.out.mono ?_; rintro e w' ⟨rfl, hb⟩)
 go_ret
 exact ⟨ret_bool (by rw [Bool.eq_iff_iff, ← HA.out]; simp), hb⟩
def okZ (n : Int) : Bool := wn n 0 1000000
def ldE (r : List Lk) (L : List Int) : Int := if L.length = (endN r r.length).length then (if L.all okZ = true then 0 else 7) else 9
theorem endZ_len2 (r : List Lk) : (endZ r).length = (endN r r.length).length := by unfold endZ; rw [List.length_map]
theorem p_loaded1 (n : Int) (w : World) : Calls Tryz.prog 270 #[.int .i64 n] w fun e w' => e = .returned (.bool (!okZ n)) ∧ Below w.heap.size w w' := by
 go_enter Tryz.func270, Tryz.ntmps270
 go_wp2_with (go_at_call 106; ((with_reducible refine (p_within n 0 1000000 _).mono ?_); rintro e w' ⟨rfl, rfl⟩))
 go_ret
 exact ⟨rfl, below_refl _⟩
theorem any_nok (L : List Int) : (L.any fun x => !okZ x) = !L.all okZ := by induction L <;> simp_all
set_option maxHeartbeats 1000000 in
set_option maxRecDepth 20000 in
theorem p_loaded (B C : Option Addr) (r : List Lk) (L : List Int) (d f : Nat) (w : World) (hn : r.length ≤ 100000) (hl : L.length ≤ 100000) (hS : Rd Lk.cs 2 w B r) (hL : Rd zC 1 w C L) :
  Calls Tryz.prog 262 #[.slice B r.length d, .slice C L.length f] w fun e w' => e = .returned (.int .i64 (ldE r L)) ∧ Below w.heap.size w w' := by
 have H1 := Lib.hid (p_endsZ B r d w hn hS)
 have H2 := Lib.hid (fun W (h : Below w.heap.size w W) => c_containsZ C L f (fun x => !okZ x) 270 #[] W hl (hL.on h) (enters_of Tryz.func270 (by kernel_rfl) rfl) (fun V x _ _ => p_loaded1 x V))
 rw [any_nok] at H2
 have HEL := Lib.hid (endZ_len2 r)
 by_cases h1 : L.length = (endN r r.length).length
 rotate_left
 ·have HE := Lib.hid (show ldE r L = 9 by unfold ldE; rw [if_neg h1])
  have h2 : ((L.length : Int) != ((endZ r).length : Int)) = true := by rw [HEL.out]; simp; omega
  generalize endZ r = E at *
  clear h1 hS hL
  go_enter Tryz.func262, Tryz.ntmps262
  go_wp2_with (go_at_call 261; ((with_reducible refine (H1.out).mono ?_); rintro e w1 ⟨v, rfl, hv, hb1⟩; obtain ⟨A1, c1, rfl, _⟩ := own_ints hv))
  go_ret
  exact ⟨ret_int (by rw [HE.out]), hb1⟩
 ·have h2 : ((L.length : Int) != ((endZ r).length : Int)) = false := by rw [HEL.out]; simp; omega
  have HE := Lib.hid (show ldE r L = if L.all okZ = true then 0 else 7 by unfold ldE; rw [if_pos h1])
  generalize endZ r = E at *
  clear h1 hS hL
  cases h3 : L.all okZ <;> rw [h3] at H2 HE
  ·go_enter Tryz.func262, Tryz.ntmps262
   go_wp2_with (first
    | (go_at_call 261; ((with_reducible refine (H1.out).mono ?_); rintro e w1 ⟨v, rfl, hv, hb1⟩; obtain ⟨A1, c1, rfl, _⟩ := own_ints hv))
    | (go_at_call 198; refine (H2.out _ hb1).mono ?_; rintro e w2 ⟨rfl, hb2⟩))
   go_ret
   exact ⟨ret_int (by rw [HE.out]; rfl), below_tr hb1 hb2⟩
  ·go_enter Tryz.func262, Tryz.ntmps262
   go_wp2_with (first
    | (go_at_call 261; ((with_reducible refine (H1.out).mono ?_); rintro e w1 ⟨v, rfl, hv, hb1⟩; obtain ⟨A1, c1, rfl, _⟩ := own_ints hv))
    | (go_at_call 198; refine (H2.out _ hb1).mono ?_; rintro e w2 ⟨rfl, hb2⟩))
   go_ret
   exact ⟨ret_int (by rw [HE.out]; rfl), below_tr hb1 hb2⟩
def boS (r : List Lk) (L : List Int) (E : List Nat) : Nat → List Int
 | 0 => List.replicate r.length 0
 | k + 1 => subC (boS r L E k) (-(L.getD k 0)) (chn r ((E.getD k 0 : Nat) : Int))
def boZ (r : List Lk) (L : List Int) : List Int := boS r L (endN r r.length) (endN r r.length).length
def Bm (m : Int) (l : List Int) : Prop := ∀ (i : Nat) (x : Int), l[i]? = some x → 0 ≤ x ∧ x ≤ m
theorem made_ints (n : Nat) : (madeCells (Value.int .i64 0).cells (n * 1)).toList = fl zC (List.replicate n 0) := by
 have : (Value.int .i64 0).cells = #[.int .i64 0] := rfl
 rw [this, Nat.mul_one, toList_madeCells_one]
 induction n with
 | zero => rfl
 | succ n ih => rw [List.replicate_succ, ih, List.replicate_succ]; rfl
theorem addC_bd {g : List It} {r : List Lk} (hv : VR g r) {N P : Int} (hN : 0 ≤ N) : ∀ (f : Nat) (j : Int) (M : List Int), j < r.length → (j + 1).toNat ≤ f → M.length = r.length → Bm (P + N) M → (∀ i ∈ chn r j, M.getD i 0 ≤ P) → Bm (P + N) (subC M (-N) (chn r j)) ∧ (subC M (-N) (chn r j)).length = r.length
 | 0, j, M, hj, hf, hl, hb, hn => by rw [chn_neg (by omega)]; exact ⟨hb, hl⟩
 | f + 1, j, M, hj, hf, hl, hb, hn => by
  by_cases hneg : j < 0
  ·rw [chn_neg hneg]; exact ⟨hb, hl⟩
  ·obtain ⟨m, rfl⟩ := Int.eq_ofNat_of_zero_le (show 0 ≤ j by omega)
   obtain ⟨z, hz⟩ := get_lt (show m < r.length by omega)
   obtain ⟨t, ht⟩ := get_lt (show m < M.length by omega)
   have hfz := hv.frs hz
   rw [chn_step hv hz] at hn ⊢
   have hmt := hn m (List.mem_cons_self ..)
   rw [getD_of ht] at hmt
   have h0 := hb m t ht
   have e : subC M (-N) (m :: chn r z.fr) = subC (M.set m (t + N)) (-N) (chn r z.fr) := by unfold subC; rw [List.foldl_cons, getD_of ht, Int.sub_neg]
   rw [e]
   refine addC_bd hv hN f z.fr _ (by omega) (by omega) (by rw [List.length_set]; exact hl) ?_ ?_
   ·intro i x hx
    by_cases hi : m = i
    ·subst hi
     rw [List.getElem?_set_self (List.getElem?_eq_some_iff.1 ht).1] at hx
     cases hx; omega
    ·rw [List.getElem?_set_ne hi] at hx
     exact hb i x hx
   ·intro i hi
    have hlt2 := chn_lt hv (m + 1) z.fr (by omega) (by omega) i hi
    rw [List.getD_eq_getElem?_getD, List.getElem?_set_ne (by omega), ← List.getD_eq_getElem?_getD]
    exact hn i (List.mem_cons_of_mem _ hi)
theorem bm_getD {m : Int} {l : List Int} (h : Bm m l) (hm : 0 ≤ m) (i : Nat) : l.getD i 0 ≤ m := by
 cases hx : l[i]? with
 | none => rw [List.getD_eq_getElem?_getD, hx]; simpa using hm
 | some x => rw [getD_of hx]; exact (h i x hx).2
theorem boS_bd {g : List It} {r : List Lk} (hv : VR g r) {L : List Int} (hL : L.all okZ = true) (hl : L.length = (endN r r.length).length) : ∀ k, k ≤ L.length → (boS r L (endN r r.length) k).length = r.length ∧ Bm (1000000 * k) (boS r L (endN r r.length) k) := by
 intro k
 induction k with
 | zero =>
  intro _
  refine ⟨List.length_replicate .., ?_⟩
  intro i x hx
  have := List.eq_of_mem_replicate (List.mem_of_getElem? hx)
  omega
 | succ k ih =>
  intro hk
  obtain ⟨h1, h2⟩ := ih (by omega)
  obtain ⟨n, hx⟩ := get_lt (show k < (endN r r.length).length by omega)
  obtain ⟨N, hN⟩ := get_lt (show k < L.length by omega)
  have hnr := endN_lt hx
  obtain ⟨N0, N1⟩ : 0 ≤ N ∧ N ≤ 1000000 := wn_iff.1 (List.all_eq_true.1 hL N (List.mem_of_getElem? hN))
  rw [boS, show (endN r r.length).getD k 0 = n by simp [List.getD_eq_getElem?_getD, hx], getD_of hN]
  obtain ⟨a, b⟩ := addC_bd hv (P := 1000000 * k) N0 (n + 1) n _ (by omega) (by omega) h1 (fun i x hx => by have := h2 i x hx; omega) (fun i _ => bm_getD h2 (by omega) i)
  exact ⟨b, fun i x hx => by have := a i x hx; omega⟩
end Go.Proofs.YtmjgljdmjpabdaaGreatDoor.G
namespace Go.Proofs.YtmjgljdmjpabdaaGreatDoor.G
open Go.RowKit Go.Shelf Go.Maps
theorem fm_congr {α β : Type} {f g : α → List β} : ∀ {l : List α}, (∀ x ∈ l, f x = g x) → l.flatMap f = l.flatMap g
 | [], _ => rfl
 | a :: l, h => by rw [List.flatMap_cons, List.flatMap_cons, h a (List.mem_cons_self ..), fm_congr fun x hx => h x (List.mem_cons_of_mem _ hx)]
def kids (r : List Lk) (i k : Nat) : List Nat := (List.range k).filter fun j => (lkAt r j).fr == (i : Int)
def dsF (r : List Lk) : Nat → Nat → List Nat
 | 0, _ => []
 | f + 1, i => i :: (kids r i r.length).flatMap (dsF r f)
def ds (r : List Lk) (i : Nat) : List Nat := dsF r (r.length - i) i
theorem dsF_s (r : List Lk) (f i : Nat) : dsF r (f + 1) i = i :: (kids r i r.length).flatMap (dsF r f) := rfl
theorem kid_gt {g : List It} {r : List Lk} (hv : VR g r) {i j : Nat} (h : j ∈ kids r i r.length) : i < j ∧ j < r.length := by
 unfold kids at h
 rw [List.mem_filter] at h
 have hj : j < r.length := by simpa using h.1
 obtain ⟨x, hx⟩ := get_lt hj
 have hf := hv.frs hx
 have h2 := h.2
 rw [lkAt_of hx] at h2
 have : x.fr = (i : Int) := by simpa using h2
 omega
theorem dsF_any {g : List It} {r : List Lk} (hv : VR g r) : ∀ (f i : Nat), i < r.length → r.length - i ≤ f → dsF r f i = ds r i
 | 0, i, hi, hf => by omega
 | f + 1, i, hi, hf => by
  obtain ⟨q, hq⟩ : ∃ q, r.length - i = q + 1 := ⟨r.length - i - 1, by omega⟩
  rw [ds, hq, dsF_s, dsF_s]
  congr 1
  have hin : ∀ j ∈ kids r i r.length, dsF r f j = dsF r q j := fun j hj => by
   obtain ⟨h1, h2⟩ := kid_gt hv hj
   rw [dsF_any hv f j h2 (by omega), dsF_any hv q j h2 (by omega)]
  exact fm_congr hin
termination_by f i => (f, r.length - i)
decreasing_by all_goals simp_wf; omega
theorem ds_eq {g : List It} {r : List Lk} (hv : VR g r) {i : Nat} (hi : i < r.length) : ds r i = i :: (kids r i r.length).flatMap (ds r) := by
 obtain ⟨q, hq⟩ : ∃ q, r.length - i = q + 1 := ⟨r.length - i - 1, by omega⟩
 rw [ds, hq, dsF_s]
 congr 1
 exact fm_congr fun j hj => by
  obtain ⟨h1, h2⟩ := kid_gt hv hj
  exact dsF_any hv q j h2 (by omega)
theorem kids_yes {r : List Lk} {i k : Nat} (h : ((lkAt r k).fr == (i : Int)) = true) : kids r i (k + 1) = kids r i k ++ [k] := by
 unfold kids; rw [List.range_succ, List.filter_append]; simp [h]
theorem kids_no {r : List Lk} {i k : Nat} (h : ((lkAt r k).fr == (i : Int)) = false) : kids r i (k + 1) = kids r i k := by
 unfold kids; rw [List.range_succ, List.filter_append]; simp [h]
theorem kids_pre (r : List Lk) (i : Nat) {k n : Nat} (h : k ≤ n) : ∃ t, kids r i n = kids r i k ++ t := by
 obtain ⟨d, rfl⟩ : ∃ d, n = k + d := ⟨n - k, by omega⟩
 clear h
 induction d with
 | zero => exact ⟨[], by simp⟩
 | succ d ih =>
  obtain ⟨t, ht⟩ := ih
  rw [← Nat.add_assoc]
  cases hh : ((lkAt r (k + d)).fr == (i : Int))
  ·exact ⟨t, by rw [kids_no hh, ht]⟩
  ·exact ⟨t ++ [k + d], by rw [kids_yes hh, ht, List.append_assoc]⟩
theorem yield_any {m m' : Nat} {P : Program} {l : Nat} {args : Array Value} {W : World} {R : Ending → World → Prop} (h : YieldAt Fence.wide m P l args W R) : YieldAt Fence.wide m' P l args W R := by
 obtain ⟨fn, tmps, assign, body, hy, hr⟩ := h
 exact ⟨fn, tmps, assign, body, hy, hr.1, fun c cs _ => hr.2 c cs (room_wide _)⟩
attribute [local go_sem] Oper.semAt_some
abbrev noB : Nat → Prop := fun _ => False
set_option maxHeartbeats 2000000 in
set_option maxRecDepth 20000 in
theorem hang {g : List It} {r : List Lk} (hv : VR g r) (B : Option Addr) (d : Nat) (R : Nat → Prop) (hRr : ∀ ad, B = some ad → R ad.block) (L : Nat) (B0 : Nat) (J Jx : List Nat → (Nat → Prop) → World → Prop) (hJ : AbideIt B0 J) (xs : List Nat) (n : Nat)
  (hY : ∀ pre x rest W1, xs = pre ++ x :: rest → J pre noB W1 → YieldAt Fence.wide n Tryz.prog L #[.int .i64 (x : Nat)] W1 fun e W' =>
   (e = .returned (.bool true) ∧ J (pre ++ [x]) noB W' ∧ Stp (fun b => ¬ (noB b ∨ R b)) W1 W') ∨ (e = .returned (.bool false) ∧ Jx (pre ++ [x]) noB W')) :
  ∀ (f i : Nat) (pre rest : List Nat) (W1 : World), i < r.length → r.length - i ≤ f → xs = pre ++ (ds r i ++ rest) → J pre noB W1 → Rd Lk.cs 2 W1 B r →
   CallsIn Fence.wide 1 Tryz.prog 275 #[.slice B r.length d, .int .i64 (i : Nat), .func (.yield L) #[] #[]] W1 fun e W' =>
    (e = .returned (.bool true) ∧ J (pre ++ ds r i) noB W' ∧ Stp (fun b => ¬ (noB b ∨ R b)) W1 W') ∨ (e = .returned (.bool false) ∧ ∃ pre' rest', xs = pre' ++ rest' ∧ Jx pre' noB W') := by
 intro f
 induction f with
 | zero => intro i pre rest W1 hi hf; omega
 | succ f ih =>
  intro i pre rest W1 hi hf hxs hj hS
  have hr32 := hv.l1
  have hY1 := yield_any (m' := 1 - 1) (hY pre i ((kids r i r.length).flatMap (ds r) ++ rest) W1 (by rw [hxs, ds_eq hv hi]; rfl) hj)
  obtain ⟨fn', tmps, assign, body, hy, hRd⟩ := hY1
  have HRD := Lib.hid hRd
  have HXS := Lib.hid hxs
  have HIH := Lib.hid ih
  have HVV := Lib.hid hv
  have HJA := Lib.hid hJ
  have HRR := Lib.hid hRr
  have HDS := Lib.hid (ds_eq hv hi)
  have i0 : (0 : Int) ≤ (i : Int) := Int.natCast_nonneg _
  clear hRd hxs ih hv hY hj hJ hRr
  refine callsIn_of_wp Tryz.func275 rfl trivial ?_
  simp only [Tryz.ntmps275, List.size_toArray, List.length_cons, List.length_nil, Nat.reduceAdd, Nat.reduceSub, Array.replicate_succ, Array.replicate_zero, List.push_toArray, List.append_toArray, List.nil_append, List.cons_append]
  gi_wp2
  refine HRD.out.mono ?_
  rintro e W3 (⟨rfl, hj3, hk3⟩ | ⟨rfl, hjx⟩)
  rotate_left
  ·gi_wp2
   go_ret
   exact .inr ⟨rfl, pre ++ [i], (kids r i r.length).flatMap (ds r) ++ rest, by rw [HXS.out, HDS.out]; simp, hjx⟩
  ·have HJ3 := Lib.hid hj3
   clear hj3 hy HRD
   gi_wp2
   gi_loopw [15] (fun k wr => ∃ m : Nat, m ≤ r.length ∧ k = .int .i64 m ∧ Hid (J (pre ++ i :: (kids r i m).flatMap (ds r)) noB wr) ∧ Hid (Stp (fun b => ¬ (noB b ∨ R b)) W1 wr)) (fun k _ => r.length - (intOf k).toNat)
   case atStart => exact ⟨0, by omega, rfl, Lib.hid (by have := HJ3.out; simpa [kids] using this), Lib.hid hk3⟩
   case round =>
    clear hk3 HJ3
    obtain ⟨m, hm, rfl, HJ, HST⟩ := hrel
    have m0 : (0 : Int) ≤ (m : Int) := Int.natCast_nonneg _
    by_cases hlt : m < r.length
    ·have m1 : (m : Int) < (r.length : Int) := by omega
     obtain ⟨x, b, off, hx, rfl, hb, c0, c1⟩ := rdL (Rd.stp hS HST.out (fun ad e k => k (.inr (HRR.out ad e)))) hlt
     have hfr := HVV.out.frs hx
     have HXA := Lib.hid (lkAt_of hx)
     have HJB := Lib.hid (fun o => HJA.out _ noB noB wr (wr.alloc o) HJ.out (fun _ h => h.elim) (fun _ h => h) (fun _ h => .inl h) (fun _ h => h.elim) ((Stp.refl _ _).alloc _))
     have HSB := Lib.hid (fun o => HST.out.alloc o)
     clear hx
     by_cases he : x.fr = (i : Int)
     ·have HK := Lib.hid (kids_yes (r := r) (i := i) (k := m) (by rw [HXA.out, he]; simp))
      obtain ⟨t, ht⟩ := kids_pre r i (show m + 1 ≤ r.length by omega)
      have HT := Lib.hid ht
      clear ht
      have HC := Lib.hid (fun o => callsIn_wide.1 (HIH.out m (pre ++ i :: (kids r i m).flatMap (ds r)) (t.flatMap (ds r) ++ rest) (wr.alloc o) hlt (by omega)
       (by rw [HXS.out, HDS.out, HT.out, HK.out]; simp [List.flatMap_append]) (HJB.out o) (Rd.stp hS (HSB.out o) (fun ad e k => k (.inr (HRR.out ad e))))))
      have he1 : (x.fr == (i : Int)) = true := by simpa using he
      clear he hfr
      gi_wp2
      refine ⟨trivial, ?_⟩
      refine (callsIn_wide.2 (HC.out _)).mono ?_
      rintro e W4 (⟨rfl, hj4, hk4⟩ | ⟨rfl, pre', rest', hxx, hjx⟩)
      ·have HJ4 := Lib.hid hj4
       have HS4 := Lib.hid ((HSB.out _).trans hk4)
       clear hj4 hk4
       gi_wp2
       go_roundw
       case rel => exact ⟨m + 1, by omega, by go_num, Lib.hid (by have := HJ4.out; rw [HK.out]; simpa [List.flatMap_append, List.append_assoc] using this), HS4⟩
       case measure => simp [intOf]; omega
      ·have HXX := Lib.hid hxx
       clear hxx
       gi_wp2
       go_ret
       exact .inr ⟨rfl, pre', rest', HXX.out, hjx⟩
     ·have HK := Lib.hid (kids_no (r := r) (i := i) (k := m) (by rw [HXA.out]; simpa using he))
      have he1 : (x.fr == (i : Int)) = false := by simpa using he
      have HE1 := Lib.hid he1
      clear hfr he1
      gi_wp2
      refine ⟨trivial, ?_⟩
      rw [HE1.out]
      gi_wp2
      go_roundw
      case rel => exact ⟨m + 1, by omega, by go_num, Lib.hid (by rw [HK.out]; exact HJB.out _), Lib.hid (HSB.out _)⟩
      case measure => simp [intOf]; omega
    ·obtain rfl : m = r.length := by omega
     gi_wp2
     go_ret
     exact .inl ⟨rfl, by rw [HDS.out]; exact HJ.out, HST.out⟩
abbrev mrk (D : Nat) : Deferred := { target := .collected D, args := #[] }
def Marks (w : World) (Ds : List Nat) : Prop := Ds.Nodup ∧ ∀ D ∈ Ds, w.heap[D]? = some (.deferred (some []))
theorem Marks.nil (w : World) : Marks w [] := ⟨List.nodup_nil, fun _ h => by cases h⟩
theorem Marks.stp {w w' : World} {Ds : List Nat} {N : Nat → Prop} (h : Marks w Ds) (k : Stp N w w') (hn : ∀ D ∈ Ds, ¬ N D) : Marks w' Ds :=
 ⟨h.1, fun D hD => (k.block D (lt_of_block (h.2 D hD)) (hn D hD)).trans (h.2 D hD)⟩
theorem Marks.cons {w : World} {Ds : List Nat} {D : Nat} (h : Marks w Ds) (hD : w.heap[D]? = some (.deferred (some []))) (hn : D ∉ Ds) : Marks w (D :: Ds) :=
 ⟨List.nodup_cons.2 ⟨hn, h.1⟩, fun E hE => by rcases List.mem_cons.1 hE with rfl | hE; exact hD; exact h.2 E hE⟩
theorem leaves_marks {F : Fence} {n : Nat} {P : Program} {fn : Func} {tmps : Array Value} {R : Ending → World → Prop} {u : FrameMode} (hu : u ≠ .run) : ∀ (Ds : List Nat) (w : World), Marks w Ds →
  (∀ w', Stp (fun b => b ∈ Ds) w w' → LeavesIn F n P fn tmps R [] u w') → LeavesInM F n P fn tmps R (Ds.map mrk) u w
 | [], w, _, h => h w (Stp.refl _ _)
 | D :: Ds, w, hm, h => by
  have hD := hm.2 D (List.mem_cons_self ..)
  obtain ⟨h1, h2⟩ := List.nodup_cons.1 hm.1
  refine ⟨hu, .inl ⟨D, _, rfl, run_takeDeferred hD, ?_⟩⟩
  have hs : Stp (fun b => b = D) w (w.putObj D (.deferred none)) := Stp.putObj (Stp.refl (fun b => b = D) w) (.inl rfl) _
  refine leaves_marks hu Ds _ ⟨h2, fun E hE => ?_⟩ fun w' hw' => ?_
  ·exact (hs.block E (lt_of_block (hm.2 E (List.mem_cons_of_mem _ hE))) (fun e => h1 (e ▸ hE))).trans (hm.2 E (List.mem_cons_of_mem _ hE))
  ·exact h w' ((hs.mono fun b _ hb => by subst hb; exact List.mem_cons_self ..).trans (hw'.mono fun b _ hb => List.mem_cons_of_mem _ hb))
theorem enters_below : ∀ args w, (callFunc 274 args).run Tryz.prog w = .ok (.enter 274 args) w := enters_of Tryz.func274 (by kernel_rfl) rfl
def nE (n : Nat) : Array Value := #[.int .i64 (n : Int)]
set_option maxHeartbeats 1000000 in
set_option maxRecDepth 20000 in
theorem below_seq {g : List It} {r : List Lk} (hv : VR g r) (fn : Nat) (B : Option Addr) (d i b1 b2 : Nat) (hi : i < r.length) (R : Nat → Prop) (w0 : World) (hS : Rd Lk.cs 2 w0 B r) (hRr : ∀ ad, B = some ad → R ad.block)
  (h1 : w0.cell? ⟨b1, 0, none⟩ = some (.slice B r.length d)) (h2 : w0.cell? ⟨b2, 0, none⟩ = some (.int .i64 (i : Nat))) (hR1 : R b1) (hR2 : R b2) :
  SeqIs fn Tryz.prog 274 #[.pointer (some ⟨b1, 0, none⟩), .pointer (some ⟨b2, 0, none⟩)] nE (ds r i) R w0 := by
 intro L J Jx W hW hJ hJx hY h0
 have c1 := hW.cell h1 (fun k => k hR1)
 have c2 := hW.cell h2 (fun k => k hR2)
 have hSW := Rd.stp hS hW (fun ad e k => k (hRr ad e))
 have HC := Lib.hid (callsIn_wide.1 (hang hv B d R hRr L W.heap.size J Jx hJ (ds r i) (fn - 1) (fun pre x rest W1 hx hj => hY pre x rest noB W1 hx hj) (r.length - i) i [] [] W hi (Nat.le_refl _) (by simp) h0 hSW))
 clear hJ hJx hY h0 h1 h2 hW hS hSW hRr hv
 refine callsIn_of_wp Tryz.func274 rfl trivial ?_
 simp only [Tryz.ntmps274, List.size_toArray, List.length_cons, List.length_nil, Nat.reduceAdd, Nat.reduceSub, Array.replicate_succ, Array.replicate_zero, List.push_toArray, List.append_toArray, List.nil_append, List.cons_append]
 gi_wp2
 refine ⟨trivial, fun h => by simp [Fence.wide] at h, ?_⟩
 refine (callsIn_wide.2 HC.out).mono ?_
 rintro e W4 (⟨rfl, hj4, hk4⟩ | ⟨rfl, pre', rest', hxx, hjx⟩)
 ·gi_wp2
  go_end0
  exact ⟨⟨_, rfl⟩, .inl ⟨_, by simpa using hj4⟩⟩
 ·gi_wp2
  go_end0
  exact ⟨⟨_, rfl⟩, .inr ⟨_, _, _, hxx, hjx⟩⟩
end Go.Proofs.YtmjgljdmjpabdaaGreatDoor.G
namespace Go.Proofs.YtmjgljdmjpabdaaGreatDoor.G
open Go.RowKit
def cnt (r : List Lk) (i v : Nat) : Int := ((chn r (v : Int)).count i : Nat)
def sumL (f : Nat → Int) (l : List Nat) : Int := l.foldr (fun x s => f x + s) 0
theorem sumL_cons (f : Nat → Int) (x : Nat) (l : List Nat) : sumL f (x :: l) = f x + sumL f l := rfl
theorem sumL_app (f : Nat → Int) (l m : List Nat) : sumL f (l ++ m) = sumL f l + sumL f m := by
 induction l with
 | nil => simp [sumL]
 | cons x l ih => rw [List.cons_append, sumL_cons, sumL_cons, ih]; omega
theorem sumL_add (f h : Nat → Int) (l : List Nat) : sumL (fun x => f x + h x) l = sumL f l + sumL h l := by
 induction l with
 | nil => rfl
 | cons x l ih => rw [sumL_cons, sumL_cons, sumL_cons, ih]; omega
theorem sumL_mul (f : Nat → Int) (c : Int) (l : List Nat) : sumL (fun x => c * f x) l = c * sumL f l := by
 induction l with
 | nil => simp [sumL]
 | cons x l ih => rw [sumL_cons, sumL_cons, ih, Int.mul_add]
theorem sumL_congr {f h : Nat → Int} {l : List Nat} (e : ∀ x ∈ l, f x = h x) : sumL f l = sumL h l := by
 induction l with
 | nil => rfl
 | cons x l ih => rw [sumL_cons, sumL_cons, e x (List.mem_cons_self ..), ih fun y hy => e y (List.mem_cons_of_mem _ hy)]
theorem sumL_flat (f : Nat → Int) (h : Nat → List Nat) (l : List Nat) : sumL f (l.flatMap h) = sumL (fun x => sumL f (h x)) l := by
 induction l with
 | nil => rfl
 | cons x l ih => rw [List.flatMap_cons, sumL_app, sumL_cons, ih]
theorem sumL_zero (l : List Nat) : sumL (fun _ => 0) l = 0 := by
 induction l with
 | nil => rfl
 | cons x l ih => rw [sumL_cons, ih]; rfl
theorem sumL_one (v : Nat) : ∀ (l : List Nat), l.Nodup → sumL (fun x => if x = v then 1 else 0) l = if v ∈ l then 1 else 0
 | [], _ => rfl
 | x :: l, h => by
  obtain ⟨h1, h2⟩ := List.nodup_cons.1 h
  rw [sumL_cons, sumL_one v l h2]
  by_cases hx : x = v
  ·subst hx; rw [if_pos rfl, if_neg h1, if_pos (List.mem_cons_self ..)]; rfl
  ·rw [if_neg hx]
   by_cases hv : v ∈ l
   ·rw [if_pos hv, if_pos (List.mem_cons_of_mem _ hv)]; rfl
   ·rw [if_neg hv, if_neg (fun h => by rcases List.mem_cons.1 h with h | h; exact hx h.symm; exact hv h)]; rfl
theorem kids_nodup (r : List Lk) (i k : Nat) : (kids r i k).Nodup := List.nodup_range.sublist List.filter_sublist
theorem mem_kids {r : List Lk} {i j : Nat} {x : Lk} (hx : r[j]? = some x) : j ∈ kids r i r.length ↔ x.fr = (i : Int) := by
 have := (List.getElem?_eq_some_iff.1 hx).1
 unfold kids
 rw [List.mem_filter, lkAt_of hx]; simp [this]
theorem cnt_neg (r : List Lk) (i : Nat) {v : Int} (h : v < 0) : ((chn r v).count i : Nat) = 0 := by rw [chn_neg h]; rfl
theorem cnt_step {g : List It} {r : List Lk} (hv : VR g r) (i : Nat) {v : Nat} {x : Lk} (hx : r[v]? = some x) : cnt r i v = (if v = i then 1 else 0) + (((chn r x.fr).count i : Nat) : Int) := by
 unfold cnt
 rw [chn_step hv hx, List.count_cons]
 by_cases h : v = i
 ·simp [h]; omega
 ·simp [h]
theorem cnt_kids {g : List It} {r : List Lk} (hv : VR g r) (i : Nat) : ∀ (v : Nat), v < r.length → cnt r i v = (if v = i then 1 else 0) + sumL (fun c => cnt r c v) (kids r i r.length) := by
 intro v
 induction v using Nat.strongRecOn with
 | _ v ih =>
  intro hvl
  obtain ⟨x, hx⟩ := get_lt hvl
  have hf := hv.frs hx
  have hk := mem_kids (i := i) hx
  have e : sumL (fun c => cnt r c v) (kids r i r.length) = (if v ∈ kids r i r.length then 1 else 0) + sumL (fun c => (((chn r x.fr).count c : Nat) : Int)) (kids r i r.length) := by
   rw [sumL_congr fun c _ => cnt_step hv c hx, sumL_add, ← sumL_one v _ (kids_nodup r i _)]
   congr 1
   exact sumL_congr fun c _ => by by_cases h : v = c <;> simp [h, eq_comm]
  rw [cnt_step hv i hx, e]
  by_cases hneg : x.fr < 0
  ·have hnk : v ∉ kids r i r.length := fun h => by have := hk.1 h; omega
   rw [cnt_neg r i hneg, sumL_congr fun c _ => by rw [cnt_neg r c hneg], if_neg hnk]
   have := sumL_zero (kids r i r.length)
   simp only [Int.natCast_zero] at this ⊢
   rw [this]; omega
  ·obtain ⟨u, hu⟩ := Int.eq_ofNat_of_zero_le (show 0 ≤ x.fr by omega)
   have h1 := ih u (by omega) (by omega)
   unfold cnt at h1
   rw [hu] at hk ⊢
   rw [h1]
   by_cases h2 : u = i
   ·have hnk : v ∈ kids r i r.length := hk.2 (by rw [h2])
    rw [if_pos h2, if_pos hnk]
   ·have hnk : v ∉ kids r i r.length := fun h => h2 (by have : (u : Int) = i := hk.1 h; omega)
    rw [if_neg h2, if_neg hnk]
def bv (r : List Lk) (E : List Nat) (L : List Int) : Nat → Nat → Int
 | 0, _ => 0
 | k + 1, i => bv r E L k i + L.getD k 0 * cnt r i (E.getD k 0)
def av (E : List Nat) (L : List Int) : Nat → Nat → Int
 | 0, _ => 0
 | k + 1, v => av E L k v + L.getD k 0 * (if E.getD k 0 = v then 1 else 0)
theorem bv_kids {g : List It} {r : List Lk} (hv : VR g r) (E : List Nat) (L : List Int) (hE : ∀ (k n : Nat), E[k]? = some n → n < r.length) (i : Nat) : ∀ k, k ≤ E.length → bv r E L k i = av E L k i + sumL (fun c => bv r E L k c) (kids r i r.length)
 | 0, _ => by show (0 : Int) = 0 + sumL (fun _ => 0) _; rw [sumL_zero]; rfl
 | k + 1, hk => by
  obtain ⟨n, hn⟩ := get_lt (show k < E.length by omega)
  have e1 : E.getD k 0 = n := by simp [List.getD_eq_getElem?_getD, hn]
  have ih := bv_kids hv E L hE i k (by omega)
  show bv r E L k i + L.getD k 0 * cnt r i (E.getD k 0) = (av E L k i + L.getD k 0 * (if E.getD k 0 = i then 1 else 0)) + sumL (fun c => bv r E L k c + L.getD k 0 * cnt r c (E.getD k 0)) (kids r i r.length)
  rw [e1, sumL_add, sumL_mul, cnt_kids hv i n (hE k n hn), ih, Int.mul_add]
  generalize L.getD k 0 * (if n = i then (1 : Int) else 0) = p
  generalize L.getD k 0 * sumL (fun c => cnt r c n) (kids r i r.length) = q
  generalize sumL (fun c => bv r E L k c) (kids r i r.length) = z
  omega
theorem ds_bv {g : List It} {r : List Lk} (hv : VR g r) (E : List Nat) (L : List Int) (hE : ∀ (k n : Nat), E[k]? = some n → n < r.length) (k : Nat) (hk : k ≤ E.length) : ∀ (f i : Nat), i < r.length → r.length - i ≤ f → sumL (av E L k) (ds r i) = bv r E L k i
 | 0, i, hi, hf => by omega
 | f + 1, i, hi, hf => by
  rw [ds_eq hv hi, sumL_cons, sumL_flat, bv_kids hv E L hE i k hk]
  congr 1
  exact sumL_congr fun c hc => by
   obtain ⟨h1, h2⟩ := kid_gt hv hc
   exact ds_bv hv E L hE k hk f c h2 (by omega)
theorem subC_at (N : Int) : ∀ (c : List Nat) (M : List Int) (i : Nat), (∀ j ∈ c, j < M.length) → (subC M (-N) c).getD i 0 = M.getD i 0 + N * ((c.count i : Nat) : Int)
 | [], M, i, _ => by simp [subC]
 | j :: c, M, i, h => by
  have hj := h j (List.mem_cons_self ..)
  have e : subC M (-N) (j :: c) = subC (M.set j (M.getD j 0 - (-N))) (-N) c := rfl
  rw [e, subC_at N c _ i (fun q hq => by rw [List.length_set]; exact h q (List.mem_cons_of_mem _ hq)), List.count_cons]
  by_cases hji : j = i
  ·subst hji
   have : (M.set j (M.getD j 0 - (-N))).getD j 0 = M.getD j 0 - (-N) := by rw [List.getD_eq_getElem?_getD, List.getElem?_set_self hj]; rfl
   rw [this]; simp [Int.mul_add]; omega
  ·have : (M.set j (M.getD j 0 - (-N))).getD i 0 = M.getD i 0 := by rw [List.getD_eq_getElem?_getD, List.getElem?_set_ne hji, ← List.getD_eq_getElem?_getD]
   rw [this]; simp [hji]
theorem boS_at {g : List It} {r : List Lk} (hv : VR g r) {L : List Int} (hL : L.all okZ = true) (hl : L.length = (endN r r.length).length) (i : Nat) (hi : i < r.length) : ∀ k, k ≤ L.length → (boS r L (endN r r.length) k).getD i 0 = bv r (endN r r.length) L k i
 | 0, _ => by unfold boS bv; simp [List.getD_eq_getElem?_getD, List.getElem?_replicate, hi]
 | k + 1, hk => by
  obtain ⟨n, hx⟩ := get_lt (show k < (endN r r.length).length by omega)
  have hnr := endN_lt hx
  have hlen := (boS_bd hv hL hl k (by omega)).1
  rw [boS, subC_at _ _ _ _ (fun j hj => ?_), boS_at hv hL hl i hi k (by omega)]
  ·rfl
  ·rw [show (endN r r.length).getD k 0 = n by simp [List.getD_eq_getElem?_getD, hx]] at hj
   have := chn_lt hv (n + 1) n (by omega) (by omega) j hj
   omega
theorem endN_nodup (r : List Lk) : (endN r r.length).Nodup := List.nodup_range.sublist List.filter_sublist
theorem av_zero (E : List Nat) (L : List Int) (v : Nat) : ∀ k, k ≤ E.length → (∀ j, j < k → E.getD j 0 ≠ v) → av E L k v = 0
 | 0, _, _ => rfl
 | k + 1, hk, h => by
  show av E L k v + L.getD k 0 * (if E.getD k 0 = v then 1 else 0) = 0
  rw [av_zero E L v k (by omega) (fun j hj => h j (by omega)), if_neg (h k (by omega))]; simp
theorem av_nonneg {E : List Nat} {L : List Int} (h : ∀ x ∈ L, 0 ≤ x) (v : Nat) : ∀ k, 0 ≤ av E L k v
 | 0 => Int.le_refl _
 | k + 1 => by
  show 0 ≤ av E L k v + L.getD k 0 * (if E.getD k 0 = v then 1 else 0)
  have h1 := av_nonneg h (E := E) v k
  have h2 : 0 ≤ L.getD k 0 := by
   cases hx : L[k]? with
   | none => simp [List.getD_eq_getElem?_getD, hx]
   | some x => rw [getD_of hx]; exact h x (List.mem_of_getElem? hx)
  by_cases he : E.getD k 0 = v
  ·rw [if_pos he]; omega
  ·rw [if_neg he]; omega
theorem sumL_nonneg {f : Nat → Int} (h : ∀ x, 0 ≤ f x) (l : List Nat) : 0 ≤ sumL f l := by
 induction l with
 | nil => exact Int.le_refl _
 | cons x l ih => rw [sumL_cons]; have := h x; omega
theorem sumL_pre {f : Nat → Int} (h : ∀ x, 0 ≤ f x) (l m : List Nat) : sumL f l ≤ sumL f (l ++ m) := by
 rw [sumL_app]; have := sumL_nonneg h m; omega
theorem list_of_getD {n : Nat} {M : List Int} (h : M.length = n) (f : Nat → Int) (hf : ∀ i, i < n → M.getD i 0 = f i) : M = (List.range n).map f := by
 refine List.ext_getElem? fun i => ?_
 by_cases hi : i < n
 ·obtain ⟨x, hx⟩ := get_lt (show i < M.length by omega)
  rw [hx, List.getElem?_map, List.getElem?_range hi, Option.map_some, ← hf i hi, getD_of hx]
 ·rw [List.getElem?_eq_none (by omega), List.getElem?_eq_none (by simp; omega)]
theorem boZ_is {g : List It} {r : List Lk} (hv : VR g r) {L : List Int} (hL : L.all okZ = true) (hl : L.length = (endN r r.length).length) : boZ r L = (List.range r.length).map (fun i => bv r (endN r r.length) L L.length i) := by
 unfold boZ
 rw [← hl]
 exact list_of_getD (boS_bd hv hL hl _ (Nat.le_refl _)).1 _ fun i hi => boS_at hv hL hl i hi _ (Nat.le_refl _)
end Go.Proofs.YtmjgljdmjpabdaaGreatDoor.G
