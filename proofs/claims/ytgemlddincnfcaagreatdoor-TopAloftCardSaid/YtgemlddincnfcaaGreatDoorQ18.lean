/- The parts of the proof, part 18. -/
import Derived.Test.YtgemlddincnfcaaGreatDoorQ0
import Derived.Test.YtgemlddincnfcaaGreatDoorQ17
import Derived.Test.YtgemlddincnfcaaGreatDoorProg
import Derived.Shelf.Abstract
import Derived.WalkLawsBesides
import Derived.Deep.QuietTactic
import Derived.BigQuiet
import Derived.Deep.RegionHeld3
import Derived.Maps.OwnOps
import Derived.Maps.OwnSet
import Derived.Laws.Strings
import Derived.ArgAppend
import Derived.Deep.AppendLies
import Derived.Laws.OwnMore
import Derived.StillTail
import Derived.StillTailTactics
import Derived.Laws.BitsAllLaws
import Derived.Lib.AppendIntMem
import Derived.Deep.DeepCutAuto
set_option maxHeartbeats 16000000
set_option maxRecDepth 20000
set_option linter.unusedSimpArgs false
set_option linter.unusedVariables false
namespace Go.Proofs.YtgemlddincnfcaaGreatDoor.G
open Go.RowKit Go.Maps
def RgS (w : World) (R : List Rg) : Prop := ∀ x ∈ R, RgOk w x ∧ x.l.length <= 40
theorem RgS.on {w w' : World} {R : List Rg} (h : RgS w R) (hb : Below w.heap.size w w') : RgS w' R := fun x hx => ⟨(h x hx).1.on hb, (h x hx).2⟩
theorem any_nvld (g : List It) (R : List Rg) : (R.any fun x => !vldR g x.l) = !R.all fun x => vldR g x.l := by induction R <;> simp_all
theorem p_several1 (x : Rg) (A : Option Addr) (g : List It) (c b : Nat) (w : World) (hl : g.length <= 100000) (hR : Rd It.cs 4 w A g) (hW : ∀ x ∈ g, IW x) (hx : RgOk w x) (hx40 : x.l.length <= 40) (hb : b < w.heap.size) (hc : w.cell? ⟨b, 0, none⟩ = some (.slice A g.length c)) :
  Calls Tryz.prog 109 #[.slice x.a x.l.length x.c, .pointer (some ⟨b, 0, none⟩)] w fun e w' => e = .returned (.bool (!vldR g x.l)) ∧ Below w.heap.size w w' := by
 have H1 := Lib.hid (p_validRig A x.a g x.l c x.c w hl (by omega) hR hW hx.rd hx.lw)
 clear hR hW hx
 go_enter Tryz.func109, Tryz.ntmps109
 go_wp2_with (go_at_call 110; ((with_reducible refine (H1.out).mono ?_); rintro e w1 ⟨rfl, hb1⟩; obtain ⟨hc1, hf1, hz1⟩ := qz hb1))
 go_ret
 exact ⟨rfl, hb1⟩
theorem p_several (A B : Option Addr) (g : List It) (R : List Rg) (c d : Nat) (w : World) (hl : g.length <= 100000) (hr : R.length <= 100000) (hR : Rd It.cs 4 w A g) (hW : ∀ x ∈ g, IW x) (hB : Rd Rg.cs 1 w B R) (hO : RgS w R) :
  Calls Tryz.prog 61 #[.slice A g.length c, .slice B R.length d] w fun e w' => e = .returned (.int .i64 (svE g R)) ∧ Below w.heap.size w w' := by
 have H1 := Lib.hid (fun b (h : vldG g = b) W (hb : Below w.heap.size w W) => calls_bool h (p_Valid A g c W hl (hR.on hb) hW))
 have H2 := Lib.hid (fun W (hb : Below w.heap.size w W) (k : Blk W w.heap.size 26 #[.slice A g.length c]) => c_containsR B R d (fun x => !vldR g x.l) 109 #[.pointer (some ⟨w.heap.size, 0, none⟩)] W hr (hB.on hb) (enters_of Tryz.func109 (by kernel_rfl) rfl) (fun V x hv hx => p_several1 x A g c w.heap.size V hl ((hR.on hb).on hv) hW (((hO x hx).1.on hb).on hv) (hO x hx).2 (k.below hv k.lt).lt ((k.below hv k.lt).cell 0)))
 rw [any_nvld] at H2
 have HE0 := Lib.hid (show svE g R = if vldG g = true then (if R.length <= 50 then (if (R.all fun x => vldR g x.l) = true then 0 else 1) else 4) else 1 from rfl)
 clear hR hW hB hO
 go_enter Tryz.func61, Tryz.ntmps61
 go_wp2_with fail
 have k0 := Blk.new w 26 #[.slice A g.length c]
 have B0 := bl_alloc (below_refl w) (.cells #[.slice A g.length c] 26)
 generalize w.alloc (.cells #[.slice A g.length c] 26) = W0 at *
 refine (H1.out _ rfl _ B0).mono ?_
 rintro e w1 ⟨rfl, hb1⟩
 have B1 := below_tr B0 hb1
 have k1 := k0.below hb1 k0.lt
 clear hb1 k0 B0
 cases h : vldG g
 ·have HE := Lib.hid (show svE g R = 1 by rw [HE0.out, if_neg (by simp [h])])
  go_wp2
  go_ret
  exact ⟨ret_int (by rw [HE.out]), B1⟩
 by_cases h2 : 50 < (R.length : Int)
 ·have HE := Lib.hid (show svE g R = 4 by rw [HE0.out, if_pos h, if_neg (by omega)])
  go_wp2
  go_ret
  exact ⟨ret_int (by rw [HE.out]), B1⟩
 have HE := Lib.hid (show svE g R = if (R.all fun x => vldR g x.l) = true then 0 else 1 by rw [HE0.out, if_pos h, if_pos (by omega)])
 cases h3 : R.all fun x => vldR g x.l
 all_goals
  rw [h3] at H2 HE
  have HC := Lib.hid (H2.out _ B1 k1)
  go_wp2_with (go_at_call 108; refine HC.out.mono ?_; rintro e w2 ⟨rfl, hb2⟩)
  go_ret
  exact ⟨ret_int (by rw [HE.out]; rfl), below_tr B1 hb2⟩
theorem sv_z {g : List It} {R : List Rg} (h : svE g R = 0) : vldG g = true ∧ R.length <= 50 ∧ ∀ x ∈ R, VR g x.l := by
 unfold svE at h
 split at h
 ·rename_i h1
  split at h
  ·rename_i h2
   split at h
   ·rename_i h3
    rw [List.all_eq_true] at h3
    exact ⟨h1, h2, fun x hx => vr_of (by rw [Bool.and_eq_true]; exact ⟨h1, h3 x hx⟩)⟩
   ·omega
  ·omega
 ·omega
end Go.Proofs.YtgemlddincnfcaaGreatDoor.G
namespace Go.Proofs.YtgemlddincnfcaaGreatDoor.G
open Go.RowKit Go.Maps Go.WideShapes Go.WideMaps
def cL (l : List ByteArray) (s : ByteArray) : Int := (l.countP (fun n => n.toList == s.toList) : Nat)
theorem cL_nn (l : List ByteArray) (s : ByteArray) : 0 <= cL l s := Int.natCast_nonneg _
theorem cL_le (l : List ByteArray) (s : ByteArray) : cL l s <= l.length := by
 unfold cL; have := List.countP_le_length (p := fun n : ByteArray => n.toList == s.toList) (l := l); omega
theorem cL_snoc (l : List ByteArray) (n s : ByteArray) : cL (l ++ [n]) s = cL l s + if n.toList = s.toList then 1 else 0 := by
 unfold cL
 rw [List.countP_append, List.countP_singleton]
 by_cases h : n.toList = s.toList
 ·simp [h]
 ·simp [h]
def cDL : List ByteArray -> DataW Unit
 | [] => .map []
 | s :: l => (cDL l).put (kyS s) (i64d (cL l.reverse s + 1))
def cD (l : List ByteArray) : DataW Unit := cDL l.reverse
theorem cD_snoc (l : List ByteArray) (s : ByteArray) : cD (l ++ [s]) = (cD l).put (kyS s) (i64d (cL l s + 1)) := by
 unfold cD; rw [List.reverse_append]; show (cDL l.reverse).put _ (i64d (cL l.reverse.reverse s + 1)) = _; rw [List.reverse_reverse]
theorem cDL_tidy : ∀ l, Tidy (cDL l)
 | [] => tidy_empty
 | _ :: l => (cDL_tidy l).put (kyL _) _
theorem cDL_at (s : ByteArray) : ∀ l : List ByteArray, (cDL l).atKey (kyS s) (i64d 0) = i64d (cL l.reverse s)
 | [] => rfl
 | n :: l => by
  unfold cDL
  rw [List.reverse_cons, cL_snoc]
  by_cases he : n.toList = s.toList
  ·rw [kyS_inj.2 he, atKey_put_same (cDL_tidy l).isMap (kyL _), if_pos he]
   unfold cL; rw [he]
  ·rw [atKey_put_other (fun h => he (kyS_inj.1 h.symm)), if_neg he, Int.add_zero, cDL_at s l]
theorem cD_at (l : List ByteArray) (s : ByteArray) : (cD l).atKey (kyS s) (i64d 0) = i64d (cL l s) := by
 unfold cD; rw [cDL_at, List.reverse_reverse]
def nmR (R : List Rg) (k : Nat) : List ByteArray := (R.take k).flatMap fun x => x.l.map Lk.nm
theorem nmR_step {R : List Rg} {k : Nat} {x : Rg} (h : R[k]? = some x) : nmR R (k + 1) = nmR R k ++ x.l.map Lk.nm := by
 unfold nmR; rw [List.take_add_one, h, List.flatMap_append]; simp
theorem nmR_len {R : List Rg} (h : ∀ x ∈ R, x.l.length <= 32) : ∀ k, (nmR R k).length <= 32 * k
 | 0 => by simp [nmR]
 | k + 1 => by
  have ih := nmR_len h k
  cases hx : R[k]? with
  | none =>
   have : nmR R (k + 1) = nmR R k := by unfold nmR; rw [List.take_add_one, hx]; simp
   rw [this]; omega
  | some x =>
   rw [nmR_step hx, List.length_append, List.length_map]
   have := h x (List.mem_of_getElem? hx)
   omega
def tkB (g : List It) (R : List Rg) (k : Nat) : Bool := decide (1 < cL (nmR R R.length) (itAt g k).nm)
def tkZ (g : List It) (R : List Rg) : List Int := if svE g R = 0 then fZ (tkB g R) g.length else []
theorem p_Taken (A B : Option Addr) (g : List It) (R : List Rg) (c d : Nat) (w : World) (hl : g.length <= 100000) (hr : R.length <= 100000) (hR : Rd It.cs 4 w A g) (hW : ∀ x ∈ g, IW x) (hB : Rd Rg.cs 1 w B R) (hO : RgS w R) :
  Calls Tryz.prog 24 #[.slice A g.length c, .slice B R.length d] w fun e w' => ∃ v, e = .returned (.tuple #[v, .int .i64 (svE g R)]) ∧ GotW w' v (tkZ g R) ∧ Below w.heap.size w w' := by
 have H1 := Lib.hid (p_several A B g R c d w hl hr hR hW hB hO)
 have HZ0 := Lib.hid (show tkZ g R = if svE g R = 0 then fZ (tkB g R) g.length else [] from rfl)
 have hmm := @run_makeMap Tryz.prog
 obtain ⟨i0, hi, hi1, hi2, hi3⟩ := info_int2
 by_cases hE : svE g R = 0
 rotate_left
 ·have hE' : (svE g R != 0) = true := by simpa using hE
  have HZ := Lib.hid (show tkZ g R = [] by rw [HZ0.out, if_neg hE])
  clear hE
  go_enter Tryz.func24, Tryz.ntmps24
  go_wp2_with (go_at_call 61; ((with_reducible refine (H1.out).mono ?_); rintro e w1 ⟨rfl, hb1⟩; obtain ⟨hc1, hf1, hz1⟩ := qz hb1))
  go_ret2
  exact ⟨_, rfl, by rw [HZ.out]; exact gotW_nil _, hb1⟩
 have HZ := Lib.hid (show tkZ g R = fZ (tkB g R) g.length by rw [HZ0.out, if_pos hE])
 obtain ⟨_, hR50, hvr⟩ := sv_z hE
 have HL32 := Lib.hid (show ∀ x ∈ R, x.l.length <= 32 from fun x hx => (hvr x hx).l1)
 have HNL := Lib.hid (nmR_len HL32.out)
 have HTB := Lib.hid (fun k => show tkB g R k = decide (1 < cL (nmR R R.length) (itAt g k).nm) from rfl)
 have HN := Lib.hid (fun k h => fN_no (p := tkB g R) (k := k) h)
 have HY := Lib.hid (fun k h => fN_yes (p := tkB g R) (k := k) h)
 have HLn := Lib.hid (fun k => fN_len (tkB g R) k)
 rw [hE] at H1 ⊢
 clear hE hvr
 go_enter Tryz.func24, Tryz.ntmps24
 go_wp2_with (go_at_call 61; ((with_reducible refine (H1.out).mono ?_); rintro e w1 ⟨rfl, hb1⟩; obtain ⟨hc1, hf1, hz1⟩ := qz hb1))
 have B1s := hb1.size
 go_loopw [24] (fun i wr => ∃ k : Nat, k <= R.length ∧ i = .int .i64 k ∧ Below w.heap.size w wr ∧ w1.heap.size < wr.heap.size ∧ OM wr w1.heap.size (nmR R k).length (cD (nmR R k))) (fun i _ => R.length - (intOf i).toNat)
 case atStart => exact ⟨0, by omega, rfl, bl_alloc hb1 _, by simp, World.ownsMap_made _ _ _ _⟩
 case round =>
  clear hb1 hc1 hf1 hz1
  obtain ⟨k, hk, rfl, hbw, hsz, hom⟩ := hrel
  have k0 := nn k
  by_cases hlt : k < R.length
  ·have k1 : (k : Int) < (R.length : Int) := by omega
   obtain ⟨x, b, off, hx, rfl, hb, q0⟩ := rdG (hB.on hbw) hlt
   have hm := List.mem_of_getElem? hx
   have HOK := Lib.hid (hO x hm).1
   have hxl := HL32.out x hm
   have HNS := Lib.hid (nmR_step hx)
   have HNK := HNL.out k
   clear hx
   go_wp2
   go_loopw [30] (fun i wr => ∃ j : Nat, j <= x.l.length ∧ i = .int .i64 j ∧ Below w.heap.size w wr ∧ w1.heap.size < wr.heap.size ∧ OM wr w1.heap.size (nmR R k ++ (x.l.take j).map Lk.nm).length (cD (nmR R k ++ (x.l.take j).map Lk.nm))) (fun i _ => x.l.length - (intOf i).toNat)
   case atStart => exact ⟨0, by omega, rfl, hbw, hsz, by simp; exact hom⟩
   case round =>
    clear hbw hsz hom q0
    obtain ⟨j, hj, rfl, hbw, hsz, hom⟩ := hrel
    have j0 := nn j
    by_cases hjl : j < x.l.length
    ·have j1 : (j : Int) < (x.l.length : Int) := by omega
     obtain ⟨y, yb, yo, hy, e5, hyb, r0, r1⟩ := rdL ((HOK.out.on (w' := wr) hbw).rd) hjl
     have iw := HOK.out.lw y (List.mem_of_getElem? hy)
     have iw1 := iw.f0
     have iw2 := iw.f1
     have hkey := keyS iw.m
     have hom' := hom.alloc (Obj.cells #[Value.string y.nm, Value.int IntKind.i64 y.fr] 79)
     have HAT := Lib.hid (cD_at (nmR R k ++ (x.l.take j).map Lk.nm) y.nm)
     have HST := Lib.hid (show nmR R k ++ (x.l.take (j + 1)).map Lk.nm = (nmR R k ++ (x.l.take j).map Lk.nm) ++ [y.nm] by
      rw [List.take_add_one, hy, List.map_append, List.append_assoc]; rfl)
     have HPU := Lib.hid (cD_snoc (nmR R k ++ (x.l.take j).map Lk.nm) y.nm)
     have hcn := cL_nn (nmR R k ++ (x.l.take j).map Lk.nm) y.nm
     have hcl := cL_le (nmR R k ++ (x.l.take j).map Lk.nm) y.nm
     have hll : (nmR R k ++ (x.l.take j).map Lk.nm).length <= 100000 := by rw [List.length_append, List.length_map, List.length_take]; omega
     generalize nmR R k ++ (x.l.take j).map Lk.nm = M at *
     generalize cL M y.nm = N at *
     have hw1 : IntKind.i64.wrap (N + 1) = N + 1 := fits_wrap ⟨by omega, by omega⟩
     rw [e5]
     clear hy iw hom
     go_wp2_with (first
      | (at_lookup; refine wpList_lookup_own_int _ rfl _ _ 129 rfl 9 3 .i64 lawS und_map und_int (zeroN _) _ M.length _ rfl hom' _ _ rfl hkey ?_; intro cc hat hwc; rw [HAT.out] at hat; obtain rfl : N = cc := by (cases hat; rfl))
      | (at_mapUpdate; refine wpList_mapUpdate_own _ rfl _ _ _ 129 rfl 9 3 lawS und_map _ w1.heap.size M.length _ rfl hom' (by unfold maxLen; omega) _ _ _ rfl rfl hkey _ [] (plainElem_int und_int (WalkArith.wf_i64 (by omega))) ?_)
      | go_in)
     intro w3 hown3 hgrow3
     have bA := bl_alloc hbw (Obj.cells #[Value.string y.nm, Value.int IntKind.i64 y.fr] 79)
     have R2 := bA.grown hgrow3 bA.size (fun j hj => by cases hj; exact B1s)
     have R3 := hgrow3.size
     rw [← HPU.out] at hown3
     clear hgrow3 hom' bA
     go_wp2
     go_roundw
     case rel => exact ⟨j + 1, by omega, by go_num, R2, by simp at R3; omega, by rw [HST.out]; simpa using hown3⟩
     case measure => simp [intOf]; omega
    ·obtain rfl : j = x.l.length := by omega
     rw [List.take_length, ← HNS.out] at hom
     go_wp2
     go_roundw
     case rel => exact ⟨k + 1, by omega, by go_num, hbw, hsz, hom⟩
     case measure => simp [intOf]; omega
  ·obtain rfl : k = R.length := by omega
   have HCM := Lib.hid (fun s => cD_at (nmR R R.length) s)
   have hnl := HNL.out R.length
   generalize nmR R R.length = M at *
   have W3s : w1.heap.size < wr.heap.size := hsz
   go_wp2
   go_loopw [12, 43] (fun v i wv => ∃ k : Nat, k <= g.length ∧ i = .int .i64 k ∧ Below w.heap.size w wv ∧ w1.heap.size + 1 <= wv.heap.size ∧ OM wv w1.heap.size M.length (cD M) ∧ wv.ownsRow (w1.heap.size + 1) 3 1 v (fN (tkB g R) k).length (fl nC (fN (tkB g R) k))) (fun _ i _ => g.length - (intOf i).toNat)
   case atStart => exact ⟨0, by omega, rfl, hbw, by omega, hom, World.ownsRow_nil wr _ _ _⟩
   case round =>
    clear hbw hsz hom W3s
    obtain ⟨k, hk, rfl, hbw, hsz, hom, hown⟩ := hrel
    obtain ⟨ad, cp, rfl⟩ := own_slice hown
    have hlen := HLn.out k
    by_cases hlt : k < g.length
    ·have k0 := nn k
     have k1 : (k : Int) < (g.length : Int) := by omega
     obtain ⟨x, b, off, hx, rfl, hb, c0, c1, c2, c3⟩ := rdI (hR.on hbw) hlt
     have iw := hW x (List.mem_of_getElem? hx)
     have hkey := keyS iw.m
     have hT : tkB g R k = decide (1 < cL M x.nm) := by rw [HTB.out, itAt_of hx]
     have HAT := Lib.hid (HCM.out x.nm)
     have o1 := hown.alloc (.cells #[.string x.nm, .int .i64 x.ld, .int .i64 x.du, .string x.bt] 77)
     have bA := bl_alloc hbw (.cells #[.string x.nm, .int .i64 x.ld, .int .i64 x.du, .string x.bt] 77)
     have hom' := hom.alloc (.cells #[.string x.nm, .int .i64 x.ld, .int .i64 x.du, .string x.bt] 77)
     generalize cL M x.nm = N at *
     clear hx iw hom
     by_cases hN : 1 < N
     ·have HST := Lib.hid (HY.out k (by rw [hT]; exact decide_eq_true hN))
      clear hT
      go_wp2_with (first
       | (at_lookup; refine wpList_lookup_own_int _ rfl _ _ 129 rfl 9 3 .i64 lawS und_map und_int (zeroN _) _ M.length _ rfl hom' _ _ rfl hkey ?_; intro cc hat hwc; rw [HAT.out] at hat; obtain rfl : N = cc := by (cases hat; rfl))
       | (at_builtin; refine wpList_append_own _ rfl _ _ 48 rfl (w1.heap.size + 1) 3 i0 (.int .i64 0) 1 8 (by kernel_rfl) hi hi1 hi2 hi3 rfl (by omega) _ _ _ rfl (o1.alloc _) ⟨wr.heap.size + 1, 0, none⟩ 1 1 [.int .i64 k] rfl rfl (by have := cells_new (wr.alloc (.cells #[.string x.nm, .int .i64 x.ld, .int .i64 x.du, .string x.bt] 77)) [.int .i64 k] 3; simp only [World.size_alloc] at this; exact this) (fun u hu => by simp at hu; subst hu; rfl) (by unfold maxLen; omega) (by omega) (by simp; omega) ?_; intro v' w9 hown9 hgrow _))
      go_roundw
      case rel => exact ⟨k + 1, by omega, by go_num, bl_app bA o1 hgrow (by omega) bA.size, by have := hgrow.size; simp at this; omega, (hom'.alloc _).kept hgrow (own_ne o1 (by omega)), by rw [HST.out, fl_snoc, List.length_append]; exact hown9⟩
      case measure => simp [intOf]; omega
     ·have HST := Lib.hid (HN.out k (by rw [hT]; exact decide_eq_false hN))
      clear hT
      go_wp2_with (at_lookup; refine wpList_lookup_own_int _ rfl _ _ 129 rfl 9 3 .i64 lawS und_map und_int (zeroN _) _ M.length _ rfl hom' _ _ rfl hkey ?_; intro cc hat hwc; rw [HAT.out] at hat; obtain rfl : N = cc := by (cases hat; rfl))
      go_roundw
      case rel => exact ⟨k + 1, by omega, by go_num, bA, by simp; omega, hom', by rw [HST.out]; exact o1⟩
      case measure => simp [intOf]; omega
    ·obtain rfl : k = g.length := by omega
     go_wp2
     go_ret2
     exact ⟨_, rfl, by rw [HZ.out]; exact got_fN hown, hbw⟩
end Go.Proofs.YtgemlddincnfcaaGreatDoor.G
namespace Go.Proofs.YtgemlddincnfcaaGreatDoor.Fi
open Go.RowKit Go.Lib Tx
theorem sv_zero {g : List G.It} {R : List G.Rg} (hg : G.vldG g = true) (hl : R.length <= 50) (h : ∀ r ∈ R, G.vldR g r.l = true) : G.svE g R = 0 := by
 unfold G.svE
 rw [if_pos hg, if_pos hl, if_pos (List.all_eq_true.2 h)]
theorem cL_once {l : List ByteArray} (h : (l.map fun s => s.data.toList).Nodup) (s : ByteArray) : G.cL l s <= 1 := by
 have h1 := List.nodup_iff_count.1 h s.data.toList
 unfold List.count at h1
 rw [List.countP_map] at h1
 unfold G.cL
 have e : (fun n : ByteArray => n.toList == s.toList) = ((fun x : List UInt8 => x == s.data.toList) ∘ fun s : ByteArray => s.data.toList) := by
  funext n
  rw [ByteArray.toList_eq, ByteArray.toList_eq]
  rfl
 rw [e]
 omega
theorem tk_nil {g : List G.It} {R : List G.Rg} (h : ((R.flatMap fun r => r.l.map G.Lk.nm).map fun s => s.data.toList).Nodup) : G.tkZ g R = [] := by
 unfold G.tkZ
 split
 ·unfold G.fZ G.fN
  rw [List.map_eq_nil_iff, List.filter_eq_nil_iff]
  intro k _
  unfold G.tkB G.nmR
  rw [List.take_length]
  have := cL_once h (G.itAt g k).nm
  rw [decide_eq_false (by omega)]
  simp
 ·rfl
def rgG (y : Sl G.Lk) : G.Rg := ⟨y.a, y.l, y.c⟩
def hngR (ys : List (Sl G.Lk)) : List G.Rg := (ys.filter fun y => decide (0 < y.l.length)).map rgG
theorem hng_mem {ys : List (Sl G.Lk)} {r : G.Rg} (h : r ∈ hngR ys) : ∃ y ∈ ys, 0 < y.l.length ∧ r = rgG y := by
 unfold hngR at h
 rw [List.mem_map] at h
 obtain ⟨y, hy, rfl⟩ := h
 rw [List.mem_filter, decide_eq_true_eq] at hy
 exact ⟨y, hy.1, hy.2, rfl⟩
theorem hng_yes {ys : List (Sl G.Lk)} {k : Nat} {y : Sl G.Lk} (h : ys[k]? = some y) (h0 : 0 < y.l.length) : hngR (ys.take (k + 1)) = hngR (ys.take k) ++ [rgG y] := by
 unfold hngR
 rw [List.take_add_one, h, List.filter_append, List.map_append]
 simp [h0]
theorem hng_no {ys : List (Sl G.Lk)} {k : Nat} {y : Sl G.Lk} (h : ys[k]? = some y) (h0 : ¬ 0 < y.l.length) : hngR (ys.take (k + 1)) = hngR (ys.take k) := by
 unfold hngR
 rw [List.take_add_one, h, List.filter_append, List.map_append]
 simp [h0]
theorem hng_len (ys : List (Sl G.Lk)) : (hngR ys).length <= ys.length := by
 unfold hngR
 rw [List.length_map]
 exact List.length_filter_le _ _
theorem hng_flat : ∀ ys : List (Sl G.Lk), (hngR ys).flatMap (fun r => r.l.map G.Lk.nm) = (ys.map (·.l)).flatMap (fun l => l.map G.Lk.nm)
 | [] => rfl
 | y :: ys => by
  have ih := hng_flat ys
  unfold hngR at ih ⊢
  rw [List.map_cons, List.flatMap_cons, ← ih]
  by_cases h : 0 < y.l.length
  ·rw [List.filter_cons_of_pos (by simpa using h)]; rfl
  ·rw [List.filter_cons_of_neg (by simpa using h), List.length_eq_zero_iff.1 (show y.l.length = 0 by omega)]; rfl
theorem taken_ok {L : LS} {ys : List (Sl G.Lk)} (hI : Inv L.val) (hS : Safe L.val) (h : ys.map (·.l) = L.rigs.l.map (·.lk.l)) : G.svE L.items.l (hngR ys) = 0 ∧ G.tkZ L.items.l (hngR ys) = [] ∧ (hngR ys).length <= 50 := by
 have hyl : ys.length <= 50 := by
  have h1 := hI.rl
  unfold LS.val at h1
  dsimp only at h1
  rw [List.length_map] at h1
  have h2 := congrArg List.length h
  rw [List.length_map, List.length_map] at h2
  omega
 have hl := Nat.le_trans (hng_len ys) hyl
 refine ⟨sv_zero hI.it hl fun r hr => ?_, tk_nil ?_, hl⟩
 ·obtain ⟨y, hy, h0, rfl⟩ := hng_mem hr
  have h1 : y.l ∈ L.rigs.l.map (·.lk.l) := by rw [← h]; exact List.mem_map.2 ⟨y, hy, rfl⟩
  obtain ⟨q, hq, he⟩ := List.mem_map.1 h1
  have h2 := hS.rg q.val (List.mem_map.2 ⟨q, hq, rfl⟩)
  have h3 : q.val.lk = y.l := he
  rw [h3] at h2
  rcases h2 with h2 | h2
  ·rw [h2] at h0; simp at h0
  ·exact h2
 ·rw [hng_flat, h, List.map_flatMap]
  have h1 := hS.once
  unfold hungL at h1
  have e : L.val.rigs = L.rigs.l.map LRg.val := rfl
  rw [e, List.flatMap_map] at h1
  rw [List.flatMap_map]
  have e2 : (fun a : LRg => List.map (fun s : ByteArray => s.data.toList) (List.map G.Lk.nm a.lk.l)) = fun a : LRg => List.map (fun k : G.Lk => k.nm.data.toList) a.val.lk := by
   funext a
   rw [List.map_map]
   rfl
  rw [e2]
  exact h1
theorem hsh_step {s : ByteArray} {k : Nat} (h : k < s.size) : hsh (s.data.toList.take (k + 1)) = ((hsh (s.data.toList.take k) ^^^ s[k].toNat) * 1099511628211) % 18446744073709551616 := by
 have h' : k < s.data.toList.length := by simpa using h
 have e : s.data.toList[k] = s[k] := by simp [ByteArray.getElem_eq_getElem_data]
 unfold hsh
 rw [List.take_add_one, List.getElem?_eq_getElem h', List.foldl_append, Option.toList_some, List.foldl_cons, List.foldl_nil, e]
 generalize List.foldl hshS 14695981039346656037 (List.take k s.data.toList) = H
 unfold hshS
 rfl
theorem f_hash (s : ByteArray) (w : World) (hs : s.size <= 1000000000) :
  Calls Tryz.prog 186 #[.string s] w fun e w' => e = .returned (.int .u64 (hsh s.data.toList : Nat)) ∧ w = w' := by
 have HK := Lib.hid (fun k => hsh_lt (s.data.toList.take k))
 have HST := Lib.hid (fun k (h : k < s.size) => hsh_step h)
 have HA := Lib.hid (show hsh (s.data.toList.take s.size) = hsh s.data.toList by rw [List.take_of_length_le (by simp)])
 go_enter Tryz.func186, Tryz.ntmps186
 go_wp2
 go_loop [3, 7] (fun h i => ∃ k : Nat, k <= s.size ∧ i = .int .i64 k ∧ h = .int .u64 (hsh (s.data.toList.take k) : Nat)) (fun _ i => s.size - (RowKit.intOf i).toNat)
 case atStart => exact ⟨0, by omega, rfl, rfl⟩
 case round =>
  obtain ⟨k, hk, rfl, rfl⟩ := hrel
  have k0 := nn k
  by_cases hlt : k < s.size
  ·have k1 : (k : Int) < (s.size : Int) := by omega
   have HT := Lib.hid (HST.out k hlt)
   have h64 := HK.out k
   have hb : s[k].toNat < 256 := UInt8.toNat_lt _
   have hx := u64_xor_nat (hsh (s.data.toList.take k)) s[k].toNat h64 (by omega)
   have hcv : IntKind.u64.wrap (s[k].toNat : Int) = (s[k].toNat : Int) := by rw [IntKind.wrap_u64]; omega
   generalize hsh (s.data.toList.take k) = H at *
   obtain ⟨Z, hZ⟩ : ∃ Z, Z = H ^^^ s[k].toNat := ⟨_, rfl⟩
   have hm : IntKind.u64.wrap ((Z : Int) * 1099511628211) = (((Z * 1099511628211) % 18446744073709551616 : Nat) : Int) := by rw [IntKind.wrap_u64]; omega
   rw [← hZ] at hx
   have HZ := Lib.hid hZ
   clear hZ
   go_wp2
   go_round
   case rel => exact ⟨k + 1, by omega, by go_num, by rw [HT.out, ← HZ.out]; congr 1⟩
   case measure => simp [RowKit.intOf]; omega
  ·obtain rfl : k = s.size := by omega
   rw [HA.out]
   go_wp2
   go_ret
   exact ⟨rfl, rfl⟩
open Go.Sort in
set_option maxRecDepth 100000 in
theorem i_FormatUint (u : Nat) (hu : u < 18446744073709551616) (w : World) (htab : TabP w) :
  Calls Tryz.prog 233 #[.int .u64 (u : Nat), .int .i64 10] w fun e w' => e = .returned (.string (bts (decDigits u))) ∧ Below w.heap.size w w' := by
 by_cases hs : u < 100
 ·have hcv : IntKind.i64.wrap (u : Int) = (u : Int) := fits_wrap ⟨by omega, by omega⟩
  go_enter Tryz.func233, Tryz.ntmps233
  go_wp2_with (go_at_call 189; refine (Tryz.internal_strconv_small u hs _).mono ?_; rintro e w' ⟨rfl, rfl⟩)
  go_ret
  exact ⟨rfl, below_refl _⟩
 ·have hu1 : 1 <= u := by omega
  have hnd20 : Lib.nDigits u <= 20 := by have := Lib.numDigits_eq u hu1 hu; split at this <;> omega
  have hsl1 : ∀ W, (Instr.sliceAt 263 (.pointer (some ⟨w.heap.size, 0, none⟩)) none (some (.int .i64 ((Lib.nDigits u : Nat) : Int))) none).run Tryz.prog W = .ok (.slice (some ⟨w.heap.size, 0, none⟩) (Lib.nDigits u) 24) W := fun W => by
   rw [run_sliceAt_array_h W 263 ⟨w.heap.size, 0, none⟩ (by kernel_rfl) .i64 ((Lib.nDigits u : Nat) : Int) (by omega) (by rw [show Tryz.prog.arrayLen 263 = 24 by kernel_rfl]; omega)]
   go_simp
  have hH0 := Lib.holds_zero0 w 263 (Lib.nDigits u) (by omega)
  have hfmt := Tryz.internal_strconv_formatBase10 w.heap.size 0 24 u (Array.replicate (Lib.nDigits u) 0) (w.alloc (.cells Lib.zeros24 263)) hH0 (by rw [Array.size_replicate]; exact Lib.lt_pow_nDigits u) hu (by rw [Array.size_replicate]; omega)
  rw [Array.size_replicate] at hfmt
  have HH0 := Lib.hid hH0
  clear hH0
  have hlt : decide ((u : Int) < 100) = false := decide_eq_false (by omega)
  go_enter Tryz.func233, Tryz.ntmps233
  go_wp2_with (first
   | (go_at_call 190; refine (Tryz.internal_strconv_numDigits u hu1 hu _ (Lib.tabIs_alloc htab _)).mono ?_; rintro e w' ⟨rfl, rfl⟩))
  go_at_call 191
  refine hfmt.mono ?_
  rintro e w' ⟨rfl, k, v', dk, rfl, hF⟩
  have hcv : (convert 102 9 (.slice (some ⟨w.heap.size, 0, none⟩) (Lib.nDigits u) 24)).run Tryz.prog ((putRow (fun (b : UInt8) => Value.int .u8 (b.toNat : Int)) (w.alloc (.cells Lib.zeros24 263)) w.heap.size 0 dk).drewN k) = .ok (.string ⟨(Lib.decDigits u).toArray⟩) ((putRow (fun (b : UInt8) => Value.int .u8 (b.toNat : Int)) (w.alloc (.cells Lib.zeros24 263)) w.heap.size 0 dk).drewN k) := by
   have h := run_convert_bytes_back (P := Tryz.prog) ((putRow (fun (b : UInt8) => Value.int .u8 (b.toNat : Int)) (w.alloc (.cells Lib.zeros24 263)) w.heap.size 0 dk).drewN k) 102 9 5 ⟨w.heap.size, 0, none⟩ 24 (Lib.decDigits u) Tryz.underlying102 Tryz.underlying5 Tryz.underlying9 (fun j hj => by
    rw [Lib.row_is_numeral hF j hj, Lib.add_plain, World.cell?_drewN]
    exact cell?_putRow (fun (b : UInt8) => Value.int .u8 (b.toNat : Int)) _ w.heap.size 0 _ dk HH0.out (by rw [hF.size, Array.size_replicate]) j (by rw [hF.size]; rw [Lib.decDigits_length] at hj; exact hj))
   rw [Lib.decDigits_length] at h
   exact h
  go_wp2
  go_ret
  obtain ⟨os, eo⟩ := Lib.fin_at w (.cells Lib.zeros24 263) dk k 0
  exact ⟨rfl, by rw [eo]; exact Lib.below_grow _ _ (Nat.le_refl _) _ _⟩
theorem f_digits (u : Nat) (hu : u < 18446744073709551616) (w : World) (hT : TabP w) :
  Calls Tryz.prog 187 #[.int .u64 (u : Nat)] w fun e w' => e = .returned (.string (bts (decDigits u))) ∧ Below w.heap.size w w' := by
 have H := Lib.hid (i_FormatUint u hu w hT)
 have H2 : Hid (Calls Tryz.prog 218 #[.int .u64 (u : Nat), .int .i64 10] w fun e w' => e = .returned (.string (bts (decDigits u))) ∧ Below w.heap.size w w') := Lib.hid (by
  go_enter Tryz.func218, Tryz.ntmps218
  go_wp2_with (go_at_call 233; ((with_reducible refine H.out.mono ?_); rintro e w' ⟨rfl, hb⟩))
  go_ret
  exact ⟨rfl, hb⟩)
 go_enter Tryz.func187, Tryz.ntmps187
 go_wp2_with (go_at_call 218; ((with_reducible refine H2.out.mono ?_); rintro e w' ⟨rfl, hb⟩))
 go_ret
 exact ⟨rfl, hb⟩
def sumS (b : Nat) (n d : Int) (t : ByteArray) : ByteArray := bts (decDigits b) ++ ⟨#[32]⟩ ++ bts (itoa n) ++ ⟨#[32]⟩ ++ bts (itoa d) ++ ⟨#[32]⟩ ++ t
theorem sumS_list (b : Nat) (n d : Int) (t : ByteArray) : (sumS b n d t).data.toList = decDigits b ++ 32 :: (nT n ++ 32 :: (nT d ++ 32 :: t.data.toList)) := by
 unfold sumS nT bts
 simp [ByteArray.data_append]
theorem dig_size {b : Nat} (h : b < 18446744073709551616) : (bts (decDigits b)).size <= 20 := by
 have e : (10 : Nat) ^ (19 + 1) = 100000000000000000000 := rfl
 have := decD_le (u := b) (k := 19) (by omega)
 rw [bts_size]; omega
theorem f_sumOf (b : Nat) (n d : Int) (t : ByteArray) (s : Int) (w : World) (hb : b < 18446744073709551616) (hn : I64 n) (hd : I64 d) (ht : t.size <= 1000000) (hL : LdW w) :
  Calls Tryz.prog 163 #[.int .u64 (b : Nat), .agg #[.int .i64 n, .int .i64 d, .string t, .int .u64 s]] w fun e w' => e = .returned (.int .u64 (sumL b n d t.data.toList : Nat)) ∧ Below w.heap.size w w' := by
 have HD := Lib.hid (fun W (h : Below w.heap.size w W) => f_digits b hb W (hL.on h).tab)
 have HI1 := Lib.hid (fun W (h : Below w.heap.size w W) => c_ItoaV n W hn.1 hn.2 (hL.on h).tab)
 have HI2 := Lib.hid (fun W (h : Below w.heap.size w W) => c_ItoaV d W hd.1 hd.2 (hL.on h).tab)
 have s1 := dig_size hb
 have s2 : (bts (itoa n)).size <= 21 := by have := itoa_len hn.1 hn.2; rw [bts_size]; omega
 have s3 : (bts (itoa d)).size <= 21 := by have := itoa_len hd.1 hd.2; rw [bts_size]; omega
 have hsz : (sumS b n d t).size <= 1000000000 := by unfold sumS; simp only [ByteArray.size_append]; show _ + 1 + _ + 1 + _ + 1 + _ <= _; omega
 have HH := Lib.hid (fun W => (show Calls Tryz.prog 186 #[.string (sumS b n d t)] W fun e w' => e = .returned (.int .u64 (sumL b n d t.data.toList : Nat)) ∧ W = w' by
  have := f_hash (sumS b n d t) W hsz
  rw [sumS_list] at this; exact this))
 have HSS := Lib.hid (show sumS b n d t = bts (decDigits b) ++ ⟨#[32]⟩ ++ bts (itoa n) ++ ⟨#[32]⟩ ++ bts (itoa d) ++ ⟨#[32]⟩ ++ t from rfl)
 rw [HSS.out] at HH
 clear HSS hsz
 have x0 := Blk.new w 73 #[.int .i64 n, .int .i64 d, .string t, .int .u64 s]
 have B0 := bl_alloc (below_refl w) (.cells #[.int .i64 n, .int .i64 d, .string t, .int .u64 s] 73)
 have q0 := x0.cell 0
 have q1 := x0.cell 1
 have q2 := x0.cell 2
 simp only [GA] at q0 q1 q2
 have lw := x0.lt
 generalize sumL b n d t.data.toList = R at *
 generalize bts (itoa n) = S1 at *
 generalize bts (itoa d) = S2 at *
 generalize bts (decDigits b) = D at *
 have z1 : ¬ 9223372036854775807 < D.size + 1 := by omega
 have z2 : ¬ 9223372036854775807 < D.size + 1 + S1.size := by omega
 have z3 : ¬ 9223372036854775807 < D.size + 1 + S1.size + 1 := by omega
 have z4 : ¬ 9223372036854775807 < D.size + 1 + S1.size + 1 + S2.size := by omega
 have z5 : ¬ 9223372036854775807 < D.size + 1 + S1.size + 1 + S2.size + 1 := by omega
 have z6 : ¬ 9223372036854775807 < D.size + 1 + S1.size + 1 + S2.size + 1 + t.size := by omega
 clear x0
 go_enter Tryz.func163, Tryz.ntmps163
 go_upto_region 1 with fail
 generalize (w.alloc (.cells #[.int .i64 n, .int .i64 d, .string t, .int .u64 s] 73)) = w1 at *
 refine wp_region_noPanic ?_
 refine th w1 fun hS0 => ?_
 refine tq 0 ?_
 refine tq 3 ?_
 refine tq 4 ?_
 refine tq 8 ?_
 refine tq 9 ?_
 refine tq 13 ?_
 refine tq 14 ?_
 refine tr 1 fun K hK => ?_
 go_simp
 (go_at_call 187; ((with_reducible refine (HD.out _ (below_tr B0 bl)).mono ?_); rintro e w3 ⟨rfl, hb3⟩; obtain ⟨hc3, hf3, hz3⟩ := qz hb3))
 refine hK.out _ _ kq (fun hS1 => ?_)
 clear hK K
 try simp only [AP]
 refine tq 2 ?_
 refine tr 5 fun K hK => ?_
 go_simp
 (go_at_call 95; ((with_reducible refine (HI1.out _ (below_tr B0 bl)).mono ?_); rintro e w4 ⟨rfl, hb4⟩; obtain ⟨hc4, hf4, hz4⟩ := qz hb4))
 refine hK.out _ _ kq (fun hS2 => ?_)
 clear hK K
 try simp only [AP]
 refine tq 6 ?_
 refine tq 7 ?_
 refine tr 10 fun K hK => ?_
 go_simp
 (go_at_call 95; ((with_reducible refine (HI2.out _ (below_tr B0 bl)).mono ?_); rintro e w5 ⟨rfl, hb5⟩; obtain ⟨hc5, hf5, hz5⟩ := qz hb5))
 refine hK.out _ _ kq (fun hS3 => ?_)
 clear hK K
 try simp only [AP]
 refine tq 11 ?_
 refine tq 12 ?_
 refine tq 15 ?_
 refine tr 16 fun K hK => ?_
 go_simp
 (go_at_call 186; ((with_reducible refine (HH.out _).mono ?_); rintro e w' ⟨rfl, rfl⟩))
 refine hK.out _ _ kq (fun hS4 => ?_)
 clear hK K
 try simp only [AP]
 refine tq 17 ?_
 refine wpAnyH_done (by kernel_rfl) (NoPanic.normal ?_) _
 go_wp2
 go_ret
 exact ⟨rfl, below_tr B0 bl⟩
theorem rdEn {w : World} {A : Option Addr} {l : List En} (h : Rd En.cs 4 w A l) {k : Nat} (hk : k < l.length) :
  ∃ x b off, l[k]? = some x ∧ A = some ⟨b, off, none⟩ ∧ b < w.heap.size ∧ w.cell? ⟨b, off + k * 4, none⟩ = some (.int .i64 x.n) ∧ w.cell? ⟨b, off + k * 4 + 1, none⟩ = some (.int .i64 x.d) ∧ w.cell? ⟨b, off + k * 4 + 2, none⟩ = some (.string x.t) ∧ w.cell? ⟨b, off + k * 4 + 3, none⟩ = some (.int .u64 (x.s : Nat)) := by
 obtain ⟨x, hx⟩ := get_lt hk
 obtain ⟨b, off, e, hb, hc⟩ := h.get hx
 exact ⟨x, b, off, hx, e, hb, hc 0 _ rfl, hc 1 _ rfl, hc 2 _ rfl, hc 3 _ rfl⟩
theorem load_en {W : World} {b : Nat} {x y z u : Value} (h : Blk W b 73 #[x, y, z, u]) : (loadVar 73 ⟨b, 0, none⟩).run Tryz.prog W = .ok (.agg #[x, y, z, u]) W := by
 have h0 := h.cell 0
 have h1 := h.cell 1
 have h2 := h.cell 2
 have h3 := h.cell 3
 simp only [GA] at h0 h1 h2 h3
 simp [go_sem, h0, h1, h2, h3]
abbrev enV (e : En) : Value := .agg #[.int .i64 e.n, .int .i64 e.d, .string e.t, .int .u64 (e.s : Nat)]
theorem f_written (A : Option Addr) (l : List En) (c : Nat) (d : Int) (t : ByteArray) (w : World) (hl : l.length <= 2000) (hs : ∀ e ∈ l, e.s < 18446744073709551616) (hd : I64 d) (ht : t.size <= 1000000) (hL : LdW w) (hR : Rd En.cs 4 w A l) :
  Calls Tryz.prog 115 #[.slice A l.length c, .int .i64 d, .string t] w fun e w' => e = .returned (enV (wrt l d t)) ∧ Below w.heap.size w w' := by
 have HSU := Lib.hid (fun (b : Nat) (hb : b < 18446744073709551616) W (h : Below w.heap.size w W) => f_sumOf b (l.length : Int) d t 0 W hb ⟨by omega, by omega⟩ hd ht (hL.on h))
 by_cases h0 : 0 < l.length
 ·obtain ⟨m, hm⟩ : ∃ m, l.length = m + 1 := ⟨l.length - 1, by omega⟩
  obtain ⟨x, b, off, hx, rfl, hb, _, _, _, c3⟩ := rdEn hR (k := m) (by omega)
  have hls : lastS l = x.s := by unfold lastS; rw [List.getLast?_eq_getElem?, hm, Nat.add_sub_cancel, hx]
  have HS := Lib.hid (HSU.out x.s (hs x (List.mem_of_getElem? hx)))
  have HW := Lib.hid (show wrt l d t = ⟨l.length, d, t, sumL x.s l.length d t.data.toList⟩ by unfold wrt; rw [hls])
  have hwm : IntKind.i64.wrap ((l.length : Int) - 1) = (m : Int) := by rw [fits_wrap ⟨by omega, by omega⟩]; omega
  have m0 := nn m
  have m1 : (m : Int) < (l.length : Int) := by omega
  have d1 : decide (0 < (l.length : Int)) = true := decide_eq_true (by omega)
  have d2 : decide (0 < l.length) = true := decide_eq_true h0
  rw [HW.out]
  clear hx hm h0 hls HSU hR hs
  generalize l.length = N at *
  generalize sumL x.s N d t.data.toList = R at *
  have x0 := (Blk.new w 73 #[.int .i64 0, .int .i64 0, .string ⟨#[]⟩, .int .u64 0]).alloc (.cells #[.int .i64 (N : Int), .int .i64 d, .string t, .int .u64 0] 73)
  have x1 := Blk.new (w.alloc (.cells #[.int .i64 0, .int .i64 0, .string ⟨#[]⟩, .int .u64 0] 73)) 73 #[.int .i64 (N : Int), .int .i64 d, .string t, .int .u64 0]
  rw [World.size_alloc] at x1
  have B1 := bl_alloc (bl_alloc (below_refl w) (.cells #[.int .i64 0, .int .i64 0, .string ⟨#[]⟩, .int .u64 0] 73)) (.cells #[.int .i64 (N : Int), .int .i64 d, .string t, .int .u64 0] 73)
  go_enter Tryz.func115, Tryz.ntmps115
  go_upto_region 5 with fail
  generalize ((w.alloc (.cells #[.int .i64 0, .int .i64 0, .string ⟨#[]⟩, .int .u64 0] 73)).alloc (.cells #[.int .i64 (N : Int), .int .i64 d, .string t, .int .u64 0] 73)) = w1 at *
  have l0 := x0.lt
  have l1 := x1.lt
  have e0 := x1.cell 0
  have e1 := x1.cell 1
  have e2 := x1.cell 2
  have e3 := x1.cell 3
  have f0 := x0.cell 0
  have f1 := x0.cell 1
  have f2 := x0.cell 2
  have f3 := x0.cell 3
  simp only [GA] at e0 e1 e2 e3 f0 f1 f2 f3
  have af0 := x0.frozen 0
  have af1 := x0.frozen 1
  have af2 := x0.frozen 2
  have af3 := x0.frozen 3
  have ag3 := x1.frozen 3
  go_wp2_with (go_at_call 163; ((with_reducible refine (HS.out _ B1).mono ?_); rintro e w3 ⟨rfl, hb3⟩; obtain ⟨hc3, hf3⟩ := bcell hb3; have hz3 := hb3.size))
  have HB := (((((x0.below hb3 l0).far (p := ⟨w.heap.size + 1, 3, none⟩) (fun e => by have e' : w.heap.size = w.heap.size + 1 := e; omega) (.int .u64 (R : Nat))).set_ 0 (.int .i64 (N : Int))).set_ 1 (.int .i64 d)).set_ 2 (.string t)).set_ 3 (.int .u64 (R : Nat))
  clear hc3 hf3
  refine bodyPost_ret (v := enV ⟨N, d, t, R⟩) (res_c rfl rfl (load_en HB)) rfl ⟨rfl, ?_⟩
  (repeat' (first | assumption | exact below_refl _ | refine bl_alloc ?_ _ | refine Below.setCell ?_ ?_ _ | refine below_draw ?_ | refine below_drewN ?_ _ | refine below_tr ?_ (by assumption))) <;> (first | omega | (simp; done) | (simp; omega))
 ·have hl0 : l = [] := List.eq_nil_of_length_eq_zero (by omega)
  subst hl0
  have HS := Lib.hid (fun W (h : Below w.heap.size w W) => (show Calls Tryz.prog 163 #[.int .u64 0, .agg #[.int .i64 0, .int .i64 d, .string t, .int .u64 0]] W fun e w' => e = .returned (.int .u64 (sumL 0 0 d t.data.toList : Nat)) ∧ Below W.heap.size W w' from HSU.out 0 (by omega) W h))
  have HW := Lib.hid (show wrt [] d t = ⟨0, d, t, sumL 0 0 d t.data.toList⟩ from rfl)
  rw [HW.out]
  clear HW HSU hR hs hl
  generalize sumL 0 0 d t.data.toList = R at *
  have x0 := (Blk.new w 73 #[.int .i64 0, .int .i64 0, .string ⟨#[]⟩, .int .u64 0]).alloc (.cells #[.int .i64 0, .int .i64 d, .string t, .int .u64 0] 73)
  have x1 := Blk.new (w.alloc (.cells #[.int .i64 0, .int .i64 0, .string ⟨#[]⟩, .int .u64 0] 73)) 73 #[.int .i64 0, .int .i64 d, .string t, .int .u64 0]
  rw [World.size_alloc] at x1
  have B1 := bl_alloc (bl_alloc (below_refl w) (.cells #[.int .i64 0, .int .i64 0, .string ⟨#[]⟩, .int .u64 0] 73)) (.cells #[.int .i64 0, .int .i64 d, .string t, .int .u64 0] 73)
  go_enter Tryz.func115, Tryz.ntmps115
  go_upto_region 5 with fail
  generalize ((w.alloc (.cells #[.int .i64 0, .int .i64 0, .string ⟨#[]⟩, .int .u64 0] 73)).alloc (.cells #[.int .i64 0, .int .i64 d, .string t, .int .u64 0] 73)) = w1 at *
  have l0 := x0.lt
  have l1 := x1.lt
  have e0 := x1.cell 0
  have e1 := x1.cell 1
  have e2 := x1.cell 2
  have e3 := x1.cell 3
  have f0 := x0.cell 0
  have f1 := x0.cell 1
  have f2 := x0.cell 2
  have f3 := x0.cell 3
  simp only [GA] at e0 e1 e2 e3 f0 f1 f2 f3
  have af0 := x0.frozen 0
  have af1 := x0.frozen 1
  have af2 := x0.frozen 2
  have af3 := x0.frozen 3
  have ag3 := x1.frozen 3
  go_wp2_with (go_at_call 163; ((with_reducible refine (HS.out _ B1).mono ?_); rintro e w3 ⟨rfl, hb3⟩; obtain ⟨hc3, hf3⟩ := bcell hb3; have hz3 := hb3.size))
  have HB := (((((x0.below hb3 l0).far (p := ⟨w.heap.size + 1, 3, none⟩) (fun e => by have e' : w.heap.size = w.heap.size + 1 := e; omega) (.int .u64 (R : Nat))).set_ 0 (.int .i64 0)).set_ 1 (.int .i64 d)).set_ 2 (.string t)).set_ 3 (.int .u64 (R : Nat))
  clear hc3 hf3
  refine bodyPost_ret (v := enV ⟨0, d, t, R⟩) (res_c rfl rfl (load_en HB)) rfl ⟨rfl, ?_⟩
  (repeat' (first | assumption | exact below_refl _ | refine bl_alloc ?_ _ | refine Below.setCell ?_ ?_ _ | refine below_draw ?_ | refine below_drewN ?_ _ | refine below_tr ?_ (by assumption))) <;> (first | omega | (simp; done) | (simp; omega))
end Go.Proofs.YtgemlddincnfcaaGreatDoor.Fi
