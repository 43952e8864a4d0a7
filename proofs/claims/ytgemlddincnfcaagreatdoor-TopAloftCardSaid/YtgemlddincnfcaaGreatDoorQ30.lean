/- The parts of the proof, part 30. -/
import Derived.Test.YtgemlddincnfcaaGreatDoorQ0
import Derived.Test.YtgemlddincnfcaaGreatDoorQ29
set_option maxHeartbeats 16000000
set_option maxRecDepth 20000
set_option linter.unusedSimpArgs false
set_option linter.unusedVariables false
namespace Go.Proofs.YtgemlddincnfcaaGreatDoor.Fi
open Go.RowKit Go.Lib Tx
section
variable {b : Nat} {L : LS} {T : Nat -> Prop} {w : World}
theorem f_NowA (hF : FirmAt w b L T) : Calls Tryz.prog 14 #[.pointer (some ⟨b, 0, none⟩)] w fun e w' => e = .returned (.int .i64 L.day) ∧ w = w' := by
 have c17 : w.cell? ⟨b, 17, none⟩ = some (.int .i64 L.day) := hF.cel 17 _ rfl
 clear hF
 go_enter Tryz.func14, Tryz.ntmps14
 go_wp2
 go_ret
 exact ⟨rfl, rfl⟩
theorem f_GearA (hF : FirmAt w b L T) (hl : L.items.l.length <= 100000) : Calls Tryz.prog 9 #[.pointer (some ⟨b, 0, none⟩)] w (CloP G.It.cs 4 77 L.items.l w) := by
 have c21 : w.cell? ⟨b, 21, none⟩ = some (.slice L.items.a L.items.l.length L.items.c) := hF.cel 21 _ rfl
 have lb := hF.blk.lt
 have HC := Lib.hid (show Calls Tryz.prog 34 #[.slice L.items.a L.items.l.length L.items.c] w (CloP G.It.cs 4 77 L.items.l w) from c_CloneItem L.items w hl hF.ok.items.rd)
 clear hF
 go_enter Tryz.func9, Tryz.ntmps9
 go_wp2_with (go_at_call 34; ((with_reducible refine HC.out.mono ?_); rintro e w3 ⟨y, rfl, hy, ho, h1, h2, hb⟩))
 go_ret
 exact ⟨y, rfl, hy, ho, h1, h2, hb⟩
theorem f_FelledA (hF : FirmAt w b L T) (hI : Inv L.val) (k : Nat) {s : LSi} (hs : L.sites.l[k]? = some s) :
  Calls Tryz.prog 21 #[.pointer (some ⟨b, 0, none⟩), .int .i64 (k : Nat)] w fun e w' => e = .returned (.bool s.fel) ∧ Below w.heap.size w w' := by
 have hsl : L.sites.l.length <= 8 := hI.slen
 have hfd : ∀ (W : World), (Instr.field 118 (siV s) 1).run Tryz.prog W = .ok (.bool s.fel) W := fun _ => by kernel_rfl
 have HS := Lib.hid (f_siteAt b L k w hF.cel hF.ok.sites.rd (by omega) hs)
 go_enter Tryz.func21, Tryz.ntmps21
 go_wp2_with (go_at_call 54; ((with_reducible refine HS.out.mono ?_); rintro e w3 ⟨rfl, hb3⟩))
 go_ret
 exact ⟨rfl, hb3⟩
theorem f_DogsA (hF : FirmAt w b L T) (hI : Inv L.val) (k : Nat) {s : LSi} (hs : L.sites.l[k]? = some s) :
  Calls Tryz.prog 23 #[.pointer (some ⟨b, 0, none⟩), .int .i64 (k : Nat)] w fun e w' => ∃ y : Sl Int, e = .returned y.v ∧ y.l = s.dogs.l ∧ Rd zC 1 w' y.a y.l ∧ Below w.heap.size w w' := by
 have hsl : L.sites.l.length <= 8 := hI.slen
 have hdl : s.dogs.l.length <= 300 := hI.sd s.val (List.mem_map.2 ⟨s, List.mem_of_getElem? hs, rfl⟩)
 have hfd : ∀ (W : World), (Instr.field 118 (siV s) 0).run Tryz.prog W = .ok (.slice s.dogs.a s.dogs.l.length s.dogs.c) W := fun _ => by kernel_rfl
 have HS := Lib.hid (f_siteAt b L k w hF.cel hF.ok.sites.rd (by omega) hs)
 have HC := Lib.hid (fun W (h : Below w.heap.size w W) => (show Calls Tryz.prog 60 #[.slice s.dogs.a s.dogs.l.length s.dogs.c] W (CloP zC 1 3 s.dogs.l W) from c_CloneInt s.dogs W (by omega) ((hF.ok.sk s (List.mem_of_getElem? hs)).rd.on h)))
 go_enter Tryz.func23, Tryz.ntmps23
 go_wp2_with (first
  | (go_at_call 54; ((with_reducible refine HS.out.mono ?_); rintro e w3 ⟨rfl, hb3⟩))
  | (go_at_call 60; ((with_reducible refine (HC.out w3 hb3).mono ?_); rintro e w4 ⟨y, rfl, hy, ho, h1, h2, hb⟩)))
 go_ret
 exact ⟨y, rfl, hy, own_rd' (enc := zC) (sz := 1) (fun _ => rfl) ho, below_tr hb3 hb⟩
end
theorem info_SlL : ∃ i : TypeInfo, Tryz.prog.info? 47 = some i ∧ i.zero = some (.slice none 0 0) ∧ i.size = 1 ∧ i.bytes = 24 := info_parts (by kernel_rfl)
def RgsP (l : List LRg) (w : World) (e : Ending) (w' : World) : Prop :=
 ∃ ys : Sl (Sl G.Lk), e = .returned ys.v ∧ ys.l.map (·.l) = l.map (·.lk.l) ∧ Got (fun g => w.heap.size <= g) w' Sl.cs 1 ys ∧ (∀ y ∈ ys.l, Got (fun g => w.heap.size <= g) w' G.Lk.cs 2 y) ∧ Below w.heap.size w w'
theorem map_snr {ys : List (Sl G.Lk)} {l : List LRg} {k : Nat} {x : LRg} {y : Sl G.Lk} (hx : l[k]? = some x) (h : ys.map (·.l) = (l.take k).map (·.lk.l)) (hy : y.l = x.lk.l) : (ys ++ [y]).map (·.l) = (l.take (k + 1)).map (·.lk.l) := by
 rw [List.take_add_one, hx, List.map_append, List.map_append, h]; simp [hy]
theorem f_RigsA {b : Nat} {L : LS} {T : Nat -> Prop} {w : World} (hF : FirmAt w b L T) (hI : Inv L.val) : Calls Tryz.prog 11 #[.pointer (some ⟨b, 0, none⟩)] w (RgsP L.rigs.l w) := by
 obtain ⟨i0, hi, hi1, hi2, hi3⟩ := info_SlL
 have c19 : w.cell? ⟨b, 19, none⟩ = some (.slice L.rigs.a L.rigs.l.length L.rigs.c) := hF.cel 19 _ rfl
 have hrl : L.rigs.l.length <= 50 := by have := hI.rl; unfold LS.val at this; dsimp only at this; rwa [List.length_map] at this
 have HE : Hid (∀ r ∈ L.rigs.l, r.lk.l.length <= 100000 ∧ Got T w G.Lk.cs 2 r.lk) := Lib.hid (fun r hr => ⟨by have := (hI.rk r.val (List.mem_map.2 ⟨r, hr, rfl⟩)).1; show r.lk.l.length <= 100000; have h2 : r.val.lk = r.lk.l := rfl; rw [h2] at this; omega, hF.ok.rk r hr⟩)
 have HR := Lib.hid hF.ok.rigs.rd
 obtain ⟨LR, hLR⟩ : ∃ x, x = L.rigs := ⟨_, rfl⟩
 rw [← hLR] at c19 hrl HE HR ⊢
 clear hF hI hLR
 obtain ⟨A, l, c⟩ := LR
 dsimp only at *
 obtain ⟨n, hn⟩ : ∃ n, l.length = n := ⟨_, rfl⟩
 rw [hn] at c19 hrl
 have HN := Lib.hid hn
 clear hn
 go_enter Tryz.func11, Tryz.ntmps11
 go_wp2
 go_loopw [3, 14] (fun v i wr => ∃ (k : Nat) (ys : List (Sl G.Lk)), k <= n ∧ i = .int .i64 k ∧ Hid (ys.length = k ∧ ys.map (·.l) = (l.take k).map (·.lk.l)) ∧ wr.ownsRow w.heap.size 47 1 v k (fl Sl.cs ys) ∧ Below w.heap.size w wr ∧ Hid (∀ y ∈ ys, Got (fun b => w.heap.size <= b ∧ v.ownBlock ≠ some b) wr G.Lk.cs 2 y)) (fun _ i _ => n - (RowKit.intOf i).toNat)
 case atStart => exact ⟨0, [], Nat.zero_le _, rfl, Lib.hid ⟨rfl, rfl⟩, World.ownsRow_nil w _ _ _, below_refl _, Lib.hid (fun y hy => by cases hy)⟩
 case round =>
  obtain ⟨k, ys, hk, rfl, HY, hown, hbw, HG⟩ := hrel
  obtain ⟨ad, cp, rfl⟩ := own_slice hown
  have hbvs := hbw.size
  have k0 := nn k
  by_cases hlt : k < n
  ·have k1 : (k : Int) < (n : Int) := by omega
   obtain ⟨x, hx⟩ := get_lt (l := l) (k := k) (by rw [HN.out]; omega)
   obtain ⟨b1, o1, ha1, lb1, hc1⟩ := (HR.out.on hbw).get hx
   have cx0 : wr.cell? ⟨b1, o1 + k * 2, none⟩ = some (.int .i64 x.st) := hc1 0 _ rfl
   have cx1 : wr.cell? ⟨b1, o1 + k * 2 + 1, none⟩ = some (.slice x.lk.a x.lk.l.length x.lk.c) := hc1 1 _ rfl
   subst ha1
   have hxe := HE.out x (List.mem_of_getElem? hx)
   have HX := Lib.hid hx
   clear hx hc1
   go_upto_region 7 with fail
   have Bq := bl_alloc (below_refl wr) (.cells #[.int .i64 x.st, .slice x.lk.a x.lk.l.length x.lk.c] 90)
   have q1 : (wr.alloc (.cells #[.int .i64 x.st, .slice x.lk.a x.lk.l.length x.lk.c] 90)).cell? ⟨wr.heap.size, 1, none⟩ = some (.slice x.lk.a x.lk.l.length x.lk.c) := (Blk.new wr 90 #[.int .i64 x.st, .slice x.lk.a x.lk.l.length x.lk.c]).cell 1
   have hownq := own_on hown Bq
   have hbq := below_tr hbw Bq
   have HGq := Lib.hid (fun y hy => (HG.out y hy).on Bq)
   clear hown hbw HG Bq
   generalize wr.alloc (.cells #[.int .i64 x.st, .slice x.lk.a x.lk.l.length x.lk.c] 90) = wq at *
   have hbvq := hbq.size
   have HCL := Lib.hid (show Calls Tryz.prog 36 #[.slice x.lk.a x.lk.l.length x.lk.c] wq (CloP G.Lk.cs 2 79 x.lk.l wq) from c_CloneLink x.lk wq hxe.1 (hxe.2.on hbq).rd)
   clear hxe
   go_wp2_with (first
    | (go_at_call 36; ((with_reducible refine HCL.out.mono ?_); rintro e w3 ⟨y3, rfl, hy3, ho3, hle3, hcm3, hb3⟩; have hz3 := hb3.size))
    | (at_builtin; refine wpList_append_own_at _ rfl _ _ 44 rfl w.heap.size 47 i0 (.slice none 0 0) 1 24 (by kernel_rfl) hi hi1 hi2 hi3 rfl (by omega) _ _ _ rfl (own_on (own_on hownq hb3) (bl_alloc (below_refl w3) (.cells #[y3.v] 47))) ⟨w3.heap.size, 0, none⟩ 1 1 [y3.v] rfl rfl (cells_new w3 [y3.v] 47) (by intro u hu; simp at hu; subst hu; rfl) (by unfold maxLen; omega) (by omega) (by simp; omega) ?_; intro v4 w4 hown4 hgrow4 _ hat4))
   have BW3 := bl_alloc (below_tr hbq hb3) (.cells #[y3.v] 47)
   have hown3 := own_on (own_on hownq hb3) (bl_alloc (below_refl w3) (.cells #[y3.v] 47))
   replace hgrow4 : (w3.alloc (.cells #[y3.v] 47)).grownBy w4 (Value.slice ad k cp).ownBlock := hgrow4
   have B4 := bl_app (below_tr hbq hb3) (own_on hownq hb3) hgrow4 (Nat.le_refl _) (below_tr hbq hb3).size
   rw [← fl_snc] at hown4
   obtain ⟨ad4, cp4, rfl⟩ := own_slice hown4
   have gy : Got (fun b => wq.heap.size <= b) w3 G.Lk.cs 2 y3 := got_own (fun _ => rfl) ho3 fun b h1 _ => h1
   have hst : Stp (fun g => (Value.slice ad k cp).ownBlock = some g) (w3.alloc (.cells #[y3.v] 47)) w4 := (Stp.refl _ _).grown hgrow4 (fun r hr => .inl hr)
   have hne : ∀ g, (Value.slice ad k cp).ownBlock = some g -> g < wq.heap.size := fun g hg => (own_ge hownq g hg).2
   have hat : ∀ g, (Value.slice ad4 (k + 1) cp4).ownBlock = some g -> (Value.slice ad k cp).ownBlock = some g ∨ w3.heap.size + 1 <= g := fun g hg => by
    rcases hat4 with h | h
    ·exact .inl (h ▸ hg)
    ·rw [h] at hg; cases hg; exact .inr (by simp)
   go_roundw
   case rel =>
    refine ⟨k + 1, ys ++ [y3], by omega, by go_num, Lib.hid ⟨by rw [List.length_append, HY.out.1]; rfl, map_snr HX.out HY.out.2 hy3⟩, hown4, B4, Lib.hid fun y hy => ?_⟩
    rcases List.mem_append.1 hy with hy | hy
    ·have g2 : Got (fun b => w.heap.size <= b ∧ (Value.slice ad k cp).ownBlock ≠ some b ∧ b < wq.heap.size) wq G.Lk.cs 2 y := (HGq.out y hy).mono fun b hb ht => ⟨ht.1, ht.2, hb⟩
     have g3 := (g2.on hb3).on (bl_alloc (below_refl w3) (.cells #[y3.v] 47))
     exact (g3.stp hst (fun b hb => hb.2.1)).mono fun b _ ht => ⟨ht.1, fun e => by
      rcases hat b e with h | h
      ·exact ht.2.1 h
      ·have := ht.2.2; omega⟩
    ·simp at hy; subst hy
     have g2 : Got (fun b => wq.heap.size <= b ∧ b < w3.heap.size) w3 G.Lk.cs 2 y := gy.mono fun b hb ht => ⟨ht, hb⟩
     have g3 := g2.on (bl_alloc (below_refl w3) (.cells #[y.v] 47))
     exact (g3.stp hst (fun b hb e => by have := hne b e; omega)).mono fun b _ ht => ⟨by omega, fun e => by
      rcases hat b e with h | h
      ·have := hne b h; omega
      ·omega⟩
   case measure => simp [RowKit.intOf]; omega
  ·obtain rfl : k = n := by omega
   have hy1 := HY.out.1
   go_wp2
   go_ret
   refine ⟨⟨ad, ys, cp⟩, by dsimp only [Sl.v]; rw [HY.out.1]; rfl, ?_, ?_, fun y hy => (HG.out y hy).mono fun b _ h => h.1, hbw⟩
   ·dsimp only; rw [HY.out.2, List.take_of_length_le (by rw [HN.out]; omega)]
   ·exact got_own (enc := Sl.cs) (sz := 1) (y := ⟨ad, ys, cp⟩) (fun _ => rfl) (show wr.ownsRow w.heap.size 47 1 (.slice ad ys.length cp) ys.length (fl Sl.cs ys) by rw [HY.out.1]; exact hown) fun b h1 _ => h1
end Go.Proofs.YtgemlddincnfcaaGreatDoor.Fi
namespace Go.Proofs.YtgemlddincnfcaaGreatDoor.Fi
open Go.RowKit Go.Lib Go.Maps Tx
theorem rdZ {w : World} {A : Option Addr} {l : List Int} (h : Rd zC 1 w A l) {k : Nat} (hk : k < l.length) :
  ∃ b off, A = some ⟨b, off, none⟩ ∧ b < w.heap.size ∧ w.cell? ⟨b, off + k, none⟩ = some (.int .i64 (zA l k)) := by
 obtain ⟨x, hx⟩ := get_lt hk
 obtain ⟨b, off, e, hb, hc⟩ := h.get hx
 have := hc 0 (.int .i64 x) rfl
 rw [Nat.mul_one, Nat.add_zero] at this
 refine ⟨b, off, e, hb, ?_⟩
 rw [this]; unfold zA; rw [List.getD_eq_getElem?_getD, hx]; rfl
theorem all_noA {p : Nat -> Bool} {n k : Nat} (hk : k < n) (h : p k = false) : (List.range n).all p = false := by
 rw [List.all_eq_false]; exact ⟨k, by simpa using hk, by simp [h]⟩
theorem l_ascending (A : Option Addr) (l : List Int) (c n : Nat) (w : World) (hn : n <= 100000) (hl : l.length <= maxLen) (hR : Rd zC 1 w A l) :
  Calls Tryz.prog 57 #[.slice A l.length c, .int .i64 (n : Nat)] w fun e w' => e = .returned (.bool (ascB n l)) ∧ w = w' := by
 have hl' := hl
 unfold maxLen at hl'
 have hw : IntKind.i64.wrap ((n : Int) - 1) = (n : Int) - 1 := fits_wrap ⟨by omega, by omega⟩
 obtain ⟨R, hR0⟩ : ∃ R, R = ascB n l := ⟨_, rfl⟩
 rw [← hR0]
 have HR := Lib.hid hR0
 clear hR0
 go_enter Tryz.func57, Tryz.ntmps57
 go_wp2
 go_loop [9] (fun i => ∃ k : Nat, k <= l.length ∧ i = .int .i64 k ∧ Hid ((List.range k).all (okA n l) = true)) (fun i => l.length - (RowKit.intOf i).toNat)
 case atStart => exact ⟨0, by omega, rfl, Lib.hid rfl⟩
 case round =>
  obtain ⟨k, hk, rfl, HI⟩ := hrel
  have k0 := nn k
  by_cases hlt : k < l.length
  ·have k1 : (k : Int) < (l.length : Int) := by omega
   obtain ⟨b, off, rfl, hb, c0⟩ := rdZ hR hlt
   cases h1 : wn (zA l k) 0 ((n : Int) - 1)
   ·have HE := Lib.hid (show ascB n l = false from all_noA hlt (by unfold okA; rw [h1]; rfl))
    generalize zA l k = Z at *
    go_wp2_with (go_at_call 107; ((with_reducible refine (l_withinV h1 _).mono ?_); rintro e w' ⟨rfl, rfl⟩))
    go_ret
    exact ⟨ret_bool (by rw [HR.out, HE.out]), rfl⟩
   ·by_cases hk0 : k = 0
    ·have HI1 := Lib.hid (all_stepJ HI.out (show okA n l k = true by unfold okA; rw [h1, hk0]; rfl))
     generalize zA l k = Z at *
     have hkz : ¬ 0 < k := by omega
     have HK0 := Lib.hid hk0
     clear hk0
     go_wp2_with (go_at_call 107; ((with_reducible refine (l_withinV h1 _).mono ?_); rintro e w' ⟨rfl, rfl⟩))
     go_round
     case rel => exact ⟨k + 1, by omega, by go_num, HI1⟩
     case measure => simp [RowKit.intOf]; omega
    ·obtain ⟨j, hj⟩ : ∃ j, k = j + 1 := ⟨k - 1, by omega⟩
     have c1 : w.cell? ⟨b, off + j, none⟩ = some (.int .i64 (zA l j)) := by
      obtain ⟨b', off', e, _, c1⟩ := rdZ hR (show j < l.length by omega)
      cases e; exact c1
     have hwj : IntKind.i64.wrap ((k : Int) - 1) = (j : Int) := by rw [fits_wrap ⟨by omega, by omega⟩]; omega
     have j0 := nn j
     have j1 : (j : Int) < (l.length : Int) := by omega
     have hp : 0 < k := by omega
     have HEQ := Lib.hid (show okA n l k = decide (zA l j < zA l k) by unfold okA; rw [h1, hj]; simp)
     by_cases h2 : zA l j < zA l k
     ·have HI1 := Lib.hid (all_stepJ HI.out (show okA n l k = true by rw [HEQ.out, decide_eq_true h2]))
      have h3 : ¬ zA l k <= zA l j := by omega
      clear HEQ hj hk0
      generalize zA l k = Z at *
      generalize zA l j = Y at *
      go_wp2_with (go_at_call 107; ((with_reducible refine (l_withinV h1 _).mono ?_); rintro e w' ⟨rfl, rfl⟩))
      go_round
      case rel => exact ⟨k + 1, by omega, by go_num, HI1⟩
      case measure => simp [RowKit.intOf]; omega
     ·have HE := Lib.hid (show ascB n l = false from all_noA hlt (by rw [HEQ.out, decide_eq_false h2]))
      have h3 : zA l k <= zA l j := by omega
      clear HEQ hj hk0
      generalize zA l k = Z at *
      generalize zA l j = Y at *
      go_wp2_with (go_at_call 107; ((with_reducible refine (l_withinV h1 _).mono ?_); rintro e w' ⟨rfl, rfl⟩))
      go_ret
      exact ⟨ret_bool (by rw [HR.out, HE.out]), rfl⟩
  ·obtain rfl : k = l.length := by omega
   have HE := Lib.hid (show ascB n l = true from HI.out)
   go_wp2
   go_ret
   exact ⟨ret_bool (by rw [HR.out, HE.out]), rfl⟩
theorem l_ascendingV {A : Option Addr} {l : List Int} {c n : Nat} {w : World} {v : Bool} (h : ascB n l = v) (hn : n <= 100000) (hl : l.length <= maxLen) (hR : Rd zC 1 w A l) :
  Calls Tryz.prog 57 #[.slice A l.length c, .int .i64 (n : Nat)] w fun e w' => e = .returned (.bool v) ∧ w = w' := h ▸ l_ascending A l c n w hn hl hR
theorem asc_in {n : Nat} {l : List Int} (h : ascB n l = true) {k : Nat} (hk : k < l.length) : 0 <= zA l k ∧ zA l k < (n : Int) := by
 have := List.all_eq_true.1 h k (by simpa using hk)
 unfold okA at this
 rw [Bool.and_eq_true, wn_iff] at this
 omega
theorem asc_le {n : Nat} {l : List Int} (h : ascB n l = true) : ∀ k, k < l.length -> (k : Int) <= zA l k := by
 intro k
 induction k with
 | zero => intro hk; have := asc_in h hk; omega
 | succ k ih =>
  intro hk
  have h1 := ih (by omega)
  have := List.all_eq_true.1 h (k + 1) (by simpa using hk)
  unfold okA at this
  simp only [Bool.and_eq_true, Bool.or_eq_true, decide_eq_true_eq, Nat.add_sub_cancel] at this
  omega
theorem asc_len {n : Nat} {l : List Int} (h : ascB n l = true) : l.length <= n := by
 rcases Nat.eq_zero_or_pos l.length with h0 | h0
 ·omega
 ·have h1 := asc_le h (l.length - 1) (by omega)
  have h2 := asc_in h (k := l.length - 1) (by omega)
  omega
theorem l_Right (c : Cl) (A : Option Addr) (l : List Jt) (cc : Nat) (D : Option Addr) (d : List Int) (dc : Nat) (w : World) (hle : -9223372036854775808 < c.le ∧ c.le <= 9223372036854775807) (hl : l.length <= 100000) (hdl : d.length <= maxLen) (hR : Rd Jt.cs 2 w A l) (hD : Rd zC 1 w D d) :
  Calls Tryz.prog 22 #[clV c, .slice A l.length cc, .slice D d.length dc] w fun e w' => e = .returned (.bool (rgtB c l d)) ∧ Below w.heap.size w w' := by
 have x0 := Blk.new w 25 (clA c)
 have B0 := bl_alloc (below_refl w) (.cells (clA c) 25)
 have HV := Lib.hid (fun W (h : Below w.heap.size w W) => l_valid c A l cc W hle hl (hR.on h))
 have HX := Lib.hid (fun W (h : Below (w.alloc (.cells (clA c) 25)).heap.size (w.alloc (.cells (clA c) 25)) W) => x0.below h x0.lt)
 obtain ⟨R, hR0⟩ : ∃ R, R = rgtB c l d := ⟨_, rfl⟩
 rw [← hR0]
 have HR := Lib.hid hR0
 clear hR0
 have HAS := Lib.hid (fun v (h : ascB l.length d = v) W (hb : Below w.heap.size w W) => l_ascendingV (c := dc) h hl hdl (hD.on hb))
 have hdl' := hdl
 unfold maxLen at hdl'
 cases hvv : (vCl c && vJ l)
 ·have HE := Lib.hid (show rgtB c l d = false by unfold rgtB; rw [hvv]; rfl)
  rw [hvv] at HV
  have b0 := x0.cell 0
  have b1 := x0.cell 1
  have b2 := x0.cell 2
  have b3 := x0.cell 3
  have b4 := x0.cell 4
  have b5 := x0.cell 5
  simp only [GA] at b0 b1 b2 b3 b4 b5
  go_enter Tryz.func22, Tryz.ntmps22
  go_wp2_with (go_at_call 56; ((with_reducible refine (HV.out _ B0).mono ?_); rintro e w3 ⟨rfl, hb3⟩))
  go_ret
  exact ⟨ret_bool (by rw [HR.out, HE.out]), below_tr B0 hb3⟩
 rw [hvv] at HV
 obtain ⟨hv1, hv2⟩ := Bool.and_eq_true_iff.1 hvv
 have hJ := jb_of hv2
 have HE1 := Lib.hid (show rgtB c l d = (decide (0 < d.length) && (ascB l.length d && ((List.range d.length).all (stpB c l d) && lastB c (jAt l (zA d (d.length - 1)).toNat)))) by unfold rgtB; rw [hvv]; rfl)
 have hcb : 1 <= c.ga ∧ c.ga <= 200000 := by
  unfold vCl at hv1
  simp only [Bool.and_eq_true, decide_eq_true_eq] at hv1
  exact hv1.2.1
 have HCB := Lib.hid hcb
 clear hvv hv1 hv2
 have b0 := x0.cell 0
 have b1 := x0.cell 1
 have b2 := x0.cell 2
 have b3 := x0.cell 3
 have b4 := x0.cell 4
 have b5 := x0.cell 5
 simp only [GA] at b0 b1 b2 b3 b4 b5
 by_cases hd0 : d.length = 0
 ·have HE := Lib.hid (show rgtB c l d = false by rw [HE1.out, hd0]; rfl)
  have hd1 : (d.length : Int) = 0 := by omega
  clear HE1
  go_enter Tryz.func22, Tryz.ntmps22
  go_wp2_with (go_at_call 56; ((with_reducible refine (HV.out _ B0).mono ?_); rintro e w3 ⟨rfl, hb3⟩))
  go_ret
  exact ⟨ret_bool (by rw [HR.out, HE.out]), below_tr B0 hb3⟩
 have hd1 : ¬ (d.length : Int) = 0 := by omega
 have hd2 : (d.length == 0) = false := beq_eq_false_iff_ne.2 hd0
 have hd3 : ((d.length : Int) == 0) = false := beq_eq_false_iff_ne.2 hd1
 cases has : ascB l.length d
 ·have HE := Lib.hid (show rgtB c l d = false by rw [HE1.out, has]; simp)
  have HA := Lib.hid (fun W hb => HAS.out _ has W hb)
  clear HE1 HAS
  go_enter Tryz.func22, Tryz.ntmps22
  go_wp2_with (first
   | (go_at_call 56; ((with_reducible refine (HV.out _ B0).mono ?_); rintro e w3 ⟨rfl, hb3⟩))
   | (go_at_call 57; ((with_reducible refine (HA.out _ (below_tr B0 hb3)).mono ?_); rintro e w' ⟨rfl, rfl⟩)))
  go_ret
  exact ⟨ret_bool (by rw [HR.out, HE.out]), below_tr B0 hb3⟩
 have HA := Lib.hid (fun W hb => HAS.out _ has W hb)
 have HIN := Lib.hid (fun k hk => asc_in has (k := k) hk)
 have HE2 := Lib.hid (show rgtB c l d = ((List.range d.length).all (stpB c l d) && lastB c (jAt l (zA d (d.length - 1)).toNat)) by rw [HE1.out, has, decide_eq_true (show 0 < d.length by omega)]; rfl)
 clear HE1 HAS has
 go_enter Tryz.func22, Tryz.ntmps22
 go_upto_region 3 with (first
   | (go_at_call 56; ((with_reducible refine (HV.out _ B0).mono ?_); rintro e w3 ⟨rfl, hb3⟩))
   | (go_at_call 57; ((with_reducible refine (HA.out _ (below_tr B0 hb3)).mono ?_); rintro e w' ⟨rfl, rfl⟩)))
 replace HX := Lib.hid (fun W (h : Below w3.heap.size w3 W) => HX.out W (below_tr hb3 h))
 replace hR := hR.on (below_tr B0 hb3)
 replace hD := hD.on (below_tr B0 hb3)
 have BW := below_tr B0 hb3
 clear b0 b1 b2 b3 b4 b5 x0 B0 HV HA hb3
 go_wp2
 go_loopw [7, 28] (fun b i wr => ∃ k : Nat, k <= d.length ∧ i = .int .i64 k ∧ b = .int .i64 (befA d k) ∧ Below w3.heap.size w3 wr ∧ Hid ((List.range k).all (stpB c l d) = true)) (fun _ i _ => d.length - (RowKit.intOf i).toNat)
 case atStart => exact ⟨0, by omega, rfl, rfl, below_refl _, Lib.hid rfl⟩
 case round =>
  obtain ⟨k, hk, rfl, rfl, hbw, HI⟩ := hrel
  have k0 := nn k
  have hx := HX.out wr hbw
  have b0 := hx.cell 0
  have b1 := hx.cell 1
  have b2 := hx.cell 2
  have b3 := hx.cell 3
  have b4 := hx.cell 4
  have b5 := hx.cell 5
  have lx := hx.lt
  clear hx
  simp only [GA] at b0 b1 b2 b3 b4 b5
  have hbf : befA d k < (l.length : Int) := by
   unfold befA
   split
   ·omega
   ·exact (HIN.out (k - 1) (by omega)).2
  by_cases hlt : k < d.length
  ·have k1 : (k : Int) < (d.length : Int) := by omega
   obtain ⟨db, doff, rfl, hdb, d0⟩ := rdZ (hD.on hbw) hlt
   obtain ⟨z0, z1⟩ := HIN.out k hlt
   obtain ⟨m, hm⟩ := Int.eq_ofNat_of_zero_le z0
   have HST := Lib.hid (show stpB c l d k = ((jAt l m).s && folB c l (befA d k) m) by unfold stpB; rw [hm]; rfl)
   rw [hm] at d0 z1
   have hml : m < l.length := by omega
   have m0 := nn m
   obtain ⟨x, jb, jo, hx, rfl, hjb, c0, c1⟩ := rdJ (hR.on hbw) hml
   have HFO := Lib.hid (fun v (h : folB c l (befA d k) m = v) W (hb : Below wr.heap.size wr W) => l_followsV (cc := cc) h hJ hml hbf ((hR.on hbw).on hb))
   have HNX := Lib.hid (show befA d (k + 1) = (m : Int) by unfold befA; rw [if_neg (by omega), Nat.add_sub_cancel, hm])
   rw [jAt_of hx] at HST
   generalize befA d k = B at *
   clear hm z0 hx
   obtain ⟨XH, XS⟩ := x
   dsimp only at *
   cases XS
   ·have HE := Lib.hid (show rgtB c l d = false by rw [HE2.out, all_noA hlt (by rw [HST.out]; rfl)]; rfl)
    clear HE2 HI HX HIN hJ HNX HST
    go_wp2
    go_ret
    exact ⟨ret_bool (by rw [HR.out, HE.out]), below_tr BW hbw⟩
   ·cases hf : folB c l B m
    ·have HE := Lib.hid (show rgtB c l d = false by rw [HE2.out, all_noA hlt (by rw [HST.out, hf]; rfl)]; rfl)
     have HF := Lib.hid (fun W hb => HFO.out _ hf W hb)
     clear HE2 HI HX HIN HNX HST HFO
     go_wp2_with (go_at_call 58; ((with_reducible refine (HF.out _ (below_refl _)).mono ?_); rintro e w5 ⟨rfl, hb5⟩))
     go_ret
     exact ⟨ret_bool (by rw [HR.out, HE.out]), below_tr BW (below_tr hbw hb5)⟩
    ·have HI1 := Lib.hid (all_stepJ HI.out (show stpB c l d k = true by rw [HST.out, hf]; rfl))
     have HF := Lib.hid (fun W hb => HFO.out _ hf W hb)
     clear HE2 HI HX HIN HST HFO
     go_wp2_with (go_at_call 58; ((with_reducible refine (HF.out _ (below_refl _)).mono ?_); rintro e w5 ⟨rfl, hb5⟩))
     go_roundw
     case rel => exact ⟨k + 1, by omega, by go_num, by rw [HNX.out], below_tr hbw hb5, HI1⟩
     case measure => simp [RowKit.intOf]; omega
  ·obtain rfl : k = d.length := by omega
   obtain ⟨z0, z1⟩ := HIN.out (d.length - 1) (by omega)
   obtain ⟨m, hm⟩ := Int.eq_ofNat_of_zero_le z0
   have hbm : befA d d.length = (m : Int) := by unfold befA; rw [if_neg hd0, hm]
   have HE := Lib.hid (show rgtB c l d = lastB c (jAt l m) by rw [HE2.out, HI.out, hm]; rfl)
   rw [hbm]
   rw [hm] at z1
   have hml : m < l.length := by omega
   have m0 := nn m
   obtain ⟨x, jb, jo, hx, rfl, hjb, c0, c1⟩ := rdJ (hR.on hbw) hml
   rw [jAt_of hx] at HE
   have hJd := hJ.h m x hx
   have hc := HCB.out
   have HLS := Lib.hid (fun W => l_last c x W (by omega) (by omega))
   have BX := below_tr BW hbw
   obtain ⟨XH, XS⟩ := x
   dsimp only at *
   clear HE2 HI HX HIN hm z0 hx hR hD hbw BW hbm hbf
   go_upto_region 11 with fail
   refine wp_region_noPanic ?_
   refine th wr fun hS0 => ?_
   refine tq 0 ?_
   refine tq 1 ?_
   refine tq 2 ?_
   refine tq 3 ?_
   refine tq 4 ?_
   refine tr 5 fun K hK => ?_
   go_simp
   (go_at_call 59; ((with_reducible refine (HLS.out _).mono ?_); rintro e w3 ⟨rfl, hb3⟩; obtain ⟨hc3, hf3, hz3⟩ := qz hb3))
   refine hK.out _ _ kq (fun hS1 => ?_)
   clear hK K
   try simp only [AP]
   refine tq 6 ?_
   refine wpAnyH_done (by kernel_rfl) (NoPanic.normal ?_) _
   go_wp2
   go_ret
   exact ⟨ret_bool (by rw [HR.out, HE.out]), below_tr BX bl⟩
end Go.Proofs.YtgemlddincnfcaaGreatDoor.Fi
namespace Go.Proofs.YtgemlddincnfcaaGreatDoor.Fi
open Go.RowKit Go.Lib Tx
structure Hd (w0 w : World) (b : Nat) (L : LS) (T : Nat -> Prop) : Prop where
 ld : LdW w0
 bel : Below w0.heap.size w0 w
 at_ : FirmAt w b L T
 inv : Inv L.val
 safe : Safe L.val
 ff : ∀ g, Foot b L g -> w0.heap.size <= g
section
variable {w0 w w' : World} {b : Nat} {L L' : LS} {T T' : Nat -> Prop}
theorem Hd.env (h : Hd w0 w b L T) : Env w b L := ⟨w0, h.ld, h.bel, h.ff⟩
theorem Hd.lw (h : Hd w0 w b L T) : LdW w := h.ld.on h.bel
theorem Hd.below (h : Hd w0 w b L T) (hb : Below w.heap.size w w') : Hd w0 w' b L T := ⟨h.ld, below_tr h.bel hb, h.at_.on hb, h.inv, h.safe, h.ff⟩
theorem Hd.fut (h : Hd w0 w b L T) (hf : Fut w b L T w' L' T') (hi : Inv L'.val) (hs : Safe L'.val) : Hd w0 w' b L' T' := by
 refine ⟨h.ld, below_stp h.bel hf.stp (fun g hg e => by have := h.ff g e; omega) h.bel.size, hf.at_, hi, hs, fun g hg => ?_⟩
 rcases hf.ff g hg with h4 | h4
 ·exact h.ff g h4
 ·exact Nat.le_trans h.bel.size h4
theorem Hd.step {c : Cm} (h : Hd w0 w b L T) (hc : CmOk c) (hv : L'.val = (doC c L.val).2) (hf : Fut w b L T w' L' T') : Hd w0 w' b L' T' :=
 h.fut hf (by rw [hv]; exact inv_doC h.inv hc) (by rw [hv]; exact safe_doC h.inv h.safe)
end
def menN (l : List LSi) (k : Nat) : Int := (l.take k).foldl (fun a s => a + s.men) 0
theorem menN_zero (l : List LSi) : menN l 0 = 0 := rfl
theorem menN_step {l : List LSi} {k : Nat} {s : LSi} (h : l[k]? = some s) : menN l (k + 1) = menN l k + s.men := by
 unfold menN
 rw [List.take_add_one, h, List.foldl_append]
 rfl
theorem menN_bd {l : List LSi} (h : ∀ s ∈ l, 0 <= s.men ∧ s.men <= 16) : ∀ k, 0 <= menN l k ∧ menN l k <= 16 * (k : Int)
 | 0 => by rw [menN_zero]; omega
 | k + 1 => by
  have ih := menN_bd h k
  cases hs : l[k]? with
  | none =>
   have : menN l (k + 1) = menN l k := by unfold menN; rw [List.take_add_one, hs]; simp
   rw [this]; omega
  | some s =>
   rw [menN_step hs]
   have := h s (List.mem_of_getElem? hs)
   omega
theorem menN_all (L : LS) : menN L.sites.l L.sites.l.length = upN L.val := by
 unfold menN upN
 rw [List.take_length]
 show _ = (L.sites.l.map LSi.val).foldl (fun a s => a + s.men) 0
 rw [List.foldl_map]
 rfl
theorem Inv.menL {L : LS} (h : Inv L.val) : ∀ s ∈ L.sites.l, 0 <= s.men ∧ s.men <= 16 := fun s hs => h.sm s.val (List.mem_map.2 ⟨s, hs, rfl⟩)
theorem Safe.up_at {L : LS} (hI : Inv L.val) (hS : Safe L.val) {k : Nat} {s : LSi} (hs : L.sites.l[k]? = some s) : s.men ≠ 1 ∧ (0 < s.men -> goB L.val L.val.gusts = true ∧ s.fel = false ∧ rgtB L.val.x.cl (jntA L.val (k : Int)) s.dogs.l = true) := by
 have hm : s.val ∈ L.val.sites := List.mem_map.2 ⟨s, List.mem_of_getElem? hs, rfl⟩
 obtain ⟨h1, h2⟩ := hS.site s.val hm
 refine ⟨h1, fun h0 => ⟨?_, (h2 h0).1, ?_⟩⟩
 ·rcases hS.go with h3 | h3
  ·have h4 := upN_ge (fun s hs => (hI.sm s hs).1) hm
   have h5 : s.val.men = s.men := rfl
   omega
  ·exact h3
 ·have h3 := hS.dg k s.val (by show (L.sites.l.map LSi.val)[k]? = _; rw [List.getElem?_map, hs]; rfl)
  rcases h3 with h3 | h3
  ·have h4 := (h2 h0).2
   rw [h3] at h4
   simp at h4
  ·exact h3
end Go.Proofs.YtgemlddincnfcaaGreatDoor.Fi
namespace Go.Proofs.YtgemlddincnfcaaGreatDoor.Fi
open Go.Lib Tx
theorem doC_yes {c : Cm} {x y : St} (hl : x.lines.length < 2000) (h : deed c x = .ok y) : doC c x = (0, { y with lines := y.lines ++ [wrt y.lines y.day (bts (txt c))] }) := by
 unfold doC
 rw [if_neg (by omega), h]
theorem thB_k {x : St} {k : Nat} (h : k < x.sites.length) : thB x (k : Int) = true := by
 unfold thB
 exact wn_iff.2 ⟨by omega, by omega⟩
theorem siteA_k {x : St} {k : Nat} {s : Sit} (h : x.sites[k]? = some s) : siteA x (k : Int) = s := by
 unfold siteA
 rw [Int.toNat_natCast, List.getD_eq_getElem?_getD, h]
 rfl
structure Dn (x y : St) (k : Nat) : Prop where
 inv : Inv y
 safe : Safe y
 len : y.sites.length = x.sites.length
 lo : ∀ (i : Nat) s, i < k -> y.sites[i]? = some s -> s.men = 0
 rig : y.rigs = x.rigs
 day : y.day = x.day
 ll : y.lines.length <= x.lines.length + k
 su : y.x = x.x
theorem Dn.zero {x : St} (hI : Inv x) (hS : Safe x) : Dn x x 0 := ⟨hI, hS, rfl, fun _ _ h _ => absurd h (Nat.not_lt_zero _), rfl, rfl, Nat.le_refl _, rfl⟩
theorem Dn.skip {x y : St} {k : Nat} {s : Sit} (h : Dn x y k) (hs : y.sites[k]? = some s) (h0 : ¬ 0 < s.men) : Dn x y (k + 1) := by
 have := (h.inv.sm s (List.mem_of_getElem? hs)).1
 refine ⟨h.inv, h.safe, h.len, fun i t hi ht => ?_, h.rig, h.day, by have := h.ll; omega, h.su⟩
 by_cases e : i = k
 ·subst e
  rw [hs] at ht; cases ht
  omega
 ·exact h.lo i t (by omega) ht
theorem down_deed {x : St} (hI : Inv x) {k : Nat} {s : Sit} (hs : x.sites[k]? = some s) (h0 : 0 < s.men) : deed (.down (k : Int) s.men) x = .ok (setS x (k : Int) { s with men := 0 }) := by
 have hk : k < x.sites.length := (List.getElem?_eq_some_iff.1 hs).1
 have hm := (hI.sm s (List.mem_of_getElem? hs)).2
 unfold deed
 dsimp only
 rw [thB_k hk, siteA_k hs, wn_iff.2 ⟨by omega, hm⟩, decide_eq_true (Int.le_refl s.men), decide_eq_false (by omega : ¬ s.men - s.men = 1), Int.sub_self]
 rfl
theorem Dn.down {x y : St} {k : Nat} {s : Sit} (h : Dn x y k) (hs : y.sites[k]? = some s) (h0 : 0 < s.men) (hl : y.lines.length < 2000) : (doC (.down (k : Int) s.men) y).1 = 0 ∧ Dn x (doC (.down (k : Int) s.men) y).2 (k + 1) := by
 have hk : k < y.sites.length := (List.getElem?_eq_some_iff.1 hs).1
 have hm := (h.inv.sm s (List.mem_of_getElem? hs)).2
 have hsl := h.inv.sl
 have hs8 := (vSu_parts h.inv.su).1.2
 have hi := inv_doC (c := .down (k : Int) s.men) h.inv ⟨⟨by omega, by omega⟩, ⟨by omega, by omega⟩⟩
 have hf := safe_doC (c := .down (k : Int) s.men) h.inv h.safe
 rw [doC_yes hl (down_deed h.inv hs h0)] at hi hf ⊢
 refine ⟨rfl, hi, hf, ?_, fun i t hi ht => ?_, h.rig, h.day, ?_, h.su⟩
 ·show (List.set _ _ _).length = _
  rw [List.length_set]; exact h.len
 ·have ht : (y.sites.set (k : Int).toNat { s with men := 0 })[i]? = some t := ht
  rw [Int.toNat_natCast] at ht
  by_cases e : i = k
  ·subst e
   rw [List.getElem?_set_self hk] at ht
   cases ht; rfl
  ·rw [List.getElem?_set_ne (by omega)] at ht
   exact h.lo i t (by omega) ht
 ·show (y.lines ++ [_]).length <= _
  rw [List.length_append]
  have := h.ll
  simp; omega
theorem upN_zero {x : St} (h : ∀ s ∈ x.sites, s.men = 0) : upN x = 0 := by
 unfold upN
 generalize x.sites = l at h
 induction l with
 | nil => rfl
 | cons s l ih =>
  rw [List.foldl_cons, upF, ih fun t ht => h t (List.mem_cons_of_mem _ ht), h s (List.mem_cons_self ..)]
  rfl
structure Calm (R : List Rig) (n : Nat) (y : St) (k : Nat) : Prop where
 inv : Inv y
 safe : Safe y
 no : ∀ s ∈ y.sites, s.men = 0
 gst : y.gusts = []
 rl : y.rigs.length = R.length
 lo : ∀ (i : Nat) r, i < k -> y.rigs[i]? = some r -> r.lk = []
 hi : ∀ (i : Nat), k <= i -> y.rigs[i]? = R[i]?
 ll : y.lines.length <= n + k
theorem Dn.all {x y : St} (h : Dn x y x.sites.length) : ∀ s ∈ y.sites, s.men = 0 := fun s hs => by
 obtain ⟨i, hi, he⟩ := List.getElem_of_mem hs
 exact h.lo i s (by rw [← h.len]; exact hi) (by rw [List.getElem?_eq_getElem hi, he])
theorem Dn.calm {x y : St} (h : Dn x y x.sites.length) (hl : y.lines.length < 2000) (hd : y.day < 100000) : (doC .day y).1 = 0 ∧ Calm x.rigs (x.lines.length + x.sites.length + 1) (doC .day y).2 0 := by
 have hu := upN_zero h.all
 have hi := inv_doC (c := .day) h.inv trivial
 have hf := safe_doC (c := .day) h.inv h.safe
 have he : deed .day y = .ok { y with day := y.day + 1, gusts := [] } := by
  unfold deed
  dsimp only
  rw [hu, decide_eq_true hd]
  rfl
 rw [doC_yes hl he] at hi hf ⊢
 refine ⟨rfl, hi, hf, h.all, rfl, by rw [← h.rig], fun _ _ h _ => absurd h (Nat.not_lt_zero _), fun i _ => by rw [← h.rig], ?_⟩
 show (y.lines ++ [_]).length <= _
 rw [List.length_append]
 have := h.ll
 simp; omega
theorem go_nil {x : St} (hI : Inv x) : goB x [] = true := by
 unfold goB V.rsE
 have h1 : V.aE x.x.ru [] = 0 := by
  unfold V.aE V.vGu
  rw [(vSu_parts hI.su).2.2.2.2.2.2.1]
  rfl
 rw [if_pos h1]
 rfl
theorem Calm.goes {R : List Rig} {n k : Nat} {y : St} (h : Calm R n y k) : goB y y.gusts = true := by rw [h.gst]; exact go_nil h.inv
theorem Calm.skip {R : List Rig} {n k : Nat} {y : St} {r : Rig} (h : Calm R n y k) (hr : y.rigs[k]? = some r) (h0 : ¬ 0 < r.lk.length) : Calm R n y (k + 1) := by
 refine ⟨h.inv, h.safe, h.no, h.gst, h.rl, fun i q hi hq => ?_, fun i hi => h.hi i (by omega), by have := h.ll; omega⟩
 by_cases e : i = k
 ·subst e
  rw [hr] at hq; cases hq
  exact List.length_eq_zero_iff.1 (by omega)
 ·exact h.lo i q (by omega) hq
theorem Calm.strike {R : List Rig} {n k : Nat} {y : St} {r : Rig} (h : Calm R n y k) (hr : y.rigs[k]? = some r) (h0 : 0 < r.lk.length) (hl : y.lines.length < 2000) : (doC (.strike (k : Int)) y).1 = 0 ∧ Calm R n (doC (.strike (k : Int)) y).2 (k + 1) := by
 have hk : k < y.rigs.length := (List.getElem?_eq_some_iff.1 hr).1
 have hrl := h.inv.rl
 have hi := inv_doC (c := .strike (k : Int)) h.inv ⟨by omega, by omega⟩
 have hf := safe_doC (c := .strike (k : Int)) h.inv h.safe
 have hA : rigA y (k : Int) = r := by
  unfold rigA
  rw [Int.toNat_natCast, List.getD_eq_getElem?_getD, hr]
  rfl
 have hst := h.inv.rs r (List.mem_of_getElem? hr)
 have hm : (siteA y r.st).men = 0 := h.no _ (siteA_mem (by unfold thB; exact wn_iff.2 ⟨hst.1, by omega⟩))
 have he : deed (.strike (k : Int)) y = .ok { y with rigs := y.rigs.set k ⟨r.st, []⟩ } := by
  unfold deed
  dsimp only
  rw [show rtB y (k : Int) = true by unfold rtB; exact wn_iff.2 ⟨by omega, by omega⟩, hA, hm, decide_eq_true h0]
  rfl
 rw [doC_yes hl he] at hi hf ⊢
 refine ⟨rfl, hi, hf, h.no, h.gst, ?_, fun i q hi hq => ?_, fun i hi => ?_, ?_⟩
 ·show (List.set _ _ _).length = _
  rw [List.length_set]; exact h.rl
 ·have hq : (y.rigs.set k ⟨r.st, []⟩)[i]? = some q := hq
  by_cases e : i = k
  ·subst e
   rw [List.getElem?_set_self hk] at hq
   cases hq; rfl
  ·rw [List.getElem?_set_ne (by omega)] at hq
   exact h.lo i q (by omega) hq
 ·show (y.rigs.set k ⟨r.st, []⟩)[i]? = _
  rw [List.getElem?_set_ne (by omega)]
  exact h.hi i (by omega)
 ·show (y.lines ++ [_]).length <= _
  rw [List.length_append]
  have := h.ll
  simp; omega
structure Bare (n : Nat) (y : St) (k : Nat) : Prop where
 inv : Inv y
 safe : Safe y
 no : ∀ s ∈ y.sites, s.men = 0
 gst : y.gusts = []
 rg : ∀ r ∈ y.rigs, r.lk = []
 ll : y.lines.length <= n + k
theorem Calm.bare {R : List Rig} {n : Nat} {y : St} (h : Calm R n y R.length) : Bare (n + R.length) y 0 := by
 refine ⟨h.inv, h.safe, h.no, h.gst, fun r hr => ?_, h.ll⟩
 obtain ⟨i, hi, he⟩ := List.getElem_of_mem hr
 exact h.lo i r (by rw [← h.rl]; exact hi) (by rw [List.getElem?_eq_getElem hi, he])
theorem Bare.skip {n k : Nat} {y : St} (h : Bare n y k) : Bare n y (k + 1) := ⟨h.inv, h.safe, h.no, h.gst, h.rg, by have := h.ll; omega⟩
theorem Bare.cut {n k i : Nat} {y : St} {s : Sit} (h : Bare n y k) (hs : y.sites[i]? = some s) (h0 : s.fel = false) (hl : y.lines.length < 2000) :
  ((doC (.cut (i : Int)) y).1 = 0 ∨ (doC (.cut (i : Int)) y).1 = 11) ∧ Bare n (doC (.cut (i : Int)) y).2 (k + 1) ∧ ∃ t, (doC (.cut (i : Int)) y).2.sites[i]? = some t ∧ t.fel = decide ((doC (.cut (i : Int)) y).1 = 0) := by
 have hk : i < y.sites.length := (List.getElem?_eq_some_iff.1 hs).1
 have hsl := h.inv.sl
 have hs8 := (vSu_parts h.inv.su).1.2
 have hi := inv_doC (c := .cut (i : Int)) h.inv ⟨by omega, by omega⟩
 have hf := safe_doC (c := .cut (i : Int)) h.inv h.safe
 have hu := upN_zero h.no
 have hr : rggB y (i : Int) = false := by
  unfold rggB
  rw [List.any_eq_false]
  intro r hr
  rw [h.rg r hr]
  simp
 have hg : goB y y.gusts = true := by rw [h.gst]; exact go_nil h.inv
 have hgp : gstP y = 0 := by unfold gstP; rw [h.gst]; rfl
 have hw : S.windyE (stkA y (i : Int)) 0 0 0 = 0 := by
  have hv : S.validC (stkA y (i : Int)) = true := by
   unfold stkA
   rw [Int.toNat_natCast, List.getD_eq_getElem?_getD]
   obtain ⟨c, hc⟩ := get_lt (l := y.x.stk) (k := i) (by omega)
   rw [hc]
   exact (vSu_parts h.inv.su).2.2.1 c (List.mem_of_getElem? hc)
  have hl0 : 1 <= (stkA y (i : Int)).length := by
   unfold S.validC at hv
   have := (wn_iff.1 (Bool.and_eq_true_iff.1 hv).1).1
   omega
  unfold S.windyE
  rw [if_pos hv, if_pos]
  rw [Bool.and_eq_true, Bool.and_eq_true]
  exact ⟨wn_iff.2 ⟨by omega, by omega⟩, wn_iff.2 ⟨by omega, by omega⟩, wn_iff.2 ⟨by omega, by omega⟩⟩
 have he : deed (.cut (i : Int)) y = if ((List.range 4).all fun k => S.standsR (stkA y (i : Int)) 0 (k : Int)) = false then .error 11 else .ok (setS y (i : Int) { s with fel := true, dogs := [] }) := by
  unfold deed
  dsimp only
  rw [thB_k hk, siteA_k hs, h0, hu, hr, hg, hgp, hw]
  rfl
 by_cases hst : ((List.range 4).all fun k => S.standsR (stkA y (i : Int)) 0 (k : Int)) = false
 ·rw [if_pos hst] at he
  have hd : doC (.cut (i : Int)) y = (11, y) := by
   unfold doC
   rw [if_neg (by omega), he]
  rw [hd]
  exact ⟨.inr rfl, h.skip, s, hs, by rw [h0]; rfl⟩
 ·rw [if_neg hst] at he
  rw [doC_yes hl he] at hi hf ⊢
  refine ⟨.inl rfl, ⟨hi, hf, fun t ht => ?_, h.gst, h.rg, ?_⟩, { s with fel := true, dogs := [] }, ?_, rfl⟩
  ·rcases List.mem_or_eq_of_mem_set (show t ∈ y.sites.set (i : Int).toNat { s with fel := true, dogs := [] } from ht) with h1 | rfl
   ·exact h.no t h1
   ·exact h.no s (List.mem_of_getElem? hs)
  ·show (y.lines ++ [_]).length <= _
   rw [List.length_append]
   have := h.ll
   simp; omega
  ·show (y.sites.set (i : Int).toNat { s with fel := true, dogs := [] })[i]? = _
   rw [Int.toNat_natCast, List.getElem?_set_self hk]
end Go.Proofs.YtgemlddincnfcaaGreatDoor.Fi
namespace Go.Proofs.YtgemlddincnfcaaGreatDoor.Fi
open Go.RowKit Go.Lib Tx
theorem deed_x {c : Cm} {x y : St} (h : deed c x = .ok y) : y.x = x.x := by
 cases c <;> (unfold deed at h; dsimp only at h; (repeat' split at h) <;> first | (cases h; done) | (cases h; rfl))
theorem doC_x {c : Cm} {x : St} : (doC c x).2.x = x.x := by
 unfold doC
 split
 ·rfl
 ·split
  ·rfl
  ·rename_i y hy
   exact (deed_x hy : y.x = x.x)
end Go.Proofs.YtgemlddincnfcaaGreatDoor.Fi
