/- The parts of the proof, part 32. -/
import Derived.Test.YtgemlddincnfcaaGreatDoorP0
import Derived.Test.YtgemlddincnfcaaGreatDoorP31
set_option linter.unusedSimpArgs false
set_option linter.unusedVariables false
namespace Go.Proofs.YtgemlddincnfcaaGreatDoor.Fi
open Go.RowKit Go.Lib Tx
section
variable {b : Nat} {L : LS} {T : Nat → Prop} {w : World}
theorem f_NowA (hF : FirmAt w b L T) : Calls Tryz.prog 14 #[.pointer (some ⟨b, 0, none⟩)] w fun e w' => e = .returned (.int .i64 L.day) ∧ w = w' := by
 have c17 : w.cell? ⟨b, 17, none⟩ = some (.int .i64 L.day) := hF.cel 17 _ rfl
 clear hF
 go_enter Tryz.func14, Tryz.ntmps14
 go_wp2
 go_ret
 exact ⟨rfl, rfl⟩
theorem f_GearA (hF : FirmAt w b L T) (hl : L.items.l.length ≤ 100000) : Calls Tryz.prog 9 #[.pointer (some ⟨b, 0, none⟩)] w (CloP G.It.cs 4 77 L.items.l w) := by
 have c21 : w.cell? ⟨b, 21, none⟩ = some (.slice L.items.a L.items.l.length L.items.c) := hF.cel 21 _ rfl
 have lb := hF.blk.lt
 have HC := Lib.hid (show Calls Tryz.prog 34 #[.slice L.items.a L.items.l.length L.items.c] w (CloP G.It.cs 4 77 L.items.l w) from c_CloneItem L.items w hl hF.ok.items.rd)
 clear hF
 go_enter Tryz.func9, Tryz.ntmps9
 go_wp2_with (go_at_call 34; ((with_reducible refine HC.out.mono ?_); rintro e w3 ⟨y, rfl, hy, ho, h1, h2, hb⟩))
 go_ret
 exact ⟨y, rfl, hy, ho, h1, h2, hb⟩
theorem f_BackA (hF : FirmAt w b L T) (hl : L.back.l.length ≤ 100000) : Calls Tryz.prog 10 #[.pointer (some ⟨b, 0, none⟩)] w (CloP G.sC 1 9 L.back.l w) := by
 have c22 : w.cell? ⟨b, 22, none⟩ = some (.slice L.back.a L.back.l.length L.back.c) := hF.cel 22 _ rfl
 have lb := hF.blk.lt
 have HC := Lib.hid (show Calls Tryz.prog 35 #[.slice L.back.a L.back.l.length L.back.c] w (CloP G.sC 1 9 L.back.l w) from c_CloneStr L.back w hl hF.ok.back.rd)
 clear hF
 go_enter Tryz.func10, Tryz.ntmps10
 go_wp2_with (go_at_call 35; ((with_reducible refine HC.out.mono ?_); rintro e w3 ⟨y, rfl, hy, ho, h1, h2, hb⟩))
 go_ret
 exact ⟨y, rfl, hy, ho, h1, h2, hb⟩
theorem f_FelledA (hF : FirmAt w b L T) (hI : Inv L.val) (k : Nat) {s : LSi} (hs : L.sites.l[k]? = some s) :
  Calls Tryz.prog 21 #[.pointer (some ⟨b, 0, none⟩), .int .i64 (k : Nat)] w fun e w' => e = .returned (.bool s.fel) ∧ Below w.heap.size w w' := by
 have hsl : L.sites.l.length ≤ 8 := hI.slen
 have hfd : ∀ (W : World), (Instr.field 118 (siV s) 1).run Tryz.prog W = .ok (.bool s.fel) W := fun _ => by kernel_rfl
 have HS := Lib.hid (f_siteAt b L k w hF.cel hF.ok.sites.rd (by omega) hs)
 go_enter Tryz.func21, Tryz.ntmps21
 go_wp2_with (go_at_call 54; ((with_reducible refine HS.out.mono ?_); rintro e w3 ⟨rfl, hb3⟩))
 go_ret
 exact ⟨rfl, hb3⟩
theorem f_DogsA (hF : FirmAt w b L T) (hI : Inv L.val) (k : Nat) {s : LSi} (hs : L.sites.l[k]? = some s) :
  Calls Tryz.prog 23 #[.pointer (some ⟨b, 0, none⟩), .int .i64 (k : Nat)] w fun e w' => ∃ y : Sl Int, e = .returned y.v ∧ y.l = s.dogs.l ∧ Rd zC 1 w' y.a y.l ∧ Below w.heap.size w w' := by
 have hsl : L.sites.l.length ≤ 8 := hI.slen
 have hdl : s.dogs.l.length ≤ 300 := hI.sd s.val (List.mem_map.2 ⟨s, List.mem_of_getElem? hs, rfl⟩)
 have hfd : ∀ (W : World), (Instr.field 118 (siV s) 0).run Tryz.prog W = .ok (.slice s.dogs.a s.dogs.l.length s.dogs.c) W := fun _ => by kernel_rfl
 have HS := Lib.hid (f_siteAt b L k w hF.cel hF.ok.sites.rd (by omega) hs)
 have HC := Lib.hid (fun W (h : Below w.heap.size w W) => (show Calls Tryz.prog 60 #[.slice s.dogs.a s.dogs.l.length s.dogs.c] W (CloP zC 1 3 s.dogs.l W) from c_CloneInt s.dogs W (by omega) ((hF.ok.sk s (List.mem_of_getElem? hs)).rd.on h)))
 go_enter Tryz.func23, Tryz.ntmps23
 go_wp2_with (first
  | (go_at_call 54; ((with_reducible refine HS.out.mono ?_); rintro e w3 ⟨rfl, hb3⟩))
  | (go_at_call 60; ((with_reducible refine (HC.out w3 hb3).mono ?_); rintro e w4 ⟨y, rfl, hy, ho, h1, h2, hb⟩)))
 go_ret
 exact ⟨y, rfl, hy, own_rd' (enc := zC) (sz := 1) (fun _ => rfl) ho, below_tr hb3 hb⟩
end
theorem info_SlL : ∃ i : TypeInfo, Tryz.prog.info? 47 = some i ∧ i.zero = some (.slice none 0 0) ∧ i.size = 1 ∧ i.bytes = 24 := info_parts (by kernel_rfl)
def RgsP (l : List LRg) (w : World) (e : Ending) (w' : World) : Prop :=
 ∃ ys : Sl (Sl G.Lk), e = .returned ys.v ∧ ys.l.map (·.l) = l.map (·.lk.l) ∧ Got (fun g => w.heap.size ≤ g) w' Sl.cs 1 ys ∧ (∀ y ∈ ys.l, Got (fun g => w.heap.size ≤ g) w' G.Lk.cs 2 y) ∧ Below w.heap.size w w'
theorem map_snr {ys : List (Sl G.Lk)} {l : List LRg} {k : Nat} {x : LRg} {y : Sl G.Lk} (hx : l[k]? = some x) (h : ys.map (·.l) = (l.take k).map (·.lk.l)) (hy : y.l = x.lk.l) : (ys ++ [y]).map (·.l) = (l.take (k + 1)).map (·.lk.l) := by
 rw [List.take_add_one, hx, List.map_append, List.map_append, h]; simp [hy]
set_option maxHeartbeats 4000000 in
set_option maxRecDepth 20000 in
theorem f_RigsA {b : Nat} {L : LS} {T : Nat → Prop} {w : World} (hF : FirmAt w b L T) (hI : Inv L.val) : Calls Tryz.prog 11 #[.pointer (some ⟨b, 0, none⟩)] w (RgsP L.rigs.l w) := by
 obtain ⟨i0, hi, hi1, hi2, hi3⟩ := info_SlL
 have c19 : w.cell? ⟨b, 19, none⟩ = some (.slice L.rigs.a L.rigs.l.length L.rigs.c) := hF.cel 19 _ rfl
 have hrl : L.rigs.l.length ≤ 50 := by have := hI.rl; unfold LS.val at this; dsimp only at this; rwa [List.length_map] at this
 have HE : Hid (∀ r ∈ L.rigs.l, r.lk.l.length ≤ 100000 ∧ Got T w G.Lk.cs 2 r.lk) := Lib.hid (fun r hr => ⟨by have := (hI.rk r.val (List.mem_map.2 ⟨r, hr, rfl⟩)).1; show r.lk.l.length ≤ 100000; have h2 : r.val.lk = r.lk.l := rfl; rw [h2] at this; omega, hF.ok.rk r hr⟩)
 have HR := Lib.hid hF.ok.rigs.rd
 obtain ⟨LR, hLR⟩ : ∃ x, x = L.rigs := ⟨_, rfl⟩
 rw [← hLR] at c19 hrl HE HR ⊢
 clear hF hI hLR
 obtain ⟨A, l, c⟩ := LR
 dsimp only at *
 obtain ⟨n, hn⟩ : ∃ n, l.length = n := ⟨_, rfl⟩
 rw [hn] at c19 hrl
 have HN := Lib.hid hn
 clear hn
 go_enter Tryz.func11, Tryz.ntmps11
 go_wp2
 go_loopw [3, 14] (fun v i wr => ∃ (k : Nat) (ys : List (Sl G.Lk)), k ≤ n ∧ i = .int .i64 k ∧ Hid (ys.length = k ∧ ys.map (·.l) = (l.take k).map (·.lk.l)) ∧ wr.ownsRow w.heap.size 47 1 v k (fl Sl.cs ys) ∧ Below w.heap.size w wr ∧ Hid (∀ y ∈ ys, Got (fun b => w.heap.size ≤ b ∧ v.ownBlock ≠ some b) wr G.Lk.cs 2 y)) (fun _ i _ => n - (RowKit.intOf i).toNat)
 case atStart => exact ⟨0, [], Nat.zero_le _, rfl, Lib.hid ⟨rfl, rfl⟩, World.ownsRow_nil w _ _ _, below_refl _, Lib.hid (fun y hy => by cases hy)⟩
 case round =>
  obtain ⟨k, ys, hk, rfl, HY, hown, hbw, HG⟩ := hrel
  obtain ⟨ad, cp, rfl⟩ := own_slice hown
  have hbvs := hbw.size
  have k0 : (0 : Int) ≤ (k : Int) := Int.natCast_nonneg _
  by_cases hlt : k < n
  ·have k1 : (k : Int) < (n : Int) := by omega
   obtain ⟨x, hx⟩ := get_lt (l := l) (k := k) (by rw [HN.out]; omega)
   obtain ⟨b1, o1, ha1, lb1, hc1⟩ := (HR.out.on hbw).get hx
   have cx0 : wr.cell? ⟨b1, o1 + k * 2, none⟩ = some (.int .i64 x.st) := hc1 0 _ rfl
   have cx1 : wr.cell? ⟨b1, o1 + k * 2 + 1, none⟩ = some (.slice x.lk.a x.lk.l.length x.lk.c) := hc1 1 _ rfl
   subst ha1
   have hxe := HE.out x (List.mem_of_getElem? hx)
   have HX := Lib.hid hx
   clear hx hc1
   go_upto_region 7 with fail
   have Bq := bl_alloc (below_refl wr) (.cells #[.int .i64 x.st, .slice x.lk.a x.lk.l.length x.lk.c] 90)
   have q1 : (wr.alloc (.cells #[.int .i64 x.st, .slice x.lk.a x.lk.l.length x.lk.c] 90)).cell? ⟨wr.heap.size, 1, none⟩ = some (.slice x.lk.a x.lk.l.length x.lk.c) := (Blk.new wr 90 #[.int .i64 x.st, .slice x.lk.a x.lk.l.length x.lk.c]).cell 1
   have hownq := own_on hown Bq
   have hbq := below_tr hbw Bq
   have HGq := Lib.hid (fun y hy => (HG.out y hy).on Bq)
   clear hown hbw HG Bq
   generalize wr.alloc (.cells #[.int .i64 x.st, .slice x.lk.a x.lk.l.length x.lk.c] 90) = wq at *
   have hbvq := hbq.size
   have HCL := Lib.hid (show Calls Tryz.prog 36 #[.slice x.lk.a x.lk.l.length x.lk.c] wq (CloP G.Lk.cs 2 79 x.lk.l wq) from c_CloneLink x.lk wq hxe.1 (hxe.2.on hbq).rd)
   clear hxe
   go_wp2_with (first
    | (go_at_call 36; ((with_reducible refine HCL.out.mono ?_); rintro e w3 ⟨y3, rfl, hy3, ho3, hle3, hcm3, hb3⟩; have hz3 := hb3.size))
    | (at_builtin; refine wpList_append_own_at _ rfl _ _ 44 rfl w.heap.size 47 i0 (.slice none 0 0) 1 24 (by kernel_rfl) hi hi1 hi2 hi3 rfl (by omega) _ _ _ rfl (own_on (own_on hownq hb3) (bl_alloc (below_refl w3) (.cells #[y3.v] 47))) ⟨w3.heap.size, 0, none⟩ 1 1 [y3.v] rfl rfl (cells_new w3 [y3.v] 47) (by intro u hu; simp at hu; subst hu; rfl) (by unfold maxLen; omega) (by omega) (by simp; omega) ?_; intro v4 w4 hown4 hgrow4 _ hat4))
   have BW3 := bl_alloc (below_tr hbq hb3) (.cells #[y3.v] 47)
   have hown3 := own_on (own_on hownq hb3) (bl_alloc (below_refl w3) (.cells #[y3.v] 47))
   replace hgrow4 : (w3.alloc (.cells #[y3.v] 47)).grownBy w4 (Value.slice ad k cp).ownBlock := hgrow4
   have B4 := bl_app (below_tr hbq hb3) (own_on hownq hb3) hgrow4 (Nat.le_refl _) (below_tr hbq hb3).size
   rw [← fl_snc] at hown4
   obtain ⟨ad4, cp4, rfl⟩ := own_slice hown4
   have gy : Got (fun b => wq.heap.size ≤ b) w3 G.Lk.cs 2 y3 := got_own (fun _ => rfl) ho3 fun b h1 _ => h1
   have hst : Stp (fun g => (Value.slice ad k cp).ownBlock = some g) (w3.alloc (.cells #[y3.v] 47)) w4 := (Stp.refl _ _).grown hgrow4 (fun r hr => .inl hr)
   have hne : ∀ g, (Value.slice ad k cp).ownBlock = some g → g < wq.heap.size := fun g hg => (own_ge hownq g hg).2
   have hat : ∀ g, (Value.slice ad4 (k + 1) cp4).ownBlock = some g → (Value.slice ad k cp).ownBlock = some g ∨ w3.heap.size + 1 ≤ g := fun g hg => by
    rcases hat4 with h | h
    ·exact .inl (h ▸ hg)
    ·rw [h] at hg; cases hg; exact .inr (by simp)
   go_roundw
   case rel =>
    refine ⟨k + 1, ys ++ [y3], by omega, by go_num, Lib.hid ⟨by rw [List.length_append, HY.out.1]; rfl, map_snr HX.out HY.out.2 hy3⟩, hown4, B4, Lib.hid fun y hy => ?_⟩
    rcases List.mem_append.1 hy with hy | hy
    ·have g2 : Got (fun b => w.heap.size ≤ b ∧ (Value.slice ad k cp).ownBlock ≠ some b ∧ b < wq.heap.size) wq G.Lk.cs 2 y := (HGq.out y hy).mono fun b hb ht => ⟨ht.1, ht.2, hb⟩
     have g3 := (g2.on hb3).on (bl_alloc (below_refl w3) (.cells #[y3.v] 47))
     exact (g3.stp hst (fun b hb => hb.2.1)).mono fun b _ ht => ⟨ht.1, fun e => by
      rcases hat b e with h | h
      ·exact ht.2.1 h
      ·have := ht.2.2; omega⟩
    ·simp at hy; subst hy
     have g2 : Got (fun b => wq.heap.size ≤ b ∧ b < w3.heap.size) w3 G.Lk.cs 2 y := gy.mono fun b hb ht => ⟨ht, hb⟩
     have g3 := g2.on (bl_alloc (below_refl w3) (.cells #[y.v] 47))
     exact (g3.stp hst (fun b hb e => by have := hne b e; omega)).mono fun b _ ht => ⟨by omega, fun e => by
      rcases hat b e with h | h
      ·have := hne b h; omega
      ·omega⟩
   case measure => simp [RowKit.intOf]; omega
  ·obtain rfl : k = n := by omega
   have hy1 := HY.out.1
   go_wp2
   go_ret
   refine ⟨⟨ad, ys, cp⟩, by dsimp only [Sl.v]; rw [HY.out.1]; rfl, ?_, ?_, fun y hy => (HG.out y hy).mono fun b _ h => h.1, hbw⟩
   ·dsimp only; rw [HY.out.2, List.take_of_length_le (by rw [HN.out]; omega)]
   ·exact got_own (enc := Sl.cs) (sz := 1) (y := ⟨ad, ys, cp⟩) (fun _ => rfl) (show wr.ownsRow w.heap.size 47 1 (.slice ad ys.length cp) ys.length (fl Sl.cs ys) by rw [HY.out.1]; exact hown) fun b h1 _ => h1
end Go.Proofs.YtgemlddincnfcaaGreatDoor.Fi
namespace Go.Proofs.YtgemlddincnfcaaGreatDoor.Fi
open Go.RowKit Go.Lib Go.Maps Tx
theorem rdZ {w : World} {A : Option Addr} {l : List Int} (h : Rd zC 1 w A l) {k : Nat} (hk : k < l.length) :
  ∃ b off, A = some ⟨b, off, none⟩ ∧ b < w.heap.size ∧ w.cell? ⟨b, off + k, none⟩ = some (.int .i64 (zA l k)) := by
 obtain ⟨x, hx⟩ := get_lt hk
 obtain ⟨b, off, e, hb, hc⟩ := h.get hx
 have := hc 0 (.int .i64 x) rfl
 rw [Nat.mul_one, Nat.add_zero] at this
 refine ⟨b, off, e, hb, ?_⟩
 rw [this]; unfold zA; rw [List.getD_eq_getElem?_getD, hx]; rfl
theorem all_noA {p : Nat → Bool} {n k : Nat} (hk : k < n) (h : p k = false) : (List.range n).all p = false := by
 rw [List.all_eq_false]; exact ⟨k, by simpa using hk, by simp [h]⟩
set_option maxHeartbeats 2000000 in
set_option maxRecDepth 20000 in
theorem l_ascending (A : Option Addr) (l : List Int) (c n : Nat) (w : World) (hn : n ≤ 100000) (hl : l.length ≤ maxLen) (hR : Rd zC 1 w A l) :
  Calls Tryz.prog 57 #[.slice A l.length c, .int .i64 (n : Nat)] w fun e w' => e = .returned (.bool (ascB n l)) ∧ w = w' := by
 have hl' := hl
 unfold maxLen at hl'
 have hw : IntKind.i64.wrap ((n : Int) - 1) = (n : Int) - 1 := fits_wrap ⟨by omega, by omega⟩
 obtain ⟨R, hR0⟩ : ∃ R, R = ascB n l := ⟨_, rfl⟩
 rw [← hR0]
 have HR := Lib.hid hR0
 clear hR0
 go_enter Tryz.func57, Tryz.ntmps57
 go_wp2
 go_loop [9] (fun i => ∃ k : Nat, k ≤ l.length ∧ i = .int .i64 k ∧ Hid ((List.range k).all (okA n l) = true)) (fun i => l.length - (RowKit.intOf i).toNat)
 case atStart => exact ⟨0, by omega, rfl, Lib.hid rfl⟩
 case round =>
  obtain ⟨k, hk, rfl, HI⟩ := hrel
  have k0 : (0 : Int) ≤ (k : Int) := Int.natCast_nonneg _
  by_cases hlt : k < l.length
  ·have k1 : (k : Int) < (l.length : Int) := by omega
   obtain ⟨b, off, rfl, hb, c0⟩ := rdZ hR hlt
   cases h1 : wn (zA l k) 0 ((n : Int) - 1)
   ·have HE := Lib.hid (show ascB n l = false from all_noA hlt (by unfold okA; rw [h1]; rfl))
    generalize zA l k = Z at *
    go_wp2_with (go_at_call 107; ((with_reducible refine (l_withinV h1 _).mono ?_); rintro e w' ⟨rfl, rfl⟩))
    go_ret
    exact ⟨ret_bool (by rw [HR.out, HE.out]), rfl⟩
   ·by_cases hk0 : k = 0
    ·have HI1 := Lib.hid (all_stepJ HI.out (show okA n l k = true by unfold okA; rw [h1, hk0]; rfl))
     generalize zA l k = Z at *
     have hkz : ¬ 0 < k := by omega
     have HK0 := Lib.hid hk0
     clear hk0
     go_wp2_with (go_at_call 107; ((with_reducible refine (l_withinV h1 _).mono ?_); rintro e w' ⟨rfl, rfl⟩))
     go_round
     case rel => exact ⟨k + 1, by omega, by go_num, HI1⟩
     case measure => simp [RowKit.intOf]; omega
    ·obtain ⟨j, hj⟩ : ∃ j, k = j + 1 := ⟨k - 1, by omega⟩
     have c1 : w.cell? ⟨b, off + j, none⟩ = some (.int .i64 (zA l j)) := by
      obtain ⟨b', off', e, _, c1⟩ := rdZ hR (show j < l.length by omega)
      cases e; exact c1
     have hwj : IntKind.i64.wrap ((k : Int) - 1) = (j : Int) := by rw [fits_wrap ⟨by omega, by omega⟩]; omega
     have j0 : (0 : Int) ≤ (j : Int) := Int.natCast_nonneg _
     have j1 : (j : Int) < (l.length : Int) := by omega
     have hp : 0 < k := by omega
     have HEQ := Lib.hid (show okA n l k = decide (zA l j < zA l k) by unfold okA; rw [h1, hj]; simp)
     by_cases h2 : zA l j < zA l k
     ·have HI1 := Lib.hid (all_stepJ HI.out (show okA n l k = true by rw [HEQ.out, decide_eq_true h2]))
      have h3 : ¬ zA l k ≤ zA l j := by omega
      clear HEQ hj hk0
      generalize zA l k = Z at *
      generalize zA l j = Y at *
      go_wp2_with (go_at_call 107; ((with_reducible refine (l_withinV h1 _).mono ?_); rintro e w' ⟨rfl, rfl⟩))
      go_round
      case rel => exact ⟨k + 1, by omega, by go_num, HI1⟩
      case measure => simp [RowKit.intOf]; omega
     ·have HE := Lib.hid (show ascB n l = false from all_noA hlt (by rw [HEQ.out, decide_eq_false h2]))
      have h3 : zA l k ≤ zA l j := by omega
      clear HEQ hj hk0
      generalize zA l k = Z at *
      generalize zA l j = Y at *
      go_wp2_with (go_at_call 107; ((with_reducible refine (l_withinV h1 _).mono ?_); rintro e w' ⟨rfl, rfl⟩))
      go_ret
      exact ⟨ret_bool (by rw [HR.out, HE.out]), rfl⟩
  ·obtain rfl : k = l.length := by omega
   have HE := Lib.hid (show ascB n l = true from HI.out)
   go_wp2
   go_ret
   exact ⟨ret_bool (by rw [HR.out, HE.out]), rfl⟩
theorem l_ascendingV {A : Option Addr} {l : List Int} {c n : Nat} {w : World} {v : Bool} (h : ascB n l = v) (hn : n ≤ 100000) (hl : l.length ≤ maxLen) (hR : Rd zC 1 w A l) :
  Calls Tryz.prog 57 #[.slice A l.length c, .int .i64 (n : Nat)] w fun e w' => e = .returned (.bool v) ∧ w = w' := h ▸ l_ascending A l c n w hn hl hR
theorem asc_in {n : Nat} {l : List Int} (h : ascB n l = true) {k : Nat} (hk : k < l.length) : 0 ≤ zA l k ∧ zA l k < (n : Int) := by
 have := List.all_eq_true.1 h k (by simpa using hk)
 unfold okA at this
 rw [Bool.and_eq_true, wn_iff] at this
 omega
set_option maxHeartbeats 4000000 in
set_option maxRecDepth 20000 in
theorem l_Right (c : Cl) (A : Option Addr) (l : List Jt) (cc : Nat) (D : Option Addr) (d : List Int) (dc : Nat) (w : World) (hle : -9223372036854775808 < c.le ∧ c.le ≤ 9223372036854775807) (hl : l.length ≤ 100000) (hdl : d.length ≤ maxLen) (hR : Rd Jt.cs 2 w A l) (hD : Rd zC 1 w D d) :
  Calls Tryz.prog 22 #[clV c, .slice A l.length cc, .slice D d.length dc] w fun e w' => e = .returned (.bool (rgtB c l d)) ∧ Below w.heap.size w w' := by
 have x0 := Blk.new w 25 (clA c)
 have B0 := bl_alloc (below_refl w) (.cells (clA c) 25)
 have HV := Lib.hid (fun W (h : Below w.heap.size w W) => l_valid c A l cc W hle hl (hR.on h))
 have HX := Lib.hid (fun W (h : Below (w.alloc (.cells (clA c) 25)).heap.size (w.alloc (.cells (clA c) 25)) W) => x0.below h x0.lt)
 obtain ⟨R, hR0⟩ : ∃ R, R = rgtB c l d := ⟨_, rfl⟩
 rw [← hR0]
 have HR := Lib.hid hR0
 clear hR0
 have HAS := Lib.hid (fun v (h : ascB l.length d = v) W (hb : Below w.heap.size w W) => l_ascendingV (c := dc) h hl hdl (hD.on hb))
 have hdl' := hdl
 unfold maxLen at hdl'
 cases hvv : (vCl c && vJ l)
 ·have HE := Lib.hid (show rgtB c l d = false by unfold rgtB; rw [hvv]; rfl)
  rw [hvv] at HV
  have b0 := x0.cell 0
  have b1 := x0.cell 1
  have b2 := x0.cell 2
  have b3 := x0.cell 3
  have b4 := x0.cell 4
  have b5 := x0.cell 5
  simp only [GA] at b0 b1 b2 b3 b4 b5
  go_enter Tryz.func22, Tryz.ntmps22
  go_wp2_with (go_at_call 56; ((with_reducible refine (HV.out _ B0).mono ?_); rintro e w3 ⟨rfl, hb3⟩))
  go_ret
  exact ⟨ret_bool (by rw [HR.out, HE.out]), below_tr B0 hb3⟩
 rw [hvv] at HV
 obtain ⟨hv1, hv2⟩ := Bool.and_eq_true_iff.1 hvv
 have hJ := jb_of hv2
 have HE1 := Lib.hid (show rgtB c l d = (decide (0 < d.length) && (ascB l.length d && ((List.range d.length).all (stpB c l d) && lastB c (jAt l (zA d (d.length - 1)).toNat)))) by unfold rgtB; rw [hvv]; rfl)
 have hcb : 1 ≤ c.ga ∧ c.ga ≤ 200000 := by
  unfold vCl at hv1
  simp only [Bool.and_eq_true, decide_eq_true_eq] at hv1
  exact hv1.2.1
 have HCB := Lib.hid hcb
 clear hvv hv1 hv2
 have b0 := x0.cell 0
 have b1 := x0.cell 1
 have b2 := x0.cell 2
 have b3 := x0.cell 3
 have b4 := x0.cell 4
 have b5 := x0.cell 5
 simp only [GA] at b0 b1 b2 b3 b4 b5
 by_cases hd0 : d.length = 0
 ·have HE := Lib.hid (show rgtB c l d = false by rw [HE1.out, hd0]; rfl)
  have hd1 : (d.length : Int) = 0 := by omega
  clear HE1
  go_enter Tryz.func22, Tryz.ntmps22
  go_wp2_with (go_at_call 56; ((with_reducible refine (HV.out _ B0).mono ?_); rintro e w3 ⟨rfl, hb3⟩))
  go_ret
  exact ⟨ret_bool (by rw [HR.out, HE.out]), below_tr B0 hb3⟩
 have hd1 : ¬ (d.length : Int) = 0 := by omega
 have hd2 : (d.length == 0) = false := beq_eq_false_iff_ne.2 hd0
 have hd3 : ((d.length : Int) == 0) = false := beq_eq_false_iff_ne.2 hd1
 cases has : ascB l.length d
 ·have HE := Lib.hid (show rgtB c l d = false by rw [HE1.out, has]; simp)
  have HA := Lib.hid (fun W hb => HAS.out _ has W hb)
  clear HE1 HAS
  go_enter Tryz.func22, Tryz.ntmps22
  go_wp2_with (first
   | (go_at_call 56; ((with_reducible refine (HV.out _ B0).mono ?_); rintro e w3 ⟨rfl, hb3⟩))
   | (go_at_call 57; ((with_reducible refine (HA.out _ (below_tr B0 hb3)).mono ?_); rintro e w' ⟨rfl, rfl⟩)))
  go_ret
  exact ⟨ret_bool (by rw [HR.out, HE.out]), below_tr B0 hb3⟩
 have HA := Lib.hid (fun W hb => HAS.out _ has W hb)
 have HIN := Lib.hid (fun k hk => asc_in has (k := k) hk)
 have HE2 := Lib.hid (show rgtB c l d = ((List.range d.length).all (stpB c l d) && lastB c (jAt l (zA d (d.length - 1)).toNat)) by rw [HE1.out, has, decide_eq_true (show 0 < d.length by omega)]; rfl)
 clear HE1 HAS has
 go_enter Tryz.func22, Tryz.ntmps22
 go_upto_region 3 with (first
   | (go_at_call 56; ((with_reducible refine (HV.out _ B0).mono ?_); rintro e w3 ⟨rfl, hb3⟩))
   | (go_at_call 57; ((with_reducible refine (HA.out _ (below_tr B0 hb3)).mono ?_); rintro e w' ⟨rfl, rfl⟩)))
 replace HX := Lib.hid (fun W (h : Below w3.heap.size w3 W) => HX.out W (below_tr hb3 h))
 replace hR := hR.on (below_tr B0 hb3)
 replace hD := hD.on (below_tr B0 hb3)
 have BW := below_tr B0 hb3
 clear b0 b1 b2 b3 b4 b5 x0 B0 HV HA hb3
 go_wp2
 go_loopw [7, 28] (fun b i wr => ∃ k : Nat, k ≤ d.length ∧ i = .int .i64 k ∧ b = .int .i64 (befA d k) ∧ Below w3.heap.size w3 wr ∧ Hid ((List.range k).all (stpB c l d) = true)) (fun _ i _ => d.length - (RowKit.intOf i).toNat)
 case atStart => exact ⟨0, by omega, rfl, rfl, below_refl _, Lib.hid rfl⟩
 case round =>
  obtain ⟨k, hk, rfl, rfl, hbw, HI⟩ := hrel
  have k0 : (0 : Int) ≤ (k : Int) := Int.natCast_nonneg _
  have hx := HX.out wr hbw
  have b0 := hx.cell 0
  have b1 := hx.cell 1
  have b2 := hx.cell 2
  have b3 := hx.cell 3
  have b4 := hx.cell 4
  have b5 := hx.cell 5
  have lx := hx.lt
  clear hx
  simp only [GA] at b0 b1 b2 b3 b4 b5
  have hbf : befA d k < (l.length : Int) := by
   unfold befA
   split
   ·omega
   ·exact (HIN.out (k - 1) (by omega)).2
  by_cases hlt : k < d.length
  ·have k1 : (k : Int) < (d.length : Int) := by omega
   obtain ⟨db, doff, rfl, hdb, d0⟩ := rdZ (hD.on hbw) hlt
   obtain ⟨z0, z1⟩ := HIN.out k hlt
   obtain ⟨m, hm⟩ := Int.eq_ofNat_of_zero_le z0
   have HST := Lib.hid (show stpB c l d k = ((jAt l m).s && folB c l (befA d k) m) by unfold stpB; rw [hm]; rfl)
   rw [hm] at d0 z1
   have hml : m < l.length := by omega
   have m0 : (0 : Int) ≤ (m : Int) := Int.natCast_nonneg _
   obtain ⟨x, jb, jo, hx, rfl, hjb, c0, c1⟩ := rdJ (hR.on hbw) hml
   have HFO := Lib.hid (fun v (h : folB c l (befA d k) m = v) W (hb : Below wr.heap.size wr W) => l_followsV (cc := cc) h hJ hml hbf ((hR.on hbw).on hb))
   have HNX := Lib.hid (show befA d (k + 1) = (m : Int) by unfold befA; rw [if_neg (by omega), Nat.add_sub_cancel, hm])
   rw [jAt_of hx] at HST
   generalize befA d k = B at *
   clear hm z0 hx
   obtain ⟨XH, XS⟩ := x
   dsimp only at *
   cases XS
   ·have HE := Lib.hid (show rgtB c l d = false by rw [HE2.out, all_noA hlt (by rw [HST.out]; rfl)]; rfl)
    clear HE2 HI HX HIN hJ HNX HST
    go_wp2
    go_ret
    exact ⟨ret_bool (by rw [HR.out, HE.out]), below_tr BW hbw⟩
   ·cases hf : folB c l B m
    ·have HE := Lib.hid (show rgtB c l d = false by rw [HE2.out, all_noA hlt (by rw [HST.out, hf]; rfl)]; rfl)
     have HF := Lib.hid (fun W hb => HFO.out _ hf W hb)
     clear HE2 HI HX HIN HNX HST HFO
     go_wp2_with (go_at_call 58; ((with_reducible refine (HF.out _ (below_refl _)).mono ?_); rintro e w5 ⟨rfl, hb5⟩))
     go_ret
     exact ⟨ret_bool (by rw [HR.out, HE.out]), below_tr BW (below_tr hbw hb5)⟩
    ·have HI1 := Lib.hid (all_stepJ HI.out (show stpB c l d k = true by rw [HST.out, hf]; rfl))
     have HF := Lib.hid (fun W hb => HFO.out _ hf W hb)
     clear HE2 HI HX HIN HST HFO
     go_wp2_with (go_at_call 58; ((with_reducible refine (HF.out _ (below_refl _)).mono ?_); rintro e w5 ⟨rfl, hb5⟩))
     go_roundw
     case rel => exact ⟨k + 1, by omega, by go_num, by rw [HNX.out], below_tr hbw hb5, HI1⟩
     case measure => simp [RowKit.intOf]; omega
  ·obtain rfl : k = d.length := by omega
   obtain ⟨z0, z1⟩ := HIN.out (d.length - 1) (by omega)
   obtain ⟨m, hm⟩ := Int.eq_ofNat_of_zero_le z0
   have hbm : befA d d.length = (m : Int) := by unfold befA; rw [if_neg hd0, hm]
   have HE := Lib.hid (show rgtB c l d = lastB c (jAt l m) by rw [HE2.out, HI.out, hm]; rfl)
   rw [hbm]
   rw [hm] at z1
   have hml : m < l.length := by omega
   have m0 : (0 : Int) ≤ (m : Int) := Int.natCast_nonneg _
   obtain ⟨x, jb, jo, hx, rfl, hjb, c0, c1⟩ := rdJ (hR.on hbw) hml
   rw [jAt_of hx] at HE
   have hJd := hJ.h m x hx
   have hc := HCB.out
   have HLS := Lib.hid (fun W => l_last c x W (by omega) (by omega))
   have BX := below_tr BW hbw
   obtain ⟨XH, XS⟩ := x
   dsimp only at *
   clear HE2 HI HX HIN hm z0 hx hR hD hbw BW hbm hbf
   go_upto_region 11 with fail
   refine wp_region_noPanic ?_
   refine wp_region_held_drew (S := (fun w' => (∀ b o, b < wr.heap.size → w'.cell? ⟨b, o, none⟩ = wr.cell? ⟨b, o, none⟩) ∧ (∀ b o, b < wr.heap.size → w'.frozen? ⟨b, o, none⟩ = wr.frozen? ⟨b, o, none⟩) ∧ Below wr.heap.size wr w')) (by kernel_rfl) (kq_draw kq_refl) (fun hS0 => ?_)
   refine tk 0 48 ?gv1 rfl ?_; try simp only [AP]
   refine tk 1 49 ?gv2 rfl ?_; try simp only [AP]
   refine tk 2 50 ?gv3 rfl ?_; try simp only [AP]
   refine tk 3 51 ?gv4 rfl ?_; try simp only [AP]
   refine tk 4 52 ?gv5 rfl ?_; try simp only [AP]
   refine wpAnyH_ready (rs := [5]) (by kernel_rfl) (by simp) ?_
   refine AllReadyH.cons rfl (fun K hK => ?_) AllReadyH.nil
   go_simp
   (go_at_call 59; ((with_reducible refine (HLS.out _).mono ?_); rintro e w3 ⟨rfl, hb3⟩; obtain ⟨hc3, hf3⟩ := bcell hb3; have hz3 := hb3.size; (try simp [SZ] at hz3); (try simp only [SZ] at hc3 hf3)))
   refine hK.out _ _ kq (fun hS1 => ?_)
   clear hK K
   try simp only [AP]
   refine tk 6 6 ?gv6 rfl ?_; try simp only [AP]
   refine wpAnyH_done (by kernel_rfl) (NoPanic.normal ?_) _
   go_wp2
   go_ret
   exact ⟨ret_bool (by rw [HR.out, HE.out]), below_tr BX bl⟩
end Go.Proofs.YtgemlddincnfcaaGreatDoor.Fi
namespace Go.Proofs.YtgemlddincnfcaaGreatDoor.Fi
open Go.RowKit Go.Lib Tx
structure Hd (w0 w : World) (b : Nat) (L : LS) (T : Nat → Prop) : Prop where
 ld : LdW w0
 bel : Below w0.heap.size w0 w
 at_ : FirmAt w b L T
 inv : Inv L.val
 safe : Safe L.val
 ff : ∀ g, Foot b L g → w0.heap.size ≤ g
section
variable {w0 w w' : World} {b : Nat} {L L' : LS} {T T' : Nat → Prop}
theorem Hd.lw (h : Hd w0 w b L T) : LdW w := h.ld.on h.bel
theorem Hd.below (h : Hd w0 w b L T) (hb : Below w.heap.size w w') : Hd w0 w' b L T := ⟨h.ld, below_tr h.bel hb, h.at_.on hb, h.inv, h.safe, h.ff⟩
theorem Hd.fut (h : Hd w0 w b L T) (hf : Fut w b L T w' L' T') (hi : Inv L'.val) (hs : Safe L'.val) : Hd w0 w' b L' T' := by
 refine ⟨h.ld, below_stp h.bel hf.stp (fun g hg e => by have := h.ff g e; omega) h.bel.size, hf.at_, hi, hs, fun g hg => ?_⟩
 rcases hf.ff g hg with h4 | h4
 ·exact h.ff g h4
 ·exact Nat.le_trans h.bel.size h4
theorem Hd.step {c : Cm} (h : Hd w0 w b L T) (hc : CmOk c) (hv : L'.val = (doC c L.val).2) (hf : Fut w b L T w' L' T') : Hd w0 w' b L' T' :=
 h.fut hf (by rw [hv]; exact inv_doC h.inv hc) (by rw [hv]; exact safe_doC h.inv h.safe)
end
def menN (l : List LSi) (k : Nat) : Int := (l.take k).foldl (fun a s => a + s.men) 0
theorem menN_zero (l : List LSi) : menN l 0 = 0 := rfl
theorem menN_step {l : List LSi} {k : Nat} {s : LSi} (h : l[k]? = some s) : menN l (k + 1) = menN l k + s.men := by
 unfold menN
 rw [List.take_add_one, h, List.foldl_append]
 rfl
theorem menN_bd {l : List LSi} (h : ∀ s ∈ l, 0 ≤ s.men ∧ s.men ≤ 16) : ∀ k, 0 ≤ menN l k ∧ menN l k ≤ 16 * (k : Int)
 | 0 => by rw [menN_zero]; omega
 | k + 1 => by
  have ih := menN_bd h k
  cases hs : l[k]? with
  | none =>
   have : menN l (k + 1) = menN l k := by unfold menN; rw [List.take_add_one, hs]; simp
   rw [this]; omega
  | some s =>
   rw [menN_step hs]
   have := h s (List.mem_of_getElem? hs)
   omega
theorem menN_all (L : LS) : menN L.sites.l L.sites.l.length = upN L.val := by
 unfold menN upN
 rw [List.take_length]
 show _ = (L.sites.l.map LSi.val).foldl (fun a s => a + s.men) 0
 rw [List.foldl_map]
 rfl
theorem Inv.menL {L : LS} (h : Inv L.val) : ∀ s ∈ L.sites.l, 0 ≤ s.men ∧ s.men ≤ 16 := fun s hs => h.sm s.val (List.mem_map.2 ⟨s, hs, rfl⟩)
theorem Safe.up_at {L : LS} (hI : Inv L.val) (hS : Safe L.val) {k : Nat} {s : LSi} (hs : L.sites.l[k]? = some s) : s.men ≠ 1 ∧ (0 < s.men → goB L.val L.val.gusts = true ∧ s.fel = false ∧ rgtB L.val.x.cl (jntA L.val (k : Int)) s.dogs.l = true) := by
 have hm : s.val ∈ L.val.sites := List.mem_map.2 ⟨s, List.mem_of_getElem? hs, rfl⟩
 obtain ⟨h1, h2⟩ := hS.site s.val hm
 refine ⟨h1, fun h0 => ⟨?_, (h2 h0).1, ?_⟩⟩
 ·rcases hS.go with h3 | h3
  ·have h4 := upN_ge (fun s hs => (hI.sm s hs).1) hm
   have h5 : s.val.men = s.men := rfl
   omega
  ·exact h3
 ·have h3 := hS.dg k s.val (by show (L.sites.l.map LSi.val)[k]? = _; rw [List.getElem?_map, hs]; rfl)
  rcases h3 with h3 | h3
  ·have h4 := (h2 h0).2
   rw [h3] at h4
   simp at h4
  ·exact h3
end Go.Proofs.YtgemlddincnfcaaGreatDoor.Fi
namespace Go.Proofs.YtgemlddincnfcaaGreatDoor.Fi
open Go
section
variable {P : Program} {ops : Array Oper} {Q : Exit → Act → World → Prop} {md : Region.Mode} {S : World → Prop} {K : List Nat}
def wpAnyM (P : Program) (md : Region.Mode) (ops : Array Oper) (Q : Exit → Act → World → Prop) (S : World → Prop) (K : List Nat) : Nat → Array Bool → Act → World → Prop
 | 0, listed, a, w => Region.ready md ops listed = [] ∧ Q .normal a w
 | fuel + 1, listed, a, w =>
  (Region.ready md ops listed = [] → Q .normal a w) ∧
  ∀ i ∈ Region.ready md ops listed, wpOp P ops Q i (fun a' w' => (K.contains i = false → S w') ∧ wpAnyM P md ops Q S K fuel (listed.setIfInBounds i true) a' w') a w
theorem wpAny_of_lasts : ∀ (fuel : Nat) (listed : Array Bool) (a : Act) (w : World), wpAnyM P md ops Q S K fuel listed a w → wpAny P md ops Q fuel listed a w
 | 0, _, _, _, h => h
 | fuel + 1, _, _, _, h => ⟨h.1, fun i hi => wpOp_mono (fun a' w' h' => wpAny_of_lasts fuel _ a' w' h'.2) (h.2 i hi)⟩
theorem wpAnyM_first {i : Nat} {oi : Oper} {v : Value} (hi : ops[i]? = some oi) (hsel : ∀ (j : Nat) (o : Oper) cs b, ops[j]? = some o → o.op ≠ .select cs b)
  (hQ : ∀ c a w, Q (.panic c) (a.put oi.dst v) w → Q (.panic c) a w) (hp : (K.all fun q => preB md ops ops.size i q) = true) (hiK : K.contains i = false) :
  ∀ (fuel : Nat) (listed : Array Bool) (a : Act) (w : World), Clos md ops listed →
   (∀ j oj, ops[j]? = some oj → j ≠ i → listed.getD j true = false → (∀ e ∈ oj.after, Region.binds md e = true → e.on ≠ i) → oi.apart ops oj = true) →
   i ∈ Region.ready md ops listed → YieldsIf P ops S oi v a → S w →
   wpAnyM P md ops Q S K fuel (listed.setIfInBounds i true) (a.put oi.dst v) w → wpAnyM P md ops Q S K (fuel + 1) listed a w := by
 intro fuel
 induction fuel with
 | zero =>
  intro listed a w _ _ hr hy hS H
  refine ⟨fun h => (by rw [h] at hr; cases hr), fun j hj => ?_⟩
  by_cases hji : j = i
  ·subst hji; exact hy.wpOp hi hS ⟨fun _ => hS, H⟩
  ·have := ready_mono hj hji
   rw [H.1] at this
   cases this
 | succ fuel ih =>
  intro listed a w hcl hfree hr hy hS H
  refine ⟨fun h => (by rw [h] at hr; cases hr), fun j hj => ?_⟩
  by_cases hji : j = i
  ·subst hji; exact hy.wpOp hi hS ⟨fun _ => hS, H⟩
  ·have hjK : K.contains j = false := by
    cases hcj : K.contains j with
    | false => rfl
    | true =>
    exfalso
    obtain ⟨_, oj, hoj, hall⟩ := mem_ready.1 hj
    have h1 := pre_done hcl ops.size j oj hoj hall (List.all_eq_true.1 hp j (List.contains_iff_mem.1 hcj))
    have h0 := (mem_ready.1 hr).1
    rcases Nat.lt_or_ge i listed.size with h' | h'
    ·simp [h'] at h0 h1; rw [h0] at h1; cases h1
    ·simp [Array.getElem?_eq_none h'] at h1
   have h1 := H.2 j (ready_mono hj hji)
   obtain ⟨hjun, oj, hoj, hall⟩ := mem_ready.1 hj
   have hnot : ∀ e ∈ oj.after, Region.binds md e = true → e.on ≠ i := fun e he hb heq => by
    have h1 := hall e he hb
    have h0 := (mem_ready.1 hr).1
    rw [heq] at h1
    rcases Nat.lt_or_ge i listed.size with h' | h'
    ·simp [h'] at h0 h1; rw [h0] at h1; cases h1
    ·simp [Array.getElem?_eq_none h'] at h1
   have h2 := wpOp_putIf hoj (hfree j oj hoj hji hjun hnot) (fun cs b => hsel i oi cs b hi) (fun cs b => hsel j oj cs b hoj) hQ hy h1
   have hfree' : ∀ k ok, ops[k]? = some ok → k ≠ i → (listed.setIfInBounds j true).getD k true = false →
     (∀ e ∈ ok.after, Region.binds md e = true → e.on ≠ i) → oi.apart ops ok = true := fun k ok hk hki hun hno => by
    refine hfree k ok hk hki ?_ hno
    by_cases hjk : j = k
    ·subst hjk; exact hjun
    ·rw [getD_set_ne true hjk] at hun; exact hun
   refine wpOp_mono (fun a' w' h3 => ⟨fun _ => h3.2.1 hjK, ih (listed.setIfInBounds j true) a' w' (clos_step hcl hj) hfree' (ready_mono hr (Ne.symm hji)) h3.1 (h3.2.1 hjK) ?_⟩) h2
   rw [Array.setIfInBounds_comm _ _ hji]
   exact h3.2.2
theorem wpAnyM_take {i : Nat} {oi : Oper} {v : Value} {fuel : Nat} {listed : Array Bool} {a : Act} {w : World} (hi : ops[i]? = some oi)
  (hs : Region.noSelect ops = true) (hf : Region.free md ops listed i = true) (hr : (Region.ready md ops listed).contains i = true) (hp : (K.all fun q => preB md ops ops.size i q) = true) (hc : closB md ops listed = true) (hiK : K.contains i = false)
  (hQ : ∀ c a w, Q (.panic c) (a.put oi.dst v) w → Q (.panic c) a w) (hy : YieldsIf P ops S oi v a) (hS : S w)
  (h : wpAnyM P md ops Q S K fuel (listed.setIfInBounds i true) (a.put oi.dst v) w) : wpAnyM P md ops Q S K (fuel + 1) listed a w :=
 wpAnyM_first hi (Region.noSelect_spec hs) hQ hp hiK fuel listed a w (clos_of hc) (Region.free_spec hi hf) (by simpa using hr) hy hS h
theorem wpAnyM_tk (i d : Nat) (v : Value) {fuel : Nat} {listed : Array Bool} {a : Act} {w : World} {op : Op} {ty pos af g} (hi : ops[i]? = some { dst := some d, op := op, type := ty, pos := pos, after := af, guard := g })
 (h : wpAnyM P md ops Q S K fuel (listed.setIfInBounds i true) (a.put (some d) v) w)
 (hy : ∀ w, S w → (execOp a.eval { dst := some d, op := op, type := ty, pos := pos, after := af, guard := g }).run P w = .ok (.value v) w := by (intro w' hSw; go_simp; try with_reducible rfl))
 (hw : Region.wanted { dst := some d, op := op, type := ty, pos := pos, after := af, guard := g } (yielded ops a.tmps) = true := by rfl) (hs : Region.noSelect ops = true := by kernel_rfl) (hf : Region.free md ops listed i = true := by kernel_rfl)
 (hr : (Region.ready md ops listed).contains i = true := by kernel_rfl) (hp : (K.all fun q => preB md ops ops.size i q) = true := by kernel_rfl) (hc : closB md ops listed = true := by kernel_rfl) (hiK : K.contains i = false := by decide)
 (hQ : ∀ c a' w, Q (.panic c) (a'.put (some d) v) w → Q (.panic c) a' w := by (intro c a w h; exact h)) (hS : S w := by assumption) : wpAnyM P md ops Q S K (fuel + 1) listed a w :=
 wpAnyM_take hi hs hf hr hp hc hiK hQ (.inl ⟨hw, hy⟩) hS h
theorem wpAnyM_done {listed : Array Bool} {a : Act} {w : World} (hr : Region.ready md ops listed = []) (h : Q .normal a w) :
  ∀ fuel, wpAnyM P md ops Q S K fuel listed a w
 | 0 => ⟨hr, h⟩
 | _ + 1 => ⟨fun _ => h, by rw [hr]; simp⟩
def AllReadyM (P : Program) (md : Region.Mode) (ops : Array Oper) (Q : Exit → Act → World → Prop) (S : World → Prop) (K : List Nat) (fuel : Nat) (listed : Array Bool) (a : Act) (w : World) (rs : List Nat) : Prop :=
 ∀ i ∈ rs, wpOp P ops Q i (fun a' w' => (K.contains i = false → S w') ∧ wpAnyM P md ops Q S K fuel (listed.setIfInBounds i true) a' w') a w
theorem AllReadyM.nil {fuel : Nat} {listed : Array Bool} {a : Act} {w : World} : AllReadyM P md ops Q S K fuel listed a w [] := fun _ h => by cases h
theorem AllReadyM.cons {fuel : Nat} {listed : Array Bool} {a : Act} {w : World} {i : Nat} {o : Oper} {rs : List Nat} (ho : ops[i]? = some o)
  (h : ∀ K' : Act → World → Prop, Shut (∀ a w, S w → (S w → wpAnyM P md ops Q S K fuel (listed.setIfInBounds i true) a w) → K' a w) → if Region.wanted o (yielded ops a.tmps) = true then Oper.wp P o a w K' Q else K' (a.put o.dst undef) w)
  (hs : AllReadyM P md ops Q S K fuel listed a w rs) : AllReadyM P md ops Q S K fuel listed a w (i :: rs) := fun j hj => by
 rcases List.mem_cons.1 hj with rfl | hj
 ·exact wpOp_step ho (fun K' hK => h K' (fun a w hS hW => hK a w ⟨fun _ => hS, hW hS⟩))
 ·exact hs j hj
theorem wpAnyM_ready {rs : List Nat} {fuel : Nat} {listed : Array Bool} {a : Act} {w : World} (hr : Region.ready md ops listed = rs) (hne : rs ≠ [])
  (h : AllReadyM P md ops Q S K fuel listed a w rs) : wpAnyM P md ops Q S K (fuel + 1) listed a w := ⟨fun h0 => absurd (hr ▸ h0) hne, hr ▸ h⟩
theorem wpAnyM_last {k : Nat} {fuel : Nat} {listed : Array Bool} {a : Act} {w : World} {o : Oper} (hk : K.contains k = true) (hr : Region.ready md ops listed = [k]) (ho : ops[k]? = some o)
  (h : ∀ K' : Act → World → Prop, Shut (∀ a w, wpAnyM P md ops Q S K fuel (listed.setIfInBounds k true) a w → K' a w) → if Region.wanted o (yielded ops a.tmps) = true then Oper.wp P o a w K' Q else K' (a.put o.dst undef) w) :
  wpAnyM P md ops Q S K (fuel + 1) listed a w := by
 refine ⟨fun h => (by rw [hr] at h; cases h), fun j hj => ?_⟩
 rw [hr] at hj
 obtain rfl := List.mem_singleton.1 hj
 exact wpOp_step ho (fun K' hK => h K' (fun a w hW => hK a w ⟨fun e => (by rw [hk] at e; cases e), hW⟩))
theorem wp_region_lasts {id : Nat} {a : Act} {w : World} (K : List Nat) (S : World → Prop) (hm : P.follows .mixedOrders = true) (hS : S w.drew)
  (h : S w.drew → wpAnyM P .any ops Q S K ops.size (Array.replicate ops.size false) a w.drew) : (Code.region id ops true).wp P Q a w :=
 wp_region_any hm (wpAny_of_lasts _ _ _ _ (h hS))
end
end Go.Proofs.YtgemlddincnfcaaGreatDoor.Fi
