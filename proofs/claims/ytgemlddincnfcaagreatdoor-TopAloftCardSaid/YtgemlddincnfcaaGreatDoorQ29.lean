/- The parts of the proof, part 29. -/
import Derived.Test.YtgemlddincnfcaaGreatDoorQ0
import Derived.Test.YtgemlddincnfcaaGreatDoorQ28
import Derived.Deep.DeepCutAuto
import Derived.Maps.AppendAt
set_option maxHeartbeats 16000000
set_option maxRecDepth 20000
set_option linter.unusedSimpArgs false
set_option linter.unusedVariables false
namespace Go.Proofs.YtgemlddincnfcaaGreatDoor.Fi
open Go.RowKit Go.Lib Tx
structure SuW (x : LSu) : Prop where
 sl : x.stk.l.length <= 100000
 sc : ∀ y ∈ x.stk.l, y.l.length <= 100000
 jl : x.jnt.l.length <= 100000
 jc : ∀ y ∈ x.jnt.l, y.l.length <= 100000
 le : -9223372036854775808 <= x.cl.le ∧ x.cl.le <= 9223372036854775807
 gl : x.gear.l.length <= 100000
 gw : ∀ i ∈ x.gear.l, G.IW i
theorem su_all {x : LSu} : vSu x.val = (wn x.stk.l.length 1 8 && (decide (x.jnt.l.length = x.stk.l.length) && (x.stk.l.all (fun y => S.validC y.l) && (x.jnt.l.all (fun y => vJ y.l) && (vCl x.cl && (G.vldG x.gear.l && (V.vRu x.ru && (vRt x.rt && wn x.men 1 16)))))))) := by
 unfold vSu LSu.val
 dsimp only
 rw [List.length_map, List.length_map, List.all_map, List.all_map]
 rfl
theorem su_no {x : LSu} {k : Nat} {y : Sl S.Course} {z : Sl Jt} (hy : x.stk.l[k]? = some y) (hz : x.jnt.l[k]? = some z) (h : S.validC y.l = false ∨ vJ z.l = false) : vSu x.val = false := by
 cases hv : vSu x.val with
 | false => rfl
 | true =>
  rw [su_all] at hv
  simp only [Bool.and_eq_true, List.all_eq_true] at hv
  have h1 := hv.2.2.1 y (List.mem_of_getElem? hy)
  have h2 := hv.2.2.2.1 z (List.mem_of_getElem? hz)
  rcases h with h | h
  ·rw [h] at h1; cases h1
  ·rw [h] at h2; cases h2
theorem all_snoc {α : Type} {f : α -> Bool} {l : List α} {k : Nat} {y : α} (hy : l[k]? = some y) (h : (l.take k).all f = true) (h2 : f y = true) : (l.take (k + 1)).all f = true := by
 rw [List.take_add_one, hy, List.all_append, h]; simp [h2]
theorem rd_slc {α : Type} {w : World} {b off : Nat} {l : List (Sl α)} {k : Nat} {y : Sl α} (h : Rd Sl.cs 1 w (some ⟨b, off, none⟩) l) (hy : l[k]? = some y) : w.cell? ⟨b, off + k, none⟩ = some y.v := by
 obtain ⟨b', off', e, hb, hc⟩ := h.get hy
 cases e
 have := hc 0 y.v rfl
 rwa [show off + k * 1 + 0 = off + k by omega] at this
theorem f_ValidSetup {T : Nat -> Prop} (x : LSu) (w : World) (hS : SuOk T w x) (hW : SuW x) : Calls Tryz.prog 32 #[.agg x.cs.toArray] w fun e w' => e = .returned (.bool (vSu x.val)) ∧ Below w.heap.size w w' := by
 obtain ⟨CA, hCA⟩ : ∃ CA, x.cs.toArray = CA := ⟨_, rfl⟩
 have HCC := Lib.hid (show ∀ (i : Nat) (v : Value), x.cs[i]? = some v -> (w.alloc (.cells CA 32)).cell? ⟨w.heap.size, i, none⟩ = some v from fun i v hv => by
  have h := (Blk.new w 32 CA).cell i
  rw [h, ← hCA]; simpa using hv)
 have B0 := bl_alloc (below_refl w) (.cells CA 32)
 have lw0 : w.heap.size < (w.alloc (.cells CA 32)).heap.size := by simp
 rw [hCA]
 clear hCA
 have HSU := Lib.hid hS
 have HSW := Lib.hid hW
 have hsl := hW.sl
 have hjl := hW.jl
 clear hS hW
 have HAL := Lib.hid (su_all (x := x))
 have HNO := Lib.hid (fun k y z => @su_no x k y z)
 obtain ⟨V0, hV0⟩ : ∃ V0, vSu x.val = V0 := ⟨_, rfl⟩
 rw [hV0] at HAL
 rw [hV0]
 have HV0 := Lib.hid hV0
 clear hV0
 obtain ⟨n, hn⟩ : ∃ n, x.stk.l.length = n := ⟨_, rfl⟩
 obtain ⟨m, hm⟩ : ∃ m, x.jnt.l.length = m := ⟨_, rfl⟩
 rw [hn] at hsl
 rw [hm] at hjl
 have HNn := Lib.hid hn
 have HMm := Lib.hid hm
 cases hwn : wn (n : Int) 1 8
 ·have HX := Lib.hid (show V0 = false by rw [HAL.out, hn, hwn]; rfl)
  clear HAL
  go_enter Tryz.func32, Tryz.ntmps32
  go_upto_region 1 with fail
  generalize w.alloc (.cells CA 32) = W0 at *
  have c0 : W0.cell? ⟨w.heap.size, 0, none⟩ = some (.slice x.stk.a x.stk.l.length x.stk.c) := HCC.out 0 _ rfl
  have c1 : W0.cell? ⟨w.heap.size, 1, none⟩ = some (.slice x.jnt.a x.jnt.l.length x.jnt.c) := HCC.out 1 _ rfl
  have c2 : W0.cell? ⟨w.heap.size, 2, none⟩ = some (.int .i64 x.cl.fi) := HCC.out 2 _ rfl
  have c3 : W0.cell? ⟨w.heap.size, 3, none⟩ = some (.int .i64 x.cl.ga) := HCC.out 3 _ rfl
  have c4 : W0.cell? ⟨w.heap.size, 4, none⟩ = some (.int .i64 x.cl.tp) := HCC.out 4 _ rfl
  have c5 : W0.cell? ⟨w.heap.size, 5, none⟩ = some (.int .i64 x.cl.le) := HCC.out 5 _ rfl
  have c6 : W0.cell? ⟨w.heap.size, 6, none⟩ = some (.int .i64 x.cl.la) := HCC.out 6 _ rfl
  have c7 : W0.cell? ⟨w.heap.size, 7, none⟩ = some (.int .i64 x.cl.st) := HCC.out 7 _ rfl
  have c8 : W0.cell? ⟨w.heap.size, 8, none⟩ = some (.slice x.gear.a x.gear.l.length x.gear.c) := HCC.out 8 _ rfl
  have c9 : W0.cell? ⟨w.heap.size, 9, none⟩ = some (.int .i64 x.ru.s) := HCC.out 9 _ rfl
  have c10 : W0.cell? ⟨w.heap.size, 10, none⟩ = some (.int .i64 x.ru.g) := HCC.out 10 _ rfl
  have c11 : W0.cell? ⟨w.heap.size, 11, none⟩ = some (.int .i64 x.ru.c) := HCC.out 11 _ rfl
  have c12 : W0.cell? ⟨w.heap.size, 12, none⟩ = some (.int .i64 x.rt.lo) := HCC.out 12 _ rfl
  have c13 : W0.cell? ⟨w.heap.size, 13, none⟩ = some (.int .i64 x.rt.hi) := HCC.out 13 _ rfl
  have c14 : W0.cell? ⟨w.heap.size, 14, none⟩ = some (.int .i64 x.rt.ab) := HCC.out 14 _ rfl
  have c15 : W0.cell? ⟨w.heap.size, 15, none⟩ = some (.int .i64 x.rt.co) := HCC.out 15 _ rfl
  have c16 : W0.cell? ⟨w.heap.size, 16, none⟩ = some (.int .i64 x.men) := HCC.out 16 _ rfl
  rw [hn] at c0
  clear HCC
  go_wp2_with (go_at_call 67; ((with_reducible refine (f_withinV hwn _).mono ?_); rintro e w' ⟨rfl, rfl⟩))
  go_ret
  exact ⟨by rw [HX.out]; rfl, B0⟩
 by_cases hmn : m = n
 rotate_left
 ·have HX := Lib.hid (show V0 = false by rw [HAL.out, hm, hn, hwn, decide_eq_false hmn]; rfl)
  have g1 : decide (m = n) = false := decide_eq_false hmn
  have g2 : decide ((m : Int) = (n : Int)) = false := decide_eq_false (by omega)
  clear HAL
  go_enter Tryz.func32, Tryz.ntmps32
  go_upto_region 1 with fail
  generalize w.alloc (.cells CA 32) = W0 at *
  have c0 : W0.cell? ⟨w.heap.size, 0, none⟩ = some (.slice x.stk.a x.stk.l.length x.stk.c) := HCC.out 0 _ rfl
  have c1 : W0.cell? ⟨w.heap.size, 1, none⟩ = some (.slice x.jnt.a x.jnt.l.length x.jnt.c) := HCC.out 1 _ rfl
  have c2 : W0.cell? ⟨w.heap.size, 2, none⟩ = some (.int .i64 x.cl.fi) := HCC.out 2 _ rfl
  have c3 : W0.cell? ⟨w.heap.size, 3, none⟩ = some (.int .i64 x.cl.ga) := HCC.out 3 _ rfl
  have c4 : W0.cell? ⟨w.heap.size, 4, none⟩ = some (.int .i64 x.cl.tp) := HCC.out 4 _ rfl
  have c5 : W0.cell? ⟨w.heap.size, 5, none⟩ = some (.int .i64 x.cl.le) := HCC.out 5 _ rfl
  have c6 : W0.cell? ⟨w.heap.size, 6, none⟩ = some (.int .i64 x.cl.la) := HCC.out 6 _ rfl
  have c7 : W0.cell? ⟨w.heap.size, 7, none⟩ = some (.int .i64 x.cl.st) := HCC.out 7 _ rfl
  have c8 : W0.cell? ⟨w.heap.size, 8, none⟩ = some (.slice x.gear.a x.gear.l.length x.gear.c) := HCC.out 8 _ rfl
  have c9 : W0.cell? ⟨w.heap.size, 9, none⟩ = some (.int .i64 x.ru.s) := HCC.out 9 _ rfl
  have c10 : W0.cell? ⟨w.heap.size, 10, none⟩ = some (.int .i64 x.ru.g) := HCC.out 10 _ rfl
  have c11 : W0.cell? ⟨w.heap.size, 11, none⟩ = some (.int .i64 x.ru.c) := HCC.out 11 _ rfl
  have c12 : W0.cell? ⟨w.heap.size, 12, none⟩ = some (.int .i64 x.rt.lo) := HCC.out 12 _ rfl
  have c13 : W0.cell? ⟨w.heap.size, 13, none⟩ = some (.int .i64 x.rt.hi) := HCC.out 13 _ rfl
  have c14 : W0.cell? ⟨w.heap.size, 14, none⟩ = some (.int .i64 x.rt.ab) := HCC.out 14 _ rfl
  have c15 : W0.cell? ⟨w.heap.size, 15, none⟩ = some (.int .i64 x.rt.co) := HCC.out 15 _ rfl
  have c16 : W0.cell? ⟨w.heap.size, 16, none⟩ = some (.int .i64 x.men) := HCC.out 16 _ rfl
  rw [hn] at c0
  rw [hm] at c1
  clear HCC
  go_wp2_with (go_at_call 67; ((with_reducible refine (f_withinV hwn _).mono ?_); rintro e w' ⟨rfl, rfl⟩))
  go_ret
  exact ⟨by rw [HX.out]; rfl, B0⟩
 subst hmn
 go_enter Tryz.func32, Tryz.ntmps32
 go_upto_region 1 with fail
 generalize w.alloc (.cells CA 32) = W0 at *
 have c0 : W0.cell? ⟨w.heap.size, 0, none⟩ = some (.slice x.stk.a x.stk.l.length x.stk.c) := HCC.out 0 _ rfl
 have c1 : W0.cell? ⟨w.heap.size, 1, none⟩ = some (.slice x.jnt.a x.jnt.l.length x.jnt.c) := HCC.out 1 _ rfl
 have c2 : W0.cell? ⟨w.heap.size, 2, none⟩ = some (.int .i64 x.cl.fi) := HCC.out 2 _ rfl
 have c3 : W0.cell? ⟨w.heap.size, 3, none⟩ = some (.int .i64 x.cl.ga) := HCC.out 3 _ rfl
 have c4 : W0.cell? ⟨w.heap.size, 4, none⟩ = some (.int .i64 x.cl.tp) := HCC.out 4 _ rfl
 have c5 : W0.cell? ⟨w.heap.size, 5, none⟩ = some (.int .i64 x.cl.le) := HCC.out 5 _ rfl
 have c6 : W0.cell? ⟨w.heap.size, 6, none⟩ = some (.int .i64 x.cl.la) := HCC.out 6 _ rfl
 have c7 : W0.cell? ⟨w.heap.size, 7, none⟩ = some (.int .i64 x.cl.st) := HCC.out 7 _ rfl
 have c8 : W0.cell? ⟨w.heap.size, 8, none⟩ = some (.slice x.gear.a x.gear.l.length x.gear.c) := HCC.out 8 _ rfl
 have c9 : W0.cell? ⟨w.heap.size, 9, none⟩ = some (.int .i64 x.ru.s) := HCC.out 9 _ rfl
 have c10 : W0.cell? ⟨w.heap.size, 10, none⟩ = some (.int .i64 x.ru.g) := HCC.out 10 _ rfl
 have c11 : W0.cell? ⟨w.heap.size, 11, none⟩ = some (.int .i64 x.ru.c) := HCC.out 11 _ rfl
 have c12 : W0.cell? ⟨w.heap.size, 12, none⟩ = some (.int .i64 x.rt.lo) := HCC.out 12 _ rfl
 have c13 : W0.cell? ⟨w.heap.size, 13, none⟩ = some (.int .i64 x.rt.hi) := HCC.out 13 _ rfl
 have c14 : W0.cell? ⟨w.heap.size, 14, none⟩ = some (.int .i64 x.rt.ab) := HCC.out 14 _ rfl
 have c15 : W0.cell? ⟨w.heap.size, 15, none⟩ = some (.int .i64 x.rt.co) := HCC.out 15 _ rfl
 have c16 : W0.cell? ⟨w.heap.size, 16, none⟩ = some (.int .i64 x.men) := HCC.out 16 _ rfl
 rw [hn] at c0
 rw [hm] at c1
 clear HCC
 have HB0 := Lib.hid B0
 clear hn hm
 go_wp2_with (go_at_call 67; ((with_reducible refine (f_withinV hwn _).mono ?_); rintro e w' ⟨rfl, rfl⟩))
 go_loopw [22] (fun i wr => ∃ k : Nat, k <= m ∧ i = .int .i64 k ∧ Below W0.heap.size W0 wr ∧ Hid ((x.stk.l.take k).all (fun y => S.validC y.l) = true ∧ (x.jnt.l.take k).all (fun y => vJ y.l) = true)) (fun i _ => m - (RowKit.intOf i).toNat)
 case atStart => exact ⟨0, Nat.zero_le _, rfl, below_refl _, Lib.hid ⟨rfl, rfl⟩⟩
 case round =>
  obtain ⟨k, hk, rfl, hbw, HI⟩ := hrel
  have k0 := nn k
  have BW := below_tr HB0.out hbw
  have lwr := Nat.lt_of_lt_of_le lw0 hbw.size
  have d1 := ((bcell hbw).1 w.heap.size 1 lw0).trans c1
  by_cases hlt : k < m
  ·have k1 : (k : Int) < (m : Int) := by omega
   obtain ⟨y, hy⟩ := get_lt (l := x.stk.l) (k := k) (by rw [HNn.out]; omega)
   obtain ⟨z, hz⟩ := get_lt (l := x.jnt.l) (k := k) (by rw [HMm.out]; omega)
   obtain ⟨b1, o1, ha1, lb1, _⟩ := (HSU.out.stk.on BW).rd.get hy
   obtain ⟨b2, o2, ha2, lb2, _⟩ := (HSU.out.jnt.on BW).rd.get hz
   have cy := rd_slc (ha1 ▸ (HSU.out.stk.on BW).rd) hy
   have cz := rd_slc (ha2 ▸ (HSU.out.jnt.on BW).rd) hz
   rw [ha1] at c0 ⊢
   rw [ha2] at c1 d1 ⊢
   have HSV := Lib.hid (fun W (h : Below w.heap.size w W) => S.s_valid y.a y.l y.c W (HSW.out.sc y (List.mem_of_getElem? hy)) ((HSU.out.stks y (List.mem_of_getElem? hy)).on h).rd)
   have HJV := Lib.hid (fun W (h : Below w.heap.size w W) => l_ValidJoints z.a z.l z.c W (HSW.out.jc z (List.mem_of_getElem? hz)) ((HSU.out.jnts z (List.mem_of_getElem? hz)).on h).rd)
   have HY := Lib.hid hy
   have HZ := Lib.hid hz
   clear hy hz ha1 ha2
   cases hv1 : S.validC y.l
   ·rw [hv1] at HSV
    have HX := Lib.hid (show V0 = false by rw [← HV0.out]; exact HNO.out k y z HY.out HZ.out (.inl hv1))
    go_wp2_with (first | (go_at_call 68; ((with_reducible refine (HSV.out _ BW).mono ?_); rintro e w2 ⟨rfl, hb2⟩; have BW2 := below_tr BW hb2; have e1 := ((bcell hb2).1 w.heap.size 1 lwr).trans d1; have ez := cell_on cz hb2)) | (go_at_call 69; ((with_reducible refine (HJV.out _ BW2).mono ?_); rintro e w3 ⟨rfl, hb3⟩; have BW3 := below_tr BW2 hb3)))
    go_ret
    exact ⟨by rw [HX.out]; rfl, BW2⟩
   rw [hv1] at HSV
   cases hv2 : vJ z.l
   ·rw [hv2] at HJV
    have HX := Lib.hid (show V0 = false by rw [← HV0.out]; exact HNO.out k y z HY.out HZ.out (.inr hv2))
    go_wp2_with (first | (go_at_call 68; ((with_reducible refine (HSV.out _ BW).mono ?_); rintro e w2 ⟨rfl, hb2⟩; have BW2 := below_tr BW hb2; have e1 := ((bcell hb2).1 w.heap.size 1 lwr).trans d1; have ez := cell_on cz hb2)) | (go_at_call 69; ((with_reducible refine (HJV.out _ BW2).mono ?_); rintro e w3 ⟨rfl, hb3⟩; have BW3 := below_tr BW2 hb3)))
    go_ret
    exact ⟨by rw [HX.out]; rfl, BW3⟩
   rw [hv2] at HJV
   have HV1 := Lib.hid hv1
   have HV2 := Lib.hid hv2
   clear hv1 hv2
   go_wp2_with (first | (go_at_call 68; ((with_reducible refine (HSV.out _ BW).mono ?_); rintro e w2 ⟨rfl, hb2⟩; have BW2 := below_tr BW hb2; have e1 := ((bcell hb2).1 w.heap.size 1 lwr).trans d1; have ez := cell_on cz hb2)) | (go_at_call 69; ((with_reducible refine (HJV.out _ BW2).mono ?_); rintro e w3 ⟨rfl, hb3⟩; have BW3 := below_tr BW2 hb3)))
   go_roundw
   case rel => exact ⟨k + 1, by omega, by go_num, below_tr hbw (below_tr hb2 hb3), Lib.hid ⟨all_snoc HY.out HI.out.1 HV1.out, all_snoc HZ.out HI.out.2 HV2.out⟩⟩
   case measure => simp [RowKit.intOf]; omega
  ·obtain rfl : k = m := by omega
   have HAX := Lib.hid (show V0 = (vCl x.cl && (G.vldG x.gear.l && (V.vRu x.ru && (vRt x.rt && wn x.men 1 16)))) by
    have h1 := HI.out.1
    have h2 := HI.out.2
    rw [List.take_of_length_le (by rw [HNn.out]; omega)] at h1
    rw [List.take_of_length_le (by rw [HMm.out]; omega)] at h2
    rw [HAL.out, HNn.out, HMm.out, hwn, h1, h2]
    simp)
   have HLE := Lib.hid HSW.out.le
   have HGV := Lib.hid (fun W (h : Below w.heap.size w W) => G.p_Valid x.gear.a x.gear.l x.gear.c W HSW.out.gl (HSU.out.gear.on h).rd HSW.out.gw)
   have HRT := Lib.hid (fun W => j_ValidRate x.rt W)
   clear HAL HI d1
   have d2 := ((bcell hbw).1 w.heap.size 2 lw0).trans c2
   have d3 := ((bcell hbw).1 w.heap.size 3 lw0).trans c3
   have d4 := ((bcell hbw).1 w.heap.size 4 lw0).trans c4
   have d5 := ((bcell hbw).1 w.heap.size 5 lw0).trans c5
   have d6 := ((bcell hbw).1 w.heap.size 6 lw0).trans c6
   have d7 := ((bcell hbw).1 w.heap.size 7 lw0).trans c7
   have d8 := ((bcell hbw).1 w.heap.size 8 lw0).trans c8
   have d9 := ((bcell hbw).1 w.heap.size 9 lw0).trans c9
   have d10 := ((bcell hbw).1 w.heap.size 10 lw0).trans c10
   have d11 := ((bcell hbw).1 w.heap.size 11 lw0).trans c11
   have d12 := ((bcell hbw).1 w.heap.size 12 lw0).trans c12
   have d13 := ((bcell hbw).1 w.heap.size 13 lw0).trans c13
   have d14 := ((bcell hbw).1 w.heap.size 14 lw0).trans c14
   have d15 := ((bcell hbw).1 w.heap.size 15 lw0).trans c15
   have d16 := ((bcell hbw).1 w.heap.size 16 lw0).trans c16
   clear c0 c1 c2 c3 c4 c5 c6 c7 c8 c9 c10 c11 c12 c13 c14 c15 c16
   cases hv0 : vCl x.cl
   ·have HX := Lib.hid (show V0 = false by rw [HAX.out, hv0]; rfl)
    go_wp2_with (first | (go_at_call 70; ((with_reducible refine (l_ValidClimbW hv0 _ HLE.out).mono ?_); rintro e w2 ⟨rfl, hb2⟩; have BW2 := below_tr BW hb2; have lw2 := Nat.lt_of_lt_of_le lwr hb2.size; replace d8 := ((bcell hb2).1 w.heap.size 8 lwr).trans d8; replace d9 := ((bcell hb2).1 w.heap.size 9 lwr).trans d9; replace d10 := ((bcell hb2).1 w.heap.size 10 lwr).trans d10; replace d11 := ((bcell hb2).1 w.heap.size 11 lwr).trans d11; replace d12 := ((bcell hb2).1 w.heap.size 12 lwr).trans d12; replace d13 := ((bcell hb2).1 w.heap.size 13 lwr).trans d13; replace d14 := ((bcell hb2).1 w.heap.size 14 lwr).trans d14; replace d15 := ((bcell hb2).1 w.heap.size 15 lwr).trans d15; replace d16 := ((bcell hb2).1 w.heap.size 16 lwr).trans d16)))
    go_ret
    exact ⟨by rw [HX.out]; rfl, BW2⟩
   cases hv1 : G.vldG x.gear.l
   ·have HX := Lib.hid (show V0 = false by rw [HAX.out, hv0, hv1]; rfl)
    rw [hv1] at HGV
    go_wp2_with (first | (go_at_call 70; ((with_reducible refine (l_ValidClimbW hv0 _ HLE.out).mono ?_); rintro e w2 ⟨rfl, hb2⟩; have BW2 := below_tr BW hb2; have lw2 := Nat.lt_of_lt_of_le lwr hb2.size; replace d8 := ((bcell hb2).1 w.heap.size 8 lwr).trans d8; replace d9 := ((bcell hb2).1 w.heap.size 9 lwr).trans d9; replace d10 := ((bcell hb2).1 w.heap.size 10 lwr).trans d10; replace d11 := ((bcell hb2).1 w.heap.size 11 lwr).trans d11; replace d12 := ((bcell hb2).1 w.heap.size 12 lwr).trans d12; replace d13 := ((bcell hb2).1 w.heap.size 13 lwr).trans d13; replace d14 := ((bcell hb2).1 w.heap.size 14 lwr).trans d14; replace d15 := ((bcell hb2).1 w.heap.size 15 lwr).trans d15; replace d16 := ((bcell hb2).1 w.heap.size 16 lwr).trans d16)) | (go_at_call 71; ((with_reducible refine (HGV.out _ BW2).mono ?_); rintro e w3 ⟨rfl, hb3⟩; have BW3 := below_tr BW2 hb3; have lw3 := Nat.lt_of_lt_of_le lw2 hb3.size; replace d9 := ((bcell hb3).1 w.heap.size 9 lw2).trans d9; replace d10 := ((bcell hb3).1 w.heap.size 10 lw2).trans d10; replace d11 := ((bcell hb3).1 w.heap.size 11 lw2).trans d11; replace d12 := ((bcell hb3).1 w.heap.size 12 lw2).trans d12; replace d13 := ((bcell hb3).1 w.heap.size 13 lw2).trans d13; replace d14 := ((bcell hb3).1 w.heap.size 14 lw2).trans d14; replace d15 := ((bcell hb3).1 w.heap.size 15 lw2).trans d15; replace d16 := ((bcell hb3).1 w.heap.size 16 lw2).trans d16)))
    go_ret
    exact ⟨by rw [HX.out]; rfl, BW3⟩
   rw [hv1] at HGV
   cases hv2 : V.vRu x.ru
   ·have HX := Lib.hid (show V0 = false by rw [HAX.out, hv0, hv1, hv2]; rfl)
    go_wp2_with (first | (go_at_call 70; ((with_reducible refine (l_ValidClimbW hv0 _ HLE.out).mono ?_); rintro e w2 ⟨rfl, hb2⟩; have BW2 := below_tr BW hb2; have lw2 := Nat.lt_of_lt_of_le lwr hb2.size; replace d8 := ((bcell hb2).1 w.heap.size 8 lwr).trans d8; replace d9 := ((bcell hb2).1 w.heap.size 9 lwr).trans d9; replace d10 := ((bcell hb2).1 w.heap.size 10 lwr).trans d10; replace d11 := ((bcell hb2).1 w.heap.size 11 lwr).trans d11; replace d12 := ((bcell hb2).1 w.heap.size 12 lwr).trans d12; replace d13 := ((bcell hb2).1 w.heap.size 13 lwr).trans d13; replace d14 := ((bcell hb2).1 w.heap.size 14 lwr).trans d14; replace d15 := ((bcell hb2).1 w.heap.size 15 lwr).trans d15; replace d16 := ((bcell hb2).1 w.heap.size 16 lwr).trans d16)) | (go_at_call 71; ((with_reducible refine (HGV.out _ BW2).mono ?_); rintro e w3 ⟨rfl, hb3⟩; have BW3 := below_tr BW2 hb3; have lw3 := Nat.lt_of_lt_of_le lw2 hb3.size; replace d9 := ((bcell hb3).1 w.heap.size 9 lw2).trans d9; replace d10 := ((bcell hb3).1 w.heap.size 10 lw2).trans d10; replace d11 := ((bcell hb3).1 w.heap.size 11 lw2).trans d11; replace d12 := ((bcell hb3).1 w.heap.size 12 lw2).trans d12; replace d13 := ((bcell hb3).1 w.heap.size 13 lw2).trans d13; replace d14 := ((bcell hb3).1 w.heap.size 14 lw2).trans d14; replace d15 := ((bcell hb3).1 w.heap.size 15 lw2).trans d15; replace d16 := ((bcell hb3).1 w.heap.size 16 lw2).trans d16)) | (go_at_call 72; ((with_reducible refine (V.p_ValidRuleV hv2 _).mono ?_); rintro e w4 ⟨rfl, hb4⟩; have BW4 := below_tr BW3 hb4; have lw4 := Nat.lt_of_lt_of_le lw3 hb4.size; replace d12 := ((bcell hb4).1 w.heap.size 12 lw3).trans d12; replace d13 := ((bcell hb4).1 w.heap.size 13 lw3).trans d13; replace d14 := ((bcell hb4).1 w.heap.size 14 lw3).trans d14; replace d15 := ((bcell hb4).1 w.heap.size 15 lw3).trans d15; replace d16 := ((bcell hb4).1 w.heap.size 16 lw3).trans d16)))
    go_ret
    exact ⟨by rw [HX.out]; rfl, BW4⟩
   cases hv3 : vRt x.rt
   ·have HX := Lib.hid (show V0 = false by rw [HAX.out, hv0, hv1, hv2, hv3]; rfl)
    rw [hv3] at HRT
    go_wp2_with (first | (go_at_call 70; ((with_reducible refine (l_ValidClimbW hv0 _ HLE.out).mono ?_); rintro e w2 ⟨rfl, hb2⟩; have BW2 := below_tr BW hb2; have lw2 := Nat.lt_of_lt_of_le lwr hb2.size; replace d8 := ((bcell hb2).1 w.heap.size 8 lwr).trans d8; replace d9 := ((bcell hb2).1 w.heap.size 9 lwr).trans d9; replace d10 := ((bcell hb2).1 w.heap.size 10 lwr).trans d10; replace d11 := ((bcell hb2).1 w.heap.size 11 lwr).trans d11; replace d12 := ((bcell hb2).1 w.heap.size 12 lwr).trans d12; replace d13 := ((bcell hb2).1 w.heap.size 13 lwr).trans d13; replace d14 := ((bcell hb2).1 w.heap.size 14 lwr).trans d14; replace d15 := ((bcell hb2).1 w.heap.size 15 lwr).trans d15; replace d16 := ((bcell hb2).1 w.heap.size 16 lwr).trans d16)) | (go_at_call 71; ((with_reducible refine (HGV.out _ BW2).mono ?_); rintro e w3 ⟨rfl, hb3⟩; have BW3 := below_tr BW2 hb3; have lw3 := Nat.lt_of_lt_of_le lw2 hb3.size; replace d9 := ((bcell hb3).1 w.heap.size 9 lw2).trans d9; replace d10 := ((bcell hb3).1 w.heap.size 10 lw2).trans d10; replace d11 := ((bcell hb3).1 w.heap.size 11 lw2).trans d11; replace d12 := ((bcell hb3).1 w.heap.size 12 lw2).trans d12; replace d13 := ((bcell hb3).1 w.heap.size 13 lw2).trans d13; replace d14 := ((bcell hb3).1 w.heap.size 14 lw2).trans d14; replace d15 := ((bcell hb3).1 w.heap.size 15 lw2).trans d15; replace d16 := ((bcell hb3).1 w.heap.size 16 lw2).trans d16)) | (go_at_call 72; ((with_reducible refine (V.p_ValidRuleV hv2 _).mono ?_); rintro e w4 ⟨rfl, hb4⟩; have BW4 := below_tr BW3 hb4; have lw4 := Nat.lt_of_lt_of_le lw3 hb4.size; replace d12 := ((bcell hb4).1 w.heap.size 12 lw3).trans d12; replace d13 := ((bcell hb4).1 w.heap.size 13 lw3).trans d13; replace d14 := ((bcell hb4).1 w.heap.size 14 lw3).trans d14; replace d15 := ((bcell hb4).1 w.heap.size 15 lw3).trans d15; replace d16 := ((bcell hb4).1 w.heap.size 16 lw3).trans d16)) | (go_at_call 73; ((with_reducible refine (HRT.out _).mono ?_); rintro e w5 ⟨rfl, hb5⟩; have BW5 := below_tr BW4 hb5; have lw5 := Nat.lt_of_lt_of_le lw4 hb5.size; replace d16 := ((bcell hb5).1 w.heap.size 16 lw4).trans d16)))
    go_ret
    exact ⟨by rw [HX.out]; rfl, BW5⟩
   rw [hv3] at HRT
   cases hv4 : wn x.men 1 16
   ·have HX := Lib.hid (show V0 = false by rw [HAX.out, hv0, hv1, hv2, hv3, hv4]; rfl)
    go_wp2_with (first | (go_at_call 70; ((with_reducible refine (l_ValidClimbW hv0 _ HLE.out).mono ?_); rintro e w2 ⟨rfl, hb2⟩; have BW2 := below_tr BW hb2; have lw2 := Nat.lt_of_lt_of_le lwr hb2.size; replace d8 := ((bcell hb2).1 w.heap.size 8 lwr).trans d8; replace d9 := ((bcell hb2).1 w.heap.size 9 lwr).trans d9; replace d10 := ((bcell hb2).1 w.heap.size 10 lwr).trans d10; replace d11 := ((bcell hb2).1 w.heap.size 11 lwr).trans d11; replace d12 := ((bcell hb2).1 w.heap.size 12 lwr).trans d12; replace d13 := ((bcell hb2).1 w.heap.size 13 lwr).trans d13; replace d14 := ((bcell hb2).1 w.heap.size 14 lwr).trans d14; replace d15 := ((bcell hb2).1 w.heap.size 15 lwr).trans d15; replace d16 := ((bcell hb2).1 w.heap.size 16 lwr).trans d16)) | (go_at_call 71; ((with_reducible refine (HGV.out _ BW2).mono ?_); rintro e w3 ⟨rfl, hb3⟩; have BW3 := below_tr BW2 hb3; have lw3 := Nat.lt_of_lt_of_le lw2 hb3.size; replace d9 := ((bcell hb3).1 w.heap.size 9 lw2).trans d9; replace d10 := ((bcell hb3).1 w.heap.size 10 lw2).trans d10; replace d11 := ((bcell hb3).1 w.heap.size 11 lw2).trans d11; replace d12 := ((bcell hb3).1 w.heap.size 12 lw2).trans d12; replace d13 := ((bcell hb3).1 w.heap.size 13 lw2).trans d13; replace d14 := ((bcell hb3).1 w.heap.size 14 lw2).trans d14; replace d15 := ((bcell hb3).1 w.heap.size 15 lw2).trans d15; replace d16 := ((bcell hb3).1 w.heap.size 16 lw2).trans d16)) | (go_at_call 72; ((with_reducible refine (V.p_ValidRuleV hv2 _).mono ?_); rintro e w4 ⟨rfl, hb4⟩; have BW4 := below_tr BW3 hb4; have lw4 := Nat.lt_of_lt_of_le lw3 hb4.size; replace d12 := ((bcell hb4).1 w.heap.size 12 lw3).trans d12; replace d13 := ((bcell hb4).1 w.heap.size 13 lw3).trans d13; replace d14 := ((bcell hb4).1 w.heap.size 14 lw3).trans d14; replace d15 := ((bcell hb4).1 w.heap.size 15 lw3).trans d15; replace d16 := ((bcell hb4).1 w.heap.size 16 lw3).trans d16)) | (go_at_call 73; ((with_reducible refine (HRT.out _).mono ?_); rintro e w5 ⟨rfl, hb5⟩; have BW5 := below_tr BW4 hb5; have lw5 := Nat.lt_of_lt_of_le lw4 hb5.size; replace d16 := ((bcell hb5).1 w.heap.size 16 lw4).trans d16)) | (go_at_call 67; ((with_reducible refine (f_withinV hv4 _).mono ?_); rintro e w' ⟨rfl, rfl⟩)))
    go_ret
    exact ⟨by rw [HX.out]; rfl, BW5⟩
   have HX := Lib.hid (show V0 = true by rw [HAX.out, hv0, hv1, hv2, hv3, hv4]; rfl)
   go_wp2_with (first | (go_at_call 70; ((with_reducible refine (l_ValidClimbW hv0 _ HLE.out).mono ?_); rintro e w2 ⟨rfl, hb2⟩; have BW2 := below_tr BW hb2; have lw2 := Nat.lt_of_lt_of_le lwr hb2.size; replace d8 := ((bcell hb2).1 w.heap.size 8 lwr).trans d8; replace d9 := ((bcell hb2).1 w.heap.size 9 lwr).trans d9; replace d10 := ((bcell hb2).1 w.heap.size 10 lwr).trans d10; replace d11 := ((bcell hb2).1 w.heap.size 11 lwr).trans d11; replace d12 := ((bcell hb2).1 w.heap.size 12 lwr).trans d12; replace d13 := ((bcell hb2).1 w.heap.size 13 lwr).trans d13; replace d14 := ((bcell hb2).1 w.heap.size 14 lwr).trans d14; replace d15 := ((bcell hb2).1 w.heap.size 15 lwr).trans d15; replace d16 := ((bcell hb2).1 w.heap.size 16 lwr).trans d16)) | (go_at_call 71; ((with_reducible refine (HGV.out _ BW2).mono ?_); rintro e w3 ⟨rfl, hb3⟩; have BW3 := below_tr BW2 hb3; have lw3 := Nat.lt_of_lt_of_le lw2 hb3.size; replace d9 := ((bcell hb3).1 w.heap.size 9 lw2).trans d9; replace d10 := ((bcell hb3).1 w.heap.size 10 lw2).trans d10; replace d11 := ((bcell hb3).1 w.heap.size 11 lw2).trans d11; replace d12 := ((bcell hb3).1 w.heap.size 12 lw2).trans d12; replace d13 := ((bcell hb3).1 w.heap.size 13 lw2).trans d13; replace d14 := ((bcell hb3).1 w.heap.size 14 lw2).trans d14; replace d15 := ((bcell hb3).1 w.heap.size 15 lw2).trans d15; replace d16 := ((bcell hb3).1 w.heap.size 16 lw2).trans d16)) | (go_at_call 72; ((with_reducible refine (V.p_ValidRuleV hv2 _).mono ?_); rintro e w4 ⟨rfl, hb4⟩; have BW4 := below_tr BW3 hb4; have lw4 := Nat.lt_of_lt_of_le lw3 hb4.size; replace d12 := ((bcell hb4).1 w.heap.size 12 lw3).trans d12; replace d13 := ((bcell hb4).1 w.heap.size 13 lw3).trans d13; replace d14 := ((bcell hb4).1 w.heap.size 14 lw3).trans d14; replace d15 := ((bcell hb4).1 w.heap.size 15 lw3).trans d15; replace d16 := ((bcell hb4).1 w.heap.size 16 lw3).trans d16)) | (go_at_call 73; ((with_reducible refine (HRT.out _).mono ?_); rintro e w5 ⟨rfl, hb5⟩; have BW5 := below_tr BW4 hb5; have lw5 := Nat.lt_of_lt_of_le lw4 hb5.size; replace d16 := ((bcell hb5).1 w.heap.size 16 lw4).trans d16)) | (go_at_call 67; ((with_reducible refine (f_withinV hv4 _).mono ?_); rintro e w' ⟨rfl, rfl⟩)))
   go_ret
   exact ⟨by rw [HX.out]; rfl, BW5⟩
def ClsP {α : Type} (enc : α -> List Value) (sz : Nat) (t : TypeId) (l : List (Sl α)) (w : World) (e : Ending) (w' : World) : Prop :=
 ∃ ys : Sl (Sl α), e = .returned ys.v ∧ ys.l.map (·.l) = l.map (·.l) ∧ w'.ownsRow w.heap.size t 1 ys.v ys.l.length (fl Sl.cs ys.l) ∧ (∀ y ∈ ys.l, Got (fun b => w.heap.size <= b) w' enc sz y) ∧ Below w.heap.size w w'
theorem info_SlC : ∃ i : TypeInfo, Tryz.prog.info? 75 = some i ∧ i.zero = some (.slice none 0 0) ∧ i.size = 1 ∧ i.bytes = 24 := info_parts (by kernel_rfl)
theorem info_SlJ : ∃ i : TypeInfo, Tryz.prog.info? 60 = some i ∧ i.zero = some (.slice none 0 0) ∧ i.size = 1 ∧ i.bytes = 24 := info_parts (by kernel_rfl)
theorem map_snoc {α : Type} {ys l : List (Sl α)} {k : Nat} {x y : Sl α} (hx : l[k]? = some x) (h : ys.map (·.l) = (l.take k).map (·.l)) (hy : y.l = x.l) : (ys ++ [y]).map (·.l) = (l.take (k + 1)).map (·.l) := by
 rw [List.take_add_one, hx, List.map_append, List.map_append, h]; simp [hy]
theorem fl_snc {α : Type} (ys : List (Sl α)) (y : Sl α) : fl Sl.cs (ys ++ [y]) = fl Sl.cs ys ++ [y.v] := by simp [fl, Sl.cs]
theorem f_clonesC {T : Nat -> Prop} (x : Sl (Sl S.Course)) (w : World) (hl : x.l.length <= 100000) (hR : Rd Sl.cs 1 w x.a x.l) (hE : ∀ y ∈ x.l, y.l.length <= 100000 ∧ Got T w S.Course.cs 6 y) :
  Calls Tryz.prog 74 #[.slice x.a x.l.length x.c] w (ClsP S.Course.cs 6 75 x.l w) := by
 obtain ⟨i0, hi, hi1, hi2, hi3⟩ := info_SlC
 obtain ⟨A, l, c⟩ := x
 dsimp only at *
 obtain ⟨n, hn⟩ : ∃ n, l.length = n := ⟨_, rfl⟩
 rw [hn]
 rw [hn] at hl
 have HN := Lib.hid hn
 have HR := Lib.hid hR
 have HE := Lib.hid hE
 clear hn hR hE
 go_enter Tryz.func74, Tryz.ntmps74
 go_wp2
 go_loopw [3, 8] (fun v i wr => ∃ (k : Nat) (ys : List (Sl S.Course)), k <= n ∧ i = .int .i64 k ∧ Hid (ys.length = k ∧ ys.map (·.l) = (l.take k).map (·.l)) ∧ wr.ownsRow w.heap.size 75 1 v k (fl Sl.cs ys) ∧ Below w.heap.size w wr ∧ Hid (∀ y ∈ ys, Got (fun b => w.heap.size <= b ∧ v.ownBlock ≠ some b) wr S.Course.cs 6 y)) (fun _ i _ => n - (RowKit.intOf i).toNat)
 case atStart => exact ⟨0, [], Nat.zero_le _, rfl, Lib.hid ⟨rfl, rfl⟩, World.ownsRow_nil w _ _ _, below_refl _, Lib.hid (fun y hy => by cases hy)⟩
 case round =>
  obtain ⟨k, ys, hk, rfl, HY, hown, hbw, HG⟩ := hrel
  obtain ⟨ad, cp, rfl⟩ := own_slice hown
  have hbvs := hbw.size
  have k0 := nn k
  by_cases hlt : k < n
  ·have k1 : (k : Int) < (n : Int) := by omega
   obtain ⟨x, hx⟩ := get_lt (l := l) (k := k) (by rw [HN.out]; omega)
   obtain ⟨b1, o1, ha1, lb1, _⟩ := (HR.out.on hbw).get hx
   have cx := rd_slc (ha1 ▸ (HR.out.on hbw)) hx
   rw [ha1]
   have hxe := HE.out x (List.mem_of_getElem? hx)
   have HCL := Lib.hid (show Calls Tryz.prog 126 #[.slice x.a x.l.length x.c] wr (CloP S.Course.cs 6 99 x.l wr) from c_CloneCourse x wr hxe.1 (hxe.2.on hbw).rd)
   have HX := Lib.hid hx
   clear hx hxe ha1
   go_wp2_with (first
    | (go_at_call 126; ((with_reducible refine HCL.out.mono ?_); rintro e w3 ⟨y3, rfl, hy3, ho3, hle3, hcm3, hb3⟩; have hz3 := hb3.size))
    | (at_builtin; refine wpList_append_own_at _ rfl _ _ 22 rfl w.heap.size 75 i0 (.slice none 0 0) 1 24 (by kernel_rfl) hi hi1 hi2 hi3 rfl (by omega) _ _ _ rfl (own_on (own_on hown hb3) (bl_alloc (below_refl w3) (.cells #[y3.v] 75))) ⟨w3.heap.size, 0, none⟩ 1 1 [y3.v] rfl rfl (cells_new w3 [y3.v] 75) (by intro u hu; simp at hu; subst hu; rfl) (by unfold maxLen; omega) (by omega) (by simp; omega) ?_; intro v4 w4 hown4 hgrow4 _ hat4))
   have BW3 := bl_alloc (below_tr hbw hb3) (.cells #[y3.v] 75)
   have hown3 := own_on (own_on hown hb3) (bl_alloc (below_refl w3) (.cells #[y3.v] 75))
   replace hgrow4 : (w3.alloc (.cells #[y3.v] 75)).grownBy w4 (Value.slice ad k cp).ownBlock := hgrow4
   have B4 := bl_app (below_tr hbw hb3) (own_on hown hb3) hgrow4 (Nat.le_refl _) (below_tr hbw hb3).size
   rw [← fl_snc] at hown4
   obtain ⟨ad4, cp4, rfl⟩ := own_slice hown4
   have gy : Got (fun b => wr.heap.size <= b) w3 S.Course.cs 6 y3 := got_own (fun _ => rfl) ho3 fun b h1 _ => h1
   have hst : Stp (fun g => (Value.slice ad k cp).ownBlock = some g) (w3.alloc (.cells #[y3.v] 75)) w4 := (Stp.refl _ _).grown hgrow4 (fun r hr => .inl hr)
   have hne : ∀ g, (Value.slice ad k cp).ownBlock = some g -> g < wr.heap.size := fun g hg => (own_ge hown g hg).2
   have hat : ∀ g, (Value.slice ad4 (k + 1) cp4).ownBlock = some g -> (Value.slice ad k cp).ownBlock = some g ∨ w3.heap.size + 1 <= g := fun g hg => by
    rcases hat4 with h | h
    ·exact .inl (h ▸ hg)
    ·rw [h] at hg; cases hg; exact .inr (by simp)
   go_roundw
   case rel =>
    refine ⟨k + 1, ys ++ [y3], by omega, by go_num, Lib.hid ⟨by rw [List.length_append, HY.out.1]; rfl, map_snoc HX.out HY.out.2 hy3⟩, hown4, B4, Lib.hid fun y hy => ?_⟩
    rcases List.mem_append.1 hy with hy | hy
    ·have g1 := ((HG.out y hy).on hb3).on (bl_alloc (below_refl w3) (.cells #[y3.v] 75))
     have g2 : Got (fun b => w.heap.size <= b ∧ (Value.slice ad k cp).ownBlock ≠ some b ∧ b < wr.heap.size) wr S.Course.cs 6 y := (HG.out y hy).mono fun b hb ht => ⟨ht.1, ht.2, hb⟩
     have g3 := (g2.on hb3).on (bl_alloc (below_refl w3) (.cells #[y3.v] 75))
     exact (g3.stp hst (fun b hb => hb.2.1)).mono fun b _ ht => ⟨ht.1, fun e => by
      rcases hat b e with h | h
      ·exact ht.2.1 h
      ·have := ht.2.2; omega⟩
    ·simp at hy; subst hy
     have g2 : Got (fun b => wr.heap.size <= b ∧ b < w3.heap.size) w3 S.Course.cs 6 y := gy.mono fun b hb ht => ⟨ht, hb⟩
     have g3 := g2.on (bl_alloc (below_refl w3) (.cells #[y.v] 75))
     exact (g3.stp hst (fun b hb e => by have := hne b e; omega)).mono fun b _ ht => ⟨by omega, fun e => by
      rcases hat b e with h | h
      ·have := hne b h; omega
      ·omega⟩
   case measure => simp [RowKit.intOf]; omega
  ·obtain rfl : k = n := by omega
   have hy1 := HY.out.1
   go_wp2
   go_ret
   refine ⟨⟨ad, ys, cp⟩, by dsimp only [Sl.v]; rw [HY.out.1]; rfl, ?_, ?_, fun y hy => (HG.out y hy).mono (fun b _ ht => ht.1), hbw⟩
   ·dsimp only; rw [HY.out.2, List.take_of_length_le (by rw [HN.out]; omega)]
   ·dsimp only [Sl.v]; rw [HY.out.1]; exact hown
theorem f_clonesJ {T : Nat -> Prop} (x : Sl (Sl Jt)) (w : World) (hl : x.l.length <= 100000) (hR : Rd Sl.cs 1 w x.a x.l) (hE : ∀ y ∈ x.l, y.l.length <= 100000 ∧ Got T w Jt.cs 2 y) :
  Calls Tryz.prog 75 #[.slice x.a x.l.length x.c] w (ClsP Jt.cs 2 60 x.l w) := by
 obtain ⟨i0, hi, hi1, hi2, hi3⟩ := info_SlJ
 obtain ⟨A, l, c⟩ := x
 dsimp only at *
 obtain ⟨n, hn⟩ : ∃ n, l.length = n := ⟨_, rfl⟩
 rw [hn]
 rw [hn] at hl
 have HN := Lib.hid hn
 have HR := Lib.hid hR
 have HE := Lib.hid hE
 clear hn hR hE
 go_enter Tryz.func75, Tryz.ntmps75
 go_wp2
 go_loopw [3, 8] (fun v i wr => ∃ (k : Nat) (ys : List (Sl Jt)), k <= n ∧ i = .int .i64 k ∧ Hid (ys.length = k ∧ ys.map (·.l) = (l.take k).map (·.l)) ∧ wr.ownsRow w.heap.size 60 1 v k (fl Sl.cs ys) ∧ Below w.heap.size w wr ∧ Hid (∀ y ∈ ys, Got (fun b => w.heap.size <= b ∧ v.ownBlock ≠ some b) wr Jt.cs 2 y)) (fun _ i _ => n - (RowKit.intOf i).toNat)
 case atStart => exact ⟨0, [], Nat.zero_le _, rfl, Lib.hid ⟨rfl, rfl⟩, World.ownsRow_nil w _ _ _, below_refl _, Lib.hid (fun y hy => by cases hy)⟩
 case round =>
  obtain ⟨k, ys, hk, rfl, HY, hown, hbw, HG⟩ := hrel
  obtain ⟨ad, cp, rfl⟩ := own_slice hown
  have hbvs := hbw.size
  have k0 := nn k
  by_cases hlt : k < n
  ·have k1 : (k : Int) < (n : Int) := by omega
   obtain ⟨x, hx⟩ := get_lt (l := l) (k := k) (by rw [HN.out]; omega)
   obtain ⟨b1, o1, ha1, lb1, _⟩ := (HR.out.on hbw).get hx
   have cx := rd_slc (ha1 ▸ (HR.out.on hbw)) hx
   rw [ha1]
   have hxe := HE.out x (List.mem_of_getElem? hx)
   have HCL := Lib.hid (show Calls Tryz.prog 127 #[.slice x.a x.l.length x.c] wr (CloP Jt.cs 2 124 x.l wr) from c_CloneJoint x wr hxe.1 (hxe.2.on hbw).rd)
   have HX := Lib.hid hx
   clear hx hxe ha1
   go_wp2_with (first
    | (go_at_call 127; ((with_reducible refine HCL.out.mono ?_); rintro e w3 ⟨y3, rfl, hy3, ho3, hle3, hcm3, hb3⟩; have hz3 := hb3.size))
    | (at_builtin; refine wpList_append_own_at _ rfl _ _ 23 rfl w.heap.size 60 i0 (.slice none 0 0) 1 24 (by kernel_rfl) hi hi1 hi2 hi3 rfl (by omega) _ _ _ rfl (own_on (own_on hown hb3) (bl_alloc (below_refl w3) (.cells #[y3.v] 60))) ⟨w3.heap.size, 0, none⟩ 1 1 [y3.v] rfl rfl (cells_new w3 [y3.v] 60) (by intro u hu; simp at hu; subst hu; rfl) (by unfold maxLen; omega) (by omega) (by simp; omega) ?_; intro v4 w4 hown4 hgrow4 _ hat4))
   have BW3 := bl_alloc (below_tr hbw hb3) (.cells #[y3.v] 60)
   have hown3 := own_on (own_on hown hb3) (bl_alloc (below_refl w3) (.cells #[y3.v] 60))
   replace hgrow4 : (w3.alloc (.cells #[y3.v] 60)).grownBy w4 (Value.slice ad k cp).ownBlock := hgrow4
   have B4 := bl_app (below_tr hbw hb3) (own_on hown hb3) hgrow4 (Nat.le_refl _) (below_tr hbw hb3).size
   rw [← fl_snc] at hown4
   obtain ⟨ad4, cp4, rfl⟩ := own_slice hown4
   have gy : Got (fun b => wr.heap.size <= b) w3 Jt.cs 2 y3 := got_own (fun _ => rfl) ho3 fun b h1 _ => h1
   have hst : Stp (fun g => (Value.slice ad k cp).ownBlock = some g) (w3.alloc (.cells #[y3.v] 60)) w4 := (Stp.refl _ _).grown hgrow4 (fun r hr => .inl hr)
   have hne : ∀ g, (Value.slice ad k cp).ownBlock = some g -> g < wr.heap.size := fun g hg => (own_ge hown g hg).2
   have hat : ∀ g, (Value.slice ad4 (k + 1) cp4).ownBlock = some g -> (Value.slice ad k cp).ownBlock = some g ∨ w3.heap.size + 1 <= g := fun g hg => by
    rcases hat4 with h | h
    ·exact .inl (h ▸ hg)
    ·rw [h] at hg; cases hg; exact .inr (by simp)
   go_roundw
   case rel =>
    refine ⟨k + 1, ys ++ [y3], by omega, by go_num, Lib.hid ⟨by rw [List.length_append, HY.out.1]; rfl, map_snoc HX.out HY.out.2 hy3⟩, hown4, B4, Lib.hid fun y hy => ?_⟩
    rcases List.mem_append.1 hy with hy | hy
    ·have g1 := ((HG.out y hy).on hb3).on (bl_alloc (below_refl w3) (.cells #[y3.v] 60))
     have g2 : Got (fun b => w.heap.size <= b ∧ (Value.slice ad k cp).ownBlock ≠ some b ∧ b < wr.heap.size) wr Jt.cs 2 y := (HG.out y hy).mono fun b hb ht => ⟨ht.1, ht.2, hb⟩
     have g3 := (g2.on hb3).on (bl_alloc (below_refl w3) (.cells #[y3.v] 60))
     exact (g3.stp hst (fun b hb => hb.2.1)).mono fun b _ ht => ⟨ht.1, fun e => by
      rcases hat b e with h | h
      ·exact ht.2.1 h
      ·have := ht.2.2; omega⟩
    ·simp at hy; subst hy
     have g2 : Got (fun b => wr.heap.size <= b ∧ b < w3.heap.size) w3 Jt.cs 2 y := gy.mono fun b hb ht => ⟨ht, hb⟩
     have g3 := g2.on (bl_alloc (below_refl w3) (.cells #[y.v] 60))
     exact (g3.stp hst (fun b hb e => by have := hne b e; omega)).mono fun b _ ht => ⟨by omega, fun e => by
      rcases hat b e with h | h
      ·have := hne b h; omega
      ·omega⟩
   case measure => simp [RowKit.intOf]; omega
  ·obtain rfl : k = n := by omega
   have hy1 := HY.out.1
   go_wp2
   go_ret
   refine ⟨⟨ad, ys, cp⟩, by dsimp only [Sl.v]; rw [HY.out.1]; rfl, ?_, ?_, fun y hy => (HG.out y hy).mono (fun b _ ht => ht.1), hbw⟩
   ·dsimp only; rw [HY.out.2, List.take_of_length_le (by rw [HN.out]; omega)]
   ·dsimp only [Sl.v]; rw [HY.out.1]; exact hown
end Go.Proofs.YtgemlddincnfcaaGreatDoor.Fi
