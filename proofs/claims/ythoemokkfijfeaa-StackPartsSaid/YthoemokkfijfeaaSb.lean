/- Stack, walks over the reference's sums and measures. -/
import Derived.Test.YthoemokkfijfeaaSm
import Derived.Test.YthoemokkfijfeaaNum
namespace Go.Proofs.Ythoemokkfijfeaa
open Go.RowKit

structure Ov (l d r : List Course) (z a b c p : Int) : Prop where
  hz : z + hs r = hs d
  ha : a + wts r = wts d
  hb : b + es r = es d
  hc : c + ns r = ns d
  hp : p + push r + 2 * z * face r = push d
  z0 : 0 ≤ z
  a0 : 0 ≤ a
  p0 : 0 ≤ p

theorem ov_step {l d r : List Course} {x : Course} {z a b c p : Int} (hx : CB x) (h : Ov l d (x :: r) z a b c p) :
    Ov l d r (z + x.h) (a + x.wt) (b + x.wt * x.e) (c + x.wt * x.n) (p + x.o * x.h * (2 * z + x.h)) := by
  obtain ⟨h1, h2, h3, h4, h5, h6, h7a, h7⟩ := h
  obtain ⟨c1, c2, c3, c4, c5, c6, c7, c8, c9, c10, c11⟩ := hx
  simp only [hs, wts, es, ns, push, face] at *
  have h8 : 0 ≤ x.o * x.h * (2 * z + x.h) := Int.mul_nonneg (Int.mul_nonneg (by omega) (by omega)) (by omega)
  exact ⟨by omega, by omega, by omega, by omega, by grind, by omega, by omega, by omega⟩
structure OvB (x : Course) (z a b c p : Int) : Prop where
  z0 : 0 ≤ z
  z1 : z ≤ 120000
  a0 : 0 ≤ a
  a1 : a ≤ 60000000
  b0 : -600000000000 ≤ b
  b1 : b ≤ 600000000000
  c0 : -600000000000 ≤ c
  c1 : c ≤ 600000000000
  p0 : 0 ≤ p
  p1 : p ≤ 72000000000000
theorem ov_bounds {l d r : List Course} {x : Course} {z a b c p : Int} (hd : SB d) (hl : d.length ≤ 60) (hr : SB r) (hrl : r.length ≤ 60) (h : Ov l d r z a b c p) : OvB x z a b c p := by
  obtain ⟨h1, h2, h3, h4, h5, h6, h7a, h7⟩ := h
  obtain ⟨s1, s2, s3, s4, s5, s6, s7, s8, s9, s10, s11, s12⟩ := hd
  obtain ⟨t1, t2, t3, t4, t5, t6, t7, t8, t9, t10, t11, t12⟩ := hr
  have h8 : 0 ≤ 2 * z * face r := Int.mul_nonneg (by omega) (by omega)
  have h9 := mul_bd0 (a := (d.length : Int)) (b := d.length) (A := 60) (B := 60) (by omega) (by omega) (by omega) (by omega)
  exact ⟨by omega, by omega, by omega, by omega, by omega, by omega, by omega, by omega, by omega, by omega⟩

set_option maxHeartbeats 1000000 in
theorem r_over (A : Option Addr) (l : List Course) (c bed : Nat) (w : World) (hv : validC l = true) (hbed : bed < l.length) (hR : Rd Course.cs 6 w A l) :
    Calls Try.prog 63 #[.slice A l.length c, .int .i64 bed] w fun e w' =>
      e = .returned (.agg #[.int .i64 (wts (l.drop bed)), .int .i64 (es (l.drop bed)), .int .i64 (ns (l.drop bed)), .int .i64 (push (l.drop bed))]) ∧ Below w.heap.size w w' := by
  obtain ⟨hall, hl1, hl2⟩ := valid_all hv
  have HV := Lib.hid hv
  have HA := Lib.hid hall
  clear hv hall
  go_enter Try.func63, Try.ntmps63
  go_wp2
  go_loopw [6, 7] (fun z i wr => ∃ (k : Nat) (zz a b c p : Int), bed ≤ k ∧ k ≤ l.length ∧ i = .int .i64 k ∧ z = .int .i64 zz ∧ Below w.heap.size w wr ∧
      Blk wr w.heap.size 70 #[.int .i64 0, .int .i64 0, .int .i64 0, .int .i64 0] ∧ Blk wr (w.heap.size + 1) 70 #[.int .i64 a, .int .i64 b, .int .i64 c, .int .i64 p] ∧ Ov l (l.drop bed) (l.drop k) zz a b c p)
    (fun _ i _ => l.length - (intOf i).toNat)
  case atStart =>
    refine ⟨bed, 0, 0, 0, 0, 0, Nat.le_refl _, by omega, rfl, rfl, ?_, ?_, ?_, ?_⟩
    · exact ((Below.refl _ w).alloc (Nat.le_refl _) _).alloc (by simp) _
    · exact (Blk.new w _ _).alloc _
    · have := Blk.new (w.alloc (.cells #[.int .i64 0, .int .i64 0, .int .i64 0, .int .i64 0] 70)) 70 #[.int .i64 0, .int .i64 0, .int .i64 0, .int .i64 0]
      rwa [World.size_alloc] at this
    · exact ⟨by omega, by omega, by omega, by omega, by omega, by omega, by omega, by omega⟩
  case round =>
    obtain ⟨k, z, a, b, c, p, hk0, hk, rfl, rfl, hB, hb0, hb1, ho⟩ := hrel
    by_cases hlt : k < l.length
    · obtain ⟨x, ab, off, hx, rfl, hab, c0, c1, c2, c3, c4, c5⟩ := rdC (hR.on hB) hlt
      have hcb : CB x := cb_of (List.all_eq_true.1 HA.out x (List.mem_of_getElem? hx))
      have ho' := ho
      rw [hs_drop hx] at ho'
      have ho2 := ov_step hcb ho'
      clear ho'
      have hd1 := sb_of (all_drop HA.out bed)
      have hd2 := sb_of (all_drop HA.out k)
      have hd3 := sb_of (all_drop HA.out (k + 1))
      obtain ⟨q1, q2, q3, q4, q5, q6, q7, q8, q9, q10⟩ := ov_bounds (x := x) hd1 (by simp; omega) hd2 (by simp; omega) ho
      obtain ⟨r1, r2, r3, r4, r5, r6, r7, r8, r9, r10⟩ := ov_bounds (x := x) hd1 (by simp; omega) hd3 (by simp; omega) ho2
      clear hd1 hd2 hd3
      obtain ⟨d1, d2, d3, d4, d5, d6, d7, d8, d9, d10, d11⟩ := hcb
      have m1 := mul_bd (a := x.wt) (b := x.e) (A := 1000000) (B := 5000) (by omega) d7 d8 d9
      have m2 := mul_bd (a := x.wt) (b := x.n) (A := 1000000) (B := 5000) (by omega) d7 d10 d11
      have m3 := mul_bd0 (a := x.o) (b := x.h) (A := 5000) (B := 2000) (by omega) d5 (by omega) d2
      have m4 := mul_bd0 (a := x.o * x.h) (b := 2 * z + x.h) (A := 5000 * 2000) (B := 242000) m3.1 m3.2 (by omega) (by omega)
      obtain ⟨m11, m12⟩ := m1
      obtain ⟨m21, m22⟩ := m2
      obtain ⟨m31, m32⟩ := m3
      obtain ⟨m41, m42⟩ := m4
      have e0 := hb1.cell 0
      have e1 := hb1.cell 1
      have e2 := hb1.cell 2
      have e3 := hb1.cell 3
      have f0 := hb1.frozen 0
      have f1 := hb1.frozen 1
      have f2 := hb1.frozen 2
      have f3 := hb1.frozen 3
      simp only [List.getElem?_toArray, List.getElem?_cons_zero, List.getElem?_cons_succ] at e0 e1 e2 e3
      have HO := Lib.hid ho2
      have HX := Lib.hid hx
      clear ho2 hx ho
      have hsz := hb1.lt
      go_wp2
      go_roundw
      case rel =>
        refine ⟨k + 1, _, _, _, _, _, by omega, by omega, by go_num, rfl, ?_, ?_, ?_, HO.out⟩
        · exact ((((hB.setCell (by simp) _).setCell (by simp) _).setCell (by simp) _).setCell (by simp) _).alloc (by simp; omega) _
        · exact ((((hb0.far (by simp) _).far (by simp) _).far (by simp) _).far (by simp) _).alloc _
        · exact ((((hb1.set_ 0 _).set_ 1 _).set_ 2 _).set_ 3 _).alloc _
      case measure => simp [intOf]; omega
    · have hz : l.drop k = [] := List.drop_of_length_le (by omega)
      rw [hz] at ho
      obtain ⟨h1, h2, h3, h4, h5, h6, h7, h8⟩ := ho
      simp only [hs, wts, es, ns, push, face] at h1 h2 h3 h4 h5
      have g1 : a = wts (l.drop bed) := by omega
      have g2 : b = es (l.drop bed) := by omega
      have g3 : c = ns (l.drop bed) := by omega
      have g4 : p = push (l.drop bed) := by omega
      clear hz h1 h2 h3 h4 h5
      have G1 := Lib.hid g1
      have G2 := Lib.hid g2
      have G3 := Lib.hid g3
      have G4 := Lib.hid g4
      clear g1 g2 g3 g4
      have e0 := hb1.cell 0
      have e1 := hb1.cell 1
      have e2 := hb1.cell 2
      have e3 := hb1.cell 3
      have i0 := hb0.cell 0
      have i1 := hb0.cell 1
      have i2 := hb0.cell 2
      have i3 := hb0.cell 3
      have f0 := hb0.frozen 0
      have f1 := hb0.frozen 1
      have f2 := hb0.frozen 2
      have f3 := hb0.frozen 3
      simp only [List.getElem?_toArray, List.getElem?_cons_zero, List.getElem?_cons_succ] at e0 e1 e2 e3 i0 i1 i2 i3
      go_wp2
      refine bodyPost_ret (v := .agg #[.int .i64 a, .int .i64 b, .int .i64 c, .int .i64 p]) (by simp [results, Try.results63, go_sem, *]) rfl ⟨by rw [G1.out, G2.out, G3.out, G4.out], ?_⟩
      exact (((hB.setCell (Nat.le_refl _) _).setCell (Nat.le_refl _) _).setCell (Nat.le_refl _) _).setCell (Nat.le_refl _) _
end Go.Proofs.Ythoemokkfijfeaa
