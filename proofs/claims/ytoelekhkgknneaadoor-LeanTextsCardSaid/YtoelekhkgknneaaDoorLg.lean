/- Lean: the nearest line by the program. -/
import Derived.Test.YtoelekhkgknneaaDoorLe
import Derived.Test.YtoelekhkgknneaaDoorLf
import Derived.Test.YtoelekhkgknneaaDoorRoundReg
import Derived.Outline
namespace Go.Proofs.YtoelekhkgknneaaDoor
open Go.RowKit Go.Shelf
attribute [local go_sem] Oper.semAt_some

abbrev Ln := Int × Int × Int
def mk3 (a b d : Int) : Ln := (m3 a b d a, m3 a b d b, m3 a b d d)
def ptAt (l : List Pt) (i : Nat) : Pt := l[i]?.getD ⟨0, 0⟩
theorem ptAt_of {l : List Pt} {i : Nat} {p : Pt} (h : l[i]? = some p) : ptAt l i = p := by simp [ptAt, h]
def thr3 (p q : Pt) : Ln := mk3 (thrA p q) (q.x - p.x) (q.h - p.h)
def lnT (l : List Pt) (t : Trip) : Ln := thr3 (ptAt l t.1) (ptAt l t.2.2)
def off3 (x : Ln) (p : Pt) : Int := offV x.1 x.2.1 x.2.2 p
def dT (l : List Pt) (t : Trip) : Int := off3 (lnT l t) (ptAt l t.2.1)
def hN (l : List Pt) (t : Trip) : Int := gN ((dT l t).natAbs : Int) (2 * (lnT l t).2.2)
def hD (l : List Pt) (t : Trip) : Int := gD ((dT l t).natAbs : Int) (2 * (lnT l t).2.2)
def nStep (l : List Pt) (s : Ln × Int × Int) (t : Trip) : Ln × Int × Int :=
  if 0 < cmpR (hN l t) (hD l t) s.2.1 s.2.2 then (mk3 (2 * (lnT l t).1 + dT l t) (2 * (lnT l t).2.1) (2 * (lnT l t).2.2), hN l t, hD l t) else s
def nFold (l : List Pt) (ts : List Trip) : Ln × Int × Int := ts.foldl (nStep l) ((0, 0, 0), -1, 1)
def vldPs (l : List Pt) : Bool := wn l.length 1 40 && (l.all sndP && decide (l.Pairwise fun p q => p.h < q.h))
def nearP (l : List Pt) : Ln := if l.length = 1 then mk3 (ptAt l 0).x 0 1 else if l.length = 2 then thr3 (ptAt l 0) (ptAt l 1) else (nFold l (trips l.length)).1

theorem tM_mem {n a : Nat} {t : Trip} (h : t ∈ tM n a (n - (a + 1))) : t.1 = a ∧ a < t.2.1 ∧ t.2.1 < t.2.2 ∧ t.2.2 < n := by
  simp only [tM, tI, List.mem_flatMap, List.mem_map, List.mem_range'_1] at h
  obtain ⟨b, hb, k, hk, rfl⟩ := h
  dsimp only
  omega
theorem trips_mem {n i j k : Nat} (h : (i, j, k) ∈ trips n) : i < j ∧ j < k ∧ k < n := by
  simp only [trips, tL, List.mem_flatMap, List.mem_range] at h
  obtain ⟨a, _, h⟩ := h
  have := tM_mem h
  dsimp only at this
  omega
theorem gN_mul (n d : Int) : gN n d * (Int.gcd n d : Int) = n := Int.ediv_mul_cancel (Int.gcd_dvd_left _ _)
theorem gD_mul (n d : Int) : gD n d * (Int.gcd n d : Int) = d := Int.ediv_mul_cancel (Int.gcd_dvd_right _ _)
theorem gD_pos {n d : Int} (h : 0 < d) : 0 < gD n d := Int.ediv_pos_of_pos_of_dvd h (by omega) (Int.gcd_dvd_right _ _)
theorem gD_le {n d : Int} (h : 0 < d) : gD n d ≤ d := Int.ediv_le_self _ (by omega)
theorem gN_bd {n d B : Int} (h : 0 < d) (h1 : -B ≤ n) (h2 : n ≤ B) : -B ≤ gN n d ∧ gN n d ≤ B := by
  have h3 := gN_mul n d
  have h4 : (0 : Int) < (Int.gcd n d : Int) := by have := gcd_pos_ (n := n) h; omega
  generalize (Int.gcd n d : Int) = g at h3 h4
  generalize gN n d = m at h3
  have hn : n.natAbs = m.natAbs * g.natAbs := by rw [← h3, Int.natAbs_mul]
  have : m.natAbs ≤ m.natAbs * g.natAbs := Nat.le_mul_of_pos_right _ (by omega)
  omega
theorem Stp.of_below {W W' : World} {B : Nat} (h : Below B W W') : Stp (fun b => B ≤ b) W W' := ⟨h.os, h.tape, h.output, h.size, fun b _ hn => h.block b (by omega)⟩
theorem m3_bd {a b d x B : Int} (h : (g3 a b d : Int) ∣ x) (hd : 0 < d) (h1 : -B ≤ x) (h2 : x ≤ B) : -B ≤ m3 a b d x ∧ m3 a b d x ≤ B := by
  have hg := g3_pos (a := a) (b := b) hd
  have he : m3 a b d x * (g3 a b d : Int) = x := Int.ediv_mul_cancel h
  have : x.natAbs = (m3 a b d x).natAbs * g3 a b d := by
    have h3 := congrArg Int.natAbs he
    rw [Int.natAbs_mul, Int.natAbs_natCast] at h3
    exact h3.symm
  have h4 : (m3 a b d x).natAbs ≤ (m3 a b d x).natAbs * g3 a b d := Nat.le_mul_of_pos_right _ hg
  omega
theorem m3_pos {a b d : Int} (hd : 0 < d) : 0 < m3 a b d d := Int.ediv_pos_of_pos_of_dvd hd (by have := g3_pos (a := a) (b := b) hd; omega) (g3_dvd a b d).2.2
structure TL (x : Ln) : Prop where
  a0 : -6000000000 ≤ x.1
  a1 : x.1 ≤ 6000000000
  b0 : -20000 ≤ x.2.1
  b1 : x.2.1 ≤ 20000
  d0 : 1 ≤ x.2.2
  d1 : x.2.2 ≤ 200000
theorem tl_of {p q : Pt} (hp : SP p) (hq : SP q) (h : p.h < q.h) : TL (thr3 p q) := by
  obtain ⟨d0, d1, b0, b1, m0, m1, n0, n1⟩ := tb_of hp hq
  obtain ⟨v1, v2, v3⟩ := g3_dvd (thrA p q) (q.x - p.x) (q.h - p.h)
  have hd : 0 < q.h - p.h := by omega
  have x1 := m3_bd v1 hd (B := 6000000000) (by unfold thrA; omega) (by unfold thrA; omega)
  have x2 := m3_bd v2 hd (B := 20000) (by omega) (by omega)
  have x3 := m3_bd v3 hd (B := 200000) (by omega) (by omega)
  have x4 := m3_pos (a := thrA p q) (b := q.x - p.x) hd
  exact ⟨x1.1, x1.2, x2.1, x2.2, by show 1 ≤ m3 _ _ _ _; omega, x3.2⟩
theorem lb_tl {x : Ln} (h : TL x) : LB x.1 x.2.1 x.2.2 := by
  obtain ⟨a0, a1, b0, b1, d0, d1⟩ := h
  exact ⟨by omega, by omega, by omega, by omega, by omega, by omega⟩
theorem off_tl {x : Ln} {p : Pt} (h : TL x) (hp : SP p) : -12000000000 ≤ off3 x p ∧ off3 x p ≤ 12000000000 := by
  obtain ⟨a0, a1, b0, b1, d0, d1⟩ := h
  obtain ⟨h0, h1, x0, x1⟩ := hp
  have m := mul_bd (a := p.x) (b := x.2.2) (A := 10000) (B := 200000) (by omega) x1 (by omega) d1
  have n := mul_bd (a := x.2.1) (b := p.h) (A := 20000) (B := 200000) (by omega) b1 (by omega) h1
  unfold off3 offV
  constructor <;> omega

theorem p_triples (n : Int) (w : World) : Calls Tryd.prog 137 #[.int .i64 n] w fun e w' => e = .returned (.func (.func 158) #[] #[.pointer (some ⟨w.heap.size, 0, none⟩)]) ∧ w.alloc (.cells #[.int .i64 n] 3) = w' := by
  go_enter Tryd.func137, Tryd.ntmps137
  go_wp2
  go_ret
  exact ⟨rfl, rfl⟩
theorem rdP {w : World} {A : Option Addr} {l : List Pt} (h : Rd Pt.cs 2 w A l) {k : Nat} (hk : k < l.length) :
    ∃ x b off, l[k]? = some x ∧ A = some ⟨b, off, none⟩ ∧ b < w.heap.size ∧ w.cell? ⟨b, off + k * 2, none⟩ = some (.int .i64 x.h) ∧ w.cell? ⟨b, off + k * 2 + 1, none⟩ = some (.int .i64 x.x) := by
  obtain ⟨x, hx⟩ := get_lt hk
  obtain ⟨b, off, e, hb, hc⟩ := h.get hx
  exact ⟨x, b, off, hx, e, hb, hc 0 _ rfl, hc 1 _ rfl⟩

set_option maxHeartbeats 4000000 in
set_option maxRecDepth 20000 in
theorem p_nearest_many (A : Option Addr) (l : List Pt) (c : Nat) (w : World) (hv : l.all sndP = true) (hp : ∀ i j : Nat, i < j → j < l.length → (ptAt l i).h < (ptAt l j).h) (h3 : 3 ≤ l.length) (hl : l.length ≤ 40) (hR : Rd Pt.cs 2 w A l) :
    Calls Tryd.prog 107 #[.slice A l.length c] w fun e w' => e = .returned (lineV (nFold l (trips l.length)).1.1 (nFold l (trips l.length)).1.2.1 (nFold l (trips l.length)).1.2.2) ∧ Below w.heap.size w w' := by
  have t1 : ((l.length : Int) == 1) = false := by simp; omega
  have t2 : ((l.length : Int) == 2) = false := by simp; omega
  refine (callsIn_wide (n := 5)).1 ?_
  refine callsIn_of_wp_marks Tryd.func107 rfl trivial ?_ rfl
  simp only [Tryd.ntmps107, List.size_toArray, List.length_cons, List.length_nil, Nat.reduceAdd, Nat.reduceSub, Array.replicate_succ, Array.replicate_zero, List.push_toArray, List.append_toArray, List.nil_append, List.cons_append]
  gi_wp2
  refine ⟨trivial, ?_⟩
  refine (callsIn_wide.2 (p_triples l.length _)).mono ?_
  rintro e w1 ⟨rfl, rfl⟩
  gi_wp2
  obtain ⟨W0, hW0⟩ : ∃ W0, (((((w.alloc (.cells #[.slice A l.length c] 107)).alloc (.cells #[.int .i64 0, .int .i64 0, .int .i64 0] 102)).alloc (.cells #[.int .i64 0, .int .i64 0, .int .i64 0] 102)).alloc (.cells #[.int .i64 (-1), .int .i64 1] 93)).alloc (.cells #[.int .i64 l.length] 3)) = W0 := ⟨_, rfl⟩
  rw [hW0]
  have hS : W0.heap.size = w.heap.size + 5 := by rw [← hW0]; simp
  have x0 : Blk W0 w.heap.size 107 #[.slice A l.length c] := by rw [← hW0]; exact ((((Blk.new _ _ _).alloc _).alloc _).alloc _).alloc _
  have x1 : Blk W0 (w.heap.size + 1) 102 #[.int .i64 0, .int .i64 0, .int .i64 0] := by rw [← hW0]; exact (((blk_second _ _ _ _).alloc _).alloc _).alloc _
  have x2 : Blk W0 (w.heap.size + 2) 102 #[.int .i64 0, .int .i64 0, .int .i64 0] := by rw [← hW0, show w.heap.size + 2 = (w.alloc (.cells #[.slice A l.length c] 107)).heap.size + 1 by simp]; exact ((blk_second _ _ _ _).alloc _).alloc _
  have x3 : Blk W0 (w.heap.size + 3) 93 #[.int .i64 (-1), .int .i64 1] := by rw [← hW0, show w.heap.size + 3 = ((w.alloc (.cells #[.slice A l.length c] 107)).alloc (.cells #[.int .i64 0, .int .i64 0, .int .i64 0] 102)).heap.size + 1 by simp]; exact (blk_second _ _ _ _).alloc _
  have x4 : Blk W0 (w.heap.size + 4) 3 #[.int .i64 l.length] := by rw [← hW0, show w.heap.size + 4 = (((w.alloc (.cells #[.slice A l.length c] 107)).alloc (.cells #[.int .i64 0, .int .i64 0, .int .i64 0] 102)).alloc (.cells #[.int .i64 0, .int .i64 0, .int .i64 0] 102)).heap.size + 1 by simp]; exact blk_second _ _ _ _
  have BB : Below w.heap.size w W0 := by rw [← hW0]; exact below_tr (below_tr (below_tr (below_tr (below_alloc _ _) (below_alloc _ _)) (below_alloc _ _)) (below_alloc _ _)) (below_alloc _ _)
  clear hW0
  have HV := Lib.hid hv
  have HP := Lib.hid hp
  clear hv hp
  refine wp_range (by omega) (gf := 158) (lb := #[.pointer (some ⟨w.heap.size + 1 + 1 + 1 + 1, 0, none⟩)]) rfl enters_trips (encs := tripE) (xs := trips l.length) (R := fun b => b < w.heap.size ∨ b = w.heap.size + 4)
    (trip_seq _ (by omega) (w.heap.size + 4) l.length (by omega) _ W0 (x4.cell 0) (.inr rfl)) (Stp.refl _ _) (fun _ => rfl) (by rintro b (hb | hb) <;> omega)
    (fun pre _ W => (I64 (nFold l pre).2.1 ∧ I64 (nFold l pre).2.2) ∧ (Below w.heap.size w W ∧ w.heap.size ≤ W.heap.size) ∧ Blk W w.heap.size 107 #[.slice A l.length c] ∧ Blk W (w.heap.size + 1) 102 #[.int .i64 0, .int .i64 0, .int .i64 0] ∧
      Blk W (w.heap.size + 2) 102 #[.int .i64 (nFold l pre).1.1, .int .i64 (nFold l pre).1.2.1, .int .i64 (nFold l pre).1.2.2] ∧ Blk W (w.heap.size + 3) 93 #[.int .i64 (nFold l pre).2.1, .int .i64 (nFold l pre).2.2])
    (fun _ _ _ _ => False)
    ?h5 ?h6 ?h7 ?round ?done ?stop
  case h5 => exact (abide_pure _).and ((abide_below (by omega)).and ((abide_blk _ (by omega)).and ((abide_blk _ (by omega)).and ((abide_blk (fun pre => #[.int .i64 (nFold l pre).1.1, .int .i64 (nFold l pre).1.2.1, .int .i64 (nFold l pre).1.2.2]) (by omega)).and (abide_blk (fun pre => #[.int .i64 (nFold l pre).2.1, .int .i64 (nFold l pre).2.2]) (by omega))))))
  case h6 => exact fun k => abide_pure _
  case h7 => exact ⟨⟨⟨by simp [nFold], by simp [nFold]⟩, ⟨by simp [nFold], by simp [nFold]⟩⟩, ⟨BB, by omega⟩, x0, x1, x2, x3⟩
  case stop => rintro k pre rest M W _ h; exact h.elim
  case done =>
    rintro M W ⟨_, ⟨hB, hz⟩, b0, b1, b2, b3⟩ hK
    have q0 := b2.cell 0
    have q1 := b2.cell 1
    have q2 := b2.cell 2
    have r0 := b1.cell 0
    have r1 := b1.cell 1
    have r2 := b1.cell 2
    have f0 := b1.frozen 0
    have f1 := b1.frozen 1
    have f2 := b1.frozen 2
    simp only [List.getElem?_toArray, List.getElem?_cons_zero, List.getElem?_cons_succ] at q0 q1 q2 r0 r1 r2
    gi_wp2
    have B1 := ((b1.set_ 0 (.int .i64 (nFold l (trips l.length)).1.1)).set_ 1 (.int .i64 (nFold l (trips l.length)).1.2.1)).set_ 2 (.int .i64 (nFold l (trips l.length)).1.2.2)
    have hB3 := ((hB.setCell (p := ⟨w.heap.size + 1, 0, none⟩) (by simp) (.int .i64 (nFold l (trips l.length)).1.1)).setCell (p := ⟨w.heap.size + 1, 1, none⟩) (by simp) (.int .i64 (nFold l (trips l.length)).1.2.1)).setCell (p := ⟨w.heap.size + 1, 2, none⟩) (by simp) (.int .i64 (nFold l (trips l.length)).1.2.2)
    have hK3 := (Below.heap_setCell _ ⟨w.heap.size + 1, 2, none⟩ (.int .i64 (nFold l (trips l.length)).1.2.2) W0.heap.size (by simp; omega)).trans ((Below.heap_setCell _ ⟨w.heap.size + 1, 1, none⟩ (.int .i64 (nFold l (trips l.length)).1.2.1) W0.heap.size (by simp; omega)).trans ((Below.heap_setCell W ⟨w.heap.size + 1, 0, none⟩ (.int .i64 (nFold l (trips l.length)).1.1) W0.heap.size (by simp; omega)).trans hK))
    have hz3 := hB3.size
    generalize ((W.setCell ⟨w.heap.size + 1, 0, none⟩ (.int .i64 (nFold l (trips l.length)).1.1)).setCell ⟨w.heap.size + 1, 1, none⟩ (.int .i64 (nFold l (trips l.length)).1.2.1)).setCell ⟨w.heap.size + 1, 2, none⟩ (.int .i64 (nFold l (trips l.length)).1.2.2) = W3 at *
    refine ⟨by simp, .inl ⟨_, _, rfl, run_takeDeferred hK3, ?_⟩⟩
    have hst := Stp.putObj (Stp.refl (fun b => b = W0.heap.size) W3) (.inl rfl) (.deferred none)
    exact ⟨_, res_c rfl rfl (load_line (hst.blk B1 (by omega))), rfl, hB3.trans (hst.toBelow hz3 (fun b hb => by omega))⟩
  case round =>
    rintro L pre x rest M W hxs ⟨⟨hmN, hmD⟩, ⟨hB, hz⟩, b0, b1, b2, b3⟩ hM hsz
    simp only [tripE, setAll1, List.setIfInBounds_toArray, List.set_cons_zero, List.set_cons_succ]
    gi_wp2
    refine ⟨(Stp.refl _ _).alloc _, fun W2 hsz2 hst2 => ?_⟩
    rw [World.size_alloc] at hsz2
    obtain ⟨i, j, k⟩ := x
    obtain ⟨hij, hjk, hkl⟩ : i < j ∧ j < k ∧ k < l.length := trips_mem (by rw [hxs]; simp)
    dsimp only at *
    have d0 := hst2.blk (b0.alloc _) (by omega)
    have d1 := hst2.blk (b1.alloc _) (by omega)
    have d2 := hst2.blk (b2.alloc _) (by omega)
    have d3 := hst2.blk (b3.alloc _) (by omega)
    have d5 := hst2.blk (Blk.new W _ _) (by omega)
    have hB2 : Below w.heap.size w W2 := (hB.alloc (by omega) _).trans (Stp.toBelow hst2 (by rw [World.size_alloc]; omega) (fun b hb => by omega))
    obtain ⟨p, ab, off, hpi, rfl, hab, _⟩ := rdP (hR.on hB2) (show i < l.length by omega)
    obtain ⟨m, _, _, hmj, e', _, _⟩ := rdP (hR.on hB2) (show j < l.length by omega)
    cases e'
    obtain ⟨q, _, _, hqk, e', _, _⟩ := rdP (hR.on hB2) (show k < l.length by omega)
    cases e'
    have hpt := ptAt_of hpi
    have hmt := ptAt_of hmj
    have hqt := ptAt_of hqk
    have sp := sp_of (List.all_eq_true.1 HV.out p (List.mem_of_getElem? hpi))
    have sm := sp_of (List.all_eq_true.1 HV.out m (List.mem_of_getElem? hmj))
    have sq := sp_of (List.all_eq_true.1 HV.out q (List.mem_of_getElem? hqk))
    have hpq : p.h < q.h := by have := HP.out i k (by omega) hkl; rwa [hpt, hqt] at this
    have HC : Hid (∀ w', Below W2.heap.size W2 w' → w'.cell? ⟨w.heap.size, 0, none⟩ = some (.slice (some ⟨ab, off, none⟩) l.length c) ∧ w'.cell? ⟨W.heap.size, 0, none⟩ = some (.int .i64 i) ∧ w'.cell? ⟨W.heap.size, 1, none⟩ = some (.int .i64 j) ∧ w'.cell? ⟨W.heap.size, 2, none⟩ = some (.int .i64 k) ∧
        w'.cell? ⟨ab, off + i * 2, none⟩ = some (.int .i64 p.h) ∧ w'.cell? ⟨ab, off + i * 2 + 1, none⟩ = some (.int .i64 p.x) ∧ w'.cell? ⟨ab, off + j * 2, none⟩ = some (.int .i64 m.h) ∧ w'.cell? ⟨ab, off + j * 2 + 1, none⟩ = some (.int .i64 m.x) ∧
        w'.cell? ⟨ab, off + k * 2, none⟩ = some (.int .i64 q.h) ∧ w'.cell? ⟨ab, off + k * 2 + 1, none⟩ = some (.int .i64 q.x)) := fun w' hw' => by
      have hc := (bcell hw').1
      obtain ⟨_, _, ee, _, cc⟩ := (hR.on hB2).get hpi
      cases ee
      obtain ⟨_, _, ee, _, cd⟩ := (hR.on hB2).get hmj
      cases ee
      obtain ⟨_, _, ee, _, ce⟩ := (hR.on hB2).get hqk
      cases ee
      exact ⟨(hc _ _ d0.lt).trans (d0.cell 0), (hc _ _ d5.lt).trans (d5.cell 0), (hc _ _ d5.lt).trans (d5.cell 1), (hc _ _ d5.lt).trans (d5.cell 2), (hc _ _ hab).trans (cc 0 _ rfl), (hc _ _ hab).trans (cc 1 _ rfl), (hc _ _ hab).trans (cd 0 _ rfl), (hc _ _ hab).trans (cd 1 _ rfl), (hc _ _ hab).trans (ce 0 _ rfl), (hc _ _ hab).trans (ce 1 _ rfl)⟩
    have HT := Lib.hid (p_through_up p q · sp sq hpq)
    have i0 : (0 : Int) ≤ (i : Int) := Int.natCast_nonneg _
    have i1 : (i : Int) < (l.length : Int) := by omega
    have j0 : (0 : Int) ≤ (j : Int) := Int.natCast_nonneg _
    have j1 : (j : Int) < (l.length : Int) := by omega
    have k0 : (0 : Int) ≤ (k : Int) := Int.natCast_nonneg _
    have k1 : (k : Int) < (l.length : Int) := by omega
    have HS2 := Lib.hid hsz2
    clear hsz2
    gi_wp2
    refine wpIn_round_held (fun w' => Below W2.heap.size W2 w') (by kernel_rfl) (by omega) (by rintro ⟨_, _, h⟩; exact h) (by kernel_rfl) (below_draw (Below.refl _ _)) (fun hS0 => ?_)
    refine wpAnyH_take (i := 0) (oi := { dst := some 32, op := _, type := _, pos := _, after := _, guard := none }) (v := .slice (some ⟨ab, off, none⟩) l.length c) rfl (by kernel_rfl) (by kernel_rfl) (by kernel_rfl) (fun _ _ _ h => h) (Or.inl ⟨by rfl, ?_⟩) (by assumption) ?_
    (focus (intro w' hSw; obtain ⟨e0, e1, e2, e3, e4, e5, e6, e7, e8, e9⟩ := HC.out w' hSw; go_simp))
    try simp only [Act.put, List.setIfInBounds_toArray, List.set_cons_zero, List.set_cons_succ]
    refine wpAnyH_take (i := 1) (oi := { dst := some 33, op := _, type := _, pos := _, after := _, guard := none }) (v := .pointer (some ⟨W.heap.size, 0, none⟩)) rfl (by kernel_rfl) (by kernel_rfl) (by kernel_rfl) (fun _ _ _ h => h) (Or.inl ⟨by rfl, ?_⟩) (by assumption) ?_
    (focus (intro w' hSw; obtain ⟨e0, e1, e2, e3, e4, e5, e6, e7, e8, e9⟩ := HC.out w' hSw; go_simp))
    try simp only [Act.put, List.setIfInBounds_toArray, List.set_cons_zero, List.set_cons_succ]
    refine wpAnyH_take (i := 2) (oi := { dst := some 34, op := _, type := _, pos := _, after := _, guard := none }) (v := .int .i64 (i : Int)) rfl (by kernel_rfl) (by kernel_rfl) (by kernel_rfl) (fun _ _ _ h => h) (Or.inl ⟨by rfl, ?_⟩) (by assumption) ?_
    (focus (intro w' hSw; obtain ⟨e0, e1, e2, e3, e4, e5, e6, e7, e8, e9⟩ := HC.out w' hSw; go_simp))
    try simp only [Act.put, List.setIfInBounds_toArray, List.set_cons_zero, List.set_cons_succ]
    refine wpAnyH_take (i := 3) (oi := { dst := some 35, op := _, type := _, pos := _, after := _, guard := none }) (v := .pointer (some ⟨ab, off + i * 2, none⟩)) rfl (by kernel_rfl) (by kernel_rfl) (by kernel_rfl) (fun _ _ _ h => h) (Or.inl ⟨by rfl, ?_⟩) (by assumption) ?_
    (focus (intro w' hSw; obtain ⟨e0, e1, e2, e3, e4, e5, e6, e7, e8, e9⟩ := HC.out w' hSw; go_simp))
    try simp only [Act.put, List.setIfInBounds_toArray, List.set_cons_zero, List.set_cons_succ]
    refine wpAnyH_take (i := 4) (oi := { dst := some 36, op := _, type := _, pos := _, after := _, guard := none }) (v := .agg #[.int .i64 p.h, .int .i64 p.x]) rfl (by kernel_rfl) (by kernel_rfl) (by kernel_rfl) (fun _ _ _ h => h) (Or.inl ⟨by rfl, ?_⟩) (by assumption) ?_
    (focus (intro w' hSw; obtain ⟨e0, e1, e2, e3, e4, e5, e6, e7, e8, e9⟩ := HC.out w' hSw; go_simp))
    try simp only [Act.put, List.setIfInBounds_toArray, List.set_cons_zero, List.set_cons_succ]
    refine wpAnyH_take (i := 5) (oi := { dst := some 37, op := _, type := _, pos := _, after := _, guard := none }) (v := .slice (some ⟨ab, off, none⟩) l.length c) rfl (by kernel_rfl) (by kernel_rfl) (by kernel_rfl) (fun _ _ _ h => h) (Or.inl ⟨by rfl, ?_⟩) (by assumption) ?_
    (focus (intro w' hSw; obtain ⟨e0, e1, e2, e3, e4, e5, e6, e7, e8, e9⟩ := HC.out w' hSw; go_simp))
    try simp only [Act.put, List.setIfInBounds_toArray, List.set_cons_zero, List.set_cons_succ]
    refine wpAnyH_take (i := 6) (oi := { dst := some 38, op := _, type := _, pos := _, after := _, guard := none }) (v := .pointer (some ⟨W.heap.size, 2, none⟩)) rfl (by kernel_rfl) (by kernel_rfl) (by kernel_rfl) (fun _ _ _ h => h) (Or.inl ⟨by rfl, ?_⟩) (by assumption) ?_
    (focus (intro w' hSw; obtain ⟨e0, e1, e2, e3, e4, e5, e6, e7, e8, e9⟩ := HC.out w' hSw; go_simp))
    try simp only [Act.put, List.setIfInBounds_toArray, List.set_cons_zero, List.set_cons_succ]
    refine wpAnyH_take (i := 7) (oi := { dst := some 39, op := _, type := _, pos := _, after := _, guard := none }) (v := .int .i64 (k : Int)) rfl (by kernel_rfl) (by kernel_rfl) (by kernel_rfl) (fun _ _ _ h => h) (Or.inl ⟨by rfl, ?_⟩) (by assumption) ?_
    (focus (intro w' hSw; obtain ⟨e0, e1, e2, e3, e4, e5, e6, e7, e8, e9⟩ := HC.out w' hSw; go_simp))
    try simp only [Act.put, List.setIfInBounds_toArray, List.set_cons_zero, List.set_cons_succ]
    refine wpAnyH_take (i := 8) (oi := { dst := some 40, op := _, type := _, pos := _, after := _, guard := none }) (v := .pointer (some ⟨ab, off + k * 2, none⟩)) rfl (by kernel_rfl) (by kernel_rfl) (by kernel_rfl) (fun _ _ _ h => h) (Or.inl ⟨by rfl, ?_⟩) (by assumption) ?_
    (focus (intro w' hSw; obtain ⟨e0, e1, e2, e3, e4, e5, e6, e7, e8, e9⟩ := HC.out w' hSw; go_simp))
    try simp only [Act.put, List.setIfInBounds_toArray, List.set_cons_zero, List.set_cons_succ]
    refine wpAnyH_take (i := 9) (oi := { dst := some 41, op := _, type := _, pos := _, after := _, guard := none }) (v := .agg #[.int .i64 q.h, .int .i64 q.x]) rfl (by kernel_rfl) (by kernel_rfl) (by kernel_rfl) (fun _ _ _ h => h) (Or.inl ⟨by rfl, ?_⟩) (by assumption) ?_
    (focus (intro w' hSw; obtain ⟨e0, e1, e2, e3, e4, e5, e6, e7, e8, e9⟩ := HC.out w' hSw; go_simp))
    try simp only [Act.put, List.setIfInBounds_toArray, List.set_cons_zero, List.set_cons_succ]
    refine wpAnyH_ready (rs := [10, 11]) (by kernel_rfl) (by simp) ?_
    refine AllReadyH.cons rfl (fun K hK => ?_) (AllReadyH.cons rfl (fun K hK => ?_) AllReadyH.nil)
    go_simp
    refine (HT.out _).mono ?_
    rintro e U ⟨rfl, hbU⟩
    refine hK.out _ _ (below_tr (below_draw (Below.refl _ _)) hbU) (fun hS1 => ?_)
    clear hK K
    try simp only [Act.put, List.setIfInBounds_toArray, List.set_cons_zero, List.set_cons_succ]
    refine wpAnyH_ready (rs := [11]) (by kernel_rfl) (by simp) ?_
    refine AllReadyH.cons rfl (fun K hK => ?_) AllReadyH.nil
    go_simp
    refine hK.out _ _ (below_tr hS1 (below_alloc _ _)) (fun hS2 => ?_)
    clear hK K
    try simp only [Act.put, List.setIfInBounds_toArray, List.set_cons_zero, List.set_cons_succ]
    refine wpAnyH_ready (rs := [12]) (by kernel_rfl) (by simp) ?_
    refine AllReadyH.cons rfl (fun K hK => ?_) AllReadyH.nil
    go_simp
    refine hK.out _ _ (below_tr hS1 (below_alloc _ _)) (fun hS3 => ?_)
    clear hK K
    try simp only [Act.put, List.setIfInBounds_toArray, List.set_cons_zero, List.set_cons_succ]
    refine wpAnyH_done (by kernel_rfl) ?_ _
    have BL := Blk.new U 102 #[.int .i64 (m3 (thrA p q) (q.x - p.x) (q.h - p.h) (thrA p q)), .int .i64 (m3 (thrA p q) (q.x - p.x) (q.h - p.h) (q.x - p.x)), .int .i64 (m3 (thrA p q) (q.x - p.x) (q.h - p.h) (q.h - p.h))]
    have hB3 := below_tr hS1 (below_alloc U (.cells #[.int .i64 (m3 (thrA p q) (q.x - p.x) (q.h - p.h) (thrA p q)), .int .i64 (m3 (thrA p q) (q.x - p.x) (q.h - p.h) (q.x - p.x)), .int .i64 (m3 (thrA p q) (q.x - p.x) (q.h - p.h) (q.h - p.h))] 102))
    have hgW : W2.heap.size ≤ U.heap.size := hS1.size
    clear hS0 hS1 hS2 hS3 hbU
    generalize U.alloc (.cells #[.int .i64 (m3 (thrA p q) (q.x - p.x) (q.h - p.h) (thrA p q)), .int .i64 (m3 (thrA p q) (q.x - p.x) (q.h - p.h) (q.x - p.x)), .int .i64 (m3 (thrA p q) (q.x - p.x) (q.h - p.h) (q.h - p.h))] 102) = U3 at BL hB3 ⊢
    generalize U.heap.size = g at BL hgW ⊢
    rotate_left
    go_simp
    have dz := (Blk.new W2 102 #[.int .i64 0, .int .i64 0, .int .i64 0]).drew
    have bz := below_draw (below_alloc W2 (.cells #[.int .i64 0, .int .i64 0, .int .i64 0] 102))
    refine hK.out _ _ bz (fun hS1 => ?_)
    clear hK K
    try simp only [Act.put, List.setIfInBounds_toArray, List.set_cons_zero, List.set_cons_succ]
    refine wpAnyH_ready (rs := [10]) (by kernel_rfl) (by simp) ?_
    refine AllReadyH.cons rfl (fun K hK => ?_) AllReadyH.nil
    go_simp
    refine (HT.out _).mono ?_
    rintro e U ⟨rfl, hbU⟩
    have dU := dz.below hbU (by (try simp only [World.size_alloc]); show W2.heap.size < (W2.alloc _).heap.size; simp)
    refine hK.out _ _ (below_tr bz hbU) (fun hS2 => ?_)
    clear hK K
    try simp only [Act.put, List.setIfInBounds_toArray, List.set_cons_zero, List.set_cons_succ]
    refine wpAnyH_ready (rs := [12]) (by kernel_rfl) (by simp) ?_
    refine AllReadyH.cons rfl (fun K hK => ?_) AllReadyH.nil
    obtain ⟨z0, z1, z2⟩ : U.cell? ⟨W2.heap.size, 0, none⟩ = some (.int .i64 0) ∧ U.cell? ⟨W2.heap.size, 1, none⟩ = some (.int .i64 0) ∧ U.cell? ⟨W2.heap.size, 2, none⟩ = some (.int .i64 0) := ⟨dU.cell 0, dU.cell 1, dU.cell 2⟩
    have zf0 := dU.frozen 0
    have zf1 := dU.frozen 1
    have zf2 := dU.frozen 2
    go_simp
    have hB3 := (((below_tr bz hbU).setCell (p := ⟨W2.heap.size, 0, none⟩) (Nat.le_refl _) (.int .i64 (m3 (thrA p q) (q.x - p.x) (q.h - p.h) (thrA p q)))).setCell (p := ⟨W2.heap.size, 1, none⟩) (Nat.le_refl _) (.int .i64 (m3 (thrA p q) (q.x - p.x) (q.h - p.h) (q.x - p.x)))).setCell (p := ⟨W2.heap.size, 2, none⟩) (Nat.le_refl _) (.int .i64 (m3 (thrA p q) (q.x - p.x) (q.h - p.h) (q.h - p.h)))
    have BL := ((dU.set_ 0 (.int .i64 (m3 (thrA p q) (q.x - p.x) (q.h - p.h) (thrA p q)))).set_ 1 (.int .i64 (m3 (thrA p q) (q.x - p.x) (q.h - p.h) (q.x - p.x)))).set_ 2 (.int .i64 (m3 (thrA p q) (q.x - p.x) (q.h - p.h) (q.h - p.h)))
    refine hK.out _ _ hB3 (fun hS3 => ?_)
    clear hK K
    try simp only [Act.put, List.setIfInBounds_toArray, List.set_cons_zero, List.set_cons_succ]
    refine wpAnyH_done (by kernel_rfl) ?_ _
    clear hS0 hS1 hS2 hS3 hbU dz bz dU z0 z1 z2 zf0 zf1 zf2
    generalize ((U.setCell ⟨W2.heap.size, 0, none⟩ (.int .i64 (m3 (thrA p q) (q.x - p.x) (q.h - p.h) (thrA p q)))).setCell ⟨W2.heap.size, 1, none⟩ (.int .i64 (m3 (thrA p q) (q.x - p.x) (q.h - p.h) (q.x - p.x)))).setCell ⟨W2.heap.size, 2, none⟩ (.int .i64 (m3 (thrA p q) (q.x - p.x) (q.h - p.h) (q.h - p.h))) = U3 at BL hB3 ⊢
    simp only [List.setIfInBounds_toArray, List.set_cons_zero, List.set_cons_succ] at BL
    generalize hg3 : W2.heap.size = g at BL ⊢
    have hgW : W2.heap.size ≤ g := Nat.le_of_eq hg3
    clear hg3
    all_goals
      have hln : lnT l (i, j, k) = (m3 (thrA p q) (q.x - p.x) (q.h - p.h) (thrA p q), m3 (thrA p q) (q.x - p.x) (q.h - p.h) (q.x - p.x), m3 (thrA p q) (q.x - p.x) (q.h - p.h) (q.h - p.h)) := by unfold lnT thr3 mk3; dsimp only; rw [hpt, hqt]
      have htl : TL (lnT l (i, j, k)) := by unfold lnT; dsimp only; rw [hpt, hqt]; exact tl_of sp sq hpq
      have hdt : dT l (i, j, k) = off3 (lnT l (i, j, k)) m := by unfold dT; dsimp only; rw [hmt]
      have hob := off_tl htl sm
      have hlb := lb_tl htl
      rw [hln] at htl hlb hob hdt
      simp only [off3] at hob hdt
      obtain ⟨a0, a1, b0', b1', dd0, dd1⟩ := htl
      have HLN := Lib.hid hln
      have HDT := Lib.hid hdt
      clear hln hdt
      dsimp only at a0 a1 b0' b1' dd0 dd1 hlb hob
      generalize m3 (thrA p q) (q.x - p.x) (q.h - p.h) (thrA p q) = la at *
      generalize m3 (thrA p q) (q.x - p.x) (q.h - p.h) (q.x - p.x) = lb at *
      generalize m3 (thrA p q) (q.x - p.x) (q.h - p.h) (q.h - p.h) = ld at *
      have HOFF := Lib.hid (fun W => p_off la lb ld m W hlb sm)
      have HC2 : Hid (∀ w', Below U3.heap.size U3 w' → w'.cell? ⟨w.heap.size, 0, none⟩ = some (.slice (some ⟨ab, off, none⟩) l.length c) ∧ w'.cell? ⟨W.heap.size, 1, none⟩ = some (.int .i64 j) ∧ w'.cell? ⟨ab, off + j * 2, none⟩ = some (.int .i64 m.h) ∧ w'.cell? ⟨ab, off + j * 2 + 1, none⟩ = some (.int .i64 m.x) ∧
          w'.cell? ⟨g, 0, none⟩ = some (.int .i64 la) ∧ w'.cell? ⟨g, 1, none⟩ = some (.int .i64 lb) ∧ w'.cell? ⟨g, 2, none⟩ = some (.int .i64 ld)) := fun w' hw' => by
        obtain ⟨e0, e1, e2, e3, e4, e5, e6, e7, e8, e9⟩ := HC.out w' (below_tr hB3 hw')
        have hc := (bcell hw').1
        exact ⟨e0, e2, e6, e7, (hc _ _ BL.lt).trans (BL.cell 0), (hc _ _ BL.lt).trans (BL.cell 1), (hc _ _ BL.lt).trans (BL.cell 2)⟩
      gi_wp2
      refine wpIn_round_held (fun w' => Below U3.heap.size U3 w') (by kernel_rfl) (by omega) (by rintro ⟨_, _, h⟩; exact h) (by kernel_rfl) (below_draw (Below.refl _ _)) (fun hS0 => ?_)
      refine wpAnyH_take (i := 0) (oi := { dst := some 43, op := _, type := _, pos := _, after := _, guard := none }) (v := .agg #[.int .i64 la, .int .i64 lb, .int .i64 ld]) rfl (by kernel_rfl) (by kernel_rfl) (by kernel_rfl) (fun _ _ _ h => h) (Or.inl ⟨by rfl, ?_⟩) (by assumption) ?_
      (focus (intro w' hSw; obtain ⟨e0, e1, e2, e3, e4, e5, e6⟩ := HC2.out w' hSw; go_simp))
      try simp only [Act.put, List.setIfInBounds_toArray, List.set_cons_zero, List.set_cons_succ]
      refine wpAnyH_take (i := 1) (oi := { dst := some 44, op := _, type := _, pos := _, after := _, guard := none }) (v := .slice (some ⟨ab, off, none⟩) l.length c) rfl (by kernel_rfl) (by kernel_rfl) (by kernel_rfl) (fun _ _ _ h => h) (Or.inl ⟨by rfl, ?_⟩) (by assumption) ?_
      (focus (intro w' hSw; obtain ⟨e0, e1, e2, e3, e4, e5, e6⟩ := HC2.out w' hSw; go_simp))
      try simp only [Act.put, List.setIfInBounds_toArray, List.set_cons_zero, List.set_cons_succ]
      refine wpAnyH_take (i := 2) (oi := { dst := some 45, op := _, type := _, pos := _, after := _, guard := none }) (v := .pointer (some ⟨W.heap.size, 1, none⟩)) rfl (by kernel_rfl) (by kernel_rfl) (by kernel_rfl) (fun _ _ _ h => h) (Or.inl ⟨by rfl, ?_⟩) (by assumption) ?_
      (focus (intro w' hSw; obtain ⟨e0, e1, e2, e3, e4, e5, e6⟩ := HC2.out w' hSw; go_simp))
      try simp only [Act.put, List.setIfInBounds_toArray, List.set_cons_zero, List.set_cons_succ]
      refine wpAnyH_take (i := 3) (oi := { dst := some 46, op := _, type := _, pos := _, after := _, guard := none }) (v := .int .i64 (j : Int)) rfl (by kernel_rfl) (by kernel_rfl) (by kernel_rfl) (fun _ _ _ h => h) (Or.inl ⟨by rfl, ?_⟩) (by assumption) ?_
      (focus (intro w' hSw; obtain ⟨e0, e1, e2, e3, e4, e5, e6⟩ := HC2.out w' hSw; go_simp))
      try simp only [Act.put, List.setIfInBounds_toArray, List.set_cons_zero, List.set_cons_succ]
      refine wpAnyH_take (i := 4) (oi := { dst := some 47, op := _, type := _, pos := _, after := _, guard := none }) (v := .pointer (some ⟨ab, off + j * 2, none⟩)) rfl (by kernel_rfl) (by kernel_rfl) (by kernel_rfl) (fun _ _ _ h => h) (Or.inl ⟨by rfl, ?_⟩) (by assumption) ?_
      (focus (intro w' hSw; obtain ⟨e0, e1, e2, e3, e4, e5, e6⟩ := HC2.out w' hSw; go_simp))
      try simp only [Act.put, List.setIfInBounds_toArray, List.set_cons_zero, List.set_cons_succ]
      refine wpAnyH_take (i := 5) (oi := { dst := some 48, op := _, type := _, pos := _, after := _, guard := none }) (v := .agg #[.int .i64 m.h, .int .i64 m.x]) rfl (by kernel_rfl) (by kernel_rfl) (by kernel_rfl) (fun _ _ _ h => h) (Or.inl ⟨by rfl, ?_⟩) (by assumption) ?_
      (focus (intro w' hSw; obtain ⟨e0, e1, e2, e3, e4, e5, e6⟩ := HC2.out w' hSw; go_simp))
      try simp only [Act.put, List.setIfInBounds_toArray, List.set_cons_zero, List.set_cons_succ]
      refine wpAnyH_ready (rs := [6]) (by kernel_rfl) (by simp) ?_
      refine AllReadyH.cons rfl (fun K hK => ?_) AllReadyH.nil
      go_simp
      refine (HOFF.out _).mono ?_
      rintro e V ⟨rfl, hbV⟩
      have hV := below_tr hS0 hbV
      refine hK.out _ _ hV (fun hS1 => ?_)
      clear hK K hS0
      try simp only [Act.put, List.setIfInBounds_toArray, List.set_cons_zero, List.set_cons_succ]
      refine wpAnyH_take (i := 7) (oi := { dst := some 7, op := _, type := _, pos := _, after := _, guard := none }) (v := .int .i64 (offV la lb ld m)) rfl (by kernel_rfl) (by kernel_rfl) (by kernel_rfl) (fun _ _ _ h => h) (Or.inl ⟨by rfl, ?_⟩) (by assumption) ?_
      (focus (intro w' hSw; go_simp))
      try simp only [Act.put, List.setIfInBounds_toArray, List.set_cons_zero, List.set_cons_succ]
      refine wpAnyH_done (by kernel_rfl) ?_ _
      clear hS1 hbV
    all_goals
      have hbV3 := below_tr hB3 hV
      have BLV := BL.below hV BL.lt
      generalize offV la lb ld m = d at *
      clear hB3 hV BL HC2 HOFF HT
      have hfd : Fits (2 * ld) := ⟨by omega, by omega⟩
      have hfa : Fits ((d.natAbs : Nat) : Int) := ⟨by omega, by omega⟩
      have HHN := Lib.hid (show hN l (i, j, k) = gN ((d.natAbs : Nat) : Int) (2 * ld) by unfold hN; rw [HDT.out, HLN.out])
      have HHD := Lib.hid (show hD l (i, j, k) = gD ((d.natAbs : Nat) : Int) (2 * ld) by unfold hD; rw [HDT.out, HLN.out])
      have KL := fun W => p_lowest ((d.natAbs : Nat) : Int) (2 * ld) W hfa hfd (by omega)
      rcases (by omega : (d < -d ∧ ((d.natAbs : Nat) : Int) = -d) ∨ (-d ≤ d ∧ ((d.natAbs : Nat) : Int) = d)) with ⟨hs, he⟩ | ⟨hs, he⟩
    all_goals
      have hbn := gN_bd (n := ((d.natAbs : Nat) : Int)) (d := 2 * ld) (B := 12000000000) (by omega) (by omega) (by omega)
      have hbd := gD_le (n := ((d.natAbs : Nat) : Int)) (d := 2 * ld) (by omega)
      have hbp := gD_pos (n := ((d.natAbs : Nat) : Int)) (d := 2 * ld) (by omega)
      generalize gN ((d.natAbs : Nat) : Int) (2 * ld) = hn at *
      generalize gD ((d.natAbs : Nat) : Int) (2 * ld) = hd at *
      rw [he] at KL
      have hx1 : max d (-d) = ((d.natAbs : Nat) : Int) := by omega
      rw [he] at hx1
      have HKL := Lib.hid KL
      clear KL hfa hfd he
      obtain ⟨z0, z1, z2⟩ : V.cell? ⟨g, 0, none⟩ = some (.int .i64 la) ∧ V.cell? ⟨g, 1, none⟩ = some (.int .i64 lb) ∧ V.cell? ⟨g, 2, none⟩ = some (.int .i64 ld) := ⟨BLV.cell 0, BLV.cell 1, BLV.cell 2⟩
      gi_wp2
    all_goals
      refine ⟨trivial, ?_⟩
      refine (CallsIn.inRound L (callsIn_wide.2 (HKL.out _))).mono ?_
      rintro e V1 ⟨rfl, hb1⟩
      have D2 := (d2.below hbV3 d2.lt).below hb1 (d2.below hbV3 d2.lt).lt
      have D3 := (d3.below hbV3 d3.lt).below hb1 (d3.below hbV3 d3.lt).lt
      have BL1 := BLV.below hb1 BLV.lt
      have hbV1 := below_tr hbV3 hb1
      obtain ⟨m0, m1, _, _⟩ := blk2 D3
      have y3 := D3.lt
      have y2 := D2.lt
      have yg := BL1.lt
      have m0' : V1.cell? ⟨w.heap.size + 1 + 1 + 1, 0, none⟩ = some (.int .i64 (nFold l pre).2.1) := m0
      have m1' : V1.cell? ⟨w.heap.size + 1 + 1 + 1, 1, none⟩ = some (.int .i64 (nFold l pre).2.2) := m1
      have hih : I64 hn := ⟨by omega, by omega⟩
      have hid' : I64 hd := ⟨by omega, by omega⟩
      have HCM := Lib.hid (fun W => p_compare hn hd (nFold l pre).2.1 (nFold l pre).2.2 W hih hid' hmN hmD)
      clear m0 m1 hbV3 BLV z0 z1 z2
      gi_wp2
    all_goals
      refine ⟨trivial, ?_⟩
      refine (CallsIn.inRound L (callsIn_wide.2 (HCM.out _))).mono ?_
      rintro e V2 ⟨rfl, hb2⟩
      have E2 := (D2.alloc (.cells #[.int .i64 hn, .int .i64 hd] 93)).below hb2 (by rw [World.size_alloc]; omega)
      have E3 := (D3.alloc (.cells #[.int .i64 hn, .int .i64 hd] 93)).below hb2 (by rw [World.size_alloc]; omega)
      have EL := (BL1.alloc (.cells #[.int .i64 hn, .int .i64 hd] 93)).below hb2 (by rw [World.size_alloc]; omega)
      have E8 := (Blk.new V1 93 #[.int .i64 hn, .int .i64 hd]).below hb2 (by rw [World.size_alloc]; omega)
      have hbV2 := below_tr (below_tr hbV1 (below_alloc _ _)) hb2
      have hg8 : g < V1.heap.size := yg
      have hw8 : w.heap.size + 3 < V1.heap.size := y3
      clear hb1 hb2 D2 D3 BL1 hbV1 m0' m1' yg y2 y3 HKL HCM
      generalize V1.heap.size = g8 at *
      by_cases hc : 0 < cmpR hn hd (nFold l pre).2.1 (nFold l pre).2.2
      rotate_left
      have HF : Hid (nFold l (pre ++ [(i, j, k)]) = nFold l pre) := by
        show _ = _
        unfold nFold at hc ⊢
        rw [List.foldl_append]
        simp only [List.foldl_cons, List.foldl_nil, nStep]
        rw [HHN.out, HHD.out, if_neg hc]
      gi_wp2
      refine ⟨(Stp.of_below hbV2).mono (fun b hb hn => absurd hn (by omega)), ?_⟩
      show (_ ∧ _) ∧ _
      rw [HF.out]
      exact ⟨⟨hmN, hmD⟩, ⟨hB2.trans (hbV2.mono hB2.size), Nat.le_trans hB2.size hbV2.size⟩, d0.below hbV2 d0.lt, d1.below hbV2 d1.lt, E2, E3⟩
      have KM := fun W => p_made (2 * la + d) (2 * lb) (2 * ld) W ⟨by omega, by omega⟩ ⟨by omega, by omega⟩ ⟨by omega, by omega⟩ (by omega)
      have HF : Hid (nFold l (pre ++ [(i, j, k)]) = ((m3 (2 * la + d) (2 * lb) (2 * ld) (2 * la + d), m3 (2 * la + d) (2 * lb) (2 * ld) (2 * lb), m3 (2 * la + d) (2 * lb) (2 * ld) (2 * ld)), hn, hd)) := by
        show _ = _
        unfold nFold at hc ⊢
        rw [List.foldl_append]
        simp only [List.foldl_cons, List.foldl_nil, nStep]
        rw [HHN.out, HHD.out, HDT.out, HLN.out, if_pos hc]
        rfl
      generalize m3 (2 * la + d) (2 * lb) (2 * ld) (2 * la + d) = mA at *
      generalize m3 (2 * la + d) (2 * lb) (2 * ld) (2 * lb) = mB at *
      generalize m3 (2 * la + d) (2 * lb) (2 * ld) (2 * ld) = mD at *
      have HM := Lib.hid KM
      clear KM
      gi_wp2
      have w1 : IntKind.i64.wrap (2 * la) = 2 * la := fits_wrap ⟨by omega, by omega⟩
      have w2 : IntKind.i64.wrap (2 * lb) = 2 * lb := fits_wrap ⟨by omega, by omega⟩
      have w3 : IntKind.i64.wrap (2 * ld) = 2 * ld := fits_wrap ⟨by omega, by omega⟩
      have w4 : IntKind.i64.wrap (2 * la + d) = 2 * la + d := fits_wrap ⟨by omega, by omega⟩
      have ng : g ≠ w.heap.size + 2 := by have := HS2.out; omega
      have ng' : g ≠ w.heap.size + 3 := by have := HS2.out; omega
      have ng8 : g8 ≠ w.heap.size + 2 := by omega
      have ng8' : g8 ≠ w.heap.size + 3 := by omega
      refine wpIn_round_held (fun w' => Blk w' g 102 #[.int .i64 la, .int .i64 lb, .int .i64 ld] ∧ Blk w' g8 93 #[.int .i64 hn, .int .i64 hd]) (by kernel_rfl) (by omega) (by rintro ⟨_, _, h⟩; exact h) (by kernel_rfl) ⟨EL.drew, E8.drew⟩ (fun hS0 => ?_)
      refine wpAnyH_take (i := 0) (oi := { dst := some 62, op := _, type := _, pos := _, after := _, guard := none }) (v := .pointer (some ⟨g, 0, none⟩)) rfl (by kernel_rfl) (by kernel_rfl) (by kernel_rfl) (fun _ _ _ h => h) (Or.inl ⟨by rfl, ?_⟩) (by assumption) ?_
      (focus (intro w' hSw; obtain ⟨hs1, hs2⟩ := hSw; obtain ⟨e0, e1, _, _⟩ := blk2 hs2; have e2 : w'.cell? ⟨g, 0, none⟩ = some (.int .i64 la) := hs1.cell 0; have e3 : w'.cell? ⟨g, 1, none⟩ = some (.int .i64 lb) := hs1.cell 1; have e4 : w'.cell? ⟨g, 2, none⟩ = some (.int .i64 ld) := hs1.cell 2; clear hs1 hs2; go_simp))
      try simp only [Act.put, List.setIfInBounds_toArray, List.set_cons_zero, List.set_cons_succ]
      refine wpAnyH_take (i := 1) (oi := { dst := some 63, op := _, type := _, pos := _, after := _, guard := none }) (v := .int .i64 la) rfl (by kernel_rfl) (by kernel_rfl) (by kernel_rfl) (fun _ _ _ h => h) (Or.inl ⟨by rfl, ?_⟩) (by assumption) ?_
      (focus (intro w' hSw; obtain ⟨hs1, hs2⟩ := hSw; obtain ⟨e0, e1, _, _⟩ := blk2 hs2; have e2 : w'.cell? ⟨g, 0, none⟩ = some (.int .i64 la) := hs1.cell 0; have e3 : w'.cell? ⟨g, 1, none⟩ = some (.int .i64 lb) := hs1.cell 1; have e4 : w'.cell? ⟨g, 2, none⟩ = some (.int .i64 ld) := hs1.cell 2; clear hs1 hs2; go_simp))
      try simp only [Act.put, List.setIfInBounds_toArray, List.set_cons_zero, List.set_cons_succ]
      refine wpAnyH_take (i := 2) (oi := { dst := some 64, op := _, type := _, pos := _, after := _, guard := none }) (v := .int .i64 (2 * la)) rfl (by kernel_rfl) (by kernel_rfl) (by kernel_rfl) (fun _ _ _ h => h) (Or.inl ⟨by rfl, ?_⟩) (by assumption) ?_
      (focus (intro w' hSw; obtain ⟨hs1, hs2⟩ := hSw; obtain ⟨e0, e1, _, _⟩ := blk2 hs2; have e2 : w'.cell? ⟨g, 0, none⟩ = some (.int .i64 la) := hs1.cell 0; have e3 : w'.cell? ⟨g, 1, none⟩ = some (.int .i64 lb) := hs1.cell 1; have e4 : w'.cell? ⟨g, 2, none⟩ = some (.int .i64 ld) := hs1.cell 2; clear hs1 hs2; go_simp))
      try simp only [Act.put, List.setIfInBounds_toArray, List.set_cons_zero, List.set_cons_succ]
      refine wpAnyH_take (i := 3) (oi := { dst := some 65, op := _, type := _, pos := _, after := _, guard := none }) (v := .int .i64 d) rfl (by kernel_rfl) (by kernel_rfl) (by kernel_rfl) (fun _ _ _ h => h) (Or.inl ⟨by rfl, ?_⟩) (by assumption) ?_
      (focus (intro w' hSw; obtain ⟨hs1, hs2⟩ := hSw; obtain ⟨e0, e1, _, _⟩ := blk2 hs2; have e2 : w'.cell? ⟨g, 0, none⟩ = some (.int .i64 la) := hs1.cell 0; have e3 : w'.cell? ⟨g, 1, none⟩ = some (.int .i64 lb) := hs1.cell 1; have e4 : w'.cell? ⟨g, 2, none⟩ = some (.int .i64 ld) := hs1.cell 2; clear hs1 hs2; go_simp))
      try simp only [Act.put, List.setIfInBounds_toArray, List.set_cons_zero, List.set_cons_succ]
      refine wpAnyH_take (i := 4) (oi := { dst := some 66, op := _, type := _, pos := _, after := _, guard := none }) (v := .int .i64 (2 * la + d)) rfl (by kernel_rfl) (by kernel_rfl) (by kernel_rfl) (fun _ _ _ h => h) (Or.inl ⟨by rfl, ?_⟩) (by assumption) ?_
      (focus (intro w' hSw; obtain ⟨hs1, hs2⟩ := hSw; obtain ⟨e0, e1, _, _⟩ := blk2 hs2; have e2 : w'.cell? ⟨g, 0, none⟩ = some (.int .i64 la) := hs1.cell 0; have e3 : w'.cell? ⟨g, 1, none⟩ = some (.int .i64 lb) := hs1.cell 1; have e4 : w'.cell? ⟨g, 2, none⟩ = some (.int .i64 ld) := hs1.cell 2; clear hs1 hs2; go_simp))
      try simp only [Act.put, List.setIfInBounds_toArray, List.set_cons_zero, List.set_cons_succ]
      refine wpAnyH_take (i := 5) (oi := { dst := some 67, op := _, type := _, pos := _, after := _, guard := none }) (v := .pointer (some ⟨g, 1, none⟩)) rfl (by kernel_rfl) (by kernel_rfl) (by kernel_rfl) (fun _ _ _ h => h) (Or.inl ⟨by rfl, ?_⟩) (by assumption) ?_
      (focus (intro w' hSw; obtain ⟨hs1, hs2⟩ := hSw; obtain ⟨e0, e1, _, _⟩ := blk2 hs2; have e2 : w'.cell? ⟨g, 0, none⟩ = some (.int .i64 la) := hs1.cell 0; have e3 : w'.cell? ⟨g, 1, none⟩ = some (.int .i64 lb) := hs1.cell 1; have e4 : w'.cell? ⟨g, 2, none⟩ = some (.int .i64 ld) := hs1.cell 2; clear hs1 hs2; go_simp))
      try simp only [Act.put, List.setIfInBounds_toArray, List.set_cons_zero, List.set_cons_succ]
      refine wpAnyH_take (i := 6) (oi := { dst := some 68, op := _, type := _, pos := _, after := _, guard := none }) (v := .int .i64 lb) rfl (by kernel_rfl) (by kernel_rfl) (by kernel_rfl) (fun _ _ _ h => h) (Or.inl ⟨by rfl, ?_⟩) (by assumption) ?_
      (focus (intro w' hSw; obtain ⟨hs1, hs2⟩ := hSw; obtain ⟨e0, e1, _, _⟩ := blk2 hs2; have e2 : w'.cell? ⟨g, 0, none⟩ = some (.int .i64 la) := hs1.cell 0; have e3 : w'.cell? ⟨g, 1, none⟩ = some (.int .i64 lb) := hs1.cell 1; have e4 : w'.cell? ⟨g, 2, none⟩ = some (.int .i64 ld) := hs1.cell 2; clear hs1 hs2; go_simp))
      try simp only [Act.put, List.setIfInBounds_toArray, List.set_cons_zero, List.set_cons_succ]
      refine wpAnyH_take (i := 7) (oi := { dst := some 69, op := _, type := _, pos := _, after := _, guard := none }) (v := .int .i64 (2 * lb)) rfl (by kernel_rfl) (by kernel_rfl) (by kernel_rfl) (fun _ _ _ h => h) (Or.inl ⟨by rfl, ?_⟩) (by assumption) ?_
      (focus (intro w' hSw; obtain ⟨hs1, hs2⟩ := hSw; obtain ⟨e0, e1, _, _⟩ := blk2 hs2; have e2 : w'.cell? ⟨g, 0, none⟩ = some (.int .i64 la) := hs1.cell 0; have e3 : w'.cell? ⟨g, 1, none⟩ = some (.int .i64 lb) := hs1.cell 1; have e4 : w'.cell? ⟨g, 2, none⟩ = some (.int .i64 ld) := hs1.cell 2; clear hs1 hs2; go_simp))
      try simp only [Act.put, List.setIfInBounds_toArray, List.set_cons_zero, List.set_cons_succ]
      refine wpAnyH_take (i := 8) (oi := { dst := some 70, op := _, type := _, pos := _, after := _, guard := none }) (v := .pointer (some ⟨g, 2, none⟩)) rfl (by kernel_rfl) (by kernel_rfl) (by kernel_rfl) (fun _ _ _ h => h) (Or.inl ⟨by rfl, ?_⟩) (by assumption) ?_
      (focus (intro w' hSw; obtain ⟨hs1, hs2⟩ := hSw; obtain ⟨e0, e1, _, _⟩ := blk2 hs2; have e2 : w'.cell? ⟨g, 0, none⟩ = some (.int .i64 la) := hs1.cell 0; have e3 : w'.cell? ⟨g, 1, none⟩ = some (.int .i64 lb) := hs1.cell 1; have e4 : w'.cell? ⟨g, 2, none⟩ = some (.int .i64 ld) := hs1.cell 2; clear hs1 hs2; go_simp))
      try simp only [Act.put, List.setIfInBounds_toArray, List.set_cons_zero, List.set_cons_succ]
      refine wpAnyH_take (i := 9) (oi := { dst := some 71, op := _, type := _, pos := _, after := _, guard := none }) (v := .int .i64 ld) rfl (by kernel_rfl) (by kernel_rfl) (by kernel_rfl) (fun _ _ _ h => h) (Or.inl ⟨by rfl, ?_⟩) (by assumption) ?_
      (focus (intro w' hSw; obtain ⟨hs1, hs2⟩ := hSw; obtain ⟨e0, e1, _, _⟩ := blk2 hs2; have e2 : w'.cell? ⟨g, 0, none⟩ = some (.int .i64 la) := hs1.cell 0; have e3 : w'.cell? ⟨g, 1, none⟩ = some (.int .i64 lb) := hs1.cell 1; have e4 : w'.cell? ⟨g, 2, none⟩ = some (.int .i64 ld) := hs1.cell 2; clear hs1 hs2; go_simp))
      try simp only [Act.put, List.setIfInBounds_toArray, List.set_cons_zero, List.set_cons_succ]
      refine wpAnyH_take (i := 10) (oi := { dst := some 72, op := _, type := _, pos := _, after := _, guard := none }) (v := .int .i64 (2 * ld)) rfl (by kernel_rfl) (by kernel_rfl) (by kernel_rfl) (fun _ _ _ h => h) (Or.inl ⟨by rfl, ?_⟩) (by assumption) ?_
      (focus (intro w' hSw; obtain ⟨hs1, hs2⟩ := hSw; obtain ⟨e0, e1, _, _⟩ := blk2 hs2; have e2 : w'.cell? ⟨g, 0, none⟩ = some (.int .i64 la) := hs1.cell 0; have e3 : w'.cell? ⟨g, 1, none⟩ = some (.int .i64 lb) := hs1.cell 1; have e4 : w'.cell? ⟨g, 2, none⟩ = some (.int .i64 ld) := hs1.cell 2; clear hs1 hs2; go_simp))
      try simp only [Act.put, List.setIfInBounds_toArray, List.set_cons_zero, List.set_cons_succ]
      refine wpAnyH_take (i := 12) (oi := { dst := some 74, op := _, type := _, pos := _, after := _, guard := none }) (v := .agg #[.int .i64 hn, .int .i64 hd]) rfl (by kernel_rfl) (by kernel_rfl) (by kernel_rfl) (fun _ _ _ h => h) (Or.inl ⟨by rfl, ?_⟩) (by assumption) ?_
      (focus (intro w' hSw; obtain ⟨hs1, hs2⟩ := hSw; obtain ⟨e0, e1, _, _⟩ := blk2 hs2; have e2 : w'.cell? ⟨g, 0, none⟩ = some (.int .i64 la) := hs1.cell 0; have e3 : w'.cell? ⟨g, 1, none⟩ = some (.int .i64 lb) := hs1.cell 1; have e4 : w'.cell? ⟨g, 2, none⟩ = some (.int .i64 ld) := hs1.cell 2; clear hs1 hs2; go_simp))
      try simp only [Act.put, List.setIfInBounds_toArray, List.set_cons_zero, List.set_cons_succ]
      refine wpAnyH_ready (rs := [11]) (by kernel_rfl) (by simp) ?_
      refine AllReadyH.cons rfl (fun K hK => ?_) AllReadyH.nil
      go_simp
      refine (HM.out _).mono ?_
      rintro e U ⟨rfl, hbU⟩
      have FL := EL.drew.below hbU EL.lt
      have F8 := E8.drew.below hbU E8.lt
      have F2 := E2.drew.below hbU E2.lt
      have F3 := E3.drew.below hbU E3.lt
      refine hK.out _ _ ⟨FL, F8⟩ (fun hS1 => ?_)
      clear hK K hS0
      try simp only [Act.put, List.setIfInBounds_toArray, List.set_cons_zero, List.set_cons_succ]
      refine wpAnyH_ready (rs := [13]) (by kernel_rfl) (by simp) ?_
      refine AllReadyH.cons rfl (fun K hK => ?_) AllReadyH.nil
      obtain ⟨z0, z1, z2⟩ : U.cell? ⟨w.heap.size + 1 + 1, 0, none⟩ = some (.int .i64 (nFold l pre).1.1) ∧ U.cell? ⟨w.heap.size + 1 + 1, 1, none⟩ = some (.int .i64 (nFold l pre).1.2.1) ∧ U.cell? ⟨w.heap.size + 1 + 1, 2, none⟩ = some (.int .i64 (nFold l pre).1.2.2) := ⟨F2.cell 0, F2.cell 1, F2.cell 2⟩
      obtain ⟨x0, x1, x2⟩ : U.frozen? ⟨w.heap.size + 1 + 1, 0, none⟩ = false ∧ U.frozen? ⟨w.heap.size + 1 + 1, 1, none⟩ = false ∧ U.frozen? ⟨w.heap.size + 1 + 1, 2, none⟩ = false := ⟨F2.frozen 0, F2.frozen 1, F2.frozen 2⟩
      obtain ⟨u0, u1⟩ : U.cell? ⟨w.heap.size + 1 + 1 + 1, 0, none⟩ = some (.int .i64 (nFold l pre).2.1) ∧ U.cell? ⟨w.heap.size + 1 + 1 + 1, 1, none⟩ = some (.int .i64 (nFold l pre).2.2) := ⟨F3.cell 0, F3.cell 1⟩
      obtain ⟨v0, v1⟩ : U.frozen? ⟨w.heap.size + 1 + 1 + 1, 0, none⟩ = false ∧ U.frozen? ⟨w.heap.size + 1 + 1 + 1, 1, none⟩ = false := ⟨F3.frozen 0, F3.frozen 1⟩
      go_simp
      have G2 := ((F2.set_ 0 (.int .i64 mA)).set_ 1 (.int .i64 mB)).set_ 2 (.int .i64 mD)
      have G3 := ((F3.far (p := ⟨w.heap.size + 2, 0, none⟩) (by simp) (.int .i64 mA)).far (p := ⟨w.heap.size + 2, 1, none⟩) (by simp) (.int .i64 mB)).far (p := ⟨w.heap.size + 2, 2, none⟩) (by simp) (.int .i64 mD)
      refine hK.out _ _ ⟨((FL.far ng _).far ng _).far ng _, ((F8.far ng8 _).far ng8 _).far ng8 _⟩ (fun hS2 => ?_)
      clear hK K hS1
      try simp only [Act.put, List.setIfInBounds_toArray, List.set_cons_zero, List.set_cons_succ]
      refine wpAnyH_ready (rs := [14]) (by kernel_rfl) (by simp) ?_
      refine AllReadyH.cons rfl (fun K hK => ?_) AllReadyH.nil
      go_simp
      have I2 := (G2.far (p := ⟨w.heap.size + 3, 0, none⟩) (by simp) (.int .i64 hn)).far (p := ⟨w.heap.size + 3, 1, none⟩) (by simp) (.int .i64 hd)
      have I3 := (G3.set_ 0 (.int .i64 hn)).set_ 1 (.int .i64 hd)
      refine hK.out _ _ ⟨((((FL.far ng _).far ng _).far ng _).far ng' _).far ng' _, ((((F8.far ng8 _).far ng8 _).far ng8 _).far ng8' _).far ng8' _⟩ (fun hS3 => ?_)
      clear hK K hS2
      try simp only [Act.put, List.setIfInBounds_toArray, List.set_cons_zero, List.set_cons_succ]
      refine wpAnyH_done (by kernel_rfl) ?_ _
      have hst : Stp (fun b => b = w.heap.size + 2 ∨ b = w.heap.size + 3 ∨ W2.heap.size ≤ b) W2 V2 := (Stp.of_below hbV2).mono (fun b hb h => .inr (.inr h))
      have hstF := (((((hst.drew.below hbU hbV2.size).setCell (p := ⟨w.heap.size + 2, 0, none⟩) (.inl (.inl rfl)) (.int .i64 mA)).setCell (p := ⟨w.heap.size + 2, 1, none⟩) (.inl (.inl rfl)) (.int .i64 mB)).setCell (p := ⟨w.heap.size + 2, 2, none⟩) (.inl (.inl rfl)) (.int .i64 mD)).setCell (p := ⟨w.heap.size + 3, 0, none⟩) (.inl (.inr (.inl rfl))) (.int .i64 hn)).setCell (p := ⟨w.heap.size + 3, 1, none⟩) (.inl (.inr (.inl rfl))) (.int .i64 hd)
      have hsz2 := HS2.out
      refine ⟨hstF.mono (fun b hb hnn => ?_), ?_⟩
      · rcases hnn with h | h | h
        · rintro (h2 | (h2 | h2) | h2 | h2)
          · have := (hM _ h2).1; omega
          all_goals omega
        · rintro (h2 | (h2 | h2) | h2 | h2)
          · have := (hM _ h2).1; omega
          all_goals omega
        · omega
      · show (_ ∧ _) ∧ _
        rw [HF.out]
        exact ⟨⟨hih, hid'⟩, ⟨hB2.trans (hstF.toBelow hB2.size (fun b hb hnn => by omega)), Nat.le_trans hB2.size hstF.size⟩, hstF.blk d0 (by omega), hstF.blk d1 (by omega), I2, I3⟩
end Go.Proofs.YtoelekhkgknneaaDoor
