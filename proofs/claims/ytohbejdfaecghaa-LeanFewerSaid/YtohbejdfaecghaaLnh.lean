/- Lean: Proof by the reference. -/
import Derived.Test.YtohbejdfaecghaaLng
import Derived.Test.YtohbejdfaecghaaLnc
set_option linter.unusedSimpArgs false
set_option linter.unusedVariables false
namespace Go.Proofs.Ytohbejdfaecghaa
open Go.RowKit

abbrev trV (t : Trip) : Value := .agg #[.int .i64 t.1, .int .i64 t.2.1, .int .i64 t.2.2]
def fndP (l : List Pt) (ts : List Trip) : Option Trip := ts.find? (prvB (nearP l) l)
def prfL (l : List Pt) : Trip × Int := if vldP l = true then (match fndP l (trips l.length) with | some t => (t, 0) | none => ((0, 0, 0), 8)) else ((0, 0, 0), 1)
theorem fnd_snoc {l : List Pt} {ts : List Trip} {t : Trip} (h : fndP l ts = none) (ht : prvB (nearP l) l t = false) : fndP l (ts ++ [t]) = none := by
  unfold fndP at *
  rw [List.find?_append, h, List.find?_singleton, ht]; simp
theorem fnd_hit {l : List Pt} {ts r : List Trip} {t : Trip} (h : fndP l ts = none) (ht : prvB (nearP l) l t = true) : fndP l (ts ++ t :: r) = some t := by
  unfold fndP at *
  rw [List.find?_append, h, List.find?_cons_of_pos ht]; rfl
theorem trips_few {n : Nat} (h : n < 3) : trips n = [] := by
  rcases (by omega : n = 0 ∨ n = 1 ∨ n = 2) with rfl | rfl | rfl <;> rfl
theorem prf_few {l : List Pt} (hv : vldP l = true) (h : l.length < 3) : prfL l = ((0, 0, 0), 8) := by
  unfold prfL; rw [if_pos hv, trips_few h]; rfl
theorem blk3 {W : World} {g : Nat} {t : TypeId} {a b c : Value} (h : Blk W g t #[a, b, c]) : W.cell? ⟨g, 0, none⟩ = some a ∧ W.cell? ⟨g, 1, none⟩ = some b ∧ W.cell? ⟨g, 2, none⟩ = some c ∧ W.frozen? ⟨g, 0, none⟩ = false ∧ W.frozen? ⟨g, 1, none⟩ = false ∧ W.frozen? ⟨g, 2, none⟩ = false :=
  ⟨h.cell 0, h.cell 1, h.cell 2, h.frozen 0, h.frozen 1, h.frozen 2⟩
set_option maxHeartbeats 4000000 in
set_option maxRecDepth 20000 in
theorem r_Proof (A : Option Addr) (l : List Pt) (c : Nat) (w : World) (hn : l.length ≤ 100000) (hR : Rd Pt.cs 2 w A l) :
    Calls Try.prog 52 #[.slice A l.length c] w fun e w' => e = .returned (.tuple #[trV (prfL l).1, .int .i64 (prfL l).2]) ∧ Below w.heap.size w w' := by
  have HV := Lib.hid (fun W (h : Below w.heap.size w W) => r_validPoints A l c W hn (hR.on h))
  cases hv : vldP l
  · rw [show prfL l = ((0, 0, 0), 1) by simp [prfL, hv]]
    clear hR
    go_enter Try.func52, Try.ntmps52
    go_wp2_with (go_at_call 31; ((with_reducible refine (calls_bool hv (HV.out _ (below_alloc _ _))).mono ?_); rintro e w1 ⟨rfl, hb1⟩; obtain ⟨hc1, hf1⟩ := bcell hb1; have hz1 := hb1.size; (try simp [sz_drew, sz_drewN] at hz1); (try simp only [sz_drew, sz_drewN] at hc1 hf1); have z1_0 : w.heap.size < w1.heap.size := (by omega)))
    (refine bodyPost_ret (v := .tuple #[trV (0, 0, 0), .int .i64 1]) (by simp [results, Try.results52, go_sem, *]) rfl ⟨rfl, ?_⟩; (repeat' (first | assumption | exact below_refl _ | refine bl_alloc ?_ _ | refine Below.setCell ?_ ?_ _ | refine below_draw ?_ | refine below_drewN ?_ _ | refine below_tr ?_ (by assumption))) <;> (first | omega | (simp; done) | (simp; omega)))
  · obtain ⟨h1, h2⟩ := vld_len hv
    by_cases h3 : l.length < 3
    · rw [prf_few hv h3]
      have t0 : decide ((l.length : Int) < 3) = true := by simp; omega
      clear hR
      go_enter Try.func52, Try.ntmps52
      go_wp2_with (go_at_call 31; ((with_reducible refine (calls_bool hv (HV.out _ (below_alloc _ _))).mono ?_); rintro e w1 ⟨rfl, hb1⟩; obtain ⟨hc1, hf1⟩ := bcell hb1; have hz1 := hb1.size; (try simp [sz_drew, sz_drewN] at hz1); (try simp only [sz_drew, sz_drewN] at hc1 hf1); have z1_0 : w.heap.size < w1.heap.size := (by omega)))
      (refine bodyPost_ret (v := .tuple #[trV (0, 0, 0), .int .i64 8]) (by simp [results, Try.results52, go_sem, *]) rfl ⟨rfl, ?_⟩; (repeat' (first | assumption | exact below_refl _ | refine bl_alloc ?_ _ | refine Below.setCell ?_ ?_ _ | refine below_draw ?_ | refine below_drewN ?_ _ | refine below_tr ?_ (by assumption))) <;> (first | omega | (simp; done) | (simp; omega)))
    · have t0 : decide ((l.length : Int) < 3) = false := by simp; omega
      have HN := fun W (h : Below w.heap.size w W) => r_nearest A l c W hv (hR.on h)
      have HP := fun (i j k : Nat) W (h : Below w.heap.size w W) (h1 : i < j) (h2' : j < k) (h3 : k < l.length) => r_proves (nearP l).1 (nearP l).2.1 (nearP l).2.2 A l c i j k W (lb_of (vld_in (near_vld hv))) (vld_sp hv) (hR.on h) h2 (by omega) (by omega) h3
      have HF := Lib.hid (show prfL l = (match fndP l (trips l.length) with | some t => (t, 0) | none => ((0, 0, 0), 8)) by unfold prfL; rw [if_pos hv])
      have HS := fun (ts : List Trip) (t : Trip) (h : fndP l ts = none) (ht : prvB ((nearP l).1, (nearP l).2.1, (nearP l).2.2) l t = false) => fnd_snoc h ht
      have HH := fun (ts r : List Trip) (t : Trip) (h : fndP l ts = none) (ht : prvB ((nearP l).1, (nearP l).2.1, (nearP l).2.2) l t = true) => fnd_hit (r := r) h ht
      generalize prvB ((nearP l).1, (nearP l).2.1, (nearP l).2.2) l = PB at *
      generalize nearP l = N at *
      obtain ⟨x0, x1, x2⟩ := N
      dsimp only at HN HP
      have HN := Lib.hid HN
      have HP := Lib.hid HP
      have HS := Lib.hid HS
      have HH := Lib.hid HH
      clear hR
      go_enter Try.func52, Try.ntmps52
      go_wp2_with (first
        | ((go_at_call 31; ((with_reducible refine (calls_bool hv (HV.out _ (below_alloc _ _))).mono ?_); rintro e w1 ⟨rfl, hb1⟩; obtain ⟨hc1, hf1⟩ := bcell hb1; have hz1 := hb1.size; (try simp [sz_drew, sz_drewN] at hz1); (try simp only [sz_drew, sz_drewN] at hc1 hf1); have z1_0 : w.heap.size < w1.heap.size := (by omega))); have B1 : Below w.heap.size w w1 := (by (repeat' (first | assumption | exact below_refl _ | refine bl_alloc ?_ _ | refine Below.setCell ?_ ?_ _ | refine below_draw ?_ | refine below_drewN ?_ _ | refine below_tr ?_ (by assumption))) <;> (first | omega | (simp; done) | (simp; omega))))
        | (go_at_call 80; ((with_reducible refine (HN.out _ B1).mono ?_); rintro e w2 ⟨rfl, hb2⟩; obtain ⟨hc2, hf2⟩ := bcell hb2; have hz2 := hb2.size; (try simp [sz_drew, sz_drewN] at hz2); (try simp only [sz_drew, sz_drewN] at hc2 hf2); have z2_0 : w.heap.size < w2.heap.size := (by omega))))
      have C0 := Lib.hid ((((Blk.new w 49 #[.int .i64 0, .int .i64 0, .int .i64 0]).below hb1 (by simp)).below hb2 z1_0).alloc (.cells #[.int .i64 x0, .int .i64 x1, .int .i64 x2] 30))
      have C1 := Lib.hid (Blk.new w2 30 #[.int .i64 x0, .int .i64 x1, .int .i64 x2])
      have hT : w.heap.size < w2.heap.size := z2_0
      have hTn : w.heap.size ≠ w2.heap.size := by omega
      have E1 : Below w.heap.size w (w2.alloc (.cells #[.int .i64 x0, .int .i64 x1, .int .i64 x2] 30)) := by (repeat' (first | assumption | exact below_refl _ | refine bl_alloc ?_ _ | refine Below.setCell ?_ ?_ _ | refine below_draw ?_ | refine below_drewN ?_ _ | refine below_tr ?_ (by assumption))) <;> (first | omega | (simp; done) | (simp; omega))
      generalize w2.alloc (.cells #[.int .i64 x0, .int .i64 x1, .int .i64 x2] 30) = W3 at *
      clear hc1 hc2 hf1 hf2 hb2 hb1
      generalize w2.heap.size = T at *
      go_loopw [5, 6, 7] (fun i _ _ wr => ∃ a : Nat, a ≤ l.length ∧ i = .int .i64 a ∧ Below w.heap.size w wr ∧ Hid (Blk wr w.heap.size 49 #[.int .i64 0, .int .i64 0, .int .i64 0]) ∧ Hid (Blk wr T 30 #[.int .i64 x0, .int .i64 x1, .int .i64 x2]) ∧ Hid (fndP l (tL l.length a) = none)) (fun i _ _ _ => l.length - (intOf i).toNat)
      case atStart => exact ⟨0, by omega, rfl, E1, C0, C1, Lib.hid rfl⟩
      case round =>
        obtain ⟨a, ha, rfl, hB, D0, D1, HI⟩ := hrel
        obtain ⟨wo, rfl⟩ : ∃ wo : World, wo = wr := ⟨_, rfl⟩
        by_cases hlt : a < l.length
        · go_wp2
          go_loopw [6, 7] (fun j _ wr => ∃ b : Nat, a + 1 ≤ b ∧ b ≤ l.length ∧ j = .int .i64 b ∧ Below w.heap.size w wr ∧ Hid (Blk wr w.heap.size 49 #[.int .i64 0, .int .i64 0, .int .i64 0]) ∧ Hid (Blk wr T 30 #[.int .i64 x0, .int .i64 x1, .int .i64 x2]) ∧ Hid (fndP l (tL l.length a ++ tM l.length a (b - (a + 1))) = none)) (fun j _ _ => l.length - (intOf j).toNat)
          case atStart => exact ⟨a + 1, by omega, by omega, by go_num, hB, D0, D1, Lib.hid (by rw [Nat.sub_self]; simpa [tM] using HI.out)⟩
          case round =>
            obtain ⟨b, hb0, hb1', rfl, hB2, F0, F1, HI2⟩ := hrel
            obtain ⟨wp, rfl⟩ : ∃ wp : World, wp = wr := ⟨_, rfl⟩
            by_cases hlt2 : b < l.length
            · go_wp2
              go_loopw [7] (fun k wr => ∃ c : Nat, b + 1 ≤ c ∧ c ≤ l.length ∧ k = .int .i64 c ∧ Below w.heap.size w wr ∧ Hid (Blk wr w.heap.size 49 #[.int .i64 0, .int .i64 0, .int .i64 0]) ∧ Hid (Blk wr T 30 #[.int .i64 x0, .int .i64 x1, .int .i64 x2]) ∧ Hid (fndP l (tL l.length a ++ (tM l.length a (b - (a + 1)) ++ tI a b (c - (b + 1)))) = none)) (fun k _ => l.length - (intOf k).toNat)
              case atStart => exact ⟨b + 1, by omega, by omega, by go_num, hB2, F0, F1, Lib.hid (by rw [Nat.sub_self]; simpa [tI] using HI2.out)⟩
              case round =>
                obtain ⟨k, hc0, hc1, rfl, hB3, G0, G1, HI3⟩ := hrel
                obtain ⟨wq, rfl⟩ : ∃ wq : World, wq = wr := ⟨_, rfl⟩
                by_cases hlt3 : k < l.length
                · obtain ⟨rest, hr⟩ := trips_split (n := l.length) (a := a) (b := b) (c := k) (by omega) (by omega) hlt3
                  obtain ⟨s0, s1, s2, g0, g1, g2⟩ := blk3 G0.out
                  obtain ⟨o0, o1, o2, q0, q1, q2⟩ := blk3 G1.out
                  have hT1 : T < wq.heap.size := G1.out.lt
                  have hT2 : w.heap.size < wq.heap.size := by omega
                  have HR := Lib.hid hr
                  cases hpb : PB (a, b, k)
                  · have HS2 := Lib.hid (HS.out _ (a, b, k) HI3.out hpb)
                    have HPB := Lib.hid hpb
                    clear hpb hr
                    go_wp2_with (go_at_call 87; ((with_reducible refine (calls_bool HPB.out (HP.out a b k _ (bl_alloc hB3 _) (by omega) (by omega) hlt3)).mono ?_); rintro e w5 ⟨rfl, hb5⟩))
                    go_roundw
                    case rel => exact ⟨k + 1, by omega, by omega, by go_num, by (repeat' (first | assumption | exact below_refl _ | refine bl_alloc ?_ _ | refine Below.setCell ?_ ?_ _ | refine below_draw ?_ | refine below_drewN ?_ _ | refine below_tr ?_ (by assumption))) <;> (first | omega | (simp; done) | (simp; omega)), Lib.hid (((G0.out.alloc _).below hb5 (by rw [World.size_alloc]; omega))), Lib.hid (((G1.out.alloc _).below hb5 (by rw [World.size_alloc]; omega))), Lib.hid (by rw [show k + 1 - (b + 1) = k - (b + 1) + 1 by omega, tI_succ, show b + 1 + (k - (b + 1)) = k by omega]; simpa [List.append_assoc] using HS2.out)⟩
                    case measure => simp [intOf]; omega
                  · have HH2 := Lib.hid (HH.out _ rest (a, b, k) HI3.out hpb)
                    have HPB := Lib.hid hpb
                    clear hpb hr
                    go_wp2_with (go_at_call 87; ((with_reducible refine (calls_bool HPB.out (HP.out a b k _ (bl_alloc hB3 _) (by omega) (by omega) hlt3)).mono ?_); rintro e w5 ⟨rfl, hb5⟩; obtain ⟨hc5, hf5⟩ := bcell hb5; have hz5 := hb5.size; (try simp [sz_drew, sz_drewN] at hz5); (try simp only [sz_drew, sz_drewN] at hc5 hf5); have z5_0 : w.heap.size < w5.heap.size := (by omega); have y5_0 : T < w5.heap.size := (by omega)))
                    have hpr : prfL l = ((a, b, k), 0) := by rw [HF.out, HR.out, HH2.out]
                    have HPR := Lib.hid hpr
                    clear hpr
                    have yz0 : w5.cell? ⟨w.heap.size, 0, none⟩ = some (.int .i64 0) := by go_simp
                    have yf0 : w5.frozen? ⟨w.heap.size, 0, none⟩ = false := by go_simp
                    have yz1 : w5.cell? ⟨w.heap.size, 1, none⟩ = some (.int .i64 0) := by go_simp
                    have yf1 : w5.frozen? ⟨w.heap.size, 1, none⟩ = false := by go_simp
                    have yz2 : w5.cell? ⟨w.heap.size, 2, none⟩ = some (.int .i64 0) := by go_simp
                    have yf2 : w5.frozen? ⟨w.heap.size, 2, none⟩ = false := by go_simp
                    (refine bodyPost_ret (v := .tuple #[trV (a, b, k), .int .i64 0]) (by simp [results, Try.results52, go_sem, *]) rfl ⟨by rw [HPR.out], ?_⟩; (repeat' (first | assumption | exact below_refl _ | refine bl_alloc ?_ _ | refine Below.setCell ?_ ?_ _ | refine below_draw ?_ | refine below_drewN ?_ _ | refine below_tr ?_ (by assumption))) <;> (first | omega | (simp; done) | (simp; omega)))
                · obtain rfl : k = l.length := by omega
                  go_wp2
                  go_roundw
                  case rel => exact ⟨b + 1, by omega, by omega, by go_num, hB3, G0, G1, Lib.hid (by rw [show b + 1 - (a + 1) = b - (a + 1) + 1 by omega, tM_succ, show a + 1 + (b - (a + 1)) = b by omega]; exact HI3.out)⟩
                  case measure => simp [intOf]; omega
            · obtain rfl : b = l.length := by omega
              go_wp2
              go_roundw
              case rel => exact ⟨a + 1, by omega, by go_num, hB2, F0, F1, Lib.hid (by rw [tL_succ]; exact HI2.out)⟩
              case measure => simp [intOf]; omega
        · obtain rfl : a = l.length := by omega
          obtain ⟨s0, s1, s2, g0, g1, g2⟩ := blk3 D0.out
          have hT2 : w.heap.size < wo.heap.size := D0.out.lt
          have hpr : prfL l = ((0, 0, 0), 8) := by rw [HF.out, show trips l.length = tL l.length l.length from rfl, HI.out]
          have HPR := Lib.hid hpr
          clear hpr
          go_wp2
          (refine bodyPost_ret (v := .tuple #[trV (0, 0, 0), .int .i64 8]) (by simp [results, Try.results52, go_sem, *]) rfl ⟨by rw [HPR.out], ?_⟩; (repeat' (first | assumption | exact below_refl _ | refine bl_alloc ?_ _ | refine Below.setCell ?_ ?_ _ | refine below_draw ?_ | refine below_drewN ?_ _ | refine below_tr ?_ (by assumption))) <;> (first | omega | (simp; done) | (simp; omega)))
end Go.Proofs.Ytohbejdfaecghaa
