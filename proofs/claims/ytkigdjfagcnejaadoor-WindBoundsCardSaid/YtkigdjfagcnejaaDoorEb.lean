/- Wind cards: Highest and Strictest by the program and by the reference. -/
import Derived.Test.YtkigdjfagcnejaaDoorEa
import Derived.Test.YtkigdjfagcnejaaDoorVdec
set_option linter.unusedSimpArgs false
set_option linter.unusedVariables false
namespace Go.Proofs.YtkigdjfagcnejaaDoor
open Go.RowKit

/-- the greatest of some gusts -/
def mxS (l : List Int) (f : Nat) : Nat → Int
  | 0 => -1
  | k + 1 => if mxS l f k < l.getD (f + k) 0 then l.getD (f + k) 0 else mxS l f k
theorem mxS_ge (l : List Int) (f : Nat) : ∀ k, -1 ≤ mxS l f k
  | 0 => Int.le_refl _
  | k + 1 => by have := mxS_ge l f k; unfold mxS; split <;> omega
theorem mxS_yes {l : List Int} {f k : Nat} {x : Int} (hx : l[f + k]? = some x) (h : mxS l f k < x) : mxS l f (k + 1) = x := by rw [mxS, getD_of hx, if_pos h]
theorem mxS_no {l : List Int} {f k : Nat} {x : Int} (hx : l[f + k]? = some x) (h : x ≤ mxS l f k) : mxS l f (k + 1) = mxS l f k := by rw [mxS, getD_of hx, if_neg (by omega)]
def hiE (l : List Int) (fr tu : Int) : Int := if vGu l = true then (if 0 ≤ fr ∧ fr ≤ tu ∧ tu ≤ l.length then (if mxS l fr.toNat (tu - fr).toNat < 0 then 8 else 0) else 7) else 1
def hiN (l : List Int) (fr tu : Int) : Int := if hiE l fr tu = 0 then mxS l fr.toNat (tu - fr).toNat else 0
theorem hi_no {l : List Int} {fr tu x : Int} (h : hiE l fr tu = x) (hx : x ≠ 0) : hiN l fr tu = 0 ∧ hiE l fr tu = x := by
  unfold hiN; rw [h, if_neg hx]; exact ⟨rfl, rfl⟩
theorem hi_7 {l : List Int} {fr tu : Int} (hg : vGu l = true) (h : ¬ (0 ≤ fr ∧ fr ≤ tu ∧ tu ≤ l.length)) : hiN l fr tu = 0 ∧ hiE l fr tu = 7 := hi_no (by unfold hiE; rw [if_pos hg, if_neg h]) (by decide)
theorem hi_1 {l : List Int} {fr tu : Int} (hg : vGu l = false) : hiN l fr tu = 0 ∧ hiE l fr tu = 1 := hi_no (by unfold hiE; rw [if_neg (by simp [hg])]) (by decide)
theorem hi_in {l : List Int} {f m : Nat} (hg : vGu l = true) (h : f + m ≤ l.length) : (mxS l f m < 0 → hiN l f ((f : Int) + m) = 0 ∧ hiE l f ((f : Int) + m) = 8) ∧ (0 ≤ mxS l f m → hiN l f ((f : Int) + m) = mxS l f m ∧ hiE l f ((f : Int) + m) = 0) := by
  have e1 : ((f : Int)).toNat = f := by omega
  have e2 : ((f : Int) + m - f).toNat = m := by omega
  have h0 : hiE l f ((f : Int) + m) = if mxS l f m < 0 then 8 else 0 := by unfold hiE; rw [if_pos hg, if_pos ⟨by omega, by omega, by omega⟩, e1, e2]
  constructor
  · intro h1
    rw [if_pos h1] at h0
    exact hi_no h0 (by decide)
  · intro h1
    rw [if_neg (by omega)] at h0
    refine ⟨?_, h0⟩
    unfold hiN; rw [if_pos h0, e1, e2]
set_option maxHeartbeats 2000000 in
set_option maxRecDepth 20000 in
theorem p_Highest (A : Option Addr) (l : List Int) (c : Nat) (fr tu : Int) (w : World) (hl : l.length ≤ 100000) (hc : l.length ≤ c) (hcm : c ≤ maxLen) (hR : Rd zC 1 w A l) :
    Calls Tryd.prog 41 #[.slice A l.length c, .int .i64 fr, .int .i64 tu] w fun e w' => e = .returned (.tuple #[.int .i64 (hiN l fr tu), .int .i64 (hiE l fr tu)]) ∧ Below w.heap.size w w' := by
  have H1 := Lib.hid (fun b (h : vGu l = b) => p_ValidGustsV (c := c) h hl hR)
  cases h1 : vGu l
  · obtain ⟨e1, e2⟩ := hi_1 (fr := fr) (tu := tu) h1
    have E1 := Lib.hid e1
    have E2 := Lib.hid e2
    clear e1 e2 hR
    go_enter Tryd.func41, Tryd.ntmps41
    go_wp2_with (go_at_call 29; ((with_reducible refine (H1.out _ h1).mono ?_); rintro e w1 ⟨rfl, hb1⟩; obtain ⟨hc1, hf1⟩ := bcell hb1; have hz1 := hb1.size; (try simp [sz_drew, sz_drewN] at hz1); (try simp only [sz_drew, sz_drewN] at hc1 hf1)))
    go_ret2
    exact ⟨by rw [E1.out, E2.out]; rfl, hb1⟩
  cases h2 : wn fr 0 tu
  · obtain ⟨e1, e2⟩ := hi_7 (fr := fr) (tu := tu) h1 (by rintro ⟨a, b, _⟩; have := wn_iff.2 ⟨a, b⟩; rw [h2] at this; cases this)
    have E1 := Lib.hid e1
    have E2 := Lib.hid e2
    clear e1 e2 hR
    go_enter Tryd.func41, Tryd.ntmps41
    go_wp2_with (first | (go_at_call 29; ((with_reducible refine (H1.out _ h1).mono ?_); rintro e w1 ⟨rfl, hb1⟩; obtain ⟨hc1, hf1⟩ := bcell hb1; have hz1 := hb1.size; (try simp [sz_drew, sz_drewN] at hz1); (try simp only [sz_drew, sz_drewN] at hc1 hf1))) | (go_at_call 55; ((with_reducible refine (p_withinV h2 _).mono ?_); rintro e w' ⟨rfl, rfl⟩)))
    go_ret2
    exact ⟨by rw [E1.out, E2.out]; rfl, hb1⟩
  by_cases h3 : (l.length : Int) < tu
  · obtain ⟨e1, e2⟩ := hi_7 (fr := fr) (tu := tu) h1 (by rintro ⟨a, b, _⟩; omega)
    have E1 := Lib.hid e1
    have E2 := Lib.hid e2
    clear e1 e2 hR
    go_enter Tryd.func41, Tryd.ntmps41
    go_wp2_with (first | (go_at_call 29; ((with_reducible refine (H1.out _ h1).mono ?_); rintro e w1 ⟨rfl, hb1⟩; obtain ⟨hc1, hf1⟩ := bcell hb1; have hz1 := hb1.size; (try simp [sz_drew, sz_drewN] at hz1); (try simp only [sz_drew, sz_drewN] at hc1 hf1))) | (go_at_call 55; ((with_reducible refine (p_withinV h2 _).mono ?_); rintro e w' ⟨rfl, rfl⟩)))
    go_ret2
    exact ⟨by rw [E1.out, E2.out]; rfl, hb1⟩
  have Q := Lib.hid (p_withinV h2)
  obtain ⟨m0, m1⟩ := wn_iff.1 h2
  obtain ⟨f, rfl⟩ := Int.eq_ofNat_of_zero_le m0
  obtain ⟨m, rfl⟩ : ∃ m : Nat, tu = (f : Int) + m := ⟨(tu - f).toNat, by omega⟩
  have hfm : f + m ≤ l.length := by omega
  have HIN := Lib.hid (hi_in h1 hfm)
  have HY := Lib.hid (fun k x (hx : l[f + k]? = some x) h => mxS_yes hx h)
  have HN := Lib.hid (fun k x (hx : l[f + k]? = some x) h => mxS_no hx h)
  have HGE := Lib.hid (mxS_ge l f)
  have f0 : (0 : Int) ≤ (f : Int) := Int.natCast_nonneg _
  have f1 : (f : Int) ≤ (f : Int) + m := by omega
  have f2 : (f : Int) + m ≤ (c : Int) := by omega
  clear h2 m0 m1 h3
  go_enter Tryd.func41, Tryd.ntmps41
  go_upto_region 5 with (first | (go_at_call 29; ((with_reducible refine (H1.out _ h1).mono ?_); rintro e w1 ⟨rfl, hb1⟩; obtain ⟨hc1, hf1⟩ := bcell hb1; have hz1 := hb1.size; (try simp [sz_drew, sz_drewN] at hz1); (try simp only [sz_drew, sz_drewN] at hc1 hf1))) | (go_at_call 55; ((with_reducible refine (Q.out _).mono ?_); rintro e w' ⟨rfl, rfl⟩)))
  have B1 := hb1
  clear hc1 hf1 hz1 h1 H1 hb1
  by_cases hm : m = 0
  · subst hm
    have E8 := Lib.hid (HIN.out.1 (show (-1 : Int) < 0 by decide))
    go_wp2
    all_goals
      go_loopw [8, 29] (fun s i wr => s = .int .i64 (-1) ∧ i = .int .i64 0 ∧ wr = w1) (fun _ _ _ => 0)
      case atStart => exact ⟨rfl, rfl, rfl⟩
      case round =>
        obtain ⟨rfl, rfl, rfl⟩ := hrel
        go_wp2
        go_ret2
        exact ⟨by rw [E8.out.1, E8.out.2]; rfl, B1⟩
  have hne : l ≠ [] := by rintro rfl; simp at hfm; omega
  obtain ⟨b, off, rfl, hb, hcell⟩ := hR hne
  have hcf : ¬ c = f := by omega
  have HC := Lib.hid (fun k x (hx : l[f + k]? = some x) => show w.cell? ⟨b, off + f + k, none⟩ = some (.int .i64 x) by
    have := hcell (f + k) x hx 0 _ rfl
    rw [Nat.mul_one, Nat.add_zero, ← Nat.add_assoc] at this
    exact this)
  have hb1s := B1.size
  have HB1 := Lib.hid (fun o => (bcell B1).1 b o hb)
  clear hcell
  go_wp2
  go_loopw [8, 29] (fun s i wr => ∃ k : Nat, k ≤ m ∧ i = .int .i64 k ∧ s = .int .i64 (mxS l f k) ∧ wr = w1) (fun _ i _ => m - (intOf i).toNat)
  case atStart => exact ⟨0, by omega, rfl, rfl, rfl⟩
  case round =>
    obtain ⟨k, hk, rfl, rfl, rfl⟩ := hrel
    have k0 : (0 : Int) ≤ (k : Int) := Int.natCast_nonneg _
    by_cases hlt : k < m
    · have k1 : (k : Int) < (m : Int) := by omega
      obtain ⟨x, hx⟩ := get_lt (show f + k < l.length by omega)
      have c0 := (HB1.out (off + f + k)).trans (HC.out k x hx)
      by_cases hgt : mxS l f k < x
      · have HS := Lib.hid (HY.out k x hx hgt)
        generalize mxS l f k = M at *
        clear hx
        go_wp2
        go_roundw
        case rel => exact ⟨k + 1, by omega, by go_num, int_eq (by rw [HS.out]; omega), trivial⟩
        case measure => simp [intOf]; omega
      · have HS := Lib.hid (HN.out k x hx (by omega))
        generalize mxS l f k = M at *
        clear hx
        go_wp2
        go_roundw
        case rel => exact ⟨k + 1, by omega, by go_num, int_eq (by rw [HS.out]; omega), trivial⟩
        case measure => simp [intOf]; omega
    · obtain rfl : k = m := by omega
      have hge := HGE.out k
      obtain ⟨g1, g2⟩ := HIN.out
      have G1 := Lib.hid g1
      have G2 := Lib.hid g2
      clear g1 g2
      generalize mxS l f k = M at *
      by_cases hM : M < 0
      · obtain ⟨e1, e2⟩ := G1.out hM
        have E1 := Lib.hid e1
        have E2 := Lib.hid e2
        clear e1 e2
        obtain rfl : M = -1 := by omega
        go_wp2
        go_ret2
        exact ⟨by rw [E1.out, E2.out]; rfl, B1⟩
      · obtain ⟨e1, e2⟩ := G2.out (by omega)
        have E1 := Lib.hid e1
        have E2 := Lib.hid e2
        clear e1 e2
        have hM2 : (M == -1) = false := by simp; omega
        go_wp2
        go_ret2
        exact ⟨by rw [E1.out, E2.out]; rfl, B1⟩
set_option maxHeartbeats 2000000 in
set_option maxRecDepth 20000 in
theorem r_Highest (A : Option Addr) (l : List Int) (c : Nat) (fr tu : Int) (w : World) (hl : l.length ≤ 100000) (hR : Rd zC 1 w A l) :
    Calls Tryd.prog 42 #[.slice A l.length c, .int .i64 fr, .int .i64 tu] w fun e w' => e = .returned (.tuple #[.int .i64 (hiN l fr tu), .int .i64 (hiE l fr tu)]) ∧ Below w.heap.size w w' := by
  have H1 := Lib.hid (fun b (h : vGu l = b) => r_ValidGustsV (c := c) h hl hR)
  cases h1 : vGu l
  · obtain ⟨e1, e2⟩ := hi_1 (fr := fr) (tu := tu) h1
    have E1 := Lib.hid e1
    have E2 := Lib.hid e2
    clear e1 e2 hR
    go_enter Tryd.func42, Tryd.ntmps42
    go_wp2_with (go_at_call 30; ((with_reducible refine (H1.out _ h1).mono ?_); rintro e w' ⟨rfl, rfl⟩))
    go_ret2
    exact ⟨by rw [E1.out, E2.out]; rfl, below_refl _⟩
  cases h2 : wn tu 0 (l.length : Int)
  · obtain ⟨e1, e2⟩ := hi_7 (fr := fr) (tu := tu) h1 (by rintro ⟨a, b, d⟩; have := wn_iff.2 (⟨by omega, d⟩ : 0 ≤ tu ∧ tu ≤ (l.length : Int)); rw [h2] at this; cases this)
    have E1 := Lib.hid e1
    have E2 := Lib.hid e2
    clear e1 e2 hR
    go_enter Tryd.func42, Tryd.ntmps42
    go_wp2_with (first | (go_at_call 30; ((with_reducible refine (H1.out _ h1).mono ?_); rintro e w' ⟨rfl, rfl⟩)) | (go_at_call 54; ((with_reducible refine (r_withinV h2 _).mono ?_); rintro e w' ⟨rfl, rfl⟩)))
    go_ret2
    exact ⟨by rw [E1.out, E2.out]; rfl, below_refl _⟩
  cases h3 : wn fr 0 tu
  · obtain ⟨e1, e2⟩ := hi_7 (fr := fr) (tu := tu) h1 (by rintro ⟨a, b, d⟩; have := wn_iff.2 (⟨a, b⟩ : 0 ≤ fr ∧ fr ≤ tu); rw [h3] at this; cases this)
    have E1 := Lib.hid e1
    have E2 := Lib.hid e2
    clear e1 e2 hR
    go_enter Tryd.func42, Tryd.ntmps42
    go_wp2_with (first | (go_at_call 30; ((with_reducible refine (H1.out _ h1).mono ?_); rintro e w' ⟨rfl, rfl⟩)) | (go_at_call 54; ((with_reducible refine (r_withinV h2 _).mono ?_); rintro e w' ⟨rfl, rfl⟩)) | (go_at_call 54; ((with_reducible refine (r_withinV h3 _).mono ?_); rintro e w' ⟨rfl, rfl⟩)))
    go_ret2
    exact ⟨by rw [E1.out, E2.out]; rfl, below_refl _⟩
  have Q1 := Lib.hid (r_withinV h2)
  have Q2 := Lib.hid (r_withinV h3)
  obtain ⟨t0, t1⟩ := wn_iff.1 h2
  obtain ⟨m0, m1⟩ := wn_iff.1 h3
  obtain ⟨f, rfl⟩ := Int.eq_ofNat_of_zero_le m0
  obtain ⟨m, rfl⟩ : ∃ m : Nat, tu = (f : Int) + m := ⟨(tu - f).toNat, by omega⟩
  have hfm : f + m ≤ l.length := by omega
  have HIN := Lib.hid (hi_in h1 hfm)
  have HY := Lib.hid (fun k x (hx : l[f + k]? = some x) h => mxS_yes hx h)
  have HN := Lib.hid (fun k x (hx : l[f + k]? = some x) h => mxS_no hx h)
  have HGE := Lib.hid (mxS_ge l f)
  have f0 : (0 : Int) ≤ (f : Int) := Int.natCast_nonneg _
  clear h2 m0 m1 h3 t0 t1
  go_enter Tryd.func42, Tryd.ntmps42
  go_wp2_with (first | (go_at_call 30; ((with_reducible refine (H1.out _ h1).mono ?_); rintro e w' ⟨rfl, rfl⟩)) | (go_at_call 54; ((with_reducible refine (Q1.out _).mono ?_); rintro e w' ⟨rfl, rfl⟩)) | (go_at_call 54; ((with_reducible refine (Q2.out _).mono ?_); rintro e w' ⟨rfl, rfl⟩)))
  go_loopw [8, 9] (fun s i wr => ∃ k : Nat, k ≤ m ∧ i = .int .i64 ((f : Int) + k) ∧ s = .int .i64 (mxS l f k) ∧ wr = w) (fun _ i _ => ((f : Int) + m - intOf i).toNat)
  case atStart => exact ⟨0, by omega, by simp, rfl, rfl⟩
  case round =>
    clear H1 Q1 Q2
    obtain ⟨k, hk, rfl, rfl, rfl⟩ := hrel
    have k0 : (0 : Int) ≤ (k : Int) := Int.natCast_nonneg _
    by_cases hlt : k < m
    · have k1 : (f : Int) + (k : Int) < (f : Int) + (m : Int) := by omega
      have k2 : (k : Int) < (m : Int) := by omega
      have k3 : (f : Int) + (k : Int) < (l.length : Int) := by omega
      have k4 : (0 : Int) ≤ (f : Int) + (k : Int) := by omega
      have hnn : ((f : Int) + (k : Int)).toNat = f + k := by omega
      have hw2 : IntKind.i64.wrap ((f : Int) + (k : Int) + 1) = (f : Int) + (k : Int) + 1 := fits_wrap (by omega)
      obtain ⟨x, b, off, hx, rfl, hb, c0⟩ := rd_int hR (show f + k < l.length by omega)
      by_cases hgt : mxS l f k < x
      · have HS := Lib.hid (HY.out k x hx hgt)
        generalize mxS l f k = M at *
        clear hx
        go_wp2
        go_roundw
        case rel => exact ⟨k + 1, by omega, by congr 1, by rw [HS.out], trivial⟩
        case measure => simp [intOf]; omega
      · have HS := Lib.hid (HN.out k x hx (by omega))
        generalize mxS l f k = M at *
        clear hx
        go_wp2
        go_roundw
        case rel => exact ⟨k + 1, by omega, by congr 1, by rw [HS.out], trivial⟩
        case measure => simp [intOf]; omega
    · obtain rfl : k = m := by omega
      obtain ⟨g1, g2⟩ := HIN.out
      have G1 := Lib.hid g1
      have G2 := Lib.hid g2
      clear g1 g2
      generalize mxS l f k = M at *
      by_cases hM : M < 0
      · obtain ⟨e1, e2⟩ := G1.out hM
        have E1 := Lib.hid e1
        have E2 := Lib.hid e2
        clear e1 e2
        go_wp2
        go_ret2
        exact ⟨by rw [E1.out, E2.out]; rfl, below_refl _⟩
      · obtain ⟨e1, e2⟩ := G2.out (by omega)
        have E1 := Lib.hid e1
        have E2 := Lib.hid e2
        clear e1 e2
        go_wp2
        go_ret2
        exact ⟨by rw [E1.out, E2.out]; rfl, below_refl _⟩
end Go.Proofs.YtkigdjfagcnejaaDoor
