/- Lean: Reaches, by the reference. -/
import Derived.Test.YtohbejdfaecghaaLo
namespace Go.Proofs.Ytohbejdfaecghaa
open Go.RowKit

def rchE (p q f t d : Int) : Int := p * (t - f) + (q - p) * (d - f)
def rchP (a b : Mk) (f t lim d : Int) : Bool := decide ((lim * (t - f)) * (lim * (t - f)) ≤ rchE a.e b.e f t d * rchE a.e b.e f t d + rchE a.n b.n f t d * rchE a.n b.n f t d)
def rchFind (P : Int → Bool) : Nat → Int → Int × Int
  | 0, _ => (0, 8)
  | k + 1, d => if P d then (d, 0) else rchFind P k (d + 1)
def rch (a b : Mk) (f t lim : Int) : Int × Int :=
  if mkd a = true ∧ mkd b = true then (if 0 ≤ f ∧ f < t ∧ t ≤ 100000 ∧ 1 ≤ lim ∧ lim ≤ 20000 then rchFind (rchP a b f t lim) 40001 t else (0, 7)) else (0, 1)
theorem rch_bd {p q f t d : Int} (hp : -10000 ≤ p) (hp' : p ≤ 10000) (hq : -10000 ≤ q) (hq' : q ≤ 10000) (hf : 0 ≤ f) (ht : f < t) (ht' : t ≤ 100000) (hd : t ≤ d) (hd' : d ≤ t + 40000) :
    -1000000000 ≤ p * (t - f) ∧ p * (t - f) ≤ 1000000000 ∧ -2800000000 ≤ (q - p) * (d - f) ∧ (q - p) * (d - f) ≤ 2800000000 := by
  have h1 := mul_bd (a := p) (b := t - f) (A := 10000) (B := 100000) (by omega) (by omega) (by omega) (by omega)
  have h2 := mul_bd (a := q - p) (b := d - f) (A := 20000) (B := 140000) (by omega) (by omega) (by omega) (by omega)
  omega
theorem lim_bd {f t lim : Int} (hf : 0 ≤ f) (ht : f < t) (ht' : t ≤ 100000) (h1 : 1 ≤ lim) (h2 : lim ≤ 20000) : 0 ≤ lim * (t - f) ∧ lim * (t - f) ≤ 2000000000 := by
  have := mul_bd0 (a := lim) (b := t - f) (A := 20000) (B := 100000) (by omega) (by omega) (by omega) (by omega)
  omega
theorem load_mk {W : World} {g : Nat} {a : Mk} (h : Blk W g 48 #[.int .i64 a.h, .int .i64 a.e, .int .i64 a.n]) : W.cell? ⟨g, 0, none⟩ = some (.int .i64 a.h) ∧ W.cell? ⟨g, 1, none⟩ = some (.int .i64 a.e) ∧ W.cell? ⟨g, 2, none⟩ = some (.int .i64 a.n) :=
  ⟨h.cell 0, h.cell 1, h.cell 2⟩

set_option maxHeartbeats 1000000 in
set_option maxRecDepth 20000 in
theorem r_Reaches (a b : Mk) (f t lim : Int) (w : World) :
    Calls Try.prog 33 #[.agg #[.int .i64 a.h, .int .i64 a.e, .int .i64 a.n], .agg #[.int .i64 b.h, .int .i64 b.e, .int .i64 b.n], .int .i64 f, .int .i64 t, .int .i64 lim] w fun e w' => e = .returned (.tuple #[.int .i64 (rch a b f t lim).1, .int .i64 (rch a b f t lim).2]) ∧ Below w.heap.size w w' := by
  have VA := Lib.hid (fun W => r_validMark a W)
  have VB := Lib.hid (fun W => r_validMark b W)
  have HL := Lib.hid (fun W => r_within lim 1 20000 W)
  by_cases ha : mkd a = true
  · rw [ha] at VA
    by_cases hb : mkd b = true
    · rw [hb] at VB
      by_cases c1 : f < 0
      · have hr : rch a b f t lim = (0, 7) := by unfold rch; rw [if_pos ⟨ha, hb⟩, if_neg (by omega)]
        rw [hr]
        clear hr ha hb
        go_enter Try.func33, Try.ntmps33
        go_wp2_with (first
          | (go_at_call 76; ((with_reducible refine (VB.out _).mono ?_); rintro e w2 ⟨rfl, d2⟩))
          | (go_at_call 76; ((with_reducible refine (VA.out _).mono ?_); rintro e w1 ⟨rfl, d1⟩; have A1 := ((Blk.new w 48 #[.int .i64 a.h, .int .i64 a.e, .int .i64 a.n]).alloc (.cells #[.int .i64 b.h, .int .i64 b.e, .int .i64 b.n] 48)).below d1 (by simp; omega); have B1 := (blk_second w (.cells #[.int .i64 a.h, .int .i64 a.e, .int .i64 a.n] 48) 48 #[.int .i64 b.h, .int .i64 b.e, .int .i64 b.n]).below d1 (by simp); obtain ⟨x0, x1, x2⟩ := load_mk A1; obtain ⟨y0, y1, y2⟩ := load_mk B1))
          | (go_at_call 70; ((with_reducible refine (HL.out _).mono ?_); rintro e w3 ⟨rfl, rfl⟩)))
        go_ret2
        exact ⟨rfl, below_tr (below_tr (below_tr (below_alloc _ _) (below_alloc _ _)) d1) d2⟩
      · by_cases c2 : t ≤ f
        · have hr : rch a b f t lim = (0, 7) := by unfold rch; rw [if_pos ⟨ha, hb⟩, if_neg (by omega)]
          rw [hr]
          clear hr ha hb
          go_enter Try.func33, Try.ntmps33
          go_wp2_with (first
            | (go_at_call 76; ((with_reducible refine (VB.out _).mono ?_); rintro e w2 ⟨rfl, d2⟩))
            | (go_at_call 76; ((with_reducible refine (VA.out _).mono ?_); rintro e w1 ⟨rfl, d1⟩; have A1 := ((Blk.new w 48 #[.int .i64 a.h, .int .i64 a.e, .int .i64 a.n]).alloc (.cells #[.int .i64 b.h, .int .i64 b.e, .int .i64 b.n] 48)).below d1 (by simp; omega); have B1 := (blk_second w (.cells #[.int .i64 a.h, .int .i64 a.e, .int .i64 a.n] 48) 48 #[.int .i64 b.h, .int .i64 b.e, .int .i64 b.n]).below d1 (by simp); obtain ⟨x0, x1, x2⟩ := load_mk A1; obtain ⟨y0, y1, y2⟩ := load_mk B1))
            | (go_at_call 70; ((with_reducible refine (HL.out _).mono ?_); rintro e w3 ⟨rfl, rfl⟩)))
          go_ret2
          exact ⟨rfl, below_tr (below_tr (below_tr (below_alloc _ _) (below_alloc _ _)) d1) d2⟩
        · by_cases c3 : 100000 < t
          · have hr : rch a b f t lim = (0, 7) := by unfold rch; rw [if_pos ⟨ha, hb⟩, if_neg (by omega)]
            rw [hr]
            clear hr ha hb
            go_enter Try.func33, Try.ntmps33
            go_wp2_with (first
              | (go_at_call 76; ((with_reducible refine (VB.out _).mono ?_); rintro e w2 ⟨rfl, d2⟩))
              | (go_at_call 76; ((with_reducible refine (VA.out _).mono ?_); rintro e w1 ⟨rfl, d1⟩; have A1 := ((Blk.new w 48 #[.int .i64 a.h, .int .i64 a.e, .int .i64 a.n]).alloc (.cells #[.int .i64 b.h, .int .i64 b.e, .int .i64 b.n] 48)).below d1 (by simp; omega); have B1 := (blk_second w (.cells #[.int .i64 a.h, .int .i64 a.e, .int .i64 a.n] 48) 48 #[.int .i64 b.h, .int .i64 b.e, .int .i64 b.n]).below d1 (by simp); obtain ⟨x0, x1, x2⟩ := load_mk A1; obtain ⟨y0, y1, y2⟩ := load_mk B1))
              | (go_at_call 70; ((with_reducible refine (HL.out _).mono ?_); rintro e w3 ⟨rfl, rfl⟩)))
            go_ret2
            exact ⟨rfl, below_tr (below_tr (below_tr (below_alloc _ _) (below_alloc _ _)) d1) d2⟩
          · by_cases c4 : wn lim 1 20000 = true
            · rw [c4] at HL
              rw [wn_iff] at c4
              have hr : rch a b f t lim = rchFind (rchP a b f t lim) 40001 t := by unfold rch; rw [if_pos ⟨ha, hb⟩, if_pos (by omega)]
              rw [hr]
              have sa := sm_of ha
              have sb := sm_of hb
              clear hr ha hb
              obtain ⟨k1, k2⟩ := c4
              have k3 : 0 ≤ f := by omega
              have k4 : f < t := by omega
              have k5 : t ≤ 100000 := by omega
              clear c1 c2 c3
              obtain ⟨l1, l2⟩ := lim_bd k3 k4 k5 k1 k2
              have HP := Lib.hid (show ∀ d, rchP a b f t lim d = decide ((lim * (t - f)) * (lim * (t - f)) ≤ (a.e * (t - f) + (b.e - a.e) * (d - f)) * (a.e * (t - f) + (b.e - a.e) * (d - f)) + (a.n * (t - f) + (b.n - a.n) * (d - f)) * (a.n * (t - f) + (b.n - a.n) * (d - f))) from fun _ => rfl)
              generalize rchP a b f t lim = P at HP ⊢
              obtain ⟨R, H0⟩ : ∃ R, rchFind P 40001 t = R := ⟨_, rfl⟩
              rw [H0]
              have H0 := Lib.hid H0
              go_enter Try.func33, Try.ntmps33
              go_wp2_with (first
                | (go_at_call 76; ((with_reducible refine (VB.out _).mono ?_); rintro e w2 ⟨rfl, d2⟩))
                | (go_at_call 76; ((with_reducible refine (VA.out _).mono ?_); rintro e w1 ⟨rfl, d1⟩; have A1 := ((Blk.new w 48 #[.int .i64 a.h, .int .i64 a.e, .int .i64 a.n]).alloc (.cells #[.int .i64 b.h, .int .i64 b.e, .int .i64 b.n] 48)).below d1 (by simp; omega); have B1 := (blk_second w (.cells #[.int .i64 a.h, .int .i64 a.e, .int .i64 a.n] 48) 48 #[.int .i64 b.h, .int .i64 b.e, .int .i64 b.n]).below d1 (by simp); obtain ⟨x0, x1, x2⟩ := load_mk A1; obtain ⟨y0, y1, y2⟩ := load_mk B1))
                | (go_at_call 70; ((with_reducible refine (HL.out _).mono ?_); rintro e w3 ⟨rfl, rfl⟩)))
              have A2 := A1.below d2 A1.lt
              have B2 := B1.below d2 B1.lt
              have bw : Below w.heap.size w w2 := below_tr (below_tr (below_tr (below_alloc _ _) (below_alloc _ _)) d1) d2
              clear A1 B1 d1 d2 x0 x1 x2 y0 y1 y2
              obtain ⟨x0, x1, x2⟩ := load_mk A2
              obtain ⟨y0, y1, y2⟩ := load_mk B2
              go_loopw [13] (fun x wr => ∃ (d : Int) (k : Nat), x = .int .i64 d ∧ d + k = t + 40001 ∧ t ≤ d ∧ Hid (rchFind P k d = R) ∧ wr = w2) (fun x _ => (t + 40001 - intOf x).toNat)
              case atStart => exact ⟨t, 40001, rfl, by omega, by omega, H0, by first | rfl | trivial⟩
              case round =>
                obtain ⟨d, k, rfl, hk, hd, HK, rfl⟩ := hrel
                match k, hk, HK with
                | 0, hk, HK =>
                  have HR := Lib.hid (show R = (0, 8) from HK.out.symm)
                  have c1 : t + 40000 < d := by omega
                  go_wp2
                  go_ret2
                  exact ⟨by rw [HR.out]; rfl, bw⟩
                | k + 1, hk, HK =>
                  have c1 : d ≤ t + 40000 := by omega
                  obtain ⟨m1, m2, m3, m4⟩ := rch_bd sa.e0 sa.e1 sb.e0 sb.e1 k3 k4 k5 hd c1
                  obtain ⟨m5, m6, m7, m8⟩ := rch_bd sa.n0 sa.n1 sb.n0 sb.n1 k3 k4 k5 hd c1
                  obtain ⟨s1, s2, s3, s4, s5, s6⟩ := sa
                  obtain ⟨u1, u2, u3, u4, u5, u6⟩ := sb
                  have BY : ∀ W, Calls Try.prog 77 #[.int .i64 (a.e * (t - f) + (b.e - a.e) * (d - f)), .int .i64 (a.n * (t - f) + (b.n - a.n) * (d - f)), .int .i64 (lim * (t - f))] W fun e w' => e = .returned (.bool (P d)) ∧ W = w' := fun W => by
                    rw [HP.out d]
                    exact r_beyond _ _ _ W ⟨by omega, by omega⟩ ⟨by omega, by omega⟩ ⟨by omega, by omega⟩
                  have hK : (if P d then (d, 0) else rchFind P k (d + 1)) = R := HK.out
                  clear HK
                  generalize P d = pd at BY hK
                  have BY := Lib.hid BY
                  cases pd with
                  | true =>
                    have HR := Lib.hid (show R = (d, 0) from hK.symm)
                    clear hK
                    go_wp2_with (go_at_call 77; ((with_reducible refine (BY.out _).mono ?_); rintro e w3 ⟨rfl, rfl⟩))
                    go_ret2
                    exact ⟨by rw [HR.out]; rfl, bw⟩
                  | false =>
                    have HR := Lib.hid (show rchFind P k (d + 1) = R from hK)
                    clear hK
                    go_wp2_with (go_at_call 77; ((with_reducible refine (BY.out _).mono ?_); rintro e w3 ⟨rfl, rfl⟩))
                    go_roundw
                    case rel => exact ⟨d + 1, k, rfl, by omega, by omega, HR, by first | rfl | trivial⟩
                    case measure => simp only [intOf]; omega
            · have hr : rch a b f t lim = (0, 7) := by unfold rch; rw [if_pos ⟨ha, hb⟩, if_neg (by rw [wn_iff] at c4; omega)]
              rw [hr]
              have c4' : wn lim 1 20000 = false := by simpa using c4
              rw [c4'] at HL
              clear c4 c4'
              clear hr ha hb
              go_enter Try.func33, Try.ntmps33
              go_wp2_with (first
                | (go_at_call 76; ((with_reducible refine (VB.out _).mono ?_); rintro e w2 ⟨rfl, d2⟩))
                | (go_at_call 76; ((with_reducible refine (VA.out _).mono ?_); rintro e w1 ⟨rfl, d1⟩; have A1 := ((Blk.new w 48 #[.int .i64 a.h, .int .i64 a.e, .int .i64 a.n]).alloc (.cells #[.int .i64 b.h, .int .i64 b.e, .int .i64 b.n] 48)).below d1 (by simp; omega); have B1 := (blk_second w (.cells #[.int .i64 a.h, .int .i64 a.e, .int .i64 a.n] 48) 48 #[.int .i64 b.h, .int .i64 b.e, .int .i64 b.n]).below d1 (by simp); obtain ⟨x0, x1, x2⟩ := load_mk A1; obtain ⟨y0, y1, y2⟩ := load_mk B1))
                | (go_at_call 70; ((with_reducible refine (HL.out _).mono ?_); rintro e w3 ⟨rfl, rfl⟩)))
              go_ret2
              exact ⟨rfl, below_tr (below_tr (below_tr (below_alloc _ _) (below_alloc _ _)) d1) d2⟩
    · have hb' : mkd b = false := by simpa using hb
      have hr : rch a b f t lim = (0, 1) := by unfold rch; rw [if_neg (by simp [hb])]
      rw [hr]
      rw [hb'] at VB
      clear hr HL ha hb hb'
      go_enter Try.func33, Try.ntmps33
      go_wp2_with (first
        | (go_at_call 76; ((with_reducible refine (VB.out _).mono ?_); rintro e w2 ⟨rfl, d2⟩))
        | (go_at_call 76; ((with_reducible refine (VA.out _).mono ?_); rintro e w1 ⟨rfl, d1⟩; have A1 := ((Blk.new w 48 #[.int .i64 a.h, .int .i64 a.e, .int .i64 a.n]).alloc (.cells #[.int .i64 b.h, .int .i64 b.e, .int .i64 b.n] 48)).below d1 (by simp; omega); have B1 := (blk_second w (.cells #[.int .i64 a.h, .int .i64 a.e, .int .i64 a.n] 48) 48 #[.int .i64 b.h, .int .i64 b.e, .int .i64 b.n]).below d1 (by simp); obtain ⟨x0, x1, x2⟩ := load_mk A1; obtain ⟨y0, y1, y2⟩ := load_mk B1))
        | (go_at_call 70; ((with_reducible refine (HL.out _).mono ?_); rintro e w3 ⟨rfl, rfl⟩)))
      go_ret2
      exact ⟨rfl, below_tr (below_tr (below_tr (below_alloc _ _) (below_alloc _ _)) d1) d2⟩
  · have ha' : mkd a = false := by simpa using ha
    have hr : rch a b f t lim = (0, 1) := by unfold rch; rw [if_neg (by simp [ha])]
    rw [hr]
    rw [ha'] at VA
    clear hr HL VB ha ha'
    go_enter Try.func33, Try.ntmps33
    go_wp2_with (go_at_call 76; ((with_reducible refine (VA.out _).mono ?_); rintro e w1 ⟨rfl, c1⟩))
    go_ret2
    exact ⟨rfl, below_tr (below_tr (below_alloc _ _) (below_alloc _ _)) c1⟩
end Go.Proofs.Ytohbejdfaecghaa
