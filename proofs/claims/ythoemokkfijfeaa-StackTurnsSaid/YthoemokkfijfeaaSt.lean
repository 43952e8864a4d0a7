/- Stack: Safe and Least, both programs; the statements on safe winds. -/
import Derived.Test.YthoemokkfijfeaaSr
namespace Go.Proofs.Ythoemokkfijfeaa
open Go.RowKit

def tight (l : List Course) (side : Int) (p : Nat) : Bool := (lostsL closedB l p side).length == 0
theorem tight_iff (l : List Course) (side : Int) (p : Nat) : tight l side p = true ↔ ∀ j, j < l.length → closedB (bedC l j) (l.drop j) p side = true := by
  unfold tight lostsL lostL
  rw [beq_iff_eq, List.length_eq_zero_iff, List.filter_eq_nil_iff]
  simp

def bs (T : Nat → Bool) (lo hi : Nat) : Nat :=
  if hi ≤ lo + 1 then lo else if T ((lo + hi) / 2) then bs T ((lo + hi) / 2) hi else bs T lo ((lo + hi) / 2)
termination_by hi - lo
theorem bs_end {T : Nat → Bool} {lo hi : Nat} (h : hi ≤ lo + 1) : bs T lo hi = lo := by rw [bs, if_pos h]
theorem bs_yes {T : Nat → Bool} {lo hi : Nat} (h : ¬ hi ≤ lo + 1) (hT : T ((lo + hi) / 2) = true) : bs T lo hi = bs T ((lo + hi) / 2) hi := by rw [bs, if_neg h, if_pos hT]
theorem bs_no {T : Nat → Bool} {lo hi : Nat} (h : ¬ hi ≤ lo + 1) (hT : T ((lo + hi) / 2) = false) : bs T lo hi = bs T lo ((lo + hi) / 2) := by rw [bs, if_neg h, if_neg (by simp [hT])]
def safeI (l : List Course) (side : Int) : Int := if tight l side 0 then (bs (tight l side) 0 10001 : Int) else -1
theorem half_nat (a b : Nat) : ((a : Int) + (b : Int)).tdiv 2 = (((a + b) / 2 : Nat) : Int) := by
  rw [← Int.natCast_add, Int.tdiv_eq_ediv_of_nonneg (by omega)]; rfl

set_option maxHeartbeats 1000000 in
theorem s_safe0 (A : Option Addr) (l : List Course) (c : Nat) (side : Int) (w : World) (hv : validC l = true) (hR : Rd Course.cs 6 w A l) (hs0 : 0 ≤ side) (hs1 : side ≤ 3) :
    Calls Try.prog 79 #[.slice A l.length c, .int .i64 side] w fun e w' => e = .returned (.tuple #[.int .i64 (safeI l side), .bool (decide (0 ≤ safeI l side))]) ∧ Below w.heap.size w w' := by
  have HL := Lib.hid (fun (p : Nat) W (hp : p ≤ 10000) (h : Below w.heap.size w W) => s_lostC A l c p side W hv (hR.on h) (by omega) (by omega) hs0 hs1)
  clear hv hR
  go_enter Try.func79, Try.ntmps79
  go_wp2
  go_loopw [6, 7] (fun lo hi wr => Below w.heap.size w wr ∧ ((lo = .int .i64 (-1) ∧ hi = .int .i64 10001) ∨ (lo = .int .i64 (-1) ∧ hi = .int .i64 0 ∧ Hid (safeI l side = -1)) ∨ ∃ a b : Nat, lo = .int .i64 a ∧ hi = .int .i64 b ∧ a < b ∧ b ≤ 10001 ∧ Hid (safeI l side = (bs (tight l side) a b : Int))))
    (fun lo hi _ => (intOf hi - intOf lo).toNat)
  case atStart => exact ⟨Below.refl _ _, .inl ⟨rfl, rfl⟩⟩
  case round =>
    obtain ⟨hbw, ⟨rfl, rfl⟩ | ⟨rfl, rfl, HI⟩ | ⟨a, b, rfl, rfl, hab, hb, HI⟩⟩ := hrel
    · cases ht : tight l side 0
      · have hi : safeI l side = -1 := by unfold safeI; simp [ht]
        have hpos : (0 : Int) < ((lostL closedB l 0 side (List.range l.length).reverse).length : Int) := by
          have : ¬ (lostsL closedB l (0 : Nat) side).length = 0 := by unfold tight at ht; simpa using ht
          have h2 : (lostsL closedB l (0 : Nat) side).length = (lostL closedB l 0 side (List.range l.length).reverse).length := rfl
          omega
        have HI := Lib.hid hi
        clear ht hi
        go_wp2_with (go_at_call 76; refine (HL.out 0 _ (by omega) hbw).mono ?_; rintro e w1 ⟨v, rfl, hr, hb1⟩; obtain ⟨ad, cp, rfl⟩ := ownsRow_slice hr)
        go_roundw
        case rel => exact ⟨hbw.trans (hb1.mono hbw.size), .inr (.inl ⟨rfl, rfl, HI⟩)⟩
        case measure => simp [intOf]
      · have hi : safeI l side = (bs (tight l side) 0 10001 : Int) := by unfold safeI; simp [ht]
        have hpos : ((lostL closedB l 0 side (List.range l.length).reverse).length : Int) = 0 := by
          have : (lostsL closedB l (0 : Nat) side).length = 0 := by unfold tight at ht; simpa using ht
          have h2 : (lostsL closedB l (0 : Nat) side).length = (lostL closedB l 0 side (List.range l.length).reverse).length := rfl
          omega
        have HI := Lib.hid hi
        clear ht hi
        go_wp2_with (go_at_call 76; refine (HL.out 0 _ (by omega) hbw).mono ?_; rintro e w1 ⟨v, rfl, hr, hb1⟩; obtain ⟨ad, cp, rfl⟩ := ownsRow_slice hr)
        go_roundw
        case rel => exact ⟨hbw.trans (hb1.mono hbw.size), .inr (.inr ⟨0, 10001, rfl, rfl, by omega, by omega, HI⟩)⟩
        case measure => simp [intOf]
    · go_wp2
      go_ret2
      exact ⟨by rw [HI.out]; rfl, hbw⟩
    · by_cases hle : b ≤ a + 1
      · have he := HI.out
        rw [bs_end hle] at he
        have HE := Lib.hid he
        clear he
        go_wp2
        go_ret2
        refine ⟨?_, hbw⟩
        rw [HE.out]
        exact ret_tup2 rfl (congrArg Value.bool (by simp))
      · have hh := half_nat a b
        have g1 : a < (a + b) / 2 := by omega
        have g2 : (a + b) / 2 < b := by omega
        generalize hm : (a + b) / 2 = m at *
        have HM := Lib.hid hm
        have hm0 : (0 : Int) ≤ (m : Int) := Int.natCast_nonneg _
        have ha0 : (0 : Int) ≤ (a : Int) := Int.natCast_nonneg _
        have hb0 : (b : Int) ≤ 10001 := by omega
        have hab2 : 1 < (b : Int) - (a : Int) := by omega
        have hab3 : (a : Int) < (b : Int) := by omega
        have g3 : (a : Int) < (m : Int) := by omega
        have g4 : (m : Int) < (b : Int) := by omega
        clear hm
        cases ht : tight l side m
        · have hpos : (0 : Int) < ((lostL closedB l m side (List.range l.length).reverse).length : Int) := by
            have : ¬ (lostsL closedB l m side).length = 0 := by unfold tight at ht; simpa using ht
            have h2 : (lostsL closedB l m side).length = (lostL closedB l m side (List.range l.length).reverse).length := rfl
            omega
          have HI2 : Hid (safeI l side = (bs (tight l side) a m : Int)) := by
            show _ = _
            rw [HI.out, bs_no hle (by rw [HM.out]; exact ht), HM.out]
          clear ht HI
          go_wp2_with (go_at_call 76; refine (HL.out m _ (by omega) hbw).mono ?_; rintro e w1 ⟨v, rfl, hr, hb1⟩; obtain ⟨ad, cp, rfl⟩ := ownsRow_slice hr)
          go_roundw
          case rel => exact ⟨hbw.trans (hb1.mono hbw.size), .inr (.inr ⟨a, m, rfl, rfl, by omega, by omega, HI2⟩)⟩
          case measure => simp [intOf]; omega
        · have hpos : ((lostL closedB l m side (List.range l.length).reverse).length : Int) = 0 := by
            have : (lostsL closedB l m side).length = 0 := by unfold tight at ht; simpa using ht
            have h2 : (lostsL closedB l m side).length = (lostL closedB l m side (List.range l.length).reverse).length := rfl
            omega
          have HI2 : Hid (safeI l side = (bs (tight l side) m b : Int)) := by
            show _ = _
            rw [HI.out, bs_yes hle (by rw [HM.out]; exact ht), HM.out]
          clear ht HI
          go_wp2_with (go_at_call 76; refine (HL.out m _ (by omega) hbw).mono ?_; rintro e w1 ⟨v, rfl, hr, hb1⟩; obtain ⟨ad, cp, rfl⟩ := ownsRow_slice hr)
          go_roundw
          case rel => exact ⟨hbw.trans (hb1.mono hbw.size), .inr (.inr ⟨m, b, rfl, rfl, by omega, by omega, HI2⟩)⟩
          case measure => simp [intOf]; omega

theorem r_tight (A : Option Addr) (l : List Course) (c : Nat) (p : Nat) (side : Int) (w : World) (hv : validC l = true) (hR : Rd Course.cs 6 w A l) (hp1 : p ≤ 10000) (hs0 : 0 ≤ side) (hs1 : side ≤ 3) :
    Calls Try.prog 90 #[.slice A l.length c, .int .i64 p, .int .i64 side] w fun e w' => e = .returned (.bool (tight l side p)) ∧ Below w.heap.size w w' := by
  have HL := Lib.hid (fun (n : Nat) W (hn : n < l.length) (h : Below w.heap.size w W) => r_closed A l c n p side W hv hn (hR.on h) (by omega) (by omega) hs0 hs1)
  obtain ⟨_, hl1, hl2⟩ := valid_all hv
  clear hv hR
  go_enter Try.func90, Try.ntmps90
  go_wp2
  go_loopw [7] (fun i wr => ∃ k : Nat, k ≤ l.length ∧ i = .int .i64 k ∧ Below w.heap.size w wr ∧ Hid (∀ j, j < k → closedB (bedC l j) (l.drop j) p side = true)) (fun i _ => l.length - (intOf i).toNat)
  case atStart => exact ⟨0, by omega, rfl, Below.refl _ _, fun j hj => by omega⟩
  case round =>
    obtain ⟨k, hk, rfl, hbw, HT⟩ := hrel
    by_cases hlt : k < l.length
    · have k0 : (0 : Int) ≤ (k : Int) := Int.natCast_nonneg _
      have k1 : (k : Int) < (l.length : Int) := by omega
      cases hc : closedB (bedC l k) (l.drop k) p side
      · have hs : tight l side p = false := by
          rw [Bool.eq_false_iff]; intro h
          have := (tight_iff l side p).1 h k hlt
          rw [hc] at this; cases this
        have HS := Lib.hid hs
        have HCC := Lib.hid hc
        clear hs hc
        go_wp2_with (go_at_call 72; refine (HL.out k _ hlt hbw).mono ?_; rintro e w3 ⟨rfl, hb3⟩; rw [HCC.out])
        go_ret
        exact ⟨ret_bool HS.out.symm, hbw.trans (hb3.mono hbw.size)⟩
      · have HCC := Lib.hid hc
        clear hc
        go_wp2_with (go_at_call 72; refine (HL.out k _ hlt hbw).mono ?_; rintro e w3 ⟨rfl, hb3⟩; rw [HCC.out])
        go_roundw
        case rel =>
          refine ⟨k + 1, by omega, by go_num, hbw.trans (hb3.mono hbw.size), fun j hj => ?_⟩
          rcases Nat.lt_or_ge j k with h | h
          · exact HT.out j h
          · obtain rfl : j = k := by omega
            exact HCC.out
        case measure => simp [intOf]; omega
    · have hs : tight l side p = true := (tight_iff l side p).2 fun j hj => HT.out j (by omega)
      have HS := Lib.hid hs
      clear hs
      go_wp2
      go_ret
      exact ⟨ret_bool HS.out.symm, hbw⟩

set_option maxHeartbeats 1000000 in
theorem r_safe0 (A : Option Addr) (l : List Course) (c : Nat) (side : Int) (w : World) (hv : validC l = true) (hR : Rd Course.cs 6 w A l) (hs0 : 0 ≤ side) (hs1 : side ≤ 3) :
    Calls Try.prog 80 #[.slice A l.length c, .int .i64 side] w fun e w' => e = .returned (.int .i64 (safeI l side)) ∧ Below w.heap.size w w' := by
  have HL := Lib.hid (fun (p : Nat) W (hp : p ≤ 10000) (h : Below w.heap.size w W) => r_tight A l c p side W hv (hR.on h) hp hs0 hs1)
  clear hv hR
  cases ht : tight l side 0
  · have HT := Lib.hid ht
    clear ht
    go_enter Try.func80, Try.ntmps80
    go_wp2_with (go_at_call 90; refine (HL.out 0 _ (by omega) (Below.refl _ _)).mono ?_; rintro e w1 ⟨rfl, hb1⟩; rw [HT.out])
    go_ret
    exact ⟨ret_int (by unfold safeI; simp [HT.out]), hb1⟩
  · have HT := Lib.hid ht
    clear ht
    go_enter Try.func80, Try.ntmps80
    go_wp2_with (go_at_call 90; refine (HL.out 0 _ (by omega) (Below.refl _ _)).mono ?_; rintro e w1 ⟨rfl, hb1⟩; rw [HT.out])
    go_loopw [5, 6] (fun lo hi wr => Below w.heap.size w wr ∧ ∃ a b : Nat, lo = .int .i64 a ∧ hi = .int .i64 b ∧ a < b ∧ b ≤ 10001 ∧ Hid (safeI l side = (bs (tight l side) a b : Int)))
      (fun lo hi _ => (intOf hi - intOf lo).toNat)
    case atStart => exact ⟨hb1, 0, 10001, rfl, rfl, by omega, by omega, by show _ = _; unfold safeI; simp [HT.out]⟩
    case round =>
      obtain ⟨hbw, a, b, rfl, rfl, hab, hb, HI⟩ := hrel
      by_cases hle : b ≤ a + 1
      · have he := HI.out
        rw [bs_end hle] at he
        have HE := Lib.hid he
        clear he
        go_wp2
        go_ret
        exact ⟨by rw [HE.out]; rfl, hbw⟩
      · have hh := half_nat a b
        have g1 : a < (a + b) / 2 := by omega
        have g2 : (a + b) / 2 < b := by omega
        generalize hm : (a + b) / 2 = m at *
        have HM := Lib.hid hm
        have hm0 : (0 : Int) ≤ (m : Int) := Int.natCast_nonneg _
        have ha0 : (0 : Int) ≤ (a : Int) := Int.natCast_nonneg _
        have hb0 : (b : Int) ≤ 10001 := by omega
        have hab2 : 1 < (b : Int) - (a : Int) := by omega
        have hab3 : (a : Int) < (b : Int) := by omega
        have g3 : (a : Int) < (m : Int) := by omega
        have g4 : (m : Int) < (b : Int) := by omega
        clear hm
        cases ht : tight l side m
        · have HI2 : Hid (safeI l side = (bs (tight l side) a m : Int)) := by
            show _ = _
            rw [HI.out, bs_no hle (by rw [HM.out]; exact ht), HM.out]
          have HTT := Lib.hid ht
          clear ht HI
          go_wp2_with (go_at_call 90; refine (HL.out m _ (by omega) hbw).mono ?_; rintro e w3 ⟨rfl, hb3⟩; rw [HTT.out])
          go_roundw
          case rel => exact ⟨hbw.trans (hb3.mono hbw.size), a, m, rfl, rfl, by omega, by omega, HI2⟩
          case measure => simp [intOf]; omega
        · have HI2 : Hid (safeI l side = (bs (tight l side) m b : Int)) := by
            show _ = _
            rw [HI.out, bs_yes hle (by rw [HM.out]; exact ht), HM.out]
          have HTT := Lib.hid ht
          clear ht HI
          go_wp2_with (go_at_call 90; refine (HL.out m _ (by omega) hbw).mono ?_; rintro e w3 ⟨rfl, hb3⟩; rw [HTT.out])
          go_roundw
          case rel => exact ⟨hbw.trans (hb3.mono hbw.size), m, b, rfl, rfl, by omega, by omega, HI2⟩
          case measure => simp [intOf]; omega
end Go.Proofs.Ythoemokkfijfeaa
