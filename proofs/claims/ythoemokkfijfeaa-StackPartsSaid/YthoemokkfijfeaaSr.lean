/- Stack: Open, Stands and Falls by the reference; equal lists of numbers; the statement on open beds. -/
import Derived.Test.YthoemokkfijfeaaSq
import Derived.Maps.OwnIn
namespace Go.Proofs.Ythoemokkfijfeaa
open Go.RowKit

theorem below_grown {B : Nat} {a w w' : World} {row : Option Nat} (h : Below B a w) (k : w.grownBy w' row) (hr : ∀ r, row = some r → B ≤ r) (hB : B ≤ w.heap.size) : Below B a w' :=
  h.trans ⟨k.os, k.tape, k.output, k.size, fun b hb => k.block b (by omega) (fun e => by have := hr b e.symm; omega)⟩

def natC (n : Nat) : List Value := [.int .i64 (n : Int)]
theorem rd_row {W : World} {base : Nat} {e : TypeId} {A : Option Addr} {c : Nat} {zs : List Nat} (h : W.ownsRow base e 1 (.slice A zs.length c) zs.length (natV zs)) : Rd natC 1 W A zs := fun hne => by
  obtain ⟨g, cap, hv, h1, h2, h3⟩ := nat_at h hne
  cases hv
  refine ⟨g, 0, rfl, h2, fun k x hx j v hj => ?_⟩
  obtain ⟨hk, rfl⟩ := List.getElem?_eq_some_iff.1 hx
  cases j with
  | zero => cases hj; have := h3 k hk; simpa using this
  | succ j => simp [natC] at hj

theorem r_sameInts (A B : Option Addr) (a b : List Nat) (c d : Nat) (w : World) (ha : a.length ≤ 100000) (hA : Rd natC 1 w A a) (hB : Rd natC 1 w B b) :
    Calls Try.prog 46 #[.slice A a.length c, .slice B b.length d] w fun e w' => e = .returned (.bool (decide (a = b))) ∧ Below w.heap.size w w' := by
  by_cases hl : a.length = b.length
  · go_enter Try.func46, Try.ntmps46
    go_wp2
    go_loopw [5] (fun i wr => ∃ k : Nat, k ≤ a.length ∧ i = .int .i64 k ∧ Below w.heap.size w wr ∧ Hid (a.take k = b.take k)) (fun i _ => a.length - (intOf i).toNat)
    case atStart => exact ⟨0, by omega, rfl, Below.refl _ _, by show _ = _; simp⟩
    case round =>
      obtain ⟨k, hk, rfl, hbw, HT⟩ := hrel
      by_cases hlt : k < a.length
      · obtain ⟨x, hx⟩ := get_lt hlt
        obtain ⟨y, hy⟩ := get_lt (show k < b.length by omega)
        obtain ⟨g, off, rfl, hg, hcg⟩ := (hA.on hbw).get hx
        obtain ⟨g', off', rfl, hg', hcg'⟩ := (hB.on hbw).get hy
        have q1 := hcg 0 _ rfl
        have q2 := hcg' 0 _ rfl
        simp only [Nat.mul_one, Nat.add_zero] at q1 q2
        have k0 : (0 : Int) ≤ (k : Int) := Int.natCast_nonneg _
        have k1 : (k : Int) < (a.length : Int) := by omega
        have k2 : (k : Int) < (b.length : Int) := by omega
        have HX := Lib.hid hx
        have HY := Lib.hid hy
        clear hx hy hcg hcg'
        by_cases hxy : x = y
        · subst hxy
          go_wp2
          go_quiet (fail)
          go_wp2
          go_roundw
          case rel => exact ⟨k + 1, by omega, by go_num, below_drewN hbw _, by show _ = _; rw [List.take_add_one, List.take_add_one, HT.out, HX.out, HY.out]⟩
          case measure => simp [intOf]; omega
        · have hxy2 : ((x : Int) != (y : Int)) = true := by simp; omega
          have hne : a ≠ b := fun h => by
            have h1 := HX.out
            rw [h, HY.out] at h1
            exact hxy (Option.some.inj h1).symm
          have HN := Lib.hid hne
          clear hne hxy
          go_wp2
          go_quiet (fail)
          go_wp2
          go_ret
          exact ⟨ret_bool (by simp [HN.out]), below_drewN hbw _⟩
      · have hab : a = b := by
          have := HT.out
          rwa [List.take_of_length_le (by omega), List.take_of_length_le (by omega)] at this
        have HAB := Lib.hid hab
        clear hab
        go_wp2
        go_ret
        exact ⟨ret_bool (by simp [HAB.out]), hbw⟩
  · have h1 : ((a.length : Int) == (b.length : Int)) = false := by simp; omega
    have h2 : a ≠ b := fun h => hl (by rw [h])
    have H2 := Lib.hid h2
    clear h2
    go_enter Try.func46, Try.ntmps46
    go_wp2
    go_ret
    exact ⟨ret_bool (by simp [H2.out]), below_refl _⟩

theorem r_open (A : Option Addr) (l : List Course) (c : Nat) (p side : Int) (w : World) (hl : l.length ≤ 100000) (hR : Rd Course.cs 6 w A l) :
    Calls Try.prog 45 #[.slice A l.length c, .int .i64 p, .int .i64 side] w fun e w' => ∃ v, e = .returned (.tuple #[v, .int .i64 (windyE l 0 p side)]) ∧ w'.ownsRow w.heap.size 3 1 v (openR l p side).length (natV (openR l p side)) ∧ Below w.heap.size w w' := by
  have HC := Lib.hid (r_bedError A l c 0 p side w hl hR)
  by_cases h0 : windyE l 0 p side = 0
  · obtain ⟨hv, hp0, hp1, hs0, hs1⟩ := windy0 l h0
    have HL := Lib.hid (fun (n : Nat) W (hn : n < l.length) (h : Below w.heap.size w W) => r_closed A l c n p side W hv hn (hR.on h) hp0 hp1 hs0 hs1)
    rw [h0] at HC
    have H0 := Lib.hid h0
    clear h0 hv
    go_enter Try.func45, Try.ntmps45
    go_wp2_with (first
      | (go_at_call 62; refine HC.out.mono ?_; rintro e w1 ⟨rfl, hb1⟩))
    go_loopw [9, 10] (fun o i wr => ∃ k : Nat, k ≤ l.length ∧ i = .int .i64 k ∧ Below w.heap.size w wr ∧ wr.ownsRow w.heap.size 3 1 o (lostL closedB l p side (List.range k)).length (natV (lostL closedB l p side (List.range k)))) (fun _ i _ => l.length - (intOf i).toNat)
    case atStart => exact ⟨0, by omega, rfl, hb1, World.ownsRow_nil w1 _ _ _⟩
    case round =>
      obtain ⟨k, hk, rfl, hbw, hown⟩ := hrel
      obtain ⟨ad, cp, rfl⟩ := ownsRow_slice hown
      by_cases hlt : k < l.length
      · have k0 : (0 : Int) ≤ (k : Int) := Int.natCast_nonneg _
        have k1 : (k : Int) < (l.length : Int) := by omega
        have hlen : (lostL closedB l p side (List.range k)).length ≤ k := by
          have := List.length_filter_le (fun i : Nat => !closedB (bedC l i) (l.drop i) p side) (List.range k)
          simpa [lostL] using this
        cases hc : closedB (bedC l k) (l.drop k) p side
        · have hs : lostL closedB l p side (List.range (k + 1)) = lostL closedB l p side (List.range k) ++ [k] := by
            unfold lostL; rw [List.range_succ, List.filter_append]; simp [hc]
          have HS := Lib.hid hs
          have HCC := Lib.hid hc
          obtain ⟨i0, hi, hi1, hi2, hi3⟩ := info_int
          clear hs hc
          go_wp2_with (first
            | (go_at_call 72; refine (HL.out k _ hlt hbw).mono ?_; rintro e w3 ⟨rfl, hb3⟩; rw [HCC.out]; have hown3 := ownsRow_stp hown (Stp.of_below hb3) (fun b hb => by have := (ownBlock_ge hown b hb).2; omega); have hbw3 : Below w.heap.size w w3 := hbw.trans (hb3.mono hbw.size))
            | (at_builtin; refine wpList_append_own _ rfl _ _ 51 rfl w.heap.size 3 i0 (.int .i64 0) 1 8 (by kernel_rfl) hi hi1 hi2 hi3 rfl (by omega) _ _ _ rfl (hown3.alloc _) ⟨w3.heap.size, 0, none⟩ 1 1 [.int .i64 k] rfl rfl (cell_one_new _ _ _) (fun u hu => by simp at hu; subst hu; rfl) (by unfold maxLen; omega) (by omega) (by simp; have := hbw3.size; omega) ?_; intro v' w4 hown4 hgrow _))
          go_roundw
          case rel => exact ⟨k + 1, by omega, by go_num, below_grown (hbw3.alloc hbw3.size _) hgrow (fun r hr => (ownBlock_ge hown r hr).1) (by simp; have := hbw3.size; omega), by rw [HS.out]; simpa [natV] using hown4⟩
          case measure => simp [intOf]; omega
        · have hs : lostL closedB l p side (List.range (k + 1)) = lostL closedB l p side (List.range k) := by
            unfold lostL; rw [List.range_succ, List.filter_append]; simp [hc]
          have HS := Lib.hid hs
          have HCC := Lib.hid hc
          clear hs hc
          go_wp2_with (go_at_call 72; refine (HL.out k _ hlt hbw).mono ?_; rintro e w3 ⟨rfl, hb3⟩; rw [HCC.out]; have hown3 := ownsRow_stp hown (Stp.of_below hb3) (fun b hb => by have := (ownBlock_ge hown b hb).2; omega))
          go_roundw
          case rel => exact ⟨k + 1, by omega, by go_num, hbw.trans (hb3.mono hbw.size), by rw [HS.out]; exact hown3⟩
          case measure => simp [intOf]; omega
      · obtain rfl : k = l.length := by omega
        have he : openR l p side = lostL closedB l p side (List.range l.length) := by
          unfold openR lostsL lostL; rw [if_pos H0.out, List.filter_reverse, List.reverse_reverse]
        have HE := Lib.hid he
        clear he
        go_wp2
        go_ret2
        exact ⟨_, by rw [H0.out]; rfl, by rw [HE.out]; exact hown, hbw⟩
  · have H0 := Lib.hid h0
    have t1 : (windyE l 0 p side != 0) = true := by simpa using h0
    clear h0
    go_enter Try.func45, Try.ntmps45
    go_wp2_with (go_at_call 62; refine HC.out.mono ?_; rintro e w1 ⟨rfl, hb1⟩)
    go_ret2
    exact ⟨_, rfl, by simp only [openR, if_neg H0.out]; exact World.ownsRow_nil w1 _ _ _, hb1⟩

def fallsI (l : List Course) (p side : Int) : Int := match lostsL holdsB l p side with | [] => -1 | b :: _ => (b : Int)
theorem r_falls0 (A : Option Addr) (l : List Course) (c : Nat) (p side : Int) (w : World) (hv : validC l = true) (hR : Rd Course.cs 6 w A l) (hp0 : 0 ≤ p) (hp1 : p ≤ 10000) (hs0 : 0 ≤ side) (hs1 : side ≤ 3) :
    Calls Try.prog 78 #[.slice A l.length c, .int .i64 p, .int .i64 side] w fun e w' => e = .returned (.int .i64 (fallsI l p side)) ∧ Below w.heap.size w w' := by
  have HL := Lib.hid (fun (n : Nat) W (hn : n < l.length) (h : Below w.heap.size w W) => r_holds A l c n p side W hv hn (hR.on h) hp0 hp1 hs0 hs1)
  obtain ⟨_, hl1, hl2⟩ := valid_all hv
  clear hv
  go_enter Try.func78, Try.ntmps78
  go_wp2
  go_loopw [7] (fun i wr => ∃ m : Nat, m ≤ l.length ∧ i = .int .i64 ((m : Int) - 1) ∧ Below w.heap.size w wr ∧ Hid (lostsL holdsB l p side = lostL holdsB l p side (List.range m).reverse)) (fun i _ => (intOf i + 1).toNat)
  case atStart => exact ⟨l.length, Nat.le_refl _, rfl, Below.refl _ _, rfl⟩
  case round =>
    obtain ⟨m, hm, rfl, hbw, HT⟩ := hrel
    cases m with
    | zero =>
      go_wp2
      go_ret
      exact ⟨ret_int (by unfold fallsI; rw [HT.out]; rfl), hbw⟩
    | succ m =>
      rw [show (((m + 1 : Nat) : Int) - 1) = (m : Int) from by omega]
      have k0 : (0 : Int) ≤ (m : Int) := Int.natCast_nonneg _
      have hlt : m < l.length := by omega
      cases hc : holdsB (bedC l m) (l.drop m) p side
      · have hs : lostsL holdsB l p side = m :: lostL holdsB l p side (List.range m).reverse := by
          rw [HT.out, List.range_succ]; unfold lostL; simp [hc]
        have HS := Lib.hid hs
        have HCC := Lib.hid hc
        clear hs hc
        go_wp2_with (go_at_call 74; refine (HL.out m _ hlt hbw).mono ?_; rintro e w3 ⟨rfl, hb3⟩; rw [HCC.out])
        go_ret
        exact ⟨ret_int (by unfold fallsI; rw [HS.out]), hbw.trans (hb3.mono hbw.size)⟩
      · have hs : lostsL holdsB l p side = lostL holdsB l p side (List.range m).reverse := by
          rw [HT.out, List.range_succ]; unfold lostL; simp [hc]
        have HS := Lib.hid hs
        have HCC := Lib.hid hc
        clear hs hc
        go_wp2_with (go_at_call 74; refine (HL.out m _ hlt hbw).mono ?_; rintro e w3 ⟨rfl, hb3⟩; rw [HCC.out])
        go_roundw
        case rel => exact ⟨m, by omega, by go_num, hbw.trans (hb3.mono hbw.size), HS.out⟩
        case measure => simp [intOf]

theorem r_stands (A : Option Addr) (l : List Course) (c : Nat) (p side : Int) (w : World) (hl : l.length ≤ 100000) (hR : Rd Course.cs 6 w A l) :
    Calls Try.prog 47 #[.slice A l.length c, .int .i64 p, .int .i64 side] w fun e w' => e = .returned (.tuple #[.bool (standsR l p side), .int .i64 (windyE l 0 p side)]) ∧ Below w.heap.size w w' := by
  have HC := Lib.hid (r_bedError A l c 0 p side w hl hR)
  by_cases h0 : windyE l 0 p side = 0
  · obtain ⟨hv, hp0, hp1, hs0, hs1⟩ := windy0 l h0
    have HL := Lib.hid (fun W (h : Below w.heap.size w W) => r_falls0 A l c p side W hv (hR.on h) hp0 hp1 hs0 hs1)
    have HE : Hid (standsR l p side = decide (fallsI l p side < 0)) := by
      show _ = _
      unfold standsR fallsI; rw [if_pos h0]
      cases lostsL holdsB l p side <;> simp <;> omega
    rw [h0] at HC ⊢
    clear h0 hv
    go_enter Try.func47, Try.ntmps47
    go_wp2_with (first
      | (go_at_call 62; refine HC.out.mono ?_; rintro e w1 ⟨rfl, hb1⟩)
      | (go_at_call 78; refine (HL.out _ hb1).mono ?_; rintro e w2 ⟨rfl, hb2⟩))
    go_ret2
    exact ⟨by rw [HE.out]; rfl, below_tr hb1 hb2⟩
  · have H0 := Lib.hid h0
    have t1 : (windyE l 0 p side != 0) = true := by simpa using h0
    clear h0
    go_enter Try.func47, Try.ntmps47
    go_wp2_with (go_at_call 62; refine HC.out.mono ?_; rintro e w1 ⟨rfl, hb1⟩)
    go_ret2
    exact ⟨by simp only [standsR, if_neg H0.out]; rfl, hb1⟩

theorem r_falls (A : Option Addr) (l : List Course) (c : Nat) (p side : Int) (w : World) (hl : l.length ≤ 100000) (hR : Rd Course.cs 6 w A l) :
    Calls Try.prog 49 #[.slice A l.length c, .int .i64 p, .int .i64 side] w fun e w' => e = .returned (.tuple #[.int .i64 (fallsR l p side).1, .int .i64 (fallsR l p side).2]) ∧ Below w.heap.size w w' := by
  have HC := Lib.hid (r_bedError A l c 0 p side w hl hR)
  by_cases h0 : windyE l 0 p side = 0
  · obtain ⟨hv, hp0, hp1, hs0, hs1⟩ := windy0 l h0
    have HL := Lib.hid (fun W (h : Below w.heap.size w W) => r_falls0 A l c p side W hv (hR.on h) hp0 hp1 hs0 hs1)
    have HE : (fallsR l p side = (0, 8) ∧ fallsI l p side = -1) ∨ (fallsR l p side = (fallsI l p side, 0) ∧ 0 ≤ fallsI l p side) := by
      unfold fallsR fallsI; rw [if_pos h0]
      cases lostsL holdsB l p side <;> simp
    rw [h0] at HC
    clear h0 hv
    rcases HE with ⟨HE, h1⟩ | ⟨HE, h1⟩
    all_goals
      have HEE := Lib.hid HE
      clear HE
      go_enter Try.func49, Try.ntmps49
      go_wp2_with (first
        | (go_at_call 62; refine HC.out.mono ?_; rintro e w1 ⟨rfl, hb1⟩)
        | (go_at_call 78; refine (HL.out _ hb1).mono ?_; rintro e w2 ⟨rfl, hb2⟩))
      go_ret2
      exact ⟨by rw [HEE.out]; rfl, below_tr hb1 hb2⟩
  · have H0 := Lib.hid h0
    have t1 : (windyE l 0 p side != 0) = true := by simpa using h0
    clear h0
    go_enter Try.func49, Try.ntmps49
    go_wp2_with (go_at_call 62; refine HC.out.mono ?_; rintro e w1 ⟨rfl, hb1⟩)
    go_ret2
    exact ⟨by simp only [fallsR, if_neg H0.out]; rfl, hb1⟩

theorem openR_len (l : List Course) (p side : Int) : (openR l p side).length ≤ l.length := by
  unfold openR; split
  · rw [List.length_reverse]; exact lostsL_len _ _ _ _
  · simp

set_option maxHeartbeats 1000000 in
set_option maxRecDepth 20000 in
theorem l_opens (A : Option Addr) (l : List Course) (c : Nat) (p side : Int) (w : World) (hl : l.length ≤ maxLen) (hR : Rd Course.cs 6 w A l) :
    Calls Try.prog 10 #[.slice A l.length c, .int .i64 p, .int .i64 side] w fun e w' => e = .returned (.bool true) ∧ Below w.heap.size w w' := by
  unfold maxLen at hl
  by_cases h : l.length ≤ 100
  · have hl2 : l.length ≤ 100000 := by omega
    have H1 := Lib.hid (s_open A l c p side w hl2 hR)
    have H2 := Lib.hid (fun W (h : Below w.heap.size w W) => r_open A l c p side W hl2 (hR.on h))
    have H3 := Lib.hid (fun W (h : Below w.heap.size w W) => s_stands A l c p side W hl2 (hR.on h))
    have H4 := Lib.hid (fun W (h : Below w.heap.size w W) => r_stands A l c p side W hl2 (hR.on h))
    have H5 := Lib.hid (fun W (h : Below w.heap.size w W) => s_falls A l c p side W hl2 (hR.on h))
    have H6 := Lib.hid (fun W (h : Below w.heap.size w W) => r_falls A l c p side W hl2 (hR.on h))
    have hol : (openR l p side).length ≤ 100000 := by have := openR_len l p side; omega
    go_enter Try.func10, Try.ntmps10
    go_wp2_with (first
      | (go_at_call 43; refine H1.out.mono ?_; rintro e w1 ⟨v1, rfl, hr1, c1⟩; obtain ⟨a1, m1, rfl⟩ := ownsRow_slice hr1)
      | (go_at_call 45; refine (H2.out _ c1).mono ?_; rintro e w2 ⟨v2, rfl, hr2, c2⟩; obtain ⟨a2, m2, rfl⟩ := ownsRow_slice hr2; have b2 : Below w.heap.size w w2 := below_tr c1 c2; have hr3 := ownsRow_stp hr1 (Stp.of_below c2) (fun b hb => by have := (ownBlock_ge hr1 b hb).2; omega))
      | (go_at_call 46; refine (r_sameInts a1 a2 (openR l p side) (openR l p side) m1 m2 w2 hol (rd_row hr3) (rd_row hr2)).mono ?_; rintro e w3 ⟨rfl, c3⟩; have b3 : Below w.heap.size w w3 := below_tr b2 c3)
      | (go_at_call 44; refine (H3.out _ b3).mono ?_; rintro e w4 ⟨rfl, c4⟩; have b4 : Below w.heap.size w w4 := below_tr b3 c4)
      | (go_at_call 47; refine (H4.out _ b4).mono ?_; rintro e w5 ⟨rfl, c5⟩; have b5 : Below w.heap.size w w5 := below_tr b4 c5)
      | (go_at_call 48; refine (H5.out _ b5).mono ?_; rintro e w6 ⟨rfl, c6⟩; have b6 : Below w.heap.size w w6 := below_tr b5 c6)
      | (go_at_call 49; refine (H6.out _ b6).mono ?_; rintro e w7 ⟨rfl, c7⟩; have b7 : Below w.heap.size w w7 := below_tr b6 c7)
      | (go_at_call 14; refine (s_awake _).mono ?_; rintro e w9 ⟨rfl, c9⟩))
    go_ret
    exact ⟨rfl, below_tr b7 c9⟩
  · go_enter Try.func10, Try.ntmps10
    go_wp2_with (go_at_call 14; refine (s_awake _).mono ?_; rintro e w1 ⟨rfl, hb⟩)
    go_ret
    exact ⟨rfl, hb⟩
end Go.Proofs.Ythoemokkfijfeaa
