/- Stack: turned stacks by the reference; shifted stacks by both. -/
import Derived.Test.YthoemokkfijfeaaSw
namespace Go.Proofs.Ythoemokkfijfeaa
open Go.RowKit

theorem quart_lt (q : Int) : quart q < 4 := by
  have h1 := Int.tmod_lt_of_pos (q.tmod 4 + 4) (show (0 : Int) < 4 by omega)
  unfold quart; omega
theorem quart_mod (q : Int) : (quart q : Int) = q % 4 := by
  have h1 : -4 < q.tmod 4 := Int.lt_tmod_of_pos q (by omega)
  unfold quart
  rw [Int.tmod_eq_emod_of_nonneg (a := q.tmod 4 + 4) (by omega)]
  have h2 := Int.tmod_add_mul_tdiv q 4
  omega
theorem and3 (q : Int) : Value.int .i64 (bits .and .i64 q 3) = .int .i64 ((quart q - 0 : Nat) : Int) := by
  rw [Nat.sub_zero, quart_mod]
  have h3 : (BitVec.ofInt 64 3).toNat = 2 ^ 2 - 1 := by decide
  have key : (BitVec.ofInt 64 q &&& BitVec.ofInt 64 3).toNat = (q % ((2 ^ 64 : Nat) : Int)).toNat % 2 ^ 2 := by
    rw [BitVec.toNat_and, BitVec.toNat_ofInt, h3, Nat.and_two_pow_sub_one_eq_mod]
  refine int_eq ?_
  show IntKind.i64.wrap ((BitVec.ofInt 64 q &&& BitVec.ofInt 64 3).toNat : Nat) = q % 4
  rw [key, IntKind.wrap_i64]
  omega

set_option maxHeartbeats 1000000 in
set_option maxRecDepth 20000 in
theorem r_turned (A : Option Addr) (l : List Course) (c : Nat) (q : Int) (w : World) (hl : l.length ≤ 100000) (hR : Rd Course.cs 6 w A l) :
    Calls Try.prog 26 #[.slice A l.length c, .int .i64 q] w fun e w' => ∃ v, e = .returned (.tuple #[v, .int .i64 (turnedE l)]) ∧ (if validC l then OwnS w' w.heap.size v (turnN (quart q) l) else v = .slice none 0 0) ∧ Below w.heap.size w w' := by
  have HC := Lib.hid (r_valid A l c w hl hR)
  cases hv : validC l
  · rw [hv] at HC
    have HV := Lib.hid hv
    clear hv
    go_enter Try.func26, Try.ntmps26
    go_wp2_with (go_at_call 18; refine HC.out.mono ?_; rintro e w1 ⟨rfl, hb1⟩)
    go_ret2
    exact ⟨_, by simp only [turnedE, HV.out]; rfl, by simp, hb1⟩
  · rw [hv] at HC
    obtain ⟨hall, hl1, hl2⟩ := valid_all hv
    obtain ⟨b, off, rfl, hblt, _⟩ := hR (by rintro rfl; simp at hl1)
    have HR := Lib.hid (fun W o (h : Below w.heap.size w W) => rd_flat ((hR.on h).on (below_alloc W o)))
    have HV := Lib.hid hv
    have HA := Lib.hid hall
    obtain ⟨i0, hi, hi1, hi2, hi3⟩ := info_course
    clear hv hall
    go_enter Try.func26, Try.ntmps26
    go_wp2_with (first
      | (go_at_call 18; refine HC.out.mono ?_; rintro e w1 ⟨rfl, hb1⟩)
      | (at_builtin; go_loud (refine wpList_append_own _ rfl _ _ 22 rfl w1.heap.size 35 i0 _ 6 48 (by kernel_rfl) hi hi1 hi2 hi3 rfl (by omega) _ _ _ rfl (own_empty w1 _ 6) ⟨b, off, none⟩ l.length c (flat l) rfl (flat_length l) (HR.out _ _ hb1) (flat_one l) (by unfold maxLen; omega) (by omega) (by simp) ?_; intro v w2 hown hgrow _; rw [Nat.zero_add, List.nil_append] at hown; have hb2 : Below w1.heap.size w1 w2 := below_grown (below_alloc w1 _) hgrow (fun r hr => by cases hr; exact Nat.le_refl _) (by simp); obtain ⟨g, cap, cur, rfl, hg, hbk, hcur⟩ := ownS_of hown (by omega))))
    go_loopw [7] (fun i wr => ∃ j : Nat, j ≤ quart q ∧ i = .int .i64 ((quart q - j : Nat) : Int) ∧ Below w.heap.size w wr ∧ ∃ cur, Blk wr g 35 cur ∧ Hid (∀ (k : Nat) x, (turnN j l)[k]? = some x → ∀ (r : Nat) u, (Course.cs x)[r]? = some u → cur[k * 6 + r]? = some u)) (fun i _ => (intOf i).toNat)
    case atStart => exact ⟨0, by omega, and3 q, below_tr hb1 hb2, cur, hbk, hcur⟩
    case round =>
      obtain ⟨j, hj, rfl, hbw, cur2, hbk2, HC2⟩ := hrel
      by_cases hlt : j < quart q
      · have hm0 : (0 : Int) < ((quart q - j : Nat) : Int) := by omega
        have hm1 : ((quart q - j : Nat) : Int) - 1 = ((quart q - (j + 1) : Nat) : Int) := by omega
        have hm2 : ((quart q - (j + 1) : Nat) : Int).toNat < ((quart q - j : Nat) : Int).toNat := by omega
        have hm3 : ((quart q - j : Nat) : Int) ≤ 3 := by have := quart_lt q; omega
        generalize ((quart q - j : Nat) : Int) = m at *
        generalize hm' : ((quart q - (j + 1) : Nat) : Int) = m' at *
        have HM' := Lib.hid hm'
        clear hm'
        have hLl := turnN_length j l
        have HLs := Lib.hid (turnN_sound (k := j) HA.out)
        go_wp2
        go_loopw [8] (fun i wr => ∃ k : Nat, k ≤ l.length ∧ i = .int .i64 k ∧ Below w.heap.size w wr ∧ ∃ cur, Blk wr g 35 cur ∧ Hid (∀ (k' : Nat) x, (mix k (turnN j l))[k']? = some x → ∀ (r : Nat) u, (Course.cs x)[r]? = some u → cur[k' * 6 + r]? = some u)) (fun i _ => l.length - (intOf i).toNat)
        case atStart => exact ⟨0, by omega, rfl, hbw, cur2, hbk2, by show ∀ _, _; rw [mix_zero]; exact HC2.out⟩
        case round =>
          obtain ⟨k, hk, rfl, hbw3, cur3, hbk3, HC3⟩ := hrel
          have hk0 : (0 : Int) ≤ (k : Int) := Int.natCast_nonneg _
          by_cases hkl : k < l.length
          · have hkl2 : (k : Int) < (l.length : Int) := by omega
            obtain ⟨x, hx⟩ := get_lt (show k < (turnN j l).length by omega)
            have hcb : CB x := cb_of (List.all_eq_true.1 HLs.out x (List.mem_of_getElem? hx))
            have hmx := mix_get hx
            have q4 := (hbk3.cell (k * 6 + 4)).trans (HC3.out k x hmx 4 _ rfl)
            have q5 := (hbk3.cell (k * 6 + 5)).trans (HC3.out k x hmx 5 _ rfl)
            have f4 := hbk3.frozen (k * 6 + 4)
            have f5 := hbk3.frozen (k * 6 + 5)
            have hgw : w.heap.size ≤ g := by have := hb1.size; omega
            obtain ⟨d1, d2, d3, d4, d5, d6, d7, d8, d9, d10, d11⟩ := hcb
            have HX := Lib.hid hx
            clear hx hmx
            go_wp2
            go_region
            all_goals go_wp2
            all_goals go_roundw
            all_goals first
              | exact ⟨k + 1, by omega, by go_num, below_draw ((hbw3.setCell (p := ⟨g, _, none⟩) hgw _).setCell (p := ⟨g, _, none⟩) hgw _), _, ((hbk3.set_ _ _).set_ _ _).drew, by show ∀ _, _; rw [← mix_set HX.out]; exact upd_at HC3.out (mix_get HX.out) rfl⟩
              | (simp [intOf]; omega)
          · obtain rfl : k = l.length := by omega
            go_wp2
            go_roundw
            case rel => exact ⟨j + 1, by omega, by rw [HM'.out], hbw3, cur3, hbk3, by have := HC3.out; rw [← hLl, mix_all] at this; exact this⟩
            case measure => simpa [intOf] using hm2
      · obtain rfl : j = quart q := by omega
        rw [show ((quart q - quart q : Nat) : Int) = 0 by omega]
        go_wp2
        go_ret2
        exact ⟨_, by simp only [turnedE, HV.out]; rfl, ⟨g, cap, cur2, by rw [turnN_length]; rfl, by have := hb1.size; omega, hbk2, HC2.out⟩, hbw⟩

def mixF (f : Course → Course) (k : Nat) (L : List Course) : List Course := (L.take k).map f ++ L.drop k
theorem mixF_get {f : Course → Course} {k : Nat} {L : List Course} {x : Course} (h : L[k]? = some x) : (mixF f k L)[k]? = some x := by
  have hk := (List.getElem?_eq_some_iff.1 h).1
  unfold mixF
  rw [List.getElem?_append_right (by simp; omega), List.getElem?_drop]
  simp only [List.length_map, List.length_take]
  rw [show k + (k - min k L.length) = k by omega]; exact h
theorem mixF_set {f : Course → Course} {k : Nat} {L : List Course} {x : Course} (h : L[k]? = some x) : (mixF f k L).set k (f x) = mixF f (k + 1) L := by
  have hk := (List.getElem?_eq_some_iff.1 h).1
  unfold mixF
  rw [List.set_append_right _ _ (by simp; omega), hs_drop h, List.take_add_one, h]
  simp only [List.length_map, List.length_take, Option.toList_some, List.map_append, List.map_cons, List.map_nil, List.append_assoc]
  rw [show k - min k L.length = 0 by omega]; rfl
theorem mixF_zero (f : Course → Course) (L : List Course) : mixF f 0 L = L := by simp [mixF]
theorem mixF_all (f : Course → Course) (L : List Course) : mixF f L.length L = L.map f := by simp [mixF]

def shift (a b : Int) (x : Course) : Course := { x with e := x.e + a, n := x.n + b }
def shiftE (l : List Course) (a b : Int) : Int := if validC l then (if wn a (-10000) 10000 && wn b (-10000) 10000 then (if validC (l.map (shift a b)) then 0 else 4) else 7) else 1

/-- What a maker gives back: a stack of the call's own, or nothing. -/
def GotS (E : Int) (W : World) (base : Nat) (v : Value) (l : List Course) : Prop := if E = 0 then OwnS W base v l else v = .slice none 0 0
theorem got_no {E : Int} (h : E ≠ 0) {W : World} {base : Nat} {l : List Course} : GotS E W base (.slice none 0 0) l := by unfold GotS; rw [if_neg h]
theorem got_ok {E : Int} (h : E = 0) {W : World} {base : Nat} {v : Value} {l : List Course} (ho : OwnS W base v l) : GotS E W base v l := by unfold GotS; rw [if_pos h]; exact ho

set_option maxHeartbeats 1000000 in
theorem s_shifted (A : Option Addr) (l : List Course) (c : Nat) (a1 a2 : Int) (w : World) (hl : l.length ≤ 100000) (hR : Rd Course.cs 6 w A l) :
    Calls Try.prog 28 #[.slice A l.length c, .int .i64 a1, .int .i64 a2] w fun e w' => ∃ v, e = .returned (.tuple #[v, .int .i64 (shiftE l a1 a2)]) ∧ GotS (shiftE l a1 a2) w' w.heap.size v (l.map (shift a1 a2)) ∧ Below w.heap.size w w' := by
  have HC := Lib.hid (s_valid A l c w hl hR)
  cases hv : validC l
  · rw [hv] at HC
    have hE : shiftE l a1 a2 = 1 := by simp [shiftE, hv]
    rw [hE]
    clear hv hE
    go_enter Try.func28, Try.ntmps28
    go_wp2_with (go_at_call 17; refine HC.out.mono ?_; rintro e w1 ⟨rfl, hb1⟩)
    go_ret2
    exact ⟨_, rfl, got_no (by decide), hb1⟩
  · rw [hv] at HC
    cases h1 : wn a1 (-10000) 10000
    · have hE : shiftE l a1 a2 = 7 := by simp [shiftE, hv, h1]
      have H1 := Lib.hid h1
      rw [hE]
      clear hv hE h1
      go_enter Try.func28, Try.ntmps28
      go_wp2_with (first
        | (go_at_call 17; refine HC.out.mono ?_; rintro e w1 ⟨rfl, hb1⟩)
        | (go_at_call 55; refine (s_within _ _ _ _).mono ?_; rintro e w' ⟨rfl, rfl⟩; rw [H1.out]))
      go_ret2
      exact ⟨_, rfl, got_no (by decide), hb1⟩
    · cases h2 : wn a2 (-10000) 10000
      · have hE : shiftE l a1 a2 = 7 := by simp [shiftE, hv, h2]
        have H1 := Lib.hid h1
        have H2 := Lib.hid h2
        rw [hE]
        clear hv hE h1 h2
        go_enter Try.func28, Try.ntmps28
        go_wp2_with (first
          | (go_at_call 17; refine HC.out.mono ?_; rintro e w1 ⟨rfl, hb1⟩)
          | (go_at_call 55; refine (s_within _ _ _ _).mono ?_; rintro e w' ⟨rfl, rfl⟩; first | rw [H1.out] | rw [H2.out]))
        go_ret2
        exact ⟨_, rfl, got_no (by decide), hb1⟩
      · have hE : shiftE l a1 a2 = (if validC (l.map (shift a1 a2)) then 0 else 4) := by simp [shiftE, hv, h1, h2]
        obtain ⟨hall, hl1, hl2⟩ := valid_all hv
        obtain ⟨b, off, rfl, hblt, _⟩ := hR (by rintro rfl; simp at hl1)
        have HL := Lib.hid (fun W (h : Below w.heap.size w W) => s_clone b off l c W (by omega) hl2 (hR.on h))
        have HA := Lib.hid hall
        have HE := Lib.hid hE
        have H1 := Lib.hid h1
        have H2 := Lib.hid h2
        rw [wn_iff] at h1 h2
        obtain ⟨h11, h12⟩ := h1
        obtain ⟨h21, h22⟩ := h2
        have HM := Lib.hid (fun A' c' W (h : Rd Course.cs 6 W A' (l.map (shift a1 a2))) => s_valid A' (l.map (shift a1 a2)) c' W (by simp; omega) h)
        generalize shiftE l a1 a2 = E at *
        clear hv hE hall
        go_enter Try.func28, Try.ntmps28
        go_wp2_with (first
          | (go_at_call 17; refine HC.out.mono ?_; rintro e w1 ⟨rfl, hb1⟩)
          | (go_at_call 55; refine (s_within _ _ _ _).mono ?_; rintro e w' ⟨rfl, rfl⟩; first | rw [H1.out] | rw [H2.out])
          | (go_at_call 67; refine (HL.out _ hb1).mono ?_; rintro e w2 ⟨v, rfl, hr2, hb2⟩; obtain ⟨g, cap, cur, rfl, hg, hbk, hcur⟩ := ownS_of hr2 (by omega)))
        go_loopw [27] (fun i wr => ∃ k : Nat, k ≤ l.length ∧ i = .int .i64 k ∧ Below w.heap.size w wr ∧ ∃ cur, Blk wr g 35 cur ∧ Hid (∀ (k' : Nat) x, (mixF (shift a1 a2) k l)[k']? = some x → ∀ (r : Nat) u, (Course.cs x)[r]? = some u → cur[k' * 6 + r]? = some u)) (fun i _ => l.length - (intOf i).toNat)
        case atStart => exact ⟨0, by omega, rfl, below_tr hb1 hb2, cur, hbk, by show ∀ _, _; rw [mixF_zero]; exact hcur⟩
        case round =>
          obtain ⟨k, hk, rfl, hbw3, cur3, hbk3, HC3⟩ := hrel
          have hk0 : (0 : Int) ≤ (k : Int) := Int.natCast_nonneg _
          have hgw : w.heap.size ≤ g := by have := hb1.size; omega
          by_cases hkl : k < l.length
          · have hkl2 : (k : Int) < (l.length : Int) := by omega
            obtain ⟨x, hx⟩ := get_lt hkl
            have hcb : CB x := cb_of (List.all_eq_true.1 HA.out x (List.mem_of_getElem? hx))
            have hmx := mixF_get (f := shift a1 a2) hx
            have q4 := (hbk3.cell (k * 6 + 4)).trans (HC3.out k x hmx 4 _ rfl)
            have q5 := (hbk3.cell (k * 6 + 5)).trans (HC3.out k x hmx 5 _ rfl)
            have f4 := hbk3.frozen (k * 6 + 4)
            have f5 := hbk3.frozen (k * 6 + 5)
            obtain ⟨d1, d2, d3, d4, d5, d6, d7, d8, d9, d10, d11⟩ := hcb
            have HX := Lib.hid hx
            clear hx hmx
            go_wp2
            go_roundw
            all_goals first
              | exact ⟨k + 1, by omega, by go_num, ((hbw3.setCell (p := ⟨g, _, none⟩) hgw _).setCell (p := ⟨g, _, none⟩) hgw _), _, ((hbk3.set_ _ _).set_ _ _), by show ∀ _, _; rw [← mixF_set HX.out]; exact upd_at HC3.out (mixF_get HX.out) rfl⟩
              | (simp [intOf]; omega)
          · obtain rfl : k = l.length := by omega
            have hmix := HC3.out
            rw [mixF_all] at hmix
            have hown : OwnS wr w.heap.size (.slice (some ⟨g, 0, none⟩) l.length cap) (l.map (shift a1 a2)) := ⟨g, cap, cur3, by rw [List.length_map], hgw, hbk3, hmix⟩
            have hrd : Rd Course.cs 6 wr (some ⟨g, 0, none⟩) (l.map (shift a1 a2)) := fun _ => ⟨g, 0, rfl, hbk3.lt, fun k x hx r u hu => by rw [Nat.zero_add, hbk3.cell]; exact hmix k x hx r u hu⟩
            have HVV := Lib.hid (HM.out _ cap wr hrd)
            rw [List.length_map] at HVV
            have HO := Lib.hid hown
            clear hmix hown hrd
            cases hvm : validC (l.map (shift a1 a2))
            · rw [hvm] at HE HVV
              clear hvm
              go_wp2_with (go_at_call 17; refine HVV.out.mono ?_; rintro e w5 ⟨rfl, hb5⟩)
              go_ret2
              exact ⟨_, by rw [HE.out]; rfl, got_no (by rw [HE.out]; decide), hbw3.trans (hb5.mono hbw3.size)⟩
            · rw [hvm] at HE HVV
              clear hvm
              go_wp2_with (go_at_call 17; refine HVV.out.mono ?_; rintro e w5 ⟨rfl, hb5⟩)
              go_ret2
              exact ⟨_, by rw [HE.out]; rfl, got_ok (by rw [HE.out]; rfl) (HO.out.on hb5), hbw3.trans (hb5.mono hbw3.size)⟩
end Go.Proofs.Ythoemokkfijfeaa
