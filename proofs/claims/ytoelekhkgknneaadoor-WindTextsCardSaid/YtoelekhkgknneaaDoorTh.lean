/- Wind's texts: Format by both. -/
import Derived.Test.YtoelekhkgknneaaDoorTd
import Derived.Test.YtoelekhkgknneaaDoorTg
set_option linter.unusedSimpArgs false
set_option linter.unusedVariables false
namespace Go.Proofs.YtoelekhkgknneaaDoor
open Go.RowKit

def fmV (l : List Int) : ByteArray := if vGu l = true then fmS l else ⟨#[]⟩
theorem ba_app (a b : List UInt8) : (⟨a.toArray⟩ : ByteArray) ++ ⟨b.toArray⟩ = ⟨(a ++ b).toArray⟩ := by apply ByteArray.ext; simp [ByteArray.data_append]
theorem fm_first {l : List Int} {x : Int} (hx : l[0]? = some x) : fmS (l.take 1) = fmS (l.take 0) ++ wdS x := by
  have e : l.take 1 = [] ++ [x] := by rw [List.take_add_one, hx]; rfl
  unfold fmS wdS
  rw [e, fm_snoc, if_pos rfl, List.take_zero, ba_app]
  rfl
theorem fm_more {l : List Int} {k : Nat} {x : Int} (hk : 0 < k) (hx : l[k]? = some x) : fmS (l.take (k + 1)) = fmS (l.take k) ++ ⟨#[32]⟩ ++ wdS x := by
  have e : l.take (k + 1) = l.take k ++ [x] := by rw [List.take_add_one, hx]; rfl
  have hne : l.take k ≠ [] := fun h => by
    have h1 := congrArg List.length h
    rw [List.length_take, List.length_nil] at h1
    have h2 := (List.getElem?_eq_some_iff.1 hx).1
    omega
  unfold fmS wdS
  rw [e, fm_snoc, if_neg hne, show (⟨#[32]⟩ : ByteArray) = ⟨[32].toArray⟩ from rfl, ba_app, ba_app]
  simp
theorem p_FormatV (B : Option Addr) (l : List Int) (d : Nat) (w : World) (hl : l.length ≤ 100000) (hT : TabP w) (hS : Rd zC 1 w B l) :
    Calls Tryd.prog 17 #[.slice B l.length d] w fun e w' => e = .returned (.string (fmV l)) ∧ Below w.heap.size w w' := by
  cases hv : vGu l
  · have H2 := Lib.hid (p_ValidGustsV (c := d) hv hl hS)
    have HF := Lib.hid (show fmV l = ⟨#[]⟩ by unfold fmV; rw [hv]; rfl)
    rw [HF.out]
    clear hv
    go_enter Tryd.func17, Tryd.ntmps17
    go_wp2_with (go_at_call 53; ((with_reducible refine (H2.out).mono ?_); rintro e w1 ⟨rfl, hb1⟩; obtain ⟨hc1, hf1⟩ := bcell hb1; have hz1 := hb1.size; (try simp [sz_drew, sz_drewN] at hz1); (try simp only [sz_drew, sz_drewN] at hc1 hf1)))
    go_ret
    exact ⟨rfl, hb1⟩
  · have HF : fmV l = fmS l := by unfold fmV; rw [hv]; rfl
    rw [HF]
    exact p_FormatGo B l d w hl hT hS hv
set_option maxHeartbeats 2000000 in
set_option maxRecDepth 20000 in
theorem r_FormatV (B : Option Addr) (l : List Int) (d : Nat) (w : World) (hl : l.length ≤ 100000) (hS : Rd zC 1 w B l) :
    Calls Tryd.prog 20 #[.slice B l.length d] w fun e w' => e = .returned (.string (fmV l)) ∧ Below w.heap.size w w' := by
  cases hv : vGu l
  · have H2 := Lib.hid (r_ValidGustsV (c := d) hv hl hS)
    have HF := Lib.hid (show fmV l = ⟨#[]⟩ by unfold fmV; rw [hv]; rfl)
    rw [HF.out]
    clear hv
    go_enter Tryd.func20, Tryd.ntmps20
    go_wp2_with (go_at_call 22; ((with_reducible refine (H2.out).mono ?_); rintro e w' ⟨rfl, rfl⟩))
    go_ret
    exact ⟨rfl, below_refl _⟩
  · have HF : fmV l = fmS l := by unfold fmV; rw [hv]; rfl
    rw [HF]
    have H2 := Lib.hid (r_ValidGustsV (c := d) hv hl hS)
    have HX := Lib.hid (vgu_bd hv)
    have HLN := Lib.hid (fun k => (show (fmS (l.take k)).size ≤ 400000 by
      have h1 := fm_len (l := l.take k) fun x hx => vgu_bd hv x (List.mem_of_mem_take hx)
      have h2 : (fmS (l.take k)).size = (fmL (l.take k)).length := by unfold fmS; simp [ByteArray.size]
      rw [List.length_take] at h1
      omega))
    have HST := Lib.hid (fun k x (hx : l[k]? = some x) => (show (k = 0 → fmS (l.take 1) = fmS (l.take 0) ++ wdS x) ∧ (0 < k → fmS (l.take (k + 1)) = fmS (l.take k) ++ ⟨#[32]⟩ ++ wdS x) from ⟨fun h => fm_first (h ▸ hx), fun h => fm_more h hx⟩))
    clear hv HF
    go_enter Tryd.func20, Tryd.ntmps20
    go_wp2_with (go_at_call 22; ((with_reducible refine (H2.out).mono ?_); rintro e w' ⟨rfl, rfl⟩))
    go_loopw [3, 4] (fun v i wr => ∃ k : Nat, k ≤ l.length ∧ i = .int .i64 k ∧ v = .string (fmS (l.take k)) ∧ Below w.heap.size w wr) (fun _ i _ => l.length - (intOf i).toNat)
    case atStart => exact ⟨0, by omega, rfl, rfl, below_refl _⟩
    case round =>
      obtain ⟨k, hk, rfl, rfl, hbw⟩ := hrel
      rename World => wr
      have k0 : (0 : Int) ≤ (k : Int) := Int.natCast_nonneg _
      by_cases hlt : k < l.length
      · have k1 : (k : Int) < (l.length : Int) := by omega
        obtain ⟨g, gb, go, hgk, rfl, hgb, c0⟩ := rd_int (hS.on hbw) hlt
        have hgx := HX.out g (List.mem_of_getElem? hgk)
        have hls := HLN.out k
        have hst := HST.out k g hgk
        have hws : (wdS g).size ≤ 3 := by
          have := word_len hgx.1 hgx.2
          unfold wdS; simpa [ByteArray.size] using this
        have HD := Lib.hid (r_Digits g wr (by omega) (by omega))
        by_cases hneg : g < 0
        · have hg1 : g = -1 := by omega
          subst hg1
          have hw1 : wdS (-1) = ⟨#[45]⟩ := rfl
          rw [hw1] at hst
          by_cases hk0 : k = 0
          · subst hk0
            have HN := Lib.hid (hst.1 rfl)
            generalize fmS (l.take 0) = ST at *
            have z1 : ¬ 9223372036854775807 < ST.size + 1 := by omega
            simp only [Nat.add_zero, Nat.zero_mul, Nat.mul_one] at c0
            clear hgk hgx hst HST HD hws
            go_wp2
            go_roundw
            case rel => exact ⟨0 + 1, by omega, by go_num, by rw [HN.out], hbw⟩
            case measure => simp [intOf]; omega
          · have kp : (0 : Int) < (k : Int) := by omega
            have HN := Lib.hid (hst.2 (by omega))
            generalize fmS (l.take k) = ST at *
            have z1 : ¬ 9223372036854775807 < ST.size + 1 := by omega
            have z2 : ¬ 9223372036854775807 < ST.size + 1 + 1 := by omega
            clear hgk hgx hst HST HD hws hk0
            go_wp2
            go_roundw
            case rel => exact ⟨k + 1, by omega, by go_num, by rw [HN.out], hbw⟩
            case measure => simp [intOf]; omega
        · have hw1 : wdS g = ⟨(Lib.itoa g).toArray⟩ := by unfold wdS wordL; rw [if_neg (by omega)]
          rw [← hw1] at HD
          generalize wdS g = WD at *
          by_cases hk0 : k = 0
          · subst hk0
            have HN := Lib.hid (hst.1 rfl)
            generalize fmS (l.take 0) = ST at *
            have z1 : ¬ 9223372036854775807 < ST.size + WD.size := by omega
            simp only [Nat.add_zero, Nat.zero_mul, Nat.mul_one] at c0
            clear hgk hgx hst HST hw1
            go_wp2_with (go_at_call 47; ((with_reducible refine HD.out.mono ?_); rintro e w3 ⟨rfl, hb3⟩))
            go_roundw
            case rel => exact ⟨0 + 1, by omega, by go_num, by rw [HN.out], below_tr hbw hb3⟩
            case measure => simp [intOf]; omega
          · have kp : (0 : Int) < (k : Int) := by omega
            have HN := Lib.hid (hst.2 (by omega))
            generalize fmS (l.take k) = ST at *
            have z1 : ¬ 9223372036854775807 < ST.size + 1 := by omega
            have z2 : ¬ 9223372036854775807 < ST.size + 1 + WD.size := by omega
            clear hgk hgx hst HST hw1 hk0
            go_wp2_with (go_at_call 47; ((with_reducible refine HD.out.mono ?_); rintro e w3 ⟨rfl, hb3⟩))
            go_roundw
            case rel => exact ⟨k + 1, by omega, by go_num, by rw [HN.out], below_tr hbw hb3⟩
            case measure => simp [intOf]; omega
      · obtain rfl : k = l.length := by omega
        have HT := Lib.hid (show l.take l.length = l from List.take_length)
        go_wp2
        go_ret
        exact ⟨by rw [← HT.out]; simp, hbw⟩
end Go.Proofs.YtoelekhkgknneaaDoor
