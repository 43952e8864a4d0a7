/- Stack: the first courses, by both. -/
import Derived.Test.YthoemokkfijfeaaMb
namespace Go.Proofs.Ythoemokkfijfeaa
open Go.RowKit

def cutE (l : List Course) (n : Int) : Int := if validC l then (if wn n 1 l.length then 0 else 7) else 1
theorem rd_take {w : World} {A : Option Addr} {l : List Course} (h : Rd Course.cs 6 w A l) (n : Nat) : Rd Course.cs 6 w A (l.take n) := fun hne => by
  obtain ⟨b, off, e, hb, hc⟩ := h (by rintro rfl; simp at hne)
  refine ⟨b, off, e, hb, fun k x hx j v hv => hc k x ?_ j v hv⟩
  rw [List.getElem?_take] at hx
  split at hx
  · exact hx
  · cases hx

set_option maxHeartbeats 1000000 in
set_option maxRecDepth 20000 in
theorem s_cut (A : Option Addr) (l : List Course) (c : Nat) (n : Int) (w : World) (hl : l.length ≤ 100000) (hlc : l.length ≤ c) (hR : Rd Course.cs 6 w A l) :
    Calls Try.prog 40 #[.slice A l.length c, .int .i64 n] w fun e w' => ∃ v, e = .returned (.tuple #[v, .int .i64 (cutE l n)]) ∧ GotS (cutE l n) w' w.heap.size v (l.take n.toNat) ∧ Below w.heap.size w w' := by
  have HC := Lib.hid (s_valid A l c w hl hR)
  cases hv : validC l
  · have hE : cutE l n = 1 := by simp [cutE, hv]
    rw [hE]
    rw [hv] at HC
    clear hv hE
    go_enter Try.func40, Try.ntmps40
    go_wp2_with (go_at_call 17; ((with_reducible refine HC.out.mono ?_); rintro e w1 ⟨rfl, hb1⟩))
    go_ret2
    exact ⟨_, rfl, got_no (by decide), hb1⟩
  · rw [hv] at HC
    cases hn : wn n 1 l.length
    · have hE : cutE l n = 7 := by simp [cutE, hv, hn]
      have HN := Lib.hid hn
      rw [hE]
      clear hv hE hn
      go_enter Try.func40, Try.ntmps40
      go_wp2_with (first
        | (go_at_call 17; ((with_reducible refine HC.out.mono ?_); rintro e w1 ⟨rfl, hb1⟩))
        | (go_at_call 55; ((with_reducible refine (s_within _ _ _ _).mono ?_); rintro e w2 ⟨rfl, rfl⟩; rw [HN.out])))
      go_ret2
      exact ⟨_, rfl, got_no (by decide), hb1⟩
    · have hE : cutE l n = 0 := by simp [cutE, hv, hn]
      obtain ⟨hall, hl1, hl2⟩ := valid_all hv
      obtain ⟨b, off, rfl, hblt, _⟩ := hR (by rintro rfl; simp at hl1)
      obtain ⟨k, rfl, hk1, hk2⟩ : ∃ k : Nat, n = k ∧ 1 ≤ k ∧ k ≤ l.length := by rw [wn_iff] at hn; exact ⟨n.toNat, by omega, by omega, by omega⟩
      have hkl : (l.take k).length = k := by simp; omega
      have KL := fun W (h : Below w.heap.size w W) => s_clone b off (l.take k) c W (by omega) (by omega) (rd_take (hR.on h) k)
      rw [hkl] at KL
      have HL := Lib.hid KL
      have HN := Lib.hid hn
      have HK := Lib.hid hkl
      have i1 : (0 : Int) ≤ (k : Int) := Int.natCast_nonneg _
      have i2 : (k : Int) ≤ (c : Int) := by omega
      rw [hE]
      clear hv hE hn hall hkl KL
      go_enter Try.func40, Try.ntmps40
      go_wp2_with (first
        | (go_at_call 17; ((with_reducible refine HC.out.mono ?_); rintro e w1 ⟨rfl, hb1⟩))
        | (go_at_call 55; ((with_reducible refine (s_within _ _ _ _).mono ?_); rintro e w2 ⟨rfl, rfl⟩; rw [HN.out]))
        | (go_at_call 67; ((with_reducible refine (HL.out _ hb1).mono ?_); rintro e w3 ⟨v, rfl, hr3, hb3⟩)))
      go_ret2
      refine ⟨v, rfl, got_ok rfl (ownS_of ?_ (by rw [Int.toNat_natCast, HK.out]; omega)), below_tr hb1 hb3⟩
      rw [Int.toNat_natCast, HK.out]
      exact hr3.mono hb1.size

set_option maxHeartbeats 1000000 in
set_option maxRecDepth 20000 in
theorem r_cut (A : Option Addr) (l : List Course) (c : Nat) (n : Int) (w : World) (hl : l.length ≤ 100000) (hlc : l.length ≤ c) (hR : Rd Course.cs 6 w A l) :
    Calls Try.prog 41 #[.slice A l.length c, .int .i64 n] w fun e w' => ∃ v, e = .returned (.tuple #[v, .int .i64 (cutE l n)]) ∧ GotS (cutE l n) w' w.heap.size v (l.take n.toNat) ∧ Below w.heap.size w w' := by
  have HC := Lib.hid (r_valid A l c w hl hR)
  cases hv : validC l
  · have hE : cutE l n = 1 := by simp [cutE, hv]
    rw [hE]
    rw [hv] at HC
    clear hv hE
    go_enter Try.func41, Try.ntmps41
    go_wp2_with (go_at_call 18; ((with_reducible refine HC.out.mono ?_); rintro e w1 ⟨rfl, hb1⟩))
    go_ret2
    exact ⟨_, rfl, got_no (by decide), hb1⟩
  · rw [hv] at HC
    cases hn : wn n 1 l.length
    · have hE : cutE l n = 7 := by simp [cutE, hv, hn]
      have HN := Lib.hid hn
      rw [hE]
      clear hv hE hn
      go_enter Try.func41, Try.ntmps41
      go_wp2_with (first
        | (go_at_call 18; ((with_reducible refine HC.out.mono ?_); rintro e w1 ⟨rfl, hb1⟩))
        | (go_at_call 60; ((with_reducible refine (r_within _ _ _ _).mono ?_); rintro e w2 ⟨rfl, rfl⟩; rw [HN.out])))
      go_ret2
      exact ⟨_, rfl, got_no (by decide), hb1⟩
    · have hE : cutE l n = 0 := by simp [cutE, hv, hn]
      obtain ⟨hall, hl1, hl2⟩ := valid_all hv
      obtain ⟨b, off, rfl, hblt, _⟩ := hR (by rintro rfl; simp at hl1)
      obtain ⟨k, rfl, hk1, hk2⟩ : ∃ k : Nat, n = k ∧ 1 ≤ k ∧ k ≤ l.length := by rw [wn_iff] at hn; exact ⟨n.toNat, by omega, by omega, by omega⟩
      have hkl : (l.take k).length = k := by simp; omega
      have HR := Lib.hid (fun W o (h : Below w.heap.size w W) => rd_flat ((rd_take (hR.on h) k).on (below_alloc W o)))
      have HF := Lib.hid (show (flat (l.take k)).length = k * 6 by rw [flat_length, hkl])
      obtain ⟨i0, hi, hi1, hi2, hi3⟩ := info_course
      have HN := Lib.hid hn
      have HK := Lib.hid hkl
      have i1 : (0 : Int) ≤ (k : Int) := Int.natCast_nonneg _
      have i2 : (k : Int) ≤ (c : Int) := by omega
      rw [hE]
      clear hv hE hn hall hkl
      go_enter Try.func41, Try.ntmps41
      go_wp2_with (first
        | (go_at_call 18; ((with_reducible refine HC.out.mono ?_); rintro e w1 ⟨rfl, hb1⟩))
        | (go_at_call 60; ((with_reducible refine (r_within _ _ _ _).mono ?_); rintro e w2 ⟨rfl, rfl⟩; rw [HN.out]))
        | (at_builtin; refine wpList_append_own _ rfl _ _ 22 rfl w1.heap.size 35 i0 _ 6 48 (by kernel_rfl) hi hi1 hi2 hi3 rfl (by omega) _ _ _ rfl (own_empty w1 _ 6) ⟨b, off, none⟩ k c (flat (l.take k)) rfl HF.out (HR.out _ _ hb1) (flat_one _) (by unfold maxLen; omega) (by omega) (by simp) ?_; intro v w3 hown hgrow _; rw [Nat.zero_add, List.nil_append] at hown; have hb3 : Below w1.heap.size w1 w3 := below_grown (below_alloc w1 _) hgrow (fun r hr => by cases hr; exact Nat.le_refl _) (by simp)))
      go_ret2
      refine ⟨v, rfl, got_ok rfl (ownS_of ?_ (by rw [Int.toNat_natCast, HK.out]; omega)), below_tr hb1 hb3⟩
      rw [Int.toNat_natCast, HK.out]
      exact hown.mono hb1.size
end Go.Proofs.Ythoemokkfijfeaa
