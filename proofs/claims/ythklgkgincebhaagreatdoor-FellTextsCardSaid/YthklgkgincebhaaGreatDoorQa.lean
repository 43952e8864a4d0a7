/- Texts of numbers, plain: a number by the reference of chapter 1; a line of numbers, by both. -/
import Derived.Test.YthklgkgincebhaaGreatDoorTa
import Derived.Lib.AtoiAllCases
set_option linter.unusedSimpArgs false
set_option linter.unusedVariables false
namespace Go.Proofs.YthklgkgincebhaaGreatDoor.Tx
open Go.Lib

def bts (p : List UInt8) : ByteArray := ⟨p.toArray⟩
theorem bts_list (p : List UInt8) : (bts p).data.toList = p := by simp [bts]
theorem list_bts (s : ByteArray) : bts s.data.toList = s := by apply ByteArray.ext; simp [bts]
theorem bts_size (p : List UInt8) : (bts p).size = p.length := by unfold bts; simp [ByteArray.size]
theorem ba_app (a b : List UInt8) : bts a ++ bts b = bts (a ++ b) := by unfold bts; apply ByteArray.ext; simp [ByteArray.data_append]
/-- a digit's byte -/
def dgB (u : Nat) : UInt8 := UInt8.ofNat (48 + u)
theorem dgB_nat {u : Nat} (h : u < 10) : ((dgB u).toNat : Int) = 48 + (u : Int) := by unfold dgB; rw [dg_toNat h]; omega
theorem dec_one {u : Nat} (h : u < 10) : decDigits u = [dgB u] := by rw [decDigits, dif_pos h]; rfl
theorem dec_more {u : Nat} (h : ¬ u < 10) : decDigits u = decDigits (u / 10) ++ [dgB (u % 10)] := by rw [decDigits, dif_neg h]; rfl
theorem decD_le {u k : Nat} (h : u < 10 ^ (k + 1)) : (decDigits u).length ≤ k + 1 := by
  induction k generalizing u with
  | zero => rw [dec_one (by simpa using h)]; simp
  | succ k ih =>
    by_cases hu : u < 10
    · rw [dec_one hu]; simp
    · rw [dec_more hu]
      have := ih (u := u / 10) (by rw [Nat.pow_succ] at h; omega)
      simp; omega
theorem itoa_len {n : Int} (h0 : -9223372036854775808 ≤ n) (h1 : n ≤ 9223372036854775807) : (itoa n).length ≤ 20 := by
  unfold itoa
  split
  · have := decD_le (u := n.natAbs) (k := 18) (by omega); simp; omega
  · have := decD_le (u := n.toNat) (k := 18) (by omega); omega
def bodyZ (s : List UInt8) : List UInt8 := if s.head? = some 45 then s.tail else s
def numV (s : List UInt8) : Int := if s.head? = some 45 then -(valD 0 s.tail : Nat) else (valD 0 s : Nat)
def numB (s : List UInt8) : Bool := decide (bodyZ s ≠ []) && (decide ((bodyZ s).length ≤ 18) && ((bodyZ s).all digB && decide (itoa (numV s) = s)))
theorem itoa_head (m : Int) : ((itoa m).head? = some 45 ↔ m < 0) ∧ (m < 0 → (itoa m).tail = decDigits m.natAbs) ∧ (¬ m < 0 → itoa m = decDigits m.toNat) := by
  unfold itoa
  by_cases h : m < 0
  · rw [if_pos h]; exact ⟨by simp [h], fun _ => rfl, fun h' => absurd h h'⟩
  · rw [if_neg h]
    refine ⟨⟨fun e => ?_, fun e => absurd e h⟩, fun e => absurd e h, fun _ => rfl⟩
    obtain ⟨c, r, hcr⟩ := List.exists_cons_of_ne_nil (decD_ne m.toNat)
    have hc := decD_dig m.toNat c (by rw [hcr]; exact List.mem_cons_self ..)
    rw [hcr] at e
    injection e with e
    subst e; exact absurd hc (by decide)
theorem itoa_body (m : Int) : numV (itoa m) = m ∧ bodyZ (itoa m) = decDigits m.natAbs := by
  obtain ⟨h1, h2, h3⟩ := itoa_head m
  unfold numV bodyZ
  by_cases h : m < 0
  · rw [if_pos (h1.2 h), if_pos (h1.2 h), h2 h, valD_dec]
    exact ⟨by omega, rfl⟩
  · rw [if_neg (fun e => h (h1.1 e)), if_neg (fun e => h (h1.1 e)), h3 h, valD_dec]
    exact ⟨by omega, by congr 1; omega⟩
theorem valD_lt : ∀ (l : List UInt8) (a : Nat), (∀ c ∈ l, digB c = true) → valD a l < (a + 1) * 10 ^ l.length
  | [], a, _ => by simp [valD]
  | c :: r, a, h => by
    have hc := h c (List.mem_cons_self ..)
    unfold digB at hc
    have hc' := of_decide_eq_true hc
    have ih := valD_lt r (a * 10 + (c.toNat - 48)) fun x hx => h x (List.mem_cons_of_mem _ hx)
    have e : valD a (c :: r) = valD (a * 10 + (c.toNat - 48)) r := rfl
    rw [e, List.length_cons, Nat.pow_succ]
    refine Nat.lt_of_lt_of_le ih ?_
    rw [show (a + 1) * (10 ^ r.length * 10) = ((a + 1) * 10) * 10 ^ r.length by rw [Nat.mul_comm (10 ^ r.length) 10, Nat.mul_assoc]]
    exact Nat.mul_le_mul_right _ (by omega)
theorem num_iff (s : List UInt8) : numB s = true ↔ itoa (numV s) = s ∧ -1000000000000000000 < numV s ∧ numV s < 1000000000000000000 := by
  unfold numB
  simp only [Bool.and_eq_true, decide_eq_true_eq]
  constructor
  · rintro ⟨_, h1, h2, h3⟩
    have h4 := valD_lt (bodyZ s) 0 (List.all_eq_true.1 h2)
    have h5 : 10 ^ (bodyZ s).length ≤ 10 ^ 18 := Nat.pow_le_pow_right (by omega) h1
    have h6 : numV s = if s.head? = some 45 then -((valD 0 (bodyZ s) : Nat) : Int) else ((valD 0 (bodyZ s) : Nat) : Int) := by
      unfold numV bodyZ
      split <;> rfl
    refine ⟨h3, ?_, ?_⟩
    · rw [h6]; split <;> omega
    · rw [h6]; split <;> omega
  · rintro ⟨h1, h2, h3⟩
    have h4 := (itoa_body (numV s)).2
    rw [h1] at h4
    rw [h4]
    exact ⟨decD_ne _, decD_le (k := 17) (by omega), List.all_eq_true.2 (decD_dig _), h1⟩
theorem num_of {m : Int} (h0 : -1000000000000000000 < m) (h1 : m < 1000000000000000000) : numB (itoa m) = true ∧ numV (itoa m) = m := by
  have := (itoa_body m).1
  exact ⟨(num_iff _).2 (by rw [this]; exact ⟨rfl, h0, h1⟩), this⟩

/-! ### a line of numbers -/
def lnN (l : List Int) : List UInt8 := joinZ 32 (l.map itoa)
/-- Atoi's number, whatever its error -/
def valA (w : List UInt8) : Int := match atoiAll w with
  | .ok v => v
  | .range => atoiSat w
  | _ => 0
def okA (w : List UInt8) : Bool := match atoiAll w with
  | .ok _ => true
  | _ => false
theorem valA_itoa {n : Int} (h0 : -9223372036854775808 ≤ n) (h1 : n ≤ 9223372036854775807) : valA (itoa n) = n := by unfold valA; rw [atoi_itoa h0 h1]
theorem okA_itoa {n : Int} (h0 : -9223372036854775808 ≤ n) (h1 : n ≤ 9223372036854775807) : okA (itoa n) = true := by unfold okA; rw [atoi_itoa h0 h1]
theorem valA_bd (t : List UInt8) : -9223372036854775808 ≤ valA t ∧ valA t ≤ 9223372036854775807 := by
  unfold valA
  split
  · rename_i v h; exact atoiAll_bounds h
  · exact atoiSat_bounds t
  · decide
theorem cut_lnN {l : List Int} (h : l ≠ []) : cutZ 32 (lnN l) = l.map itoa := by
  refine cut_join (by simpa using h) fun p hp => ?_
  obtain ⟨n, _, rfl⟩ := List.mem_map.1 hp
  exact itoa_no (by decide) (by decide)
theorem lnN_nl (l : List Int) : (10 : UInt8) ∉ lnN l := by
  have : ∀ P : List (List UInt8), (∀ p ∈ P, (10 : UInt8) ∉ p) → (10 : UInt8) ∉ joinZ 32 P := fun P => by
    induction P with
    | nil => intro _; simp [joinZ]
    | cons p r ih =>
      intro h
      cases r with
      | nil => exact h p (List.mem_cons_self ..)
      | cons q r =>
        intro hx
        rw [joinZ] at hx
        rcases List.mem_append.1 hx with hx | hx
        · exact h p (List.mem_cons_self ..) hx
        · rcases List.mem_cons.1 hx with hx | hx
          · revert hx; decide
          · exact ih (fun p hp => h p (List.mem_cons_of_mem _ hp)) hx
  refine this _ fun p hp => ?_
  obtain ⟨n, _, rfl⟩ := List.mem_map.1 hp
  exact itoa_no (by decide) (by decide)
/-- what the program reads of a line: n numbers, or nothing -/
def rdP (n : Nat) (t : List UInt8) : Option (List Int) := if (decide ((cutZ 32 t).length = n) && (cutZ 32 t).all okA) = true then some ((cutZ 32 t).map valA) else none
/-- what the reference reads of a line -/
def rdN (n : Nat) (t : List UInt8) : Option (List Int) := if ((cutZ 32 t).all numB && decide ((cutZ 32 t).length = n)) = true then some ((cutZ 32 t).map numV) else none
theorem map_back {P : List (List UInt8)} (h : P.all numB = true) : (P.map numV).map itoa = P := by
  rw [List.map_map]
  conv => rhs; rw [← List.map_id P]
  refine List.map_congr_left fun p hp => ?_
  exact ((num_iff p).1 (List.all_eq_true.1 h p hp)).1
theorem rdN_some {n : Nat} {t : List UInt8} {l : List Int} (h : rdN n t = some l) : lnN l = t ∧ rdP n t = some l ∧ l.length = n := by
  unfold rdN at h
  split at h
  · rename_i hc
    rw [Bool.and_eq_true, decide_eq_true_eq] at hc
    injection h with h
    subst h
    have hb : ∀ p ∈ cutZ 32 t, okA p = true ∧ valA p = numV p := fun p hp => by
      obtain ⟨a, b, c⟩ := (num_iff p).1 (List.all_eq_true.1 hc.1 p hp)
      have h1 := okA_itoa (n := numV p) (by omega) (by omega)
      have h2 := valA_itoa (n := numV p) (by omega) (by omega)
      rw [a] at h1 h2
      exact ⟨h1, h2⟩
    refine ⟨?_, ?_, by simpa using hc.2⟩
    · unfold lnN; rw [map_back hc.1, join_cut]
    · unfold rdP
      rw [if_pos (by rw [Bool.and_eq_true, decide_eq_true_eq]; exact ⟨hc.2, List.all_eq_true.2 fun p hp => (hb p hp).1⟩)]
      congr 1
      exact List.map_congr_left fun p hp => (hb p hp).2
  · cases h
theorem rdN_of {n : Nat} {l : List Int} (h0 : 0 < n) (hn : l.length = n) (hb : ∀ m ∈ l, -1000000000000000000 < m ∧ m < 1000000000000000000) : rdN n (lnN l) = some l := by
  have hc : cutZ 32 (lnN l) = l.map itoa := cut_lnN (by rintro rfl; simp at hn; omega)
  unfold rdN
  rw [hc, if_pos]
  · congr 1
    rw [List.map_map]
    conv => rhs; rw [← List.map_id l]
    exact List.map_congr_left fun m hm => (num_of (hb m hm).1 (hb m hm).2).2
  · rw [Bool.and_eq_true, decide_eq_true_eq, List.length_map]
    refine ⟨List.all_eq_true.2 fun p hp => ?_, hn⟩
    obtain ⟨m, hm, rfl⟩ := List.mem_map.1 hp
    exact (num_of (hb m hm).1 (hb m hm).2).1
theorem rdP_of {n : Nat} {l : List Int} (h0 : 0 < n) (hn : l.length = n) (hb : ∀ m ∈ l, -1000000000000000000 < m ∧ m < 1000000000000000000) : rdP n (lnN l) = some l := (rdN_some (rdN_of h0 hn hb)).2.1
end Go.Proofs.YthklgkgincebhaaGreatDoor.Tx
