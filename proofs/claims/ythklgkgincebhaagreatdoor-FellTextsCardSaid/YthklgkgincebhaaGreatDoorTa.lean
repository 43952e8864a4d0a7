/- Texts, plain: a text cut at a byte; the parts of a text; decimal numerals. -/
import Derived.Lib.Split
import Derived.Lib.CutLaws
import Derived.Lib.ItoaNum
import Derived.Lib.AtoiAll
set_option linter.unusedSimpArgs false
set_option linter.unusedVariables false
namespace Go.Proofs.YthklgkgincebhaaGreatDoor
open Go.Lib

/-- the parts of a text between bytes b -/
def cutZ (b : UInt8) : List UInt8 → List (List UInt8)
  | [] => [[]]
  | x :: s => if x = b then [] :: cutZ b s else
    match cutZ b s with
    | [] => [[x]]
    | h :: t => (x :: h) :: t
theorem cutZ_ne (b : UInt8) : ∀ s, cutZ b s ≠ []
  | [] => by simp [cutZ]
  | x :: s => by
    unfold cutZ
    split
    · simp
    · split <;> simp
/-- parts put together again -/
def joinZ (b : UInt8) : List (List UInt8) → List UInt8
  | [] => []
  | [p] => p
  | p :: q :: r => p ++ b :: joinZ b (q :: r)
theorem joinZ_cons (b : UInt8) (p : List UInt8) {l : List (List UInt8)} (h : l ≠ []) : joinZ b (p :: l) = p ++ b :: joinZ b l := by
  cases l with
  | nil => exact absurd rfl h
  | cons q r => rfl
theorem join_cut (b : UInt8) : ∀ s, joinZ b (cutZ b s) = s
  | [] => rfl
  | x :: s => by
    have ih := join_cut b s
    have hne := cutZ_ne b s
    unfold cutZ
    split
    · rename_i h
      rw [joinZ_cons b [] hne, ih, h]; rfl
    · split
      · rename_i h; exact absurd h hne
      · rename_i h t e
        rw [e] at ih
        cases t with
        | nil => simp only [joinZ] at ih ⊢; rw [ih]
        | cons q r => simp only [joinZ, List.cons_append] at ih ⊢; rw [ih]
theorem cut_free (b : UInt8) : ∀ s, ∀ p ∈ cutZ b s, b ∉ p
  | [], p, hp => by simp [cutZ] at hp; subst hp; simp
  | x :: s, p, hp => by
    have ih := cut_free b s
    unfold cutZ at hp
    split at hp
    · rcases List.mem_cons.1 hp with rfl | hp
      · simp
      · exact ih p hp
    · rename_i hx
      split at hp
      · simp at hp; subst hp
        intro h; simp at h; exact hx h.symm
      · rename_i h t e
        rw [e] at ih
        rcases List.mem_cons.1 hp with rfl | hp
        · intro q
          rcases List.mem_cons.1 q with q | q
          · exact hx q.symm
          · exact ih h (List.mem_cons_self ..) q
        · exact ih p (List.mem_cons_of_mem _ hp)
theorem cut_piece {b : UInt8} : ∀ {p : List UInt8}, b ∉ p → ∀ s, cutZ b (p ++ b :: s) = p :: cutZ b s
  | [], _, s => by rw [List.nil_append, cutZ, if_pos rfl]
  | x :: p, h, s => by
    have hx : ¬ x = b := fun e => h (e ▸ List.mem_cons_self ..)
    have hp : b ∉ p := fun e => h (List.mem_cons_of_mem _ e)
    rw [List.cons_append, cutZ, if_neg hx, cut_piece hp]
theorem cut_last {b : UInt8} : ∀ {p : List UInt8}, b ∉ p → cutZ b p = [p]
  | [], _ => rfl
  | x :: p, h => by
    have hx : ¬ x = b := fun e => h (e ▸ List.mem_cons_self ..)
    have hp : b ∉ p := fun e => h (List.mem_cons_of_mem _ e)
    rw [cutZ, if_neg hx, cut_last hp]
theorem cut_join {b : UInt8} : ∀ {l : List (List UInt8)}, l ≠ [] → (∀ p ∈ l, b ∉ p) → cutZ b (joinZ b l) = l
  | [], h, _ => absurd rfl h
  | [p], _, h => cut_last (h p (List.mem_cons_self ..))
  | p :: q :: r, _, h => by
    rw [joinZ, cut_piece (h p (List.mem_cons_self ..)), cut_join (by simp) fun x hx => h x (List.mem_cons_of_mem _ hx)]
/-- a text has a byte b first behind p, or none -/
theorem first_or (b : UInt8) : ∀ s : List UInt8, b ∉ s ∨ ∃ p q, s = p ++ b :: q ∧ b ∉ p
  | [] => .inl (by simp)
  | x :: s => by
    by_cases hx : x = b
    · exact .inr ⟨[], s, by rw [hx]; rfl, by simp⟩
    · rcases first_or b s with h | ⟨p, q, h1, h2⟩
      · exact .inl fun h' => by rcases List.mem_cons.1 h' with e | e; exact hx e.symm; exact h e
      · exact .inr ⟨x :: p, q, by rw [h1]; rfl, fun h' => by rcases List.mem_cons.1 h' with e | e; exact hx e.symm; exact h2 e⟩
theorem index_no {b : UInt8} : ∀ {s : List UInt8}, b ∉ s → index s [b] = -1
  | [], _ => rfl
  | x :: s, h => by
    have hx : ¬ x = b := fun e => h (e ▸ List.mem_cons_self ..)
    have hp : b ∉ s := fun e => h (List.mem_cons_of_mem _ e)
    unfold index
    rw [if_neg (by simp [List.isPrefixOf]; exact fun e => hx e.symm), index_no hp]
    rfl
theorem index_at {b : UInt8} : ∀ {p : List UInt8} (q : List UInt8), b ∉ p → index (p ++ b :: q) [b] = p.length
  | [], q, _ => by rw [List.nil_append]; unfold index; rw [if_pos (by simp [List.isPrefixOf])]; simp
  | x :: p, q, h => by
    have hx : ¬ x = b := fun e => h (e ▸ List.mem_cons_self ..)
    have hp : b ∉ p := fun e => h (List.mem_cons_of_mem _ e)
    rw [List.cons_append]
    unfold index
    have ih := index_at q hp
    rw [if_neg (by simp [List.isPrefixOf]; exact fun e => hx e.symm), ih, if_neg (by simp)]
    simp
theorem cutL_no {b : UInt8} {s : List UInt8} (h : b ∉ s) : Lib.cut s [b] = (s, [], false) := by
  unfold Lib.cut; rw [index_no h, if_neg (by omega)]
theorem cutL_at {b : UInt8} {p : List UInt8} (q : List UInt8) (h : b ∉ p) : Lib.cut (p ++ b :: q) [b] = (p, q, true) := by
  unfold Lib.cut
  rw [index_at q h, if_pos (by omega)]
  simp
theorem countFrom_no {b : UInt8} {s : List UInt8} (h : b ∉ s) (n : Nat) : countFrom [b] (n + 1) s = 0 := by
  unfold countFrom; rw [index_no h]; rfl
theorem split_go (b : UInt8) : ∀ (n : Nat) (s : List UInt8), s.length ≤ n → splitK [b] 0 (countFrom [b] (n + 1) s) s = cutZ b s
  | 0, s, h => by
    obtain rfl : s = [] := List.length_eq_zero_iff.1 (by omega)
    rfl
  | n + 1, s, h => by
    rcases first_or b s with hn | ⟨p, q, rfl, hp⟩
    · rw [countFrom_no hn, cut_last hn]; rfl
    · have hi := index_at q hp
      have hd : (p ++ b :: q).drop (p.length + 1) = q := by
        rw [show p.length + 1 = (p ++ [b]).length by simp, show p ++ b :: q = (p ++ [b]) ++ q by simp, List.drop_left]
      have hc : countFrom [b] (n + 1 + 1) (p ++ b :: q) = countFrom [b] (n + 1) q + 1 := by
        rw [countFrom, hi]
        simp only [List.length_cons, List.length_nil, Int.toNat_natCast, Nat.zero_add]
        rw [hd, if_neg (by simp)]
        omega
      have hl : q.length ≤ n := by simp at h; omega
      rw [hc, splitK, hi, if_neg (by simp)]
      simp only [List.length_cons, List.length_nil, Int.toNat_natCast, Nat.zero_add, Nat.add_zero]
      rw [hd, split_go b n q hl, cut_piece hp]
      simp
theorem split_cut (b : UInt8) (s : List UInt8) : Lib.split s [b] = cutZ b s := split_go b s.length s (Nat.le_refl _)
theorem cutZ_len (b : UInt8) : ∀ s, (cutZ b s).length ≤ s.length + 1
  | [] => by simp [cutZ]
  | x :: s => by
    have ih := cutZ_len b s
    unfold cutZ
    split
    · simp; omega
    · split
      · simp
      · rename_i h t e; rw [e] at ih; simp at ih ⊢; omega

/-! ### numerals -/
def digB (c : UInt8) : Bool := decide (48 ≤ c.toNat ∧ c.toNat ≤ 57)
theorem dg_toNat {u : Nat} (h : u < 10) : (UInt8.ofNat (48 + u)).toNat = 48 + u := by
  rw [UInt8.toNat_ofNat']; omega
theorem decD_dig (u : Nat) : ∀ c ∈ decDigits u, digB c = true := by
  induction u using Nat.strongRecOn with
  | _ u ih =>
    intro c hc
    unfold decDigits at hc
    split at hc
    · rename_i h
      rw [List.mem_singleton] at hc; subst hc
      unfold digB
      rw [decide_eq_true_eq, dg_toNat h]; omega
    · rename_i h
      rcases List.mem_append.1 hc with hc | hc
      · exact ih _ (by omega) c hc
      · rw [List.mem_singleton] at hc; subst hc
        unfold digB
        rw [decide_eq_true_eq, dg_toNat (Nat.mod_lt u (by omega : 0 < 10))]; omega
theorem decD_ne (u : Nat) : decDigits u ≠ [] := by
  unfold decDigits
  split <;> simp
/-- the value of digits -/
def valD (acc : Nat) (l : List UInt8) : Nat := l.foldl (fun a c => a * 10 + (c.toNat - 48)) acc
theorem valD_app (acc : Nat) (l m : List UInt8) : valD acc (l ++ m) = valD (valD acc l) m := by unfold valD; rw [List.foldl_append]
theorem valD_dec (u : Nat) : valD 0 (decDigits u) = u := by
  induction u using Nat.strongRecOn with
  | _ u ih =>
    unfold decDigits
    split
    · rename_i h
      unfold valD
      simp only [List.foldl_cons, List.foldl_nil]
      rw [dg_toNat h]; omega
    · rename_i h
      rw [valD_app, ih _ (by omega)]
      unfold valD
      simp only [List.foldl_cons, List.foldl_nil]
      rw [dg_toNat (Nat.mod_lt u (by omega : 0 < 10))]; omega
theorem decD_inj {u v : Nat} (h : decDigits u = decDigits v) : u = v := by rw [← valD_dec u, ← valD_dec v, h]
theorem itoa_inj {m n : Int} (h : itoa m = itoa n) : m = n := by
  have hd : ∀ u, 45 ∉ decDigits u := fun u hu => by have := decD_dig u 45 hu; revert this; decide
  unfold itoa at h
  split at h <;> split at h
  · injection h with _ h; have := decD_inj h; omega
  · exact absurd (h ▸ List.mem_cons_self ..) (hd _)
  · exact absurd (h ▸ List.mem_cons_self ..) (hd _)
  · have := decD_inj h; omega
theorem itoa_chars (n : Int) : ∀ c ∈ itoa n, c = 45 ∨ digB c = true := fun c hc => by
  unfold itoa at hc
  split at hc
  · rcases List.mem_cons.1 hc with rfl | hc
    · exact .inl rfl
    · exact .inr (decD_dig _ c hc)
  · exact .inr (decD_dig _ c hc)
theorem itoa_no {n : Int} {b : UInt8} (h1 : b ≠ 45) (h2 : digB b = false) : b ∉ itoa n := fun h => by
  rcases itoa_chars n b h with e | e
  · exact h1 e
  · rw [e] at h2; cases h2
theorem itoa_ne (n : Int) : itoa n ≠ [] := by
  unfold itoa
  split
  · simp
  · exact decD_ne _
/-- a numeral that is parsed has the value that it spells -/
theorem parse_val : ∀ (l : List UInt8) (acc u : Nat), parseUint10 acc l = .ok u → (∀ c ∈ l, digB c = true) ∧ valD acc l = u
  | [], acc, u, h => by
    simp only [parseUint10] at h
    injection h with h
    exact ⟨by simp, h⟩
  | c :: r, acc, u, h => by
    simp only [parseUint10] at h
    split at h
    · rename_i hc
      split at h
      · cases h
      · split at h
        · cases h
        · obtain ⟨h1, h2⟩ := parse_val r _ u h
          refine ⟨fun x hx => ?_, h2⟩
          rcases List.mem_cons.1 hx with rfl | hx
          · unfold digB; exact decide_eq_true hc
          · exact h1 x hx
    · cases h
theorem parse_ok : ∀ (l : List UInt8) (acc : Nat), (∀ c ∈ l, digB c = true) → valD acc l < 18446744073709551616 → parseUint10 acc l = .ok (valD acc l)
  | [], acc, _, _ => rfl
  | c :: r, acc, h, hv => by
    have hc : 48 ≤ c.toNat ∧ c.toNat ≤ 57 := by have := h c (List.mem_cons_self ..); unfold digB at this; exact of_decide_eq_true this
    have hr := fun x hx => h x (List.mem_cons_of_mem _ hx)
    have hge : ∀ (m : List UInt8) (a : Nat), a ≤ valD a m := fun m => by
      induction m with
      | nil => intro a; exact Nat.le_refl _
      | cons y m ih => intro a; exact Nat.le_trans (by omega) (ih (a * 10 + (y.toNat - 48)))
    have h1 : valD acc (c :: r) = valD (acc * 10 + (c.toNat - 48)) r := rfl
    have h2 := hge r (acc * 10 + (c.toNat - 48))
    rw [h1] at hv ⊢
    simp only [parseUint10]
    rw [if_pos hc, if_neg (by omega), if_neg (by omega)]
    exact parse_ok r _ hr hv
/-- Atoi reads back what Itoa made -/
theorem atoi_itoa {n : Int} (h0 : -9223372036854775808 ≤ n) (h1 : n ≤ 9223372036854775807) : atoiAll (itoa n) = .ok n := by
  have pm : ∀ u : Nat, u < 18446744073709551616 → parseMag (decDigits u) = .ok u := fun u hu => by
    unfold parseMag
    rw [if_neg (decD_ne u), parse_ok _ _ (decD_dig u) (by rw [valD_dec]; exact hu), valD_dec]
  unfold itoa
  by_cases hn : n < 0
  · rw [if_pos hn]
    unfold atoiAll
    dsimp only
    rw [if_pos (.inr rfl), pm _ (by omega)]
    dsimp only
    rw [if_neg (by simp), if_neg (by simp; omega), if_pos (by rfl)]
    congr 1; omega
  · rw [if_neg hn]
    obtain ⟨c, r, hcr⟩ := List.exists_cons_of_ne_nil (decD_ne n.toNat)
    have hc := decD_dig n.toNat c (by rw [hcr]; exact List.mem_cons_self ..)
    unfold digB at hc
    have hc' := of_decide_eq_true hc
    have hp := pm n.toNat (by omega)
    rw [hcr] at hp ⊢
    unfold atoiAll
    dsimp only
    rw [if_neg (by omega), hp]
    dsimp only
    rw [if_neg (by omega), if_neg (by omega), if_neg (by omega)]
    congr 1; omega
end Go.Proofs.YthklgkgincebhaaGreatDoor
