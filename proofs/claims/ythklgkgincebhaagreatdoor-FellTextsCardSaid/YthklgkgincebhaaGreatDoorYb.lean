/- Texts, plain: what the reference's Number says of a text; Wind's words by it. -/
import Derived.Test.YthklgkgincebhaaGreatDoorYa
import Derived.BigQuiet
set_option linter.unusedSimpArgs false
set_option linter.unusedVariables false
namespace Go.Proofs.YthklgkgincebhaaGreatDoor.T6
open Go.Lib Tx

def wn (n lo hi : Int) : Bool := decide (lo ≤ n) && decide (n ≤ hi)
theorem wn_iff {n a b : Int} : wn n a b = true ↔ a ≤ n ∧ n ≤ b := by simp [wn]
def bodyZ (s : List UInt8) : List UInt8 := if s.head? = some 45 then s.tail else s
def numV (s : List UInt8) : Int := if s.head? = some 45 then -(valD 0 s.tail : Nat) else (valD 0 s : Nat)
def numB (s : List UInt8) : Bool := decide (s ≠ []) && (decide (s.length ≤ 17) && ((bodyZ s).all digB && (decide (itoa (numV s) = s) && (decide (-1000000000000000 ≤ numV s) && decide (numV s ≤ 1000000000000000)))))
theorem itoa_head (m : Int) : ((itoa m).head? = some 45 ↔ m < 0) ∧ (m < 0 → (itoa m).tail = decDigits m.natAbs) ∧ (¬ m < 0 → itoa m = decDigits m.toNat) := by
  unfold itoa
  by_cases h : m < 0
  · rw [if_pos h]; exact ⟨by simp [h], fun _ => rfl, fun h' => absurd h h'⟩
  · rw [if_neg h]
    refine ⟨⟨fun e => ?_, fun e => absurd e h⟩, fun e => absurd e h, fun _ => rfl⟩
    obtain ⟨c, r, hcr⟩ := List.exists_cons_of_ne_nil (decD_ne m.toNat)
    have hc := decD_dig m.toNat c (by rw [hcr]; exact List.mem_cons_self ..)
    rw [hcr] at e
    injection e with e
    subst e; exact absurd hc (by decide)
theorem numV_itoa (m : Int) : numV (itoa m) = m ∧ (bodyZ (itoa m)).all digB = true := by
  obtain ⟨h1, h2, h3⟩ := itoa_head m
  unfold numV bodyZ
  by_cases h : m < 0
  · rw [if_pos (h1.2 h), if_pos (h1.2 h), h2 h, valD_dec]
    exact ⟨by omega, List.all_eq_true.2 (decD_dig _)⟩
  · rw [if_neg (fun e => h (h1.1 e)), if_neg (fun e => h (h1.1 e)), h3 h, valD_dec]
    exact ⟨by omega, List.all_eq_true.2 (decD_dig _)⟩
theorem num_iff (s : List UInt8) : numB s = true ↔ itoa (numV s) = s ∧ -1000000000000000 ≤ numV s ∧ numV s ≤ 1000000000000000 := by
  unfold numB
  simp only [Bool.and_eq_true, decide_eq_true_eq]
  constructor
  · rintro ⟨_, _, _, h1, h2, h3⟩; exact ⟨h1, h2, h3⟩
  · rintro ⟨h1, h2, h3⟩
    have h4 := (numV_itoa (numV s)).2
    rw [h1] at h4
    have h5 := itoa_ne (numV s)
    rw [h1] at h5
    refine ⟨h5, ?_, h4, h1, h2, h3⟩
    have h6 : (itoa (numV s)).length ≤ 17 := by
      obtain ⟨_, a, b⟩ := itoa_head (numV s)
      by_cases hn : numV s < 0
      · have e : itoa (numV s) = 45 :: decDigits (numV s).natAbs := by unfold itoa; rw [if_pos hn]
        rw [e]
        have := decD_le (u := (numV s).natAbs) (k := 15) (by omega)
        simp; omega
      · rw [b hn]
        have := decD_le (u := (numV s).toNat) (k := 15) (by omega)
        omega
    rwa [h1] at h6
theorem num_of {m : Int} (h0 : -1000000000000000 ≤ m) (h1 : m ≤ 1000000000000000) : numB (itoa m) = true ∧ numV (itoa m) = m := by
  have := (numV_itoa m).1
  exact ⟨(num_iff _).2 (by rw [this]; exact ⟨rfl, h0, h1⟩), this⟩
theorem valD_lt : ∀ (l : List UInt8) (a : Nat), (∀ c ∈ l, digB c = true) → valD a l < (a + 1) * 10 ^ l.length
  | [], a, _ => by simp [valD]
  | c :: r, a, h => by
    have hc := h c (List.mem_cons_self ..)
    unfold digB at hc
    have hc' := of_decide_eq_true hc
    have ih := valD_lt r (a * 10 + (c.toNat - 48)) fun x hx => h x (List.mem_cons_of_mem _ hx)
    have e : valD a (c :: r) = valD (a * 10 + (c.toNat - 48)) r := rfl
    rw [e, List.length_cons, Nat.pow_succ]
    refine Nat.lt_of_lt_of_le ih ?_
    rw [show (a + 1) * (10 ^ r.length * 10) = ((a + 1) * 10) * 10 ^ r.length by rw [Nat.mul_comm (10 ^ r.length) 10, Nat.mul_assoc]]
    exact Nat.mul_le_mul_right _ (by omega)
end Go.Proofs.YthklgkgincebhaaGreatDoor.T6
namespace Go.Proofs.YthklgkgincebhaaGreatDoor.T6
open Go.RowKit Go.Lib Tx

theorem take_more {L : List UInt8} {f k : Nat} {c : UInt8} (hf : f ≤ k) (hc : L[k]? = some c) : (L.drop f).take (k + 1 - f) = (L.drop f).take (k - f) ++ [c] := by
  have : (L.drop f)[k - f]? = some c := by rw [List.getElem?_drop, show f + (k - f) = k by omega]; exact hc
  rw [show k + 1 - f = (k - f) + 1 by omega, List.take_add_one, this]; rfl
theorem cut_hit {b : UInt8} {L : List UInt8} {f k : Nat} (hf : f ≤ k) (hc : L[k]? = some b) (hn : b ∉ (L.drop f).take (k - f)) : cutZ b (L.drop f) = (L.drop f).take (k - f) :: cutZ b (L.drop (k + 1)) := by
  have h1 : L.drop f = (L.drop f).take (k - f) ++ b :: L.drop (k + 1) := by
    obtain ⟨hk, hb⟩ := List.getElem?_eq_some_iff.1 hc
    have h2 : (L.drop f).drop (k - f) = b :: L.drop (k + 1) := by
      rw [List.drop_drop, show f + (k - f) = k by omega, List.drop_eq_getElem_cons hk, hb]
    rw [← h2, List.take_append_drop]
  conv => lhs; rw [h1]
  exact cut_piece hn _
theorem cut_end {b : UInt8} {L : List UInt8} {f : Nat} (hn : b ∉ (L.drop f).take (L.length - f)) : cutZ b (L.drop f) = [(L.drop f).take (L.length - f)] := by
  have h1 : (L.drop f).take (L.length - f) = L.drop f := List.take_of_length_le (by rw [List.length_drop]; exact Nat.le_refl _)
  rw [h1] at hn ⊢
  exact cut_last hn
theorem sub_eq (s : ByteArray) (f k : Nat) : s.extract f k = ⟨((s.data.toList.drop f).take (k - f)).toArray⟩ := extract_eq s f k
set_option maxHeartbeats 2000000 in
set_option maxRecDepth 20000 in
theorem r_Cut (s : ByteArray) (b : UInt8) (w : World) (hs : s.size ≤ 100000) :
    Calls Tryz.prog 21 #[.string s, .int .u8 (b.toNat : Int)] w fun e w' => ∃ v, e = .returned v ∧ w'.ownsRow w.heap.size 9 1 v (cutZ b s.data.toList).length (fl stG (cutZ b s.data.toList)) ∧ Below w.heap.size w w' := by
  obtain ⟨i0, hi, hi1, hi2, hi3⟩ := info_str1
  obtain ⟨L, hL⟩ : ∃ L, L = s.data.toList := ⟨_, rfl⟩
  have hsz : L.length = s.size := by rw [hL]; simp
  have HAT := Lib.hid (fun (k : Nat) (h : k < s.size) => (show L[k]? = some s[k] by rw [hL]; exact at_of h))
  have HSB := Lib.hid (fun f k => (show s.extract f k = ⟨((L.drop f).take (k - f)).toArray⟩ by rw [hL]; exact sub_eq s f k))
  rw [← hL]
  clear hL
  have s0 : (0 : Int) ≤ (s.size : Int) := Int.natCast_nonneg _
  go_enter Tryz.func21, Tryz.ntmps21
  go_wp2
  go_loopw [5, 6, 7] (fun v fr i wr => ∃ (k f : Nat) (D : List (List UInt8)), i = .int .i64 k ∧ fr = .int .i64 f ∧ Below w.heap.size w wr ∧ wr.ownsRow w.heap.size 9 1 v D.length (fl stG D) ∧ D.length ≤ f ∧ k ≤ s.size + 1 ∧ f ≤ k ∧
    Hid ((k ≤ s.size ∧ cutZ b L = D ++ cutZ b (L.drop f) ∧ b ∉ (L.drop f).take (k - f)) ∨ (k = s.size + 1 ∧ cutZ b L = D))) (fun _ _ i _ => s.size + 1 - (RowKit.intOf i).toNat)
  case atStart => exact ⟨0, 0, [], rfl, rfl, below_refl _, World.ownsRow_nil w _ _ _, by simp, by omega, by omega, Lib.hid (.inl ⟨by omega, rfl, by simp⟩)⟩
  case round =>
    obtain ⟨k, f, D, rfl, rfl, hbw, hown, hDf, hk, hfk, HI⟩ := hrel
    obtain ⟨ad, cp, rfl⟩ := own_slice hown
    rename World => wr
    have hbvs := hbw.size
    have k0 : (0 : Int) ≤ (k : Int) := Int.natCast_nonneg _
    have f0 : (0 : Int) ≤ (f : Int) := Int.natCast_nonneg _
    have fk : (f : Int) ≤ (k : Int) := by omega
    by_cases hle : k ≤ s.size
    · have k1 : (k : Int) ≤ (s.size : Int) := by omega
      obtain ⟨h1, h2⟩ : cutZ b L = D ++ cutZ b (L.drop f) ∧ b ∉ (L.drop f).take (k - f) := by
        rcases HI.out with ⟨_, a, c⟩ | ⟨a, _⟩
        · exact ⟨a, c⟩
        · omega
      have HZ := Lib.hid (fun (w1 : World) (j : Nat) u (hu : (stG ((L.drop f).take (k - f)))[j]? = some u) => cells_new w1 (stG ((L.drop f).take (k - f))) 9 j u hu)
      have HSBk := Lib.hid (HSB.out f k)
      by_cases hek : k = s.size
      · subst hek
        have HN := Lib.hid (show cutZ b L = D ++ [(L.drop f).take (s.size - f)] by
          rw [h1, ← hsz]
          rw [← hsz] at h2
          rw [cut_end h2])
        have ke : ((s.size : Int) == (s.size : Int)) = true := by simp
        have HZ2 := Lib.hid (show ∀ (j : Nat) u, (stG ((L.drop f).take (s.size - f)))[j]? = some u → (wr.alloc (.cells #[.string (s.extract f s.size)] 9)).cell? ((⟨wr.heap.size, 0, none⟩ : Addr).add j) = some u by rw [HSBk.out]; exact HZ.out wr)
        clear h1 h2 HI
        go_wp2_with (at_builtin; (refine wpList_append_own _ rfl _ _ 54 rfl w.heap.size 9 i0 (.string ByteArray.empty) 1 16 (by kernel_rfl) hi hi1 hi2 hi3 rfl (by omega) _ _ _ rfl (hown.alloc _) ⟨wr.heap.size, 0, none⟩ 1 1 (stG ((L.drop f).take (s.size - f))) rfl rfl HZ2.out (fun u hu => by simp [stG] at hu; rcases hu with rfl; rfl) (by unfold maxLen; omega) (by omega) (by simp; omega) ?_; intro v' w4 hown4 hgrow _))
        go_roundw
        case rel => exact ⟨s.size + 1, s.size + 1, D ++ [(L.drop f).take (s.size - f)], by go_num, by go_num, bl_app hbw hown hgrow (Nat.le_refl _) hbw.size, by rw [fl_snocG, List.length_append]; exact hown4, by simp; omega, by omega, by omega, Lib.hid (.inr ⟨by omega, HN.out⟩)⟩
        case measure => simp [RowKit.intOf]
      · have hlt : k < s.size := by omega
        have k2 : (k : Int) < (s.size : Int) := by omega
        have ke : ((k : Int) == (s.size : Int)) = false := beq_eq_false_iff_ne.2 (by omega)
        have hat := HAT.out k hlt
        have hu8 := u8_eq s[k] b
        by_cases hb : s[k] = b
        · have HN := Lib.hid (show cutZ b L = (D ++ [(L.drop f).take (k - f)]) ++ cutZ b (L.drop (k + 1)) by
            rw [h1, cut_hit hfk (hb ▸ hat) h2]; simp)
          have hz : b ∉ (L.drop (k + 1)).take (k + 1 - (k + 1)) := by simp
          have HZZ := Lib.hid hz
          rw [decide_eq_true hb] at hu8
          have HZ2 := Lib.hid (show ∀ (j : Nat) u, (stG ((L.drop f).take (k - f)))[j]? = some u → (wr.alloc (.cells #[.string (s.extract f k)] 9)).cell? ((⟨wr.heap.size, 0, none⟩ : Addr).add j) = some u by rw [HSBk.out]; exact HZ.out wr)
          clear h1 h2 HI hat hb hz
          go_wp2_with (at_builtin; (refine wpList_append_own _ rfl _ _ 54 rfl w.heap.size 9 i0 (.string ByteArray.empty) 1 16 (by kernel_rfl) hi hi1 hi2 hi3 rfl (by omega) _ _ _ rfl (hown.alloc _) ⟨wr.heap.size, 0, none⟩ 1 1 (stG ((L.drop f).take (k - f))) rfl rfl HZ2.out (fun u hu => by simp [stG] at hu; rcases hu with rfl; rfl) (by unfold maxLen; omega) (by omega) (by simp; omega) ?_; intro v' w4 hown4 hgrow _))
          go_roundw
          case rel => exact ⟨k + 1, k + 1, D ++ [(L.drop f).take (k - f)], by go_num, by go_num, bl_app hbw hown hgrow (Nat.le_refl _) hbw.size, by rw [fl_snocG, List.length_append]; exact hown4, by simp; omega, by omega, by omega, Lib.hid (.inl ⟨by omega, HN.out, HZZ.out⟩)⟩
          case measure => simp [RowKit.intOf]; omega
        · have hn2 : b ∉ (L.drop f).take (k + 1 - f) := by
            rw [take_more hfk hat]
            intro h
            rcases List.mem_append.1 h with h | h
            · exact h2 h
            · simp at h; exact hb h.symm
          have HN := Lib.hid h1
          have HZZ := Lib.hid hn2
          rw [decide_eq_false hb] at hu8
          clear h1 h2 HI hat hb hn2
          go_wp2
          go_roundw
          case rel => exact ⟨k + 1, f, D, by go_num, rfl, hbw, hown, hDf, by omega, by omega, Lib.hid (.inl ⟨by omega, HN.out, HZZ.out⟩)⟩
          case measure => simp [RowKit.intOf]; omega
    · have k1 : ¬ (k : Int) ≤ (s.size : Int) := by omega
      have HN := Lib.hid (show cutZ b L = D by
        rcases HI.out with ⟨a, _⟩ | ⟨_, a⟩
        · omega
        · exact a)
      clear HI
      go_wp2
      go_ret
      rw [HN.out]
      exact ⟨_, rfl, hown, hbw⟩
end Go.Proofs.YthklgkgincebhaaGreatDoor.T6
namespace Go.Proofs.YthklgkgincebhaaGreatDoor.T6
open Go.RowKit Go.Lib Tx

theorem r_within6 (n lo hi : Int) (w : World) :
    Calls Tryz.prog 39 #[.int .i64 n, .int .i64 lo, .int .i64 hi] w fun e w' => e = .returned (.bool (wn n lo hi)) ∧ w = w' := by
  by_cases h1 : lo ≤ n
  · have t1 : decide (lo ≤ n) = true := by simpa using h1
    go_enter Tryz.func39, Tryz.ntmps39
    go_wp2
    go_ret
    exact ⟨ret_bool (by simp [wn, h1]), rfl⟩
  · have t1 : decide (lo ≤ n) = false := by simpa using h1
    go_enter Tryz.func39, Tryz.ntmps39
    go_wp2
    go_ret
    exact ⟨ret_bool (by unfold wn; rw [t1]; rfl), rfl⟩
theorem valD_snoc (l : List UInt8) (c : UInt8) : valD 0 (l ++ [c]) = valD 0 l * 10 + (c.toNat - 48) := by rw [valD_app]; rfl
theorem drop_more {L : List UInt8} {k m : Nat} {c : UInt8} (hc : L[k]? = some c) (hm : m ≤ k) : (L.take (k + 1)).drop m = (L.take k).drop m ++ [c] := by
  have hk : k < L.length := (List.getElem?_eq_some_iff.1 hc).1
  rw [List.take_add_one, hc]
  exact List.drop_append_of_le_length (by rw [List.length_take]; omega)
def NumP (L : List UInt8) (w : World) (e : Ending) (w' : World) : Prop := ∃ n, e = .returned (.tuple #[.int .i64 n, .bool (numB L)]) ∧ (numB L = true → n = numV L) ∧ Below w.heap.size w w'
theorem num_ret {L : List UInt8} {w w' : World} {n : Int} {b : Bool} (h : numB L = b) (hn : numB L = true → n = numV L) (hb : Below w.heap.size w w') : NumP L w (.returned (.tuple #[.int .i64 n, .bool b])) w' := ⟨n, by rw [h], hn, hb⟩
set_option maxHeartbeats 4000000 in
set_option maxRecDepth 20000 in
theorem r_Number (s : ByteArray) (w : World) (hs : s.size ≤ 100000) :
    Calls Tryz.prog 22 #[.string s] w (NumP s.data.toList w) := by
  obtain ⟨L, hL⟩ : ∃ L, L = s.data.toList := ⟨_, rfl⟩
  have hsz : L.length = s.size := by rw [hL]; simp
  have HAT := Lib.hid (fun (k : Nat) (h : k < s.size) => (show L[k]? = some s[k] by rw [hL]; exact at_of h))
  have hemp : s.toList.isEmpty = decide (L = []) := by rw [ByteArray.toList_eq, hL]; cases s.data.toList <;> simp
  have HEQ := Lib.hid (fun v : Int => (show ((⟨(itoa v).toArray⟩ : ByteArray).toList == s.toList) = decide (itoa v = L) by rw [seq_eq, hL]))
  rw [← hL]
  clear hL
  have s0 : (0 : Int) ≤ (s.size : Int) := Int.natCast_nonneg _
  by_cases h0 : L = []
  · have hb : numB L = false := by unfold numB; rw [decide_eq_false (by simp [h0])]; rfl
    rw [decide_eq_true h0] at hemp
    have HB := Lib.hid hb
    clear hb h0
    go_enter Tryz.func22, Tryz.ntmps22
    go_wp2
    go_ret2
    exact num_ret HB.out (fun h => by rw [HB.out] at h; cases h) (below_refl _)
  rw [decide_eq_false h0] at hemp
  by_cases h17 : s.size ≤ 17
  rotate_left
  · have hb : numB L = false := by unfold numB; rw [decide_eq_false (show ¬ L.length ≤ 17 by omega)]; simp
    have HB := Lib.hid hb
    have g17 : (17 : Int) < (s.size : Int) := by omega
    clear hb h0
    go_enter Tryz.func22, Tryz.ntmps22
    go_wp2
    go_ret2
    exact num_ret HB.out (fun h => by rw [HB.out] at h; cases h) (below_refl _)
  have g17 : ¬ (17 : Int) < (s.size : Int) := by omega
  have hpos : 0 < s.size := by
    have : 0 < L.length := List.length_pos_iff.2 h0
    omega
  have p0 : (0 : Int) < (s.size : Int) := by omega
  have hat0 := HAT.out 0 hpos
  have hhd : L.head? = some s[0] := by rw [List.head?_eq_getElem?]; exact hat0
  obtain ⟨mi, hmi⟩ : ∃ mi, mi = ((s[0].toNat : Int) == 45) := ⟨_, rfl⟩
  have HMI := Lib.hid (show mi = true ↔ L.head? = some 45 by
    rw [hmi, hhd]
    have := u8_eq s[0] 45
    rw [show (((45 : UInt8).toNat : Nat) : Int) = 45 from rfl] at this
    rw [this, decide_eq_true_eq]
    simp)
  have hmi' := hmi.symm
  have HBD := Lib.hid (show bodyZ L = L.drop (if mi = true then 1 else 0) by
    unfold bodyZ
    by_cases h : mi = true
    · rw [if_pos (HMI.out.1 h), if_pos h]; simp
    · rw [if_neg (fun e => h (HMI.out.2 e)), if_neg h]; rfl)
  have HNV := Lib.hid (show numV L = if mi = true then -((valD 0 (L.drop 1) : Nat) : Int) else ((valD 0 L : Nat) : Int) by
    unfold numV
    by_cases h : mi = true
    · rw [if_pos (HMI.out.1 h), if_pos h]; simp
    · rw [if_neg (fun e => h (HMI.out.2 e)), if_neg h])
  have HNB := Lib.hid (fun (h : (bodyZ L).all digB = true) => (show numB L = (decide (itoa (numV L) = L) && wn (numV L) (-1000000000000000) 1000000000000000) by
    unfold numB wn; rw [decide_eq_true h0, decide_eq_true (show L.length ≤ 17 by omega), h]; rfl))
  have HNO := Lib.hid (fun (h : (bodyZ L).all digB = false) => (show numB L = false by unfold numB; rw [h]; simp))
  clear hat0 hhd h0 hmi
  go_enter Tryz.func22, Tryz.ntmps22
  go_wp2
  go_quiet (fail)
  go_wp2
  have hmi'' := hmi'
  go_loopw [4, 6] (fun nv i wr => ∃ k n : Nat, k ≤ s.size ∧ i = .int .i64 k ∧ nv = .int .i64 (n : Int) ∧ Below w.heap.size w wr ∧ n < 100000000000000000 ∧ Hid (n = valD 0 ((L.take k).drop (if mi = true then 1 else 0)) ∧ ∀ c ∈ (L.take k).drop (if mi = true then 1 else 0), digB c = true)) (fun _ i _ => s.size - (RowKit.intOf i).toNat)
  case atStart => exact ⟨0, 0, by omega, rfl, rfl, by (repeat' (first | assumption | exact below_refl _ | refine bl_alloc ?_ _ | refine Below.setCell ?_ ?_ _ | refine below_draw ?_ | refine below_drewN ?_ _ | refine below_tr ?_ (by assumption))) <;> (first | omega | (simp; done) | (simp; omega)), by omega, Lib.hid ⟨by simp [valD], by simp⟩⟩
  case round =>
    obtain ⟨k, n, hk, rfl, rfl, hbw, hn17, HI⟩ := hrel
    rename World => wr
    have k0 : (0 : Int) ≤ (k : Int) := Int.natCast_nonneg _
    have n0 : (0 : Int) ≤ (n : Int) := Int.natCast_nonneg _
    by_cases hlt : k < s.size
    · have k1 : (k : Int) < (s.size : Int) := by omega
      have hat := HAT.out k hlt
      obtain ⟨h1, h2⟩ := HI.out
      by_cases hsk : k = 0 ∧ mi = true
      · obtain ⟨rfl, rfl⟩ := hsk
        have hn0 : n = 0 := by rw [h1]; simp [valD]
        have HN := Lib.hid (show n = valD 0 ((L.take (0 + 1)).drop (if true = true then 1 else 0)) ∧ ∀ c ∈ (L.take (0 + 1)).drop (if true = true then 1 else 0), digB c = true by
          have e : (L.take (0 + 1)).drop (if true = true then 1 else 0) = [] := by
            rw [if_pos rfl]; apply List.drop_eq_nil_of_le; rw [List.length_take]; omega
          rw [e]; exact ⟨hn0, by simp⟩)
        clear h1 h2 HI hat hn0
        go_wp2
        go_roundw
        case rel => exact ⟨0 + 1, n, by omega, by go_num, rfl, hbw, hn17, Lib.hid HN.out⟩
        case measure => simp [RowKit.intOf]; omega
      · have hkm : (if mi = true then 1 else 0) ≤ k := by
          split
          · rename_i h; have : ¬ k = 0 := fun e => hsk ⟨e, h⟩; omega
          · omega
        have hz : ((k : Int) == 0) = false ∨ (k = 0 ∧ mi = false) := by
          by_cases hk0 : k = 0
          · refine .inr ⟨hk0, ?_⟩
            cases hm : mi
            · rfl
            · exact absurd ⟨hk0, hm⟩ hsk
          · exact .inl (beq_eq_false_iff_ne.2 (by omega))
        have hdm := drop_more hat hkm
        have hin : s[k] ∈ bodyZ L := by
          rw [HBD.out]
          have : L.drop (if mi = true then 1 else 0) = (L.take (k + 1)).drop (if mi = true then 1 else 0) ++ (L.drop (k + 1)) := by
            conv => lhs; rw [← List.take_append_drop (k + 1) L]
            rw [List.drop_append_of_le_length (by rw [List.length_take]; omega)]
          rw [this, hdm]; simp
        by_cases hdg : digB s[k] = true
        · have hdd : 48 ≤ s[k].toNat ∧ s[k].toNat ≤ 57 := by unfold digB at hdg; exact of_decide_eq_true hdg
          have HN := Lib.hid (show n * 10 + (s[k].toNat - 48) = valD 0 ((L.take (k + 1)).drop (if mi = true then 1 else 0)) ∧ ∀ c ∈ (L.take (k + 1)).drop (if mi = true then 1 else 0), digB c = true by
            rw [hdm, valD_snoc, ← h1]
            refine ⟨rfl, fun c hc => ?_⟩
            rcases List.mem_append.1 hc with hc | hc
            · exact h2 c hc
            · simp at hc; rw [hc]; exact hdg)
          have hb17 : n * 10 + (s[k].toNat - 48) < 100000000000000000 := by
            have h3 := valD_lt ((L.take (k + 1)).drop (if mi = true then 1 else 0)) 0 HN.out.2
            rw [← HN.out.1] at h3
            have h4 : ((L.take (k + 1)).drop (if mi = true then 1 else 0)).length ≤ 17 := by rw [List.length_drop, List.length_take]; omega
            have h5 : 10 ^ ((L.take (k + 1)).drop (if mi = true then 1 else 0)).length ≤ 10 ^ 17 := Nat.pow_le_pow_right (by omega) h4
            omega
          have c0 : (48 : Int) ≤ (s[k].toNat : Int) := by omega
          have c1 : (s[k].toNat : Int) ≤ 57 := by omega
          have cl : ¬ (s[k].toNat : Int) < 48 := by omega
          have cg : ¬ (57 : Int) < (s[k].toNat : Int) := by omega
          have w1 : IntKind.u8.wrap ((s[k].toNat : Int) - 48) = (s[k].toNat : Int) - 48 := by simp [IntKind.wrap, IntKind.bits, IntKind.signed]; omega
          have w2 : IntKind.i64.wrap (10 * (n : Int)) = 10 * (n : Int) := fits_wrapU ⟨by omega, by omega⟩
          have w3 : IntKind.i64.wrap ((s[k].toNat : Int) - 48) = (s[k].toNat : Int) - 48 := fits_wrapU ⟨by omega, by omega⟩
          have w4 : IntKind.i64.wrap (10 * (n : Int) + ((s[k].toNat : Int) - 48)) = 10 * (n : Int) + ((s[k].toNat : Int) - 48) := fits_wrapU ⟨by omega, by omega⟩
          have HV := Lib.hid (show (10 * (n : Int) + ((s[k].toNat : Int) - 48)) = ((n * 10 + (s[k].toNat - 48) : Nat) : Int) by omega)
          have HB17 := Lib.hid hb17
          clear h1 h2 HI hat hin hdg hdd hdm hkm hsk hb17
          rcases hz with hz | ⟨rfl, rfl⟩
          · go_wp2
            go_roundw
            case rel => exact ⟨k + 1, n * 10 + (s[k].toNat - 48), by omega, by go_num, by rw [HV.out], hbw, HB17.out, Lib.hid HN.out⟩
            case measure => simp [RowKit.intOf]; omega
          · go_wp2
            go_roundw
            case rel => exact ⟨0 + 1, n * 10 + (s[0].toNat - 48), by omega, by go_num, by rw [HV.out], hbw, HB17.out, Lib.hid HN.out⟩
            case measure => simp [RowKit.intOf]; omega
        · have hb : numB L = false := HNO.out (List.all_eq_false.2 ⟨s[k], hin, by simpa using hdg⟩)
          have HB := Lib.hid hb
          have hdd : (s[k].toNat : Int) < 48 ∨ (57 : Int) < (s[k].toNat : Int) := by
            have : ¬ (48 ≤ s[k].toNat ∧ s[k].toNat ≤ 57) := fun h => hdg (by unfold digB; exact decide_eq_true h)
            omega
          clear h1 h2 HI hat hin hdg hdm hkm hsk hb
          rcases hz with hz | ⟨rfl, rfl⟩ <;> rcases hdd with hdd | hdd
          · go_wp2
            go_ret2
            exact num_ret HB.out (fun h => by rw [HB.out] at h; cases h) hbw
          · have hnl : ¬ (s[k].toNat : Int) < 48 := by omega
            go_wp2
            go_ret2
            exact num_ret HB.out (fun h => by rw [HB.out] at h; cases h) hbw
          · go_wp2
            go_ret2
            exact num_ret HB.out (fun h => by rw [HB.out] at h; cases h) hbw
          · have hnl : ¬ (s[0].toNat : Int) < 48 := by omega
            go_wp2
            go_ret2
            exact num_ret HB.out (fun h => by rw [HB.out] at h; cases h) hbw
    · obtain rfl : k = s.size := by omega
      obtain ⟨h1, h2⟩ := HI.out
      have htk : L.take s.size = L := List.take_of_length_le (by omega)
      rw [htk] at h1 h2
      have hall : (bodyZ L).all digB = true := by rw [HBD.out]; exact List.all_eq_true.2 h2
      have HB := Lib.hid (HNB.out hall)
      have HVV := Lib.hid (show numV L = if mi = true then -(n : Int) else (n : Int) by
        rw [HNV.out]
        cases mi
        · rw [if_neg (by simp), if_neg (by simp), h1]; rfl
        · rw [if_pos rfl, if_pos rfl, h1]; rfl)
      clear h1 h2 HI htk hall
      have wn1 : IntKind.i64.wrap (-(n : Int)) = -(n : Int) := fits_wrapU ⟨by omega, by omega⟩
      cases mi
      · have HVn := Lib.hid (show numV L = (n : Int) by rw [HVV.out, if_neg (by simp)])
        rw [HVn.out] at HB
        have HD := Lib.hid (r_Digits (n : Int) wr (by omega) (by omega))
        have hq := HEQ.out (n : Int)
        generalize (⟨(itoa (n : Int)).toArray⟩ : ByteArray) = ST at HD hq
        cases hd : decide (itoa (n : Int) = L)
        · rw [hd] at hq HB
          have HB2 := Lib.hid (show numB L = false by rw [HB.out]; rfl)
          clear HB hd HVV
          go_wp2_with (go_at_call 23; ((with_reducible refine HD.out.mono ?_); rintro e w3 ⟨rfl, hb3⟩))
          go_ret2
          exact num_ret HB2.out (fun h => by rw [HB2.out] at h; cases h) (below_tr hbw hb3)
        · rw [hd] at hq HB
          have HB2 := Lib.hid (show numB L = wn (n : Int) (-1000000000000000) 1000000000000000 by rw [HB.out]; rfl)
          clear HB hd HVV
          go_wp2_with (first
            | (go_at_call 23; ((with_reducible refine HD.out.mono ?_); rintro e w3 ⟨rfl, hb3⟩))
            | (go_at_call 39; ((with_reducible refine (r_within6 _ _ _ _).mono ?_); rintro e w' ⟨rfl, rfl⟩)))
          go_ret2
          exact num_ret HB2.out (fun _ => HVn.out.symm) (below_tr hbw hb3)
      · have HVn := Lib.hid (show numV L = -(n : Int) by rw [HVV.out, if_pos rfl])
        rw [HVn.out] at HB
        have HD := Lib.hid (r_Digits (-(n : Int)) wr (by omega) (by omega))
        have hq := HEQ.out (-(n : Int))
        generalize (⟨(itoa (-(n : Int))).toArray⟩ : ByteArray) = ST at HD hq
        cases hd : decide (itoa (-(n : Int)) = L)
        · rw [hd] at hq HB
          have HB2 := Lib.hid (show numB L = false by rw [HB.out]; rfl)
          clear HB hd HVV
          go_wp2_with (go_at_call 23; ((with_reducible refine HD.out.mono ?_); rintro e w3 ⟨rfl, hb3⟩))
          go_ret2
          exact num_ret HB2.out (fun h => by rw [HB2.out] at h; cases h) (below_tr hbw hb3)
        · rw [hd] at hq HB
          have HB2 := Lib.hid (show numB L = wn (-(n : Int)) (-1000000000000000) 1000000000000000 by rw [HB.out]; rfl)
          clear HB hd HVV
          go_wp2_with (first
            | (go_at_call 23; ((with_reducible refine HD.out.mono ?_); rintro e w3 ⟨rfl, hb3⟩))
            | (go_at_call 39; ((with_reducible refine (r_within6 _ _ _ _).mono ?_); rintro e w' ⟨rfl, rfl⟩)))
          go_ret2
          exact num_ret HB2.out (fun _ => HVn.out.symm) (below_tr hbw hb3)
end Go.Proofs.YthklgkgincebhaaGreatDoor.T6
