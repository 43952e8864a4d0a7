/- Texts: Words of the reference of chapter 1. -/
import Derived.Test.YtoelekhkgknneaaDoorQd
import Derived.Laws.IdiomStrings
set_option linter.unusedSimpArgs false
set_option linter.unusedVariables false
namespace Go.Proofs.YtoelekhkgknneaaDoor.Tx
open Go.RowKit Go.Lib

theorem take_more {L : List UInt8} {f k : Nat} {c : UInt8} (hf : f ≤ k) (hc : L[k]? = some c) : (L.drop f).take (k + 1 - f) = (L.drop f).take (k - f) ++ [c] := by
  have : (L.drop f)[k - f]? = some c := by rw [List.getElem?_drop, show f + (k - f) = k by omega]; exact hc
  rw [show k + 1 - f = (k - f) + 1 by omega, List.take_add_one, this]; rfl
theorem cut_hit {b : UInt8} {L : List UInt8} {f k : Nat} (hf : f ≤ k) (hc : L[k]? = some b) (hn : b ∉ (L.drop f).take (k - f)) : cutZ b (L.drop f) = (L.drop f).take (k - f) :: cutZ b (L.drop (k + 1)) := by
  have h1 : L.drop f = (L.drop f).take (k - f) ++ b :: L.drop (k + 1) := by
    obtain ⟨hk, hb⟩ := List.getElem?_eq_some_iff.1 hc
    have h2 : (L.drop f).drop (k - f) = b :: L.drop (k + 1) := by
      rw [List.drop_drop, show f + (k - f) = k by omega, List.drop_eq_getElem_cons hk, hb]
    rw [← h2, List.take_append_drop]
  conv => lhs; rw [h1]
  exact cut_piece hn _
theorem sub_eq (s : ByteArray) (f k : Nat) : s.extract f k = bts ((s.data.toList.drop f).take (k - f)) := extract_eq s f k
def WordsP (b : UInt8) (s : ByteArray) (w : World) (e : Ending) (w' : World) : Prop := ∃ v, e = .returned v ∧ w'.ownsRow w.heap.size 9 1 v (cutZ b s.data.toList).length (fl stG (cutZ b s.data.toList)) ∧ Below w.heap.size w w'
set_option maxHeartbeats 2000000 in
set_option maxRecDepth 20000 in
theorem r1_Words (s : ByteArray) (b : UInt8) (w : World) (hs : s.size ≤ 100000) :
    Calls Tryd.prog 60 #[.string s, .int .u8 (b.toNat : Int)] w (WordsP b s w) := by
  obtain ⟨i0, hi, hi1, hi2, hi3⟩ := info_str1
  unfold WordsP
  obtain ⟨L, hL⟩ : ∃ L, L = s.data.toList := ⟨_, rfl⟩
  have hsz : L.length = s.size := by rw [hL]; simp
  have HAT := Lib.hid (fun (k : Nat) (h : k < s.size) => (show L[k]? = some s[k] by rw [hL]; exact at_of h))
  have HSB := Lib.hid (fun f k => (show s.extract f k = bts ((L.drop f).take (k - f)) by rw [hL]; exact sub_eq s f k))
  rw [← hL]
  clear hL
  have s0 : (0 : Int) ≤ (s.size : Int) := Int.natCast_nonneg _
  go_enter Tryd.func60, Tryd.ntmps60
  go_wp2
  go_loopw [5, 6, 7] (fun v fr i wr => ∃ (k f : Nat) (D : List (List UInt8)), i = .int .i64 k ∧ fr = .int .i64 f ∧ Below w.heap.size w wr ∧ wr.ownsRow w.heap.size 9 1 v D.length (fl stG D) ∧ D.length ≤ f ∧ k ≤ s.size ∧ f ≤ k ∧
    Hid (cutZ b L = D ++ cutZ b (L.drop f) ∧ b ∉ (L.drop f).take (k - f))) (fun _ _ i _ => s.size - (RowKit.intOf i).toNat)
  case atStart => exact ⟨0, 0, [], rfl, rfl, below_refl _, World.ownsRow_nil w _ _ _, by simp, by omega, by omega, Lib.hid ⟨rfl, by simp⟩⟩
  case round =>
    obtain ⟨k, f, D, rfl, rfl, hbw, hown, hDf, hk, hfk, HI⟩ := hrel
    obtain ⟨ad, cp, rfl⟩ := own_slice hown
    rename World => wr
    have hbvs := hbw.size
    have k0 : (0 : Int) ≤ (k : Int) := Int.natCast_nonneg _
    have f0 : (0 : Int) ≤ (f : Int) := Int.natCast_nonneg _
    have fk : (f : Int) ≤ (k : Int) := by omega
    obtain ⟨h1, h2⟩ := HI.out
    by_cases hlt : k < s.size
    · have k2 : (k : Int) < (s.size : Int) := by omega
      have k3 : (k : Int) ≤ (s.size : Int) := by omega
      have hat := HAT.out k hlt
      have hu8 := u8_eq s[k] b
      have HSBk := Lib.hid (HSB.out f k)
      by_cases hb : s[k] = b
      · have HN := Lib.hid (show cutZ b L = (D ++ [(L.drop f).take (k - f)]) ++ cutZ b (L.drop (k + 1)) by
          rw [h1, cut_hit hfk (hb ▸ hat) h2]; simp)
        have hz : b ∉ (L.drop (k + 1)).take (k + 1 - (k + 1)) := by simp
        have HZZ := Lib.hid hz
        rw [decide_eq_true hb] at hu8
        have HZ := Lib.hid (fun (w1 : World) (j : Nat) u (hu : (stG ((L.drop f).take (k - f)))[j]? = some u) => cells_new w1 (stG ((L.drop f).take (k - f))) 9 j u hu)
        have HZ2 := Lib.hid (show ∀ (j : Nat) u, (stG ((L.drop f).take (k - f)))[j]? = some u → (wr.alloc (.cells #[.string (s.extract f k)] 9)).cell? ((⟨wr.heap.size, 0, none⟩ : Addr).add j) = some u by rw [HSBk.out]; exact HZ.out wr)
        clear h1 h2 HI hat hb hz
        go_wp2_with (at_builtin; (refine wpList_append_own _ rfl _ _ 72 rfl w.heap.size 9 i0 (.string ByteArray.empty) 1 16 (by kernel_rfl) hi hi1 hi2 hi3 rfl (by omega) _ _ _ rfl (hown.alloc _) ⟨wr.heap.size, 0, none⟩ 1 1 (stG ((L.drop f).take (k - f))) rfl rfl HZ2.out (fun u hu => by simp [stG] at hu; rcases hu with rfl; rfl) (by unfold maxLen; omega) (by omega) (by simp; omega) ?_; intro v' w4 hown4 hgrow _))
        go_roundw
        case rel => exact ⟨k + 1, k + 1, D ++ [(L.drop f).take (k - f)], by go_num, by go_num, bl_app hbw hown hgrow (Nat.le_refl _) hbw.size, by rw [fl_snocG, List.length_append]; exact hown4, by simp; omega, by omega, by omega, Lib.hid ⟨HN.out, HZZ.out⟩⟩
        case measure => simp [RowKit.intOf]; omega
      · have hn2 : b ∉ (L.drop f).take (k + 1 - f) := by
          rw [take_more hfk hat]
          intro h
          rcases List.mem_append.1 h with h | h
          · exact h2 h
          · simp at h; exact hb h.symm
        have HN := Lib.hid h1
        have HZZ := Lib.hid hn2
        rw [decide_eq_false hb] at hu8
        clear h1 h2 HI hat hb hn2
        go_wp2
        go_roundw
        case rel => exact ⟨k + 1, f, D, by go_num, rfl, hbw, hown, hDf, by omega, by omega, Lib.hid ⟨HN.out, HZZ.out⟩⟩
        case measure => simp [RowKit.intOf]; omega
    · have k1 : ¬ (k : Int) < (s.size : Int) := by omega
      obtain rfl : k = s.size := by omega
      have HSBk := Lib.hid (HSB.out f s.size)
      have HN := Lib.hid (show cutZ b L = D ++ [(L.drop f).take (s.size - f)] by
        have e : (L.drop f).take (s.size - f) = L.drop f := List.take_of_length_le (by rw [List.length_drop, hsz]; exact Nat.le_refl _)
        rw [h1]
        rw [e] at h2 ⊢
        rw [cut_last h2])
      have HZ := Lib.hid (fun (w1 : World) (j : Nat) u (hu : (stG ((L.drop f).take (s.size - f)))[j]? = some u) => cells_new w1 (stG ((L.drop f).take (s.size - f))) 9 j u hu)
      have HZ2 := Lib.hid (show ∀ (j : Nat) u, (stG ((L.drop f).take (s.size - f)))[j]? = some u → (wr.alloc (.cells #[.string (s.extract f s.size)] 9)).cell? ((⟨wr.heap.size, 0, none⟩ : Addr).add j) = some u by rw [HSBk.out]; exact HZ.out wr)
      clear h1 h2 HI
      go_wp2_with (at_builtin; (refine wpList_append_own _ rfl _ _ 72 rfl w.heap.size 9 i0 (.string ByteArray.empty) 1 16 (by kernel_rfl) hi hi1 hi2 hi3 rfl (by omega) _ _ _ rfl (hown.alloc _) ⟨wr.heap.size, 0, none⟩ 1 1 (stG ((L.drop f).take (s.size - f))) rfl rfl HZ2.out (fun u hu => by simp [stG] at hu; rcases hu with rfl; rfl) (by unfold maxLen; omega) (by omega) (by simp; omega) ?_; intro v' w4 hown4 hgrow _))
      go_ret
      rw [HN.out]
      exact ⟨_, rfl, by rw [fl_snocG, List.length_append]; exact hown4, bl_app hbw hown hgrow (Nat.le_refl _) hbw.size⟩
end Go.Proofs.YtoelekhkgknneaaDoor.Tx
