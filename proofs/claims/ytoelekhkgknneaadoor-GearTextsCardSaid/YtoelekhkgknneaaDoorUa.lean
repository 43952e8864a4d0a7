/- Gear's texts, plain: an item's line; what a line is read as, by both; a text is read back. -/
import Derived.Test.YtoelekhkgknneaaDoorUe
import Derived.Test.YtoelekhkgknneaaDoorTl
set_option linter.unusedSimpArgs false
set_option linter.unusedVariables false
namespace Go.Proofs.YtoelekhkgknneaaDoor
open Go.Lib

def bts (p : List UInt8) : ByteArray := ⟨p.toArray⟩
theorem bts_list (p : List UInt8) : (bts p).data.toList = p := by simp [bts]
theorem list_bts (s : ByteArray) : bts s.data.toList = s := by apply ByteArray.ext; simp [bts]
/-- an item's line -/
def lnI (x : It) : List UInt8 := x.nm.data.toList ++ 32 :: (itoa x.ld ++ 32 :: (itoa x.du ++ 32 :: x.bt.data.toList))
/-- Atoi's number, whatever its error -/
def valA (w : List UInt8) : Int := match atoiAll w with
  | .ok v => v
  | .range => atoiSat w
  | _ => 0
def rdI2 (t : List UInt8) : It := ⟨bts ((cutZ 32 t ++ [[], [], []]).getD 0 []), valA ((cutZ 32 t ++ [[], [], []]).getD 1 []), valA ((cutZ 32 t ++ [[], [], []]).getD 2 []), bts ((cutZ 32 t ++ [[], [], []]).getD 3 [])⟩
def rdRI (t : List UInt8) : Option It := match cutZ 32 t with
  | [a, b, c, d] => if (numB b && numB c) = true then some ⟨bts a, numV b, numV c, bts d⟩ else none
  | _ => none
theorem valA_itoa {n : Int} (h0 : -9223372036854775808 ≤ n) (h1 : n ≤ 9223372036854775807) : valA (itoa n) = n := by unfold valA; rw [atoi_itoa h0 h1]
theorem lnI_join (x : It) : lnI x = joinZ 32 [x.nm.data.toList, itoa x.ld, itoa x.du, x.bt.data.toList] := rfl
theorem nm_free {s : ByteArray} (h : nmB s = true) : ∀ b ∈ s.data.toList, b ≠ 32 ∧ b ≠ 10 := fun b hb => by
  unfold nmB at h
  rw [Bool.and_eq_true, List.all_eq_true] at h
  obtain ⟨k, hk, rfl⟩ := List.getElem_of_mem hb
  have hk' : k < s.size := by simpa using hk
  have h2 := h.2 k (List.mem_range.2 hk')
  have h3 : chAt s k = ((s.data.toList[k]).toNat : Int) := by unfold chAt; rw [List.getD_eq_getElem?_getD, List.getElem?_eq_getElem hk]; rfl
  rw [h3] at h2
  have h4 := chB_yes.1 h2
  constructor
  · intro e; rw [e, show (((32 : UInt8).toNat : Nat) : Int) = 32 from rfl] at h4; omega
  · intro e; rw [e, show (((10 : UInt8).toNat : Nat) : Int) = 10 from rfl] at h4; omega
theorem snd_of {g : List It} {x : It} (h : vldG (g ++ [x]) = true) : sndI x = true := by
  unfold vldG at h
  rw [Bool.and_eq_true, List.all_eq_true] at h
  have := h.1 g.length (by simp)
  unfold okI at this
  rw [Bool.and_eq_true] at this
  have e : itAt (g ++ [x]) g.length = x := itAt_of (by simp)
  rw [e] at this
  exact this.1
structure Snd (x : It) : Prop where
  nm : nmB x.nm = true
  bt : nmB x.bt = true
  l0 : 1 ≤ x.ld
  l1 : x.ld ≤ 1000000
  d0 : 0 ≤ x.du
  d1 : x.du ≤ 100000
theorem snd_iff {x : It} (h : sndI x = true) : Snd x := by
  unfold sndI at h
  rw [Bool.and_eq_true, Bool.and_eq_true, Bool.and_eq_true, wn_iff, wn_iff] at h
  exact ⟨h.1.1.1, h.1.1.2, h.1.2.1, h.1.2.2, h.2.1, h.2.2⟩
theorem cut_line {x : It} (h : Snd x) : cutZ 32 (lnI x) = [x.nm.data.toList, itoa x.ld, itoa x.du, x.bt.data.toList] := by
  rw [lnI_join]
  refine cut_join (by simp) fun p hp => ?_
  simp only [List.mem_cons, List.not_mem_nil, or_false] at hp
  rcases hp with rfl | rfl | rfl | rfl
  · exact fun e => (nm_free h.nm _ e).1 rfl
  · exact itoa_no (by decide) (by decide)
  · exact itoa_no (by decide) (by decide)
  · exact fun e => (nm_free h.bt _ e).1 rfl
theorem rd_line {x : It} (h : Snd x) : rdI2 (lnI x) = x := by
  unfold rdI2
  rw [cut_line h]
  simp only [List.cons_append, List.getD_cons_zero, List.getD_cons_succ]
  rw [list_bts, list_bts, valA_itoa (by have := h.l0; omega) (by have := h.l1; omega), valA_itoa (by have := h.d0; omega) (by have := h.d1; omega)]
theorem line_nl {x : It} (h : Snd x) : (10 : UInt8) ∉ lnI x := by
  unfold lnI
  have a : (10 : UInt8) ∉ itoa x.ld := itoa_no (by decide) (by decide)
  have b : (10 : UInt8) ∉ itoa x.du := itoa_no (by decide) (by decide)
  intro q
  simp only [List.mem_append, List.mem_cons] at q
  rcases q with q | q | q | q | q | q | q
  · exact (nm_free h.nm _ q).2 rfl
  · revert q; decide
  · exact a q
  · revert q; decide
  · exact b q
  · revert q; decide
  · exact (nm_free h.bt _ q).2 rfl
/-- both read a line alike -/
theorem gear_line (g : List It) (t : List UInt8) : match rdRI t with
    | some x => lnI x = t ∧ rdI2 t = x
    | none => ¬ (lnI (rdI2 t) = t ∧ vldG (g ++ [rdI2 t]) = true) := by
  cases hr : rdRI t with
  | some x =>
    dsimp only
    unfold rdRI at hr
    split at hr
    · rename_i a b c d hc
      split at hr
      · rename_i hb
        rw [Bool.and_eq_true] at hb
        injection hr with hr
        obtain ⟨b1, b2, b3⟩ := (num_iff b).1 hb.1
        obtain ⟨c1, c2, c3⟩ := (num_iff c).1 hb.2
        have hj := join_cut 32 t
        rw [hc] at hj
        refine ⟨?_, ?_⟩
        · rw [← hr, lnI_join]
          dsimp only
          rw [bts_list, bts_list, b1, c1]; exact hj
        · unfold rdI2
          rw [hc]
          simp only [List.cons_append, List.getD_cons_zero, List.getD_cons_succ]
          rw [← hr]
          congr 1
          · have := valA_itoa (n := numV b) (by omega) (by omega); rwa [b1] at this
          · have := valA_itoa (n := numV c) (by omega) (by omega); rwa [c1] at this
      · cases hr
    · cases hr
  | none =>
    dsimp only
    rintro ⟨h1, h2⟩
    have hs := snd_iff (snd_of h2)
    have hc := cut_line hs
    rw [h1] at hc
    unfold rdRI at hr
    rw [hc] at hr
    dsimp only at hr
    obtain ⟨a1, a2⟩ := num_of (m := (rdI2 t).ld) (by have := hs.l0; omega) (by have := hs.l1; omega)
    obtain ⟨b1, b2⟩ := num_of (m := (rdI2 t).du) (by have := hs.d0; omega) (by have := hs.d1; omega)
    rw [a1, b1] at hr
    cases hr
theorem idx_take {α : Type} (p : α → Bool) : ∀ (l : List α) (k b : Nat), (∃ i, i < k ∧ ∃ x, l[i]? = some x ∧ p x = true) → idxOf p (l.take k) b = idxOf p l b
  | [], k, b, ⟨i, _, x, hx, _⟩ => by simp at hx
  | y :: l, 0, b, ⟨i, hi, _⟩ => by omega
  | y :: l, k + 1, b, ⟨i, hi, x, hx, hp⟩ => by
    rw [List.take_succ_cons]
    unfold idxOf
    split
    · rfl
    · rename_i hy
      cases i with
      | zero => simp at hx; rw [hx, hp] at hy; exact absurd rfl hy
      | succ i => exact idx_take p l k (b + 1) ⟨i, by omega, x, by simpa using hx, hp⟩
theorem vld_take {g : List It} (h : vldG g = true) (k : Nat) : vldG (g.take k) = true := by
  unfold vldG at *
  rw [Bool.and_eq_true, List.all_eq_true, decide_eq_true_eq] at *
  refine ⟨fun i hi => ?_, by rw [List.length_take]; omega⟩
  rw [List.mem_range, List.length_take] at hi
  have h1 := h.1 i (List.mem_range.2 (by omega))
  obtain ⟨x, hx⟩ : ∃ x, g[i]? = some x := ⟨g[i]'(by omega), List.getElem?_eq_getElem _⟩
  have hx2 : (g.take k)[i]? = some x := by rw [List.getElem?_take, if_pos (by omega)]; exact hx
  unfold okI at *
  rw [itAt_of hx] at h1
  rw [itAt_of hx2]
  have e : fndI (g.take k) x.nm = fndI g x.nm := idx_take _ g k 0 ⟨i, by omega, x, hx, by simp⟩
  rw [e]; exact h1
theorem vld_snd {g : List It} (h : vldG g = true) : ∀ x ∈ g, Snd x := fun x hx => by
  obtain ⟨i, hi, rfl⟩ := List.getElem_of_mem hx
  have h2 := vld_take h (i + 1)
  rw [List.take_add_one, List.getElem?_eq_getElem hi] at h2
  exact snd_iff (snd_of h2)
/-- what Parse answers: items, line, right or not -/
def paG (s : List UInt8) : List It × Nat × Bool := lnGo rdI2 lnI vldG s.length 0 [] s
theorem paG_ref (s : List UInt8) : paG s = lnR vldG rdRI 0 [] (cutZ 10 s) := ln_same (fun g t => by have := gear_line g t; revert this; cases rdRI t <;> exact id) s.length 0 [] s (Nat.le_refl _)
theorem paG_fm {g : List It} (h : vldG g = true) : paG (fmtZ lnI g) = (g, 0, true) := by
  have := ln_fmt (rd := rdI2) (wr := lnI) (vld := vldG) (fmtZ lnI g).length 0 [] g (Nat.le_refl _) (fun x hx => ⟨line_nl (vld_snd h x hx), rd_line (vld_snd h x hx)⟩) (fun k _ _ => by rw [List.nil_append]; exact vld_take h k)
  unfold paG
  simpa using this
theorem paG_back {s : List UInt8} (h : (paG s).2.2 = true) : fmtZ lnI (paG s).1 = s ∧ vldG (paG s).1 = true ∧ (paG s).2.1 = 0 := by
  obtain ⟨h1, h2, h3⟩ := ln_back (rd := rdI2) (wr := lnI) (vld := vldG) s.length 0 [] s (Nat.le_refl _) h
  refine ⟨by unfold paG; simpa [fmtZ] using h1, ?_, h3⟩
  rcases h2 with h2 | h2
  · show vldG (lnGo rdI2 lnI vldG s.length 0 [] s).1 = true
    rw [h2]; rfl
  · exact h2
end Go.Proofs.YtoelekhkgknneaaDoor
