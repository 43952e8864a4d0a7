/- Wind: Goes, spans, Missing by the program. -/
import Derived.Test.YtoelekhkgknneaaDoorVd
set_option linter.unusedSimpArgs false
set_option linter.unusedVariables false
namespace Go.Proofs.YtoelekhkgknneaaDoor
open Go.RowKit

theorem gA_at {r : Ru} {l : List Int} {k : Nat} (hk : k < l.length) : (goL r l)[k]? = some (gA r l k) := by unfold goL; rw [List.getElem?_map, List.getElem?_range hk]; rfl
theorem rdB {w : World} {A : Option Addr} {l : List Bool} (h : Rd bC 1 w A l) {k : Nat} (hk : k < l.length) :
    ∃ x b off, l[k]? = some x ∧ A = some ⟨b, off, none⟩ ∧ b < w.heap.size ∧ w.cell? ⟨b, off + k, none⟩ = some (.bool x) := by
  obtain ⟨x, hx⟩ := get_lt hk
  obtain ⟨b, off, e, hb, hc⟩ := h.get hx
  exact ⟨x, b, off, hx, e, hb, by simpa using hc 0 _ rfl⟩
theorem own_bools {w : World} {b : Nat} {v : Value} {l : List Bool} (h : w.ownsRow b 4 1 v l.length (fl bC l)) : ∃ A c, v = .slice A l.length c ∧ Rd bC 1 w A l := own_rd bC_len h
theorem a_z {r : Ru} {l : List Int} (h : aE r l = 0) : vRu r = true ∧ vGu l = true := by
  unfold aE at h
  split at h
  · rename_i h1; rwa [Bool.and_eq_true] at h1
  · omega
def goE (r : Ru) (l : List Int) (m : Int) : Int := if aE r l = 0 then (if wn m 0 ((l.length : Int) - 1) = true then 0 else 7) else 1
def goB (r : Ru) (l : List Int) (m : Int) : Bool := if goE r l m = 0 then gA r l m.toNat else false
theorem aE_one {r : Ru} {l : List Int} (h : ¬ aE r l = 0) : aE r l = 1 := by
  unfold aE at h ⊢
  split at h
  · omega
  · rename_i h1; rw [if_neg h1]
/-- a row of the call's own: its cells -/
theorem own_cell {W : World} {base : Nat} {e : TypeId} {sz g n cap : Nat} {xs : List Value} (h : W.ownsRow base e sz (.slice (some ⟨g, 0, none⟩) n cap) n xs) {j : Nat} {u : Value} (hj : xs[j]? = some u) : W.cell? ⟨g, j, none⟩ = some u ∧ W.frozen? ⟨g, j, none⟩ = false := by
  rcases h.2 with ⟨h0, _⟩ | ⟨g', cap', cur, e1, hB, hh, h1, h2, h3, h4⟩
  · cases h0
  · injection e1 with a1 a2 a3
    injection a1 with a1
    injection a1 with a1
    subst a1
    have hb : Blk W g e cur := hh
    refine ⟨?_, hb.frozen j⟩
    rw [hb.cell j]
    rw [← h4, List.getElem?_take] at hj
    split at hj
    · simpa using hj
    · cases hj
theorem own_put {W : World} {base : Nat} {e : TypeId} {sz g n cap : Nat} {xs : List Value} (h : W.ownsRow base e sz (.slice (some ⟨g, 0, none⟩) n cap) n xs) (j : Nat) (u : Value) : (W.setCell ⟨g, j, none⟩ u).ownsRow base e sz (.slice (some ⟨g, 0, none⟩) n cap) n (xs.set j u) := by
  refine ⟨by rw [List.length_set]; exact h.1, ?_⟩
  rcases h.2 with ⟨h0, _⟩ | ⟨g', cap', cur, e1, hB, hh, h1, h2, h3, h4⟩
  · cases h0
  · injection e1 with a1 a2 a3
    injection a1 with a1
    injection a1 with a1
    subst a1 a3
    have hb : Blk W g e cur := hh
    refine .inr ⟨g, cap, _, rfl, hB, hb.set_ j u, h1, h2, by simpa using h3, ?_⟩
    rw [← h4, Array.toList_setIfInBounds, List.take_set]
abbrev Sp := Nat × Nat
def pC (x : Sp) : List Value := [.int .i64 (x.1 : Int), .int .i64 (x.2 : Int)]
theorem pC_len (x : Sp) : (pC x).length = 2 := rfl
/-- the spans, as long as can be, of the first k minutes in which something is so -/
def spS (p : Nat → Bool) : Nat → List Sp
  | 0 => []
  | k + 1 => if p k = true then (match (spS p k).getLast? with
      | some (a, b) => if b = k then (spS p k).dropLast ++ [(a, k + 1)] else spS p k ++ [(k, k + 1)]
      | none => [(k, k + 1)]) else spS p k
theorem spS_no {p : Nat → Bool} {k : Nat} (h : p k = false) : spS p (k + 1) = spS p k := by rw [spS, if_neg (by simp [h])]
theorem spS_new {p : Nat → Bool} {k : Nat} (h : p k = true) (h2 : ∀ a b, (spS p k).getLast? = some (a, b) → b ≠ k) : spS p (k + 1) = spS p k ++ [(k, k + 1)] := by
  rw [spS, if_pos h]
  split
  · rename_i a b hl; rw [if_neg (h2 a b hl)]
  · rename_i hl; rw [List.getLast?_eq_none_iff] at hl; rw [hl]; rfl
theorem spS_long {p : Nat → Bool} {k : Nat} {s : List Sp} {a : Nat} (h : p k = true) (h2 : spS p k = s ++ [(a, k)]) : spS p (k + 1) = s ++ [(a, k + 1)] := by
  rw [spS, if_pos h, h2]
  simp
theorem spS_len (p : Nat → Bool) : ∀ k, (spS p k).length ≤ k
  | 0 => Nat.le_refl _
  | k + 1 => by
    have ih := spS_len p k
    unfold spS
    split
    · split
      · split
        · rename_i a b hl _
          have : spS p k ≠ [] := by intro e; rw [e] at hl; cases hl
          have := List.length_pos_iff.2 this
          rw [List.length_append, List.length_dropLast]; simp; omega
        · rw [List.length_append]; simp; omega
      · simp
    · omega
theorem spS_bd (p : Nat → Bool) : ∀ k, ∀ x ∈ spS p k, x.1 < x.2 ∧ x.2 ≤ k
  | 0, x, h => by cases h
  | k + 1, x, h => by
    have ih := spS_bd p k
    unfold spS at h
    split at h
    · split at h
      · rename_i a b hl
        have hm : (a, b) ∈ spS p k := List.mem_of_getLast? hl
        split at h
        · rcases List.mem_append.1 h with h | h
          · have := ih x ((List.dropLast_sublist (spS p k)).subset h); omega
          · have : x = (a, k + 1) := by simpa using h
            subst this
            have := ih _ hm
            simp at this ⊢; omega
        · rcases List.mem_append.1 h with h | h
          · have := ih x h; omega
          · have : x = (k, k + 1) := by simpa using h
            subst this; simp
      · have : x = (k, k + 1) := by simpa using h
        subst this; simp
    · have := ih x h; omega
theorem info_span : ∃ i : TypeInfo, Tryd.prog.info? 88 = some i ∧ i.zero = some (.agg #[.int .i64 0, .int .i64 0]) ∧ i.size = 2 ∧ i.bytes = 16 := info_parts (by kernel_rfl)
theorem pC_new (k : Nat) : pC (k, k + 1) = [.int .i64 (k : Int), .int .i64 ((k : Int) + 1)] := rfl
set_option maxHeartbeats 2000000 in
set_option maxRecDepth 20000 in
theorem p_spans (n : Nat) (p : Nat → Bool) (f : FuncId) (cap : Array Value) (w : World) (hn : n ≤ 100000)
    (he : ∀ args W, (callFunc f args).run Tryd.prog W = .ok (.enter f args) W)
    (hf : ∀ W t, Below w.heap.size w W → t < n → Calls Tryd.prog f (#[.int .i64 (t : Nat)] ++ cap) W fun e W' => e = .returned (.bool (p t)) ∧ Below W.heap.size W W') :
    Calls Tryd.prog 88 #[.int .i64 (n : Nat), .func (.func f) #[] cap] w fun e w' => ∃ v, e = .returned v ∧ w'.ownsRow w.heap.size 88 2 v (spS p n).length (fl pC (spS p n)) ∧ Below w.heap.size w w' := by
  have HF := Lib.hid hf
  have HLn := Lib.hid (spS_len p)
  have HBD := Lib.hid (spS_bd p)
  obtain ⟨i0, hi, hi1, hi2, hi3⟩ := info_span
  clear hf
  go_enter Tryd.func88, Tryd.ntmps88
  go_wp2
  go_loopw [5, 9] (fun v i wr => ∃ k : Nat, k ≤ n ∧ i = .int .i64 k ∧ Below w.heap.size w wr ∧ wr.ownsRow w.heap.size 88 2 v (spS p k).length (fl pC (spS p k))) (fun _ i _ => n - (intOf i).toNat)
  case atStart => exact ⟨0, by omega, rfl, below_refl _, World.ownsRow_nil w _ _ _⟩
  case round =>
    obtain ⟨k, hk, rfl, hbw, hown⟩ := hrel
    obtain ⟨ad, cp, rfl⟩ := own_slice hown
    have k0 : (0 : Int) ≤ (k : Int) := Int.natCast_nonneg _
    have hlen := HLn.out k
    by_cases hlt : k < n
    · have k1 : (k : Int) < (n : Int) := by omega
      have HC := Lib.hid (HF.out wr k hbw hlt)
      have hz : ∀ (w1 : World) (j : Nat) u, (pC (k, k + 1))[j]? = some u → (w1.alloc (.cells #[.int .i64 (k : Int), .int .i64 ((k : Int) + 1)] 88)).cell? ((⟨w1.heap.size, 0, none⟩ : Addr).add j) = some u := fun w1 j u hu => cells_new w1 (pC (k, k + 1)) 88 j u hu
      have HZ := Lib.hid hz
      clear hz
      have HIN : Hid (∀ s : List Sp, (s ++ [(k, k + 1)]).length = s.length + 1) := Lib.hid (fun s => by simp)
      cases hp : p k
      · rw [hp] at HC
        have HST := Lib.hid (spS_no hp)
        generalize spS p k = S at *
        clear hp
        go_wp2_with fail
        refine HC.out.mono ?_
        rintro e w1 ⟨rfl, hb1⟩
        go_wp2
        go_roundw
        case rel => exact ⟨k + 1, by omega, by go_num, below_tr hbw hb1, by rw [HST.out]; exact own_on hown hb1⟩
        case measure => simp [intOf]; omega
      · rw [hp] at HC
        rcases List.eq_nil_or_concat (spS p k) with hS | ⟨s, ⟨a, b⟩, hS⟩
        · have HST := Lib.hid (spS_new hp (by rw [hS]; simp))
          have hl0 : (spS p k).length = 0 := by rw [hS]; rfl
          rw [hl0] at hown ⊢
          rw [hS] at hown HST
          clear hp hS hl0
          go_wp2_with fail
          refine HC.out.mono ?_
          rintro e w1 ⟨rfl, hb1⟩
          have B1 := below_tr hbw hb1
          have o1 := own_on hown hb1
          go_wp2_with (at_builtin; go_loud (refine wpList_append_own _ rfl _ _ 83 rfl w.heap.size 88 i0 (.agg #[.int .i64 0, .int .i64 0]) 2 16 (by kernel_rfl) hi hi1 hi2 hi3 rfl (by omega) _ _ _ rfl (o1.alloc _) ⟨w1.heap.size, 0, none⟩ 1 1 (pC (k, k + 1)) rfl rfl (HZ.out w1) (fun u hu => by simp [pC] at hu; rcases hu with rfl | rfl <;> rfl) (by unfold maxLen; omega) (by omega) (by simp; have := B1.size; omega) ?_; intro v' w4 hown4 hgrow _))
          go_roundw
          case rel => exact ⟨k + 1, by omega, by go_num, bl_app B1 o1 hgrow (Nat.le_refl _) B1.size, by rw [HST.out]; exact hown4⟩
          case measure => simp [intOf]; omega
        · rw [List.concat_eq_append] at hS
          have hb : a < b ∧ b ≤ k := HBD.out k (a, b) (by rw [hS]; simp)
          have hsl : (spS p k).length = s.length + 1 := by rw [hS]; simp
          by_cases hbk : b = k
          · rw [hbk] at hS
            have HST := Lib.hid (spS_long hp hS)
            rw [hsl] at hown ⊢
            rw [hS] at hown
            obtain ⟨g, cp2, e1⟩ := ownsRow_succ hown
            cases e1
            have hfl : fl pC (s ++ [(a, k)]) = fl pC s ++ [.int .i64 (a : Int), .int .i64 (k : Int)] := by rw [fl_snoc]; rfl
            have hfl2 : (fl pC s).length = s.length * 2 := fl_length pC_len s
            rw [hfl] at hown
            have HROW := Lib.hid (fun (W : World) (o : W.ownsRow w.heap.size 88 2 (.slice (some ⟨g, 0, none⟩) (s.length + 1) cp) (s.length + 1) (fl pC s ++ [.int .i64 (a : Int), .int .i64 (k : Int)])) => own_cell o (j := s.length * 2 + 1) (u := .int .i64 (k : Int)) (by rw [List.getElem?_append_right (by omega), hfl2]; rw [show s.length * 2 + 1 - s.length * 2 = 1 by omega]; rfl))
            have HSET := Lib.hid (fun (W : World) (o : W.ownsRow w.heap.size 88 2 (.slice (some ⟨g, 0, none⟩) (s.length + 1) cp) (s.length + 1) (fl pC s ++ [.int .i64 (a : Int), .int .i64 (k : Int)])) => show (W.setCell ⟨g, s.length * 2 + 1, none⟩ (.int .i64 ((k : Int) + 1))).ownsRow w.heap.size 88 2 (.slice (some ⟨g, 0, none⟩) (s.length + 1) cp) (s ++ [(a, k + 1)]).length (fl pC (s ++ [(a, k + 1)])) by
              have h1 := own_put o (s.length * 2 + 1) (.int .i64 ((k : Int) + 1))
              rw [List.set_append_right _ _ (by omega), hfl2, show s.length * 2 + 1 - s.length * 2 = 1 by omega] at h1
              rw [fl_snoc, List.length_append]
              exact h1)
            have hgB := (own_ge hown g rfl).1
            have s0 : (0 : Int) ≤ (s.length : Int) := Int.natCast_nonneg _
            have s1 : (s.length : Int) < ((s.length + 1 : Nat) : Int) := by omega
            have hqk : s.length + 1 ≤ k := by omega
            clear hp hS hsl hfl hfl2
            generalize hq : s.length = q at *
            have HQ := Lib.hid hq
            clear hq
            go_wp2_with fail
            refine HC.out.mono ?_
            rintro e w1 ⟨rfl, hb1⟩
            have B1 := below_tr hbw hb1
            have o1 := own_on hown hb1
            obtain ⟨q0, f0⟩ := HROW.out w1 o1
            go_wp2
            go_roundw
            case rel => exact ⟨k + 1, by omega, by go_num, B1.setCell (p := ⟨g, _, none⟩) hgB _, by rw [HST.out]; have := HSET.out w1 o1; have h3 : (s ++ [(a, k + 1)]).length = q + 1 := (by rw [List.length_append, HQ.out]; rfl); rw [h3] at this ⊢; exact this⟩
            case measure => simp [intOf]; omega
          · have HST := Lib.hid (spS_new hp (by rw [hS]; simp; omega))
            have hneg : ((b : Int) == (k : Int)) = false := by simp; omega
            rw [hsl] at hown ⊢
            rw [hS] at hown
            obtain ⟨g, cp2, e1⟩ := ownsRow_succ hown
            cases e1
            have hfl : fl pC (s ++ [(a, b)]) = fl pC s ++ [.int .i64 (a : Int), .int .i64 (b : Int)] := by rw [fl_snoc]; rfl
            have hfl2 : (fl pC s).length = s.length * 2 := fl_length pC_len s
            have HROW := Lib.hid (fun (W : World) (o : W.ownsRow w.heap.size 88 2 (.slice (some ⟨g, 0, none⟩) (s.length + 1) cp) (s.length + 1) (fl pC (s ++ [(a, b)]))) => own_cell o (j := s.length * 2 + 1) (u := .int .i64 (b : Int)) (by rw [hfl, List.getElem?_append_right (by omega), hfl2]; rw [show s.length * 2 + 1 - s.length * 2 = 1 by omega]; rfl))
            have HLS := Lib.hid (show (spS p (k + 1)).length = s.length + 1 + 1 by rw [HST.out, List.length_append, hsl]; rfl)
            have HFS := Lib.hid (show fl pC (spS p (k + 1)) = fl pC (s ++ [(a, b)]) ++ pC (k, k + 1) by rw [HST.out, hS, fl_snoc])
            have s0 : (0 : Int) ≤ (s.length : Int) := Int.natCast_nonneg _
            have s1 : (s.length : Int) < ((s.length + 1 : Nat) : Int) := by omega
            have hqk : s.length + 1 ≤ k := by omega
            clear hp hS hsl hfl hfl2
            generalize s.length = q at *
            go_wp2_with fail
            refine HC.out.mono ?_
            rintro e w1 ⟨rfl, hb1⟩
            have B1 := below_tr hbw hb1
            have o1 := own_on hown hb1
            obtain ⟨q0, f0⟩ := HROW.out w1 o1
            go_wp2_with (at_builtin; go_loud (refine wpList_append_own _ rfl _ _ 83 rfl w.heap.size 88 i0 (.agg #[.int .i64 0, .int .i64 0]) 2 16 (by kernel_rfl) hi hi1 hi2 hi3 rfl (by omega) _ _ _ rfl (o1.alloc _) ⟨w1.heap.size, 0, none⟩ 1 1 (pC (k, k + 1)) rfl rfl (HZ.out w1) (fun u hu => by simp [pC] at hu; rcases hu with rfl | rfl <;> rfl) (by unfold maxLen; omega) (by omega) (by simp; have := B1.size; omega) ?_; intro v' w4 hown4 hgrow _))
            go_roundw
            case rel => exact ⟨k + 1, by omega, by go_num, bl_app B1 o1 hgrow (Nat.le_refl _) B1.size, by rw [HLS.out, HFS.out]; exact hown4⟩
            case measure => simp [intOf]; omega
    · obtain rfl : k = n := by omega
      go_wp2
      go_ret
      exact ⟨_, rfl, hown, hbw⟩
end Go.Proofs.YtoelekhkgknneaaDoor
