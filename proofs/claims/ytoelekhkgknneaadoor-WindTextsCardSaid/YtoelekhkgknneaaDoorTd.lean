/- Wind's texts: words and Format of the program. -/
import Derived.Test.YtoelekhkgknneaaDoorDb
import Derived.Test.YtoelekhkgknneaaDoorTb
import Derived.Lib.AppendIntMem
import Derived.Lib.AtoiErrMem
set_option linter.unusedSimpArgs false
set_option linter.unusedVariables false
namespace Go.Proofs.YtoelekhkgknneaaDoor
open Go.RowKit

abbrev TabP (w : World) : Prop := Lib.TabIs Tryd.prog w "internal/strconv.uint64pow10" .u64 Lib.pow10Tab
theorem tab_on {P : Program} {w w' : World} {name : String} {k : IntKind} {zs : List Int} (h : Lib.TabIs P w name k zs) (hb : Below w.heap.size w w') : Lib.TabIs P w' name k zs := by
  unfold Lib.TabIs World.var? at *
  cases hg : P.globalNamed name with
  | none => simp [hg] at h
  | some g =>
    simp only [hg, Option.bind_some] at h ⊢
    have hlt : g < w.heap.size := by
      rcases Nat.lt_or_ge g w.heap.size with h' | h'
      · exact h'
      · rw [Array.getElem?_eq_none h'] at h; simp at h
    rw [hb.block g hlt]
    exact h
/-- a gust's word as a string -/
def wdS (x : Int) : ByteArray := ⟨(wordL x).toArray⟩
def wdG (x : Int) : List Value := [.string (wdS x)]
theorem wdG_len (x : Int) : (wdG x).length = 1 := rfl
theorem p_wordV (x : Int) (w : World) (h0 : -9223372036854775808 ≤ x) (h1 : x ≤ 9223372036854775807) (hT : TabP w) : Calls Tryd.prog 54 #[.int .i64 x] w fun e w' => e = .returned (.string (wdS x)) ∧ Below w.heap.size w w' := by
  by_cases h : x = -1
  · subst h
    go_enter Tryd.func54, Tryd.ntmps54
    go_wp2
    go_ret
    exact ⟨rfl, below_refl _⟩
  · have HW := Lib.hid (show wdS x = ⟨(Lib.itoa x).toArray⟩ by unfold wdS wordL; rw [if_neg h])
    have HC := Lib.hid (Tryd.strconv_Itoa x h0 h1 w hT)
    have hx : (x == -1) = false := by simpa using h
    go_enter Tryd.func54, Tryd.ntmps54
    go_wp2_with (go_at_call 80; ((with_reducible refine HC.out.mono ?_); rintro e w' ⟨rfl, k, os, rfl⟩))
    go_ret
    exact ⟨by rw [HW.out]; rfl, Lib.below_grow _ _ (Nat.le_refl _) _ _⟩
/-- gusts as a text -/
def fmS (l : List Int) : ByteArray := ⟨(fmL l).toArray⟩
theorem fmS_join (l : List Int) : fmS l = ⟨(Lib.join ((l.map wdS).map (·.data.toList)) [32]).toArray⟩ := by
  unfold fmS fmL
  rw [join_joinZ, List.map_map]
  congr 2
theorem word_len {x : Int} (h0 : -1 ≤ x) (h1 : x ≤ 200) : (wordL x).length ≤ 3 := by
  unfold wordL
  split
  · simp
  · have go : ∀ n : Nat, n < 201 → (Lib.itoa (n : Int)).length ≤ 3 := by decide +kernel
    obtain ⟨n, rfl⟩ := Int.eq_ofNat_of_zero_le (show 0 ≤ x by omega)
    exact go n (by omega)
theorem fm_len : ∀ {l : List Int}, (∀ x ∈ l, -1 ≤ x ∧ x ≤ 200) → (fmL l).length ≤ 4 * l.length
  | [], _ => by simp [fmL, joinZ]
  | [x], h => by
    have := word_len (h x (List.mem_cons_self ..)).1 (h x (List.mem_cons_self ..)).2
    simp [fmL, joinZ]; omega
  | x :: y :: r, h => by
    have h1 := word_len (h x (List.mem_cons_self ..)).1 (h x (List.mem_cons_self ..)).2
    have h2 := fm_len (l := y :: r) fun z hz => h z (List.mem_cons_of_mem _ hz)
    unfold fmL at h2 ⊢
    simp only [List.map_cons, joinZ, List.length_append, List.length_cons] at h2 ⊢
    omega
set_option maxHeartbeats 2000000 in
set_option maxRecDepth 20000 in
theorem p_FormatGo (B : Option Addr) (l : List Int) (d : Nat) (w : World) (hl : l.length ≤ 100000) (hT : TabP w) (hS : Rd zC 1 w B l) (hg : vGu l = true) :
    Calls Tryd.prog 17 #[.slice B l.length d] w fun e w' => e = .returned (.string (fmS l)) ∧ Below w.heap.size w w' := by
  have H2 := Lib.hid (p_ValidGustsV (c := d) hg hl hS)
  have HX := Lib.hid (vgu_bd hg)
  have hl4 := fm_len (vgu_bd hg)
  have HJ := Lib.hid (show (Lib.join ((l.map wdS).map (·.data.toList)) [32]).length ≤ 140737488355328 by
    have : fmL l = Lib.join ((l.map wdS).map (·.data.toList)) [32] := by
      have := congrArg (fun s : ByteArray => s.data.toList) (fmS_join l)
      simpa [fmS] using this
    rw [← this]; omega)
  have HFS := Lib.hid (fmS_join l)
  obtain ⟨i0, hi, hi1, hi2, hi3⟩ := info_str
  clear hg hl4
  go_enter Tryd.func17, Tryd.ntmps17
  go_wp2_with (go_at_call 53; ((with_reducible refine (H2.out).mono ?_); rintro e w1 ⟨rfl, hb1⟩; obtain ⟨hc1, hf1⟩ := bcell hb1; have hz1 := hb1.size; (try simp [sz_drew, sz_drewN] at hz1); (try simp only [sz_drew, sz_drewN] at hc1 hf1)))
  clear hc1 hf1 hz1
  have hbs := hb1.size
  go_loopw [3, 11] (fun v i wr => ∃ k : Nat, k ≤ l.length ∧ i = .int .i64 k ∧ Below w.heap.size w wr ∧ wr.ownsRow w.heap.size 9 1 v (l.take k).length (fl wdG (l.take k))) (fun _ i _ => l.length - (intOf i).toNat)
  case atStart => exact ⟨0, by omega, rfl, hb1, World.ownsRow_nil w1 _ _ _⟩
  case round =>
    obtain ⟨k, hk, rfl, hbw, hown⟩ := hrel
    obtain ⟨ad, cp, rfl⟩ := own_slice hown
    have hbvs := hbw.size
    by_cases hlt : k < l.length
    · have k0 : (0 : Int) ≤ (k : Int) := Int.natCast_nonneg _
      have k1 : (k : Int) < (l.length : Int) := by omega
      obtain ⟨g, gb, go, hgk, rfl, hgb, c0⟩ := rd_int (hS.on hbw) hlt
      have hgx := HX.out g (List.mem_of_getElem? hgk)
      have HW := Lib.hid (p_wordV g wr (by omega) (by omega) (tab_on hT hbw))
      have hlen : (l.take k).length ≤ 100000 := by rw [List.length_take]; omega
      have HST := Lib.hid (show l.take (k + 1) = l.take k ++ [g] by rw [List.take_add_one, hgk]; rfl)
      have HZ := Lib.hid (fun (w1 : World) (j : Nat) u (hu : (wdG g)[j]? = some u) => cells_new w1 (wdG g) 9 j u hu)
      have HIN : Hid (∀ s : List Int, (s ++ [g]).length = s.length + 1) := Lib.hid (fun s => by simp)
      clear hgk hgx
      generalize l.take k = S at *
      go_wp2_with (first
        | (go_at_call 54; ((with_reducible refine HW.out.mono ?_); rintro e w3 ⟨rfl, hb3⟩; have hz3 := hb3.size))
        | (at_builtin; go_loud (refine wpList_append_own _ rfl _ _ 72 rfl w.heap.size 9 i0 (.string ByteArray.empty) 1 16 (by kernel_rfl) hi hi1 hi2 hi3 rfl (by omega) _ _ _ rfl ((own_on hown hb3).alloc _) ⟨w3.heap.size, 0, none⟩ 1 1 (wdG g) rfl rfl (HZ.out w3) (fun u hu => by simp [wdG] at hu; rcases hu with rfl; rfl) (by unfold maxLen; omega) (by omega) (by simp; omega) ?_; intro v' w4 hown4 hgrow _)))
      go_roundw
      case rel => exact ⟨k + 1, by omega, by go_num, bl_app (below_tr hbw hb3) (own_on hown hb3) hgrow (Nat.le_refl _) (Nat.le_trans hbw.size hb3.size), by rw [HST.out, HIN.out, fl_snoc]; exact hown4⟩
      case measure => simp [intOf]; omega
    · obtain rfl : k = l.length := by omega
      rw [List.take_length] at hown
      obtain ⟨A3, c3, e3, hr3, hc3, _⟩ := own_rdc wdG_len hown
      cases e3
      have HJN := Lib.hid (show Calls Tryd.prog 55 #[.slice ad l.length cp, .string ⟨#[32]⟩] wr (fun e w' => e = .returned (.string (fmS l)) ∧ Below wr.heap.size wr w') by
        by_cases h0 : l = []
        · subst h0
          refine (Tryd.strings_Join_none ad cp ⟨#[32]⟩ wr).mono ?_
          rintro e w' ⟨rfl, rfl⟩
          exact ⟨rfl, below_refl _⟩
        · obtain ⟨b, off, rfl, hlt3, hcell⟩ := hr3 h0
          have h := Tryd.strings_Join b off cp (l.map wdS) ⟨#[32]⟩ wr (fun j x hj => by
            rw [List.getElem?_map, Option.map_eq_some_iff] at hj
            obtain ⟨y, hy, rfl⟩ := hj
            simpa using hcell j y hy 0 _ rfl) hlt3 (by rw [List.length_map]; omega) (by rw [List.length_map]; exact hc3) HJ.out
          rw [List.length_map] at h
          rw [HFS.out]
          exact h)
      clear hr3 hown
      rw [List.take_length]
      go_wp2_with (go_at_call 55; ((with_reducible refine HJN.out.mono ?_); rintro e w3 ⟨rfl, hb3⟩))
      go_ret
      exact ⟨rfl, below_tr hbw hb3⟩
end Go.Proofs.YtoelekhkgknneaaDoor
