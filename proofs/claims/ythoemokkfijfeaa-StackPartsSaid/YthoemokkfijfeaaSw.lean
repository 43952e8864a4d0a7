/- Stack: copies of a stack; turned and shifted stacks. -/
import Derived.Test.YthoemokkfijfeaaSr
import Derived.ArgAppend
namespace Go.Proofs.Ythoemokkfijfeaa
open Go.RowKit

def flat (l : List Course) : List Value := l.flatMap Course.cs
theorem cs_length (x : Course) : x.cs.length = 6 := rfl
theorem flat_length (l : List Course) : (flat l).length = l.length * 6 := by
  induction l with
  | nil => rfl
  | cons x l ih => simp only [flat, List.flatMap_cons, List.length_append, List.length_cons, cs_length] at ih ⊢; omega
theorem flat_at {l : List Course} {j : Nat} {u : Value} (h : (flat l)[j]? = some u) : ∃ k x r, j = k * 6 + r ∧ l[k]? = some x ∧ (Course.cs x)[r]? = some u := by
  induction l generalizing j with
  | nil => simp [flat] at h
  | cons y l ih =>
    simp only [flat, List.flatMap_cons] at h
    rcases Nat.lt_or_ge j 6 with hj | hj
    · rw [List.getElem?_append_left (by rw [cs_length]; exact hj)] at h
      exact ⟨0, y, j, by omega, rfl, h⟩
    · rw [List.getElem?_append_right (by rw [cs_length]; exact hj), cs_length] at h
      obtain ⟨k, x, r, e, hx, hu⟩ := ih h
      exact ⟨k + 1, x, r, by omega, hx, hu⟩
theorem flat_get {l : List Course} {k : Nat} {x : Course} {r : Nat} {u : Value} (hx : l[k]? = some x) (hu : (Course.cs x)[r]? = some u) : (flat l)[k * 6 + r]? = some u := by
  have hr : r < 6 := by
    rcases Nat.lt_or_ge r 6 with h | h
    · exact h
    · rw [List.getElem?_eq_none (by rw [cs_length]; exact h)] at hu; cases hu
  induction l generalizing k with
  | nil => simp at hx
  | cons y l ih =>
    simp only [flat, List.flatMap_cons]
    cases k with
    | zero =>
      cases hx
      rw [List.getElem?_append_left (by rw [cs_length]; omega)]; simpa using hu
    | succ k =>
      rw [List.getElem?_append_right (by rw [cs_length]; omega), cs_length, show (k + 1) * 6 + r - 6 = k * 6 + r by omega]
      exact ih hx
theorem rd_flat {w : World} {b off : Nat} {l : List Course} (h : Rd Course.cs 6 w (some ⟨b, off, none⟩) l) : ∀ j u, (flat l)[j]? = some u → w.cell? ((⟨b, off, none⟩ : Addr).add j) = some u := fun j u hj => by
  obtain ⟨k, x, r, rfl, hx, hu⟩ := flat_at hj
  obtain ⟨b', off', e, _, hc⟩ := h.get hx
  cases e
  have := hc r u hu
  rw [show (⟨b, off, none⟩ : Addr).add (k * 6 + r) = ⟨b, off + (k * 6 + r), none⟩ by unfold Addr.add; split <;> simp_all, ← Nat.add_assoc]
  exact this
theorem flat_one (l : List Course) : ∀ u ∈ flat l, u.oneCell' = true := fun u hu => by
  simp only [flat, List.mem_flatMap, Course.cs] at hu
  obtain ⟨x, _, hx⟩ := hu
  simp only [List.mem_cons, List.not_mem_nil, or_false] at hx
  rcases hx with rfl | rfl | rfl | rfl | rfl | rfl <;> rfl

theorem info_course : ∃ i : TypeInfo, Try.prog.info? 35 = some i ∧ i.zero = some (.agg #[.int .i64 0, .int .i64 0, .int .i64 0, .int .i64 0, .int .i64 0, .int .i64 0]) ∧ i.size = 6 ∧ i.bytes = 48 := info_parts (by kernel_rfl)

theorem own_empty (w : World) (t : TypeId) (sz : Nat) : (w.alloc (.cells #[] t)).ownsRow w.heap.size t sz (.slice (some ⟨w.heap.size, 0, none⟩) 0 0) 0 [] :=
  ⟨by simp, .inr ⟨w.heap.size, 0, #[], rfl, Nat.le_refl _, World.alloc_heap_new w _, Nat.le_refl _, by simp, by simp, by simp⟩⟩
theorem not_nil (a : Addr) (n c : Nat) (W : World) : (binOp .eql 22 (.slice (some a) n c) (.slice none 0 0)).run Try.prog W = .ok (.bool false) W := by kernel_rfl

set_option maxRecDepth 20000 in
theorem s_clone (b off : Nat) (l : List Course) (c : Nat) (w : World) (h0 : 0 < l.length) (hl : l.length ≤ 60) (hR : Rd Course.cs 6 w (some ⟨b, off, none⟩) l) :
    Calls Try.prog 67 #[.slice (some ⟨b, off, none⟩) l.length c] w fun e w' =>
      ∃ v, e = .returned v ∧ w'.ownsRow w.heap.size 35 6 v l.length (flat l) ∧ Below w.heap.size w w' := by
  obtain ⟨i0, hi, hi1, hi2, hi3⟩ := info_course
  have HR := Lib.hid (fun o => rd_flat (hR.on (below_alloc w o)))
  have hnn := not_nil ⟨b, off, none⟩ l.length c w
  go_enter Try.func67, Try.ntmps67
  go_wp2_with (at_builtin; go_loud (refine wpList_append_own _ rfl _ _ 22 rfl w.heap.size 35 i0 _ 6 48 (by kernel_rfl) hi hi1 hi2 hi3 rfl (by omega) _ _ _ rfl (own_empty w _ 6) ⟨b, off, none⟩ l.length c (flat l) rfl (flat_length l) (HR.out _) (flat_one l) (by unfold maxLen; omega) (by omega) (by simp) ?_; intro v w1 hown hgrow _; rw [Nat.zero_add, List.nil_append] at hown))
  go_ret
  exact ⟨_, rfl, hown, below_grown (below_alloc w _) hgrow (fun r hr => by cases hr; exact Nat.le_refl _) (by simp)⟩

/-- v is a stack of the call's own. -/
def OwnS (W : World) (base : Nat) (v : Value) (l : List Course) : Prop := ∃ g cap cur, v = .slice (some ⟨g, 0, none⟩) l.length cap ∧ base ≤ g ∧ Blk W g 35 cur ∧ ∀ (k : Nat) x, l[k]? = some x → ∀ (r : Nat) u, (Course.cs x)[r]? = some u → cur[k * 6 + r]? = some u
theorem ownS_of {W : World} {base : Nat} {v : Value} {l : List Course} (h : W.ownsRow base 35 6 v l.length (flat l)) (h0 : 0 < l.length) : OwnS W base v l := by
  rcases h.2 with ⟨rfl, h1⟩ | ⟨g, cap, cur, rfl, hB, hh, h1, h2, h3, h4⟩
  · omega
  · refine ⟨g, cap, cur, rfl, hB, hh, fun k x hx r u hu => ?_⟩
    have h5 := flat_get hx hu
    have hr : r < 6 := by
      rcases Nat.lt_or_ge r 6 with h | h
      · exact h
      · rw [List.getElem?_eq_none (by rw [cs_length]; exact h)] at hu; cases hu
    have hk : k < l.length := (List.getElem?_eq_some_iff.1 hx).1
    rw [← h4, List.getElem?_take, if_pos (by omega), Array.getElem?_toList] at h5
    exact h5
theorem OwnS.rd {W : World} {base : Nat} {v : Value} {l : List Course} (h : OwnS W base v l) : ∃ A c, v = .slice A l.length c ∧ Rd Course.cs 6 W A l := by
  obtain ⟨g, cap, cur, rfl, hB, hb, hc⟩ := h
  exact ⟨_, _, rfl, fun _ => ⟨g, 0, rfl, hb.lt, fun k x hx r u hu => by rw [Nat.zero_add, hb.cell]; exact hc k x hx r u hu⟩⟩
theorem OwnS.on {W W' : World} {base : Nat} {v : Value} {l : List Course} (h : OwnS W base v l) (hb : Below W.heap.size W W') : OwnS W' base v l := by
  obtain ⟨g, cap, cur, rfl, hB, hbk, hc⟩ := h
  exact ⟨g, cap, cur, rfl, hB, hbk.below hb hbk.lt, hc⟩
/-- Two fields of one course are written: its place. -/
theorem upd_at {l : List Course} {cur : Array Value} {k : Nat} {x y : Course} {e n : Int} (hc : ∀ (k : Nat) x, l[k]? = some x → ∀ (r : Nat) u, (Course.cs x)[r]? = some u → cur[k * 6 + r]? = some u) (hx : l[k]? = some x)
    (hy : y = { x with e := e, n := n }) : ∀ (k' : Nat) z, (l.set k y)[k']? = some z → ∀ (r : Nat) u, (Course.cs z)[r]? = some u → ((cur.setIfInBounds (k * 6 + 4) (.int .i64 e)).setIfInBounds (k * 6 + 5) (.int .i64 n))[k' * 6 + r]? = some u := fun k' z hz r u hu => by
  have hr : r < 6 := by
    rcases Nat.lt_or_ge r 6 with h | h
    · exact h
    · rw [List.getElem?_eq_none (by rw [cs_length]; exact h)] at hu; cases hu
  have h4 := hc k x hx 4 _ rfl
  have h5 := hc k x hx 5 _ rfl
  have l4 := (Array.getElem?_eq_some_iff.1 h4).1
  have l5 := (Array.getElem?_eq_some_iff.1 h5).1
  by_cases hk : k = k'
  · subst hk
    have hkl : k < l.length := (List.getElem?_eq_some_iff.1 hx).1
    rw [List.getElem?_set_self hkl] at hz
    cases hz
    subst hy
    rcases (by omega : r < 4 ∨ r = 4 ∨ r = 5) with h | rfl | rfl
    · rw [Array.getElem?_setIfInBounds_ne (by omega), Array.getElem?_setIfInBounds_ne (by omega)]
      refine hc k x hx r u ?_
      rcases (by omega : r = 0 ∨ r = 1 ∨ r = 2 ∨ r = 3) with rfl | rfl | rfl | rfl <;> exact hu
    · rw [Array.getElem?_setIfInBounds_ne (by omega), Array.getElem?_setIfInBounds_self_of_lt l4]; exact hu
    · rw [Array.getElem?_setIfInBounds_self_of_lt (by simpa using l5)]; exact hu
  · rw [List.getElem?_set_ne hk] at hz
    rw [Array.getElem?_setIfInBounds_ne (by omega), Array.getElem?_setIfInBounds_ne (by omega)]
    exact hc k' z hz r u hu
/-- The same, written in the other order. -/
theorem upd_at' {cur : Array Value} {k : Nat} {a b : Value} : (cur.setIfInBounds (k * 6 + 5) b).setIfInBounds (k * 6 + 4) a = (cur.setIfInBounds (k * 6 + 4) a).setIfInBounds (k * 6 + 5) b := Array.setIfInBounds_comm _ _ (by omega)

def turn (x : Course) : Course := { x with e := -x.n, n := x.e }
def turnN : Nat → List Course → List Course
  | 0, l => l
  | k + 1, l => (turnN k l).map turn
theorem turnN_length (k : Nat) (l : List Course) : (turnN k l).length = l.length := by
  induction k with
  | zero => rfl
  | succ k ih => simp [turnN, ih]
theorem turn_sound {x : Course} (h : soundB x = true) : soundB (turn x) = true := by
  simp only [soundB, turn, Bool.and_eq_true, decide_eq_true_eq, wn_iff] at h ⊢
  obtain ⟨a, b, c, d, e, f, g⟩ := h
  exact ⟨a, decide_eq_true b, decide_eq_true c, decide_eq_true d, e, by omega, by omega⟩
theorem turnN_sound {k : Nat} {l : List Course} (h : l.all soundB = true) : (turnN k l).all soundB = true := by
  induction k with
  | zero => exact h
  | succ k ih =>
    simp only [turnN, List.all_map, List.all_eq_true, Function.comp] at ih ⊢
    exact fun x hx => turn_sound (ih x hx)

def mix (k : Nat) (L : List Course) : List Course := (L.take k).map turn ++ L.drop k
theorem mix_length (k : Nat) (L : List Course) : (mix k L).length = L.length := by simp [mix]; omega
theorem mix_get {k : Nat} {L : List Course} {x : Course} (h : L[k]? = some x) : (mix k L)[k]? = some x := by
  have hk := (List.getElem?_eq_some_iff.1 h).1
  unfold mix
  rw [List.getElem?_append_right (by simp; omega), List.getElem?_drop]
  simp only [List.length_map, List.length_take]
  rw [show k + (k - min k L.length) = k by omega]; exact h
theorem mix_set {k : Nat} {L : List Course} {x : Course} (h : L[k]? = some x) : (mix k L).set k (turn x) = mix (k + 1) L := by
  have hk := (List.getElem?_eq_some_iff.1 h).1
  unfold mix
  rw [List.set_append_right _ _ (by simp; omega), hs_drop h, List.take_add_one, h]
  simp only [List.length_map, List.length_take, Option.toList_some, List.map_append, List.map_cons, List.map_nil, List.append_assoc]
  rw [show k - min k L.length = 0 by omega]; rfl
theorem mix_zero (L : List Course) : mix 0 L = L := by simp [mix]
theorem mix_all (L : List Course) : mix L.length L = L.map turn := by simp [mix]

def turnedE (l : List Course) : Int := if validC l then 0 else 1
def quart (q : Int) : Nat := ((q.tmod 4 + 4).tmod 4).toNat

set_option maxHeartbeats 1000000 in
theorem s_turned (A : Option Addr) (l : List Course) (c : Nat) (q : Int) (w : World) (hl : l.length ≤ 100000) (hR : Rd Course.cs 6 w A l) :
    Calls Try.prog 25 #[.slice A l.length c, .int .i64 q] w fun e w' => ∃ v, e = .returned (.tuple #[v, .int .i64 (turnedE l)]) ∧ (if validC l then OwnS w' w.heap.size v (turnN (quart q) l) else v = .slice none 0 0) ∧ Below w.heap.size w w' := by
  have HC := Lib.hid (s_valid A l c w hl hR)
  cases hv : validC l
  · rw [hv] at HC
    have HV := Lib.hid hv
    clear hv
    go_enter Try.func25, Try.ntmps25
    go_wp2_with (go_at_call 17; refine HC.out.mono ?_; rintro e w1 ⟨rfl, hb1⟩)
    go_ret2
    exact ⟨_, by simp only [turnedE, HV.out]; rfl, by simp, hb1⟩
  · rw [hv] at HC
    obtain ⟨hall, hl1, hl2⟩ := valid_all hv
    obtain ⟨b, off, rfl, hblt, _⟩ := hR (by rintro rfl; simp at hl1)
    have HL := Lib.hid (fun W (h : Below w.heap.size w W) => s_clone b off l c W (by omega) hl2 (hR.on h))
    have HV := Lib.hid hv
    have HA := Lib.hid hall
    have hq0 : 0 ≤ (q.tmod 4 + 4).tmod 4 := Int.tmod_nonneg _ (by have := Int.lt_tmod_of_pos q (show (0 : Int) < 4 by omega); omega)
    have hq1 : (q.tmod 4 + 4).tmod 4 = (quart q : Int) := by unfold quart; omega
    have hq2 : quart q < 4 := by have := Int.tmod_lt_of_pos (q.tmod 4 + 4) (show (0 : Int) < 4 by omega); omega
    have hq3 : -4 < q.tmod 4 := Int.lt_tmod_of_pos q (by omega)
    have hq4 : q.tmod 4 < 4 := Int.tmod_lt_of_pos q (by omega)
    clear hv hall
    go_enter Try.func25, Try.ntmps25
    go_wp2_with (first
      | (go_at_call 17; refine HC.out.mono ?_; rintro e w1 ⟨rfl, hb1⟩)
      | (go_at_call 67; refine (HL.out _ hb1).mono ?_; rintro e w2 ⟨v, rfl, hr2, hb2⟩; obtain ⟨g, cap, cur, rfl, hg, hbk, hcur⟩ := ownS_of hr2 (by omega)))
    go_loopw [18] (fun i wr => ∃ j : Nat, j ≤ quart q ∧ i = .int .i64 j ∧ Below w.heap.size w wr ∧ ∃ cur, Blk wr g 35 cur ∧ Hid (∀ (k : Nat) x, (turnN j l)[k]? = some x → ∀ (r : Nat) u, (Course.cs x)[r]? = some u → cur[k * 6 + r]? = some u)) (fun i _ => 4 - (intOf i).toNat)
    case atStart => exact ⟨0, by omega, rfl, below_tr hb1 hb2, cur, hbk, hcur⟩
    case round =>
      obtain ⟨j, hj, rfl, hbw, cur2, hbk2, HC2⟩ := hrel
      have hj0 : (0 : Int) ≤ (j : Int) := Int.natCast_nonneg _
      by_cases hlt : j < quart q
      · have hlt2 : (j : Int) < (quart q : Int) := by omega
        have hLl := turnN_length j l
        have HLs := Lib.hid (turnN_sound (k := j) HA.out)
        go_wp2
        go_loopw [22] (fun i wr => ∃ k : Nat, k ≤ l.length ∧ i = .int .i64 k ∧ Below w.heap.size w wr ∧ ∃ cur, Blk wr g 35 cur ∧ Hid (∀ (k' : Nat) x, (mix k (turnN j l))[k']? = some x → ∀ (r : Nat) u, (Course.cs x)[r]? = some u → cur[k' * 6 + r]? = some u)) (fun i _ => l.length - (intOf i).toNat)
        case atStart => exact ⟨0, by omega, rfl, hbw, cur2, hbk2, by show ∀ _, _; rw [mix_zero]; exact HC2.out⟩
        case round =>
          obtain ⟨k, hk, rfl, hbw3, cur3, hbk3, HC3⟩ := hrel
          have hk0 : (0 : Int) ≤ (k : Int) := Int.natCast_nonneg _
          by_cases hkl : k < l.length
          · have hkl2 : (k : Int) < (l.length : Int) := by omega
            obtain ⟨x, hx⟩ := get_lt (show k < (turnN j l).length by omega)
            have hcb : CB x := cb_of (List.all_eq_true.1 HLs.out x (List.mem_of_getElem? hx))
            have hmx := mix_get hx
            have q0 := (hbk3.cell (k * 6)).trans (HC3.out k x hmx 0 _ rfl)
            have q1 := (hbk3.cell (k * 6 + 1)).trans (HC3.out k x hmx 1 _ rfl)
            have q2 := (hbk3.cell (k * 6 + 2)).trans (HC3.out k x hmx 2 _ rfl)
            have q3 := (hbk3.cell (k * 6 + 3)).trans (HC3.out k x hmx 3 _ rfl)
            have q4 := (hbk3.cell (k * 6 + 4)).trans (HC3.out k x hmx 4 _ rfl)
            have q5 := (hbk3.cell (k * 6 + 5)).trans (HC3.out k x hmx 5 _ rfl)
            have f4 := hbk3.frozen (k * 6 + 4)
            have f5 := hbk3.frozen (k * 6 + 5)
            have hgl := hbk3.lt
            have hgw : w.heap.size ≤ g := by have := hb1.size; omega
            have hgne : g ≠ wr.heap.size := by omega
            have hgne2 : wr.heap.size ≠ g := by omega
            obtain ⟨d1, d2, d3, d4, d5, d6, d7, d8, d9, d10, d11⟩ := hcb
            have HX := Lib.hid hx
            clear hx hmx
            go_wp2
            go_region
            all_goals go_wp2
            all_goals go_roundw
            all_goals first
              | exact ⟨k + 1, by omega, by go_num, below_draw ((((hbw3.setCell (p := ⟨g, _, none⟩) hgw _).setCell (p := ⟨g, _, none⟩) hgw _).alloc (by simp [World.setCell]; exact hbw3.size) _)), _, (((hbk3.set_ _ _).set_ _ _).alloc _).drew, by show ∀ _, _; rw [← mix_set HX.out]; exact upd_at HC3.out (mix_get HX.out) rfl⟩
              | (simp [intOf]; omega)
          · obtain rfl : k = l.length := by omega
            go_wp2
            go_roundw
            case rel => exact ⟨j + 1, by omega, by go_num, hbw3, cur3, hbk3, by have := HC3.out; rw [← hLl, mix_all] at this; exact this⟩
            case measure => simp [intOf]; omega
      · obtain rfl : j = quart q := by omega
        go_wp2
        go_ret2
        exact ⟨_, by simp only [turnedE, HV.out]; rfl, ⟨g, cap, cur2, by rw [turnN_length]; rfl, by have := hb1.size; omega, hbk2, HC2.out⟩, hbw⟩
end Go.Proofs.Ythoemokkfijfeaa
