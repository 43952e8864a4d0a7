/- Wind cards: the reference's asked and going. -/
import Derived.Test.YtkigdjfagcnejaaDoorDi
set_option linter.unusedSimpArgs false
set_option linter.unusedVariables false
namespace Go.Proofs.YtkigdjfagcnejaaDoor
open Go.RowKit

/-- all that lies below W's end is as in W, but for block T -/
def Kx (w W : World) (T : Nat) (w' : World) : Prop :=
  (∀ b o, b < W.heap.size → b ≠ T → w'.cell? ⟨b, o, none⟩ = W.cell? ⟨b, o, none⟩) ∧ (∀ b o, b < W.heap.size → w'.frozen? ⟨b, o, none⟩ = W.frozen? ⟨b, o, none⟩) ∧ W.heap.size ≤ w'.heap.size ∧ Below w.heap.size w w'
section
variable {w W w' w'' : World} {T : Nat}
theorem kx_refl (h : Below w.heap.size w W) : Kx w W T W := ⟨fun _ _ _ _ => rfl, fun _ _ _ => rfl, Nat.le_refl _, h⟩
theorem kx_draw (h : Kx w W T w') : Kx w W T w'.drew := ⟨h.1, h.2.1, h.2.2.1, below_draw h.2.2.2⟩
theorem kx_step (h : Kx w W T w') (hb : Below w'.heap.size w' w'') : Kx w W T w'' :=
  ⟨fun b o h1 h2 => ((bcell hb).1 b o (Nat.lt_of_lt_of_le h1 h.2.2.1)).trans (h.1 b o h1 h2), fun b o h1 => ((bcell hb).2 b o (Nat.lt_of_lt_of_le h1 h.2.2.1)).trans (h.2.1 b o h1), Nat.le_trans h.2.2.1 hb.size, below_tr h.2.2.2 hb⟩
theorem kx_set {i : Nat} {v : Value} (h : Kx w W T w') (hT : w.heap.size ≤ T) : Kx w W T (w'.setCell ⟨T, i, none⟩ v) :=
  ⟨fun b o h1 h2 => by rw [World.cell?_setCell_far _ _ _ _ (show T ≠ b from fun e => h2 e.symm)]; exact h.1 b o h1 h2, fun b o h1 => by rw [World.frozen?_setCell]; exact h.2.1 b o h1, by rw [World.size_setCell]; exact h.2.2.1, h.2.2.2.setCell hT _⟩
end
theorem r_asked (A : Option Addr) (r : Ru) (l : List Int) (c : Nat) (w : World) (hl : l.length ≤ 100000) (hR : Rd zC 1 w A l) :
    Calls Tryd.prog 65 #[ruV r, .slice A l.length c] w fun e w' => e = .returned (.int .i64 (aE r l)) ∧ Below w.heap.size w w' := by
  have HG := Lib.hid (fun b (h : vGu l = b) W (hb : Below w.heap.size w W) => r_ValidGustsV (c := c) h hl (hR.on hb))
  have HE0 := Lib.hid (show aE r l = if (vRu r && vGu l) = true then 0 else 1 from rfl)
  clear hR
  cases h1 : vRu r
  · go_enter Tryd.func65, Tryd.ntmps65
    go_wp2_with (go_at_call 12; ((with_reducible refine (r_ValidRuleV h1 _).mono ?_); rintro e w1 ⟨rfl, hb1⟩; obtain ⟨hc1, hf1⟩ := bcell hb1; have hz1 := hb1.size; (try simp [sz_drew, sz_drewN] at hz1); (try simp only [sz_drew, sz_drewN] at hc1 hf1); have z1_0 : w.heap.size < w1.heap.size := (by omega)))
    go_ret
    exact ⟨ret_int (by rw [HE0.out, h1]; rfl), by (repeat' (first | assumption | exact below_refl _ | refine bl_alloc ?_ _ | refine Below.setCell ?_ ?_ _ | refine below_draw ?_ | refine below_drewN ?_ _ | refine below_tr ?_ (by assumption))) <;> (first | omega | (simp; done) | (simp; omega))⟩
  · cases h2 : vGu l
    all_goals
      go_enter Tryd.func65, Tryd.ntmps65
      go_wp2_with (first
        | ((go_at_call 12; ((with_reducible refine (r_ValidRuleV h1 _).mono ?_); rintro e w1 ⟨rfl, hb1⟩; obtain ⟨hc1, hf1⟩ := bcell hb1; have hz1 := hb1.size; (try simp [sz_drew, sz_drewN] at hz1); (try simp only [sz_drew, sz_drewN] at hc1 hf1); have z1_0 : w.heap.size < w1.heap.size := (by omega))); have B1 : Below w.heap.size w w1 := (by (repeat' (first | assumption | exact below_refl _ | refine bl_alloc ?_ _ | refine Below.setCell ?_ ?_ _ | refine below_draw ?_ | refine below_drewN ?_ _ | refine below_tr ?_ (by assumption))) <;> (first | omega | (simp; done) | (simp; omega))))
        | (go_at_call 30; ((with_reducible refine (HG.out _ h2 _ B1).mono ?_); rintro e w' ⟨rfl, rfl⟩)))
      go_ret
      exact ⟨ret_int (by rw [HE0.out, h1, h2]; rfl), by (repeat' (first | assumption | exact below_refl _ | refine bl_alloc ?_ _ | refine Below.setCell ?_ ?_ _ | refine below_draw ?_ | refine below_drewN ?_ _ | refine below_tr ?_ (by assumption))) <;> (first | omega | (simp; done) | (simp; omega))⟩
theorem made_bools (n : Nat) : (madeCells (Value.bool false).cells (n * 1)).toList = fl bC (List.replicate n false) := by
  have : (Value.bool false).cells = #[.bool false] := rfl
  rw [this, Nat.mul_one, toList_madeCells_one]
  induction n with
  | zero => rfl
  | succ n ih => rw [List.replicate_succ, ih, List.replicate_succ]; rfl
/-- what has been told of k minutes -/
def ggL (r : Ru) (l : List Int) (k : Nat) : List Bool := (List.range l.length).map fun i => if i < k then gA r l i else false
theorem ggL_len (r : Ru) (l : List Int) (k : Nat) : (ggL r l k).length = l.length := by unfold ggL; simp
theorem ggL_zero (r : Ru) (l : List Int) : ggL r l 0 = List.replicate l.length false := by
  unfold ggL
  apply List.ext_getElem
  · simp
  · intro i h1 h2; simp
theorem ggL_all (r : Ru) (l : List Int) : ggL r l l.length = goL r l := by
  unfold ggL goL
  apply List.map_congr_left
  intro i hi
  rw [if_pos (by simpa using hi)]
theorem ggL_at (r : Ru) (l : List Int) (k i : Nat) : (ggL r l k)[i]? = if i < l.length then some (if i < k then gA r l i else false) else none := by
  unfold ggL
  rw [List.getElem?_map]
  by_cases h : i < l.length
  · rw [List.getElem?_range h, if_pos h]; rfl
  · rw [if_neg h, List.getElem?_eq_none (by simpa using h)]; rfl
theorem ggL_step (r : Ru) (l : List Int) {k : Nat} (hk : k < l.length) : ggL r l (k + 1) = (ggL r l k).set k (gA r l k) := by
  apply List.ext_getElem?
  intro i
  rw [List.getElem?_set, ggL_at, ggL_at, ggL_len]
  by_cases h : k = i
  · subst h
    rw [if_pos hk, if_pos rfl, if_pos hk, if_pos (by omega)]
  · rw [if_neg h]
    by_cases h2 : i < l.length
    · rw [if_pos h2, if_pos h2]
      by_cases h3 : i < k
      · rw [if_pos (show i < k + 1 by omega), if_pos h3]
      · rw [if_neg (show ¬ i < k + 1 by omega), if_neg h3]
    · rw [if_neg h2, if_neg h2]
theorem fl_set_b (L : List Bool) (k : Nat) (b : Bool) : (fl bC L).set k (.bool b) = fl bC (L.set k b) := by
  induction L generalizing k with
  | nil => rfl
  | cons x L ih =>
    cases k with
    | zero => rfl
    | succ k =>
      show Value.bool x :: (fl bC L).set k (.bool b) = Value.bool x :: fl bC (L.set k b)
      rw [ih]
set_option maxHeartbeats 4000000 in
set_option maxRecDepth 20000 in
theorem r_going (A : Option Addr) (r : Ru) (l : List Int) (c : Nat) (w : World) (hl : l.length ≤ 100000) (hv : vRu r = true) (hg : vGu l = true) (hR : Rd zC 1 w A l) :
    Calls Tryd.prog 66 #[ruV r, .slice A l.length c] w fun e w' => ∃ v, e = .returned (.tuple #[v, .int .i64 (stA r l l.length)]) ∧ w'.ownsRow w.heap.size 4 1 v (goL r l).length (fl bC (goL r l)) ∧ Below w.heap.size w w' := by
  have HST := Lib.hid (stA_bd hv l)
  have HRC := Lib.hid (vru hv)
  have HMB := Lib.hid made_bools
  have HZ := Lib.hid (ggL_zero r l)
  have HALL := Lib.hid (ggL_all r l)
  have HLN := Lib.hid (ggL_len r l)
  have HSTEP := Lib.hid (fun k (h : k < l.length) => ggL_step r l h)
  obtain ⟨i0, hi, hi1, hi2, hi3⟩ := info_bool
  clear hv hg
  go_enter Tryd.func66, Tryd.ntmps66
  have x0 := Blk.new w 23 #[.int .i64 r.s, .int .i64 r.g, .int .i64 r.c]
  have B0 := bl_alloc (below_refl w) (.cells #[.int .i64 r.s, .int .i64 r.g, .int .i64 r.c] 23)
  have hW0 : w.heap.size ≤ (w.alloc (.cells #[.int .i64 r.s, .int .i64 r.g, .int .i64 r.c] 23)).heap.size := by simp
  go_wp2_with (at_make; generalize w.alloc (.cells #[.int .i64 r.s, .int .i64 r.g, .int .i64 r.c] 23) = W0 at *; refine wpList_make_full _ rfl _ _ 67 rfl W0.heap.size 4 i0 (.bool false) 1 (by kernel_rfl) hi hi1 hi2 _ _ _ _ l.length rfl rfl (by simp) (by simp) (by rw [hi3]; omega) (by unfold maxLen; omega) (Nat.le_refl _) ?_; intro w1 hown1 hgrow1)
  have hn0 := x0.lt
  have B1 := bl_grown B0 hgrow1 (fun r h => by cases h) hW0
  have x1 := x0.grown hgrow1 (by intro h; cases h)
  rw [HMB.out, ← HZ.out] at hown1
  clear x0 B0 hgrow1
  generalize hG : W0.heap.size = G at *
  clear hG
  have hne : w.heap.size ≠ G := by omega
  have hs0 : Hid (stA r l 0 = -1) := Lib.hid rfl
  go_loopw [7, 8] (fun s7 s8 wr => ∃ k : Nat, k ≤ l.length ∧ s8 = .int .i64 k ∧ s7 = .int .i64 (stA r l k) ∧ Below w.heap.size w wr ∧ Blk wr w.heap.size 23 #[.int .i64 r.s, .int .i64 r.g, .int .i64 r.c] ∧ wr.ownsRow G 4 1 (.slice (some ⟨G, 0, none⟩) l.length l.length) l.length (fl bC (ggL r l k))) (fun _ s8 _ => l.length - (intOf s8).toNat)
  case atStart => exact ⟨0, by omega, rfl, by rw [hs0.out], B1, x1, hown1⟩
  case round =>
    clear B1 x1 hown1
    obtain ⟨k, hk, rfl, rfl, hbw, x8, hown⟩ := hrel
    have k0 : (0 : Int) ≤ (k : Int) := Int.natCast_nonneg _
    by_cases hlt : k < l.length
    · have k1 : (k : Int) < (l.length : Int) := by omega
      obtain ⟨x, b, off, hx, rfl, hb, d0⟩ := rd_int (hR.on hbw) hlt
      have hbG : b < w.heap.size := by
        obtain ⟨b', off', e, hb', _⟩ := hR (by intro e; rw [e] at hlt; simp at hlt)
        cases e; exact hb'
      have hbne : b ≠ G := by omega
      have hlx : l.getD k 0 = x := getD_of hx
      have HSN := Lib.hid (show stA r l (k + 1) = nx r (stA r l k) x by rw [stA, hlx])
      have HGN := Lib.hid (show gA r l k = gB r (stA r l k) x by unfold gA; rw [hlx])
      have HN := Lib.hid (fun W => r_Next r (stA r l k) x W (HST.out k).1 (by have := (HST.out k).2; have := HRC.out; omega))
      rw [← HSN.out, ← HGN.out] at HN
      have HOC := Lib.hid (fun (W : World) (o : W.ownsRow G 4 1 (.slice (some ⟨G, 0, none⟩) l.length l.length) l.length (fl bC (ggL r l k))) => own_cell o (j := k) (u := .bool false) (by
        have h1 : (ggL r l k)[k]? = some false := by rw [ggL_at, if_pos hlt, if_neg (by omega)]
        show ((ggL r l k).flatMap bC)[k]? = _
        have h2 : (ggL r l k).flatMap bC = (ggL r l k).map Value.bool := by
          rw [← List.flatMap_singleton' ((ggL r l k).map Value.bool), List.flatMap_map]; rfl
        rw [h2, List.getElem?_map, h1]; rfl))
      have HPUT := Lib.hid (fun (W : World) (o : W.ownsRow G 4 1 (.slice (some ⟨G, 0, none⟩) l.length l.length) l.length (fl bC (ggL r l k))) => own_put o k (.bool (gA r l k)))
      have HST2 := Lib.hid (show (fl bC (ggL r l k)).set k (.bool (gA r l k)) = fl bC (ggL r l (k + 1)) by rw [fl_set_b, HSTEP.out k hlt])
      have q0 := x8.cell 0
      have q1 := x8.cell 1
      have q2 := x8.cell 2
      simp only [List.getElem?_toArray, List.getElem?_cons_zero, List.getElem?_cons_succ] at q0 q1 q2
      obtain ⟨d2, d3⟩ := HOC.out wr hown
      have z8 := x8.lt
      have zG := (own_ge hown G rfl).2
      have zw := hbw.size
      clear hx hlx
      obtain ⟨T, hT⟩ : ∃ T, T = stA r l (k + 1) := ⟨_, rfl⟩
      have HT := Lib.hid hT
      rw [← hT] at HN
      clear hT
      obtain ⟨gb, hgb⟩ : ∃ gb, gb = gA r l k := ⟨_, rfl⟩
      rw [← hgb] at HN HPUT HST2
      clear hgb
      go_wp2_with fail
      go_region_held3 (fun w' => (∀ b o, b < wr.heap.size → b ≠ G → w'.cell? ⟨b, o, none⟩ = wr.cell? ⟨b, o, none⟩) ∧ (∀ b o, b < wr.heap.size → w'.frozen? ⟨b, o, none⟩ = wr.frozen? ⟨b, o, none⟩) ∧ wr.heap.size ≤ w'.heap.size ∧ Below w.heap.size w w') (((show Kx w wr (G) _); (repeat' (first | assumption | exact kx_refl (by assumption) | refine kx_set ?_ ?_ | refine kx_draw ?_ | refine kx_step ?_ (by assumption))); (all_goals (first | omega | (simp; omega))))) ((go_at_call 80; ((with_reducible refine (HN.out _).mono ?_); rintro e w3 ⟨rfl, hb3⟩; obtain ⟨hc3, hf3⟩ := bcell hb3; have hz3 := hb3.size; (try simp [sz_drew, sz_drewN] at hz3); (try simp only [sz_drew, sz_drewN] at hc3 hf3); have B3 : Below wr.heap.size wr w3 := (by (repeat' (first | assumption | exact below_refl _ | refine bl_alloc ?_ _ | refine Below.setCell ?_ ?_ _ | refine below_draw ?_ | refine below_drewN ?_ _ | refine below_tr ?_ (by assumption))) <;> (first | omega | (simp; done) | (simp; omega))); have r0 := (hc3 _ k zG).trans d2; have r1 := (hf3 _ k zG).trans d3; clear hc3 hf3)))
      have o4 := HPUT.out w3 (own_on hown B3)
      rw [HST2.out] at o4
      have B4 := (below_tr hbw B3).setCell (p := ⟨G, k, none⟩) (by show w.heap.size ≤ G; omega) (.bool gb)
      have x4 := (x8.below B3 x8.lt).far (p := ⟨G, k, none⟩) hne (.bool gb)
      go_wp2
      go_roundw
      case rel => exact ⟨k + 1, by omega, by go_num, by rw [HT.out], B4, x4, o4⟩
      case measure => simp [intOf]; omega
    · obtain rfl : k = l.length := by omega
      rw [HALL.out] at hown
      go_wp2
      go_ret2
      exact ⟨_, rfl, by rw [← HALL.out, HLN.out, HALL.out]; exact own_base hown (by omega), hbw⟩
end Go.Proofs.YtkigdjfagcnejaaDoor
