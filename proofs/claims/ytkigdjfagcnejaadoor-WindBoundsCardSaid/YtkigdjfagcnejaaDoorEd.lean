/- Wind cards: Missing of the reference, Joined by the program and by the reference. -/
import Derived.Test.YtkigdjfagcnejaaDoorEc
set_option linter.unusedSimpArgs false
set_option linter.unusedVariables false
namespace Go.Proofs.YtkigdjfagcnejaaDoor
open Go.RowKit

/-- what has been told of k minutes without readings -/
def mkL (l : List Int) (k : Nat) : List Bool := (List.range l.length).map fun i => if i < k then msP l i else false
theorem mkL_len (l : List Int) (k : Nat) : (mkL l k).length = l.length := by unfold mkL; simp
theorem mkL_zero (l : List Int) : mkL l 0 = List.replicate l.length false := by
  unfold mkL
  apply List.ext_getElem
  · simp
  · intro i h1 h2; simp
theorem mkL_at (l : List Int) (k i : Nat) : (mkL l k)[i]? = if i < l.length then some (if i < k then msP l i else false) else none := by
  unfold mkL
  rw [List.getElem?_map]
  by_cases h : i < l.length
  · rw [List.getElem?_range h, if_pos h]; rfl
  · rw [if_neg h, List.getElem?_eq_none (by simpa using h)]; rfl
theorem mkL_step (l : List Int) {k : Nat} (hk : k < l.length) : (mkL l k).set k (msP l k) = mkL l (k + 1) := by
  apply List.ext_getElem?
  intro i
  rw [List.getElem?_set, mkL_len, mkL_at, mkL_at]
  by_cases h : k = i
  · subst h; rw [if_pos rfl, if_pos hk, if_pos hk, if_pos (by omega)]
  · rw [if_neg h]
    by_cases h2 : i < l.length
    · rw [if_pos h2, if_pos h2]
      by_cases h3 : i < k
      · rw [if_pos h3, if_pos (by omega)]
      · rw [if_neg h3, if_neg (by omega)]
    · rw [if_neg h2, if_neg h2]
set_option maxHeartbeats 2000000 in
set_option maxRecDepth 20000 in
theorem r_Missing (A : Option Addr) (l : List Int) (c : Nat) (w : World) (hl : l.length ≤ 100000) (hR : Rd zC 1 w A l) :
    Calls Tryd.prog 44 #[.slice A l.length c] w fun e w' => ∃ v, e = .returned (.tuple #[v, .int .i64 (msE l)]) ∧ GotP w' v (msL l) ∧ Below w.heap.size w w' := by
  have H1 := Lib.hid (fun b (h : vGu l = b) => r_ValidGustsV (c := c) h hl hR)
  cases h : vGu l
  · have HE := Lib.hid (show msE l = 1 by unfold msE; rw [if_neg (by simp [h])])
    have HL := Lib.hid (show msL l = [] by unfold msL; rw [HE.out]; rfl)
    clear hR
    go_enter Tryd.func44, Tryd.ntmps44
    go_wp2_with (go_at_call 30; ((with_reducible refine (H1.out _ h).mono ?_); rintro e w' ⟨rfl, rfl⟩))
    go_ret2
    exact ⟨_, by rw [HE.out]; rfl, by rw [HL.out]; exact gotP_nil _, below_refl _⟩
  have HE := Lib.hid (show msE l = 0 by unfold msE; rw [if_pos h])
  have HL := Lib.hid (show msL l = spS (msP l) l.length by unfold msL; rw [if_pos HE.out])
  have HMB := Lib.hid made_bools
  have HZ := Lib.hid (mkL_zero l)
  have HLN := Lib.hid (mkL_len l)
  have HSTEP := Lib.hid (fun k (h : k < l.length) => mkL_step l h)
  have HG := Lib.hid (vgu h).2
  have H3 := Lib.hid (fun D d W (hD : Rd bC 1 W D (mkL l l.length)) => r_spans D (mkL l l.length) d true (msP l) W (by rw [mkL_len]; exact hl) hD (fun k x hx => by
    rw [mkL_at] at hx
    split at hx
    · rename_i h2; cases hx; simp
    · cases hx))
  obtain ⟨i0, hi, hi1, hi2, hi3⟩ := info_bool
  go_enter Tryd.func44, Tryd.ntmps44
  go_wp2_with fail
  refine (H1.out _ h).mono ?_
  rintro e w' ⟨rfl, rfl⟩
  go_wp2_with ((at_make; refine wpList_make_full _ rfl _ _ 67 rfl w.heap.size 4 i0 (.bool false) 1 (by kernel_rfl) hi hi1 hi2 _ _ _ _ l.length rfl rfl (by simp) (by simp) (by rw [hi3]; omega) (by unfold maxLen; omega) (Nat.le_refl _) ?_; intro w1 hown1 hgrow1))
  have B1 := bl_grown (below_refl w) hgrow1 (fun r h => by cases h) (Nat.le_refl _)
  rw [HMB.out, ← HZ.out] at hown1
  clear hgrow1 h H1
  obtain ⟨G, hG⟩ : ∃ G, G = w.heap.size := ⟨_, rfl⟩
  rw [← hG] at hown1 ⊢
  go_loopw [5] (fun s5 wr => ∃ k : Nat, k ≤ l.length ∧ s5 = .int .i64 k ∧ Below w.heap.size w wr ∧ wr.ownsRow G 4 1 (.slice (some ⟨G, 0, none⟩) l.length l.length) l.length (fl bC (mkL l k))) (fun s5 _ => l.length - (intOf s5).toNat)
  case atStart => exact ⟨0, by omega, rfl, B1, hown1⟩
  case round =>
    clear B1 hown1
    obtain ⟨k, hk, rfl, hbw, hown⟩ := hrel
    have k0 : (0 : Int) ≤ (k : Int) := Int.natCast_nonneg _
    by_cases hlt : k < l.length
    · have k1 : (k : Int) < (l.length : Int) := by omega
      obtain ⟨x, b, off, hx, rfl, hb, d0⟩ := rd_int (hR.on hbw) hlt
      have hlx : l.getD k 0 = x := getD_of hx
      have hg := HG.out k x hx
      have HOC := Lib.hid (fun (W : World) (o : W.ownsRow G 4 1 (.slice (some ⟨G, 0, none⟩) l.length l.length) l.length (fl bC (mkL l k))) => own_cell o (j := k) (u := .bool false) (by
        have h1 : (mkL l k)[k]? = some false := by rw [mkL_at, if_pos hlt, if_neg (by omega)]
        show ((mkL l k).flatMap bC)[k]? = _
        have h2 : (mkL l k).flatMap bC = (mkL l k).map Value.bool := by
          rw [← List.flatMap_singleton' ((mkL l k).map Value.bool), List.flatMap_map]; rfl
        rw [h2, List.getElem?_map, h1]; rfl))
      have HPUT := Lib.hid (fun (W : World) (o : W.ownsRow G 4 1 (.slice (some ⟨G, 0, none⟩) l.length l.length) l.length (fl bC (mkL l k))) => own_put o k (.bool (msP l k)))
      have HST2 := Lib.hid (show (fl bC (mkL l k)).set k (.bool (msP l k)) = fl bC (mkL l (k + 1)) by rw [fl_set_b, HSTEP.out k hlt])
      have hms : msP l k = decide (x < 0) := by
        unfold msP; rw [hlx]
        by_cases h1 : x = -1
        · subst h1; rfl
        · rw [decide_eq_false (by omega)]; simpa using h1
      rw [hms] at HPUT HST2
      obtain ⟨d2, d3⟩ := HOC.out wr hown
      have zG := (own_ge hown G rfl).2
      have hwG : w.heap.size ≤ G := by omega
      have o4 := HPUT.out wr hown
      rw [HST2.out] at o4
      have B4 := hbw.setCell (p := ⟨G, k, none⟩) hwG (.bool (decide (x < 0)))
      clear hx hlx hms hown hG
      go_wp2
      go_roundw
      case rel => exact ⟨k + 1, by omega, by go_num, by simpa using B4, by simpa using o4⟩
      case measure => simp [intOf]; omega
    · obtain rfl : k = l.length := by omega
      have hr := own_rd' (l := mkL l l.length) bC_len (by rw [HLN.out]; exact hown)
      have HC := Lib.hid (H3.out (some ⟨G, 0, none⟩) l.length wr hr)
      rw [HLN.out] at HC
      clear hr hown hG
      go_wp2_with (go_at_call 67; ((with_reducible refine HC.out.mono ?_); rintro e w2 ⟨v, rfl, hv, hb2⟩; obtain ⟨A2, c2, rfl, hr2⟩ := own_rd pC_len hv))
      go_ret2
      exact ⟨_, by rw [HE.out]; rfl, by rw [HL.out]; exact ⟨_, _, rfl, hr2⟩, below_tr hbw hb2⟩
/-- Joined -/
def joE (l m : List Int) : Int := if vGu l = true ∧ vGu m = true then (if l.length = m.length then 0 else 9) else 1
def joF (l m : List Int) : List Int := (List.range l.length).map fun i => max (l.getD i 0) (m.getD i 0)
def joL (l m : List Int) : List Int := if joE l m = 0 then joF l m else []
def joS (l m : List Int) (k : Nat) : List Int := (joF l m).take k ++ l.drop k
theorem joF_len (l m : List Int) : (joF l m).length = l.length := by unfold joF; simp
theorem joF_at {l m : List Int} {k : Nat} {x y : Int} (hx : l[k]? = some x) (hy : m[k]? = some y) : (joF l m)[k]? = some (max x y) := by
  have hk := (List.getElem?_eq_some_iff.1 hx).1
  unfold joF
  rw [List.getElem?_map, List.getElem?_range hk]
  simp only [Option.map_some]
  rw [getD_of hx, getD_of hy]
theorem joS_zero (l m : List Int) : joS l m 0 = l := by simp [joS]
theorem joS_all (l m : List Int) : joS l m l.length = joF l m := by unfold joS; rw [← joF_len l m, List.take_length, joF_len, List.drop_length, List.append_nil]
theorem joS_len (l m : List Int) {k : Nat} (hk : k ≤ l.length) : (joS l m k).length = l.length := by
  unfold joS; rw [List.length_append, List.length_take, joF_len, List.length_drop]; omega
theorem joS_at {l m : List Int} {k : Nat} {x : Int} (hx : l[k]? = some x) : (joS l m k)[k]? = some x := by
  have hk := (List.getElem?_eq_some_iff.1 hx).1
  unfold joS
  rw [List.getElem?_append_right (by rw [List.length_take, joF_len]; omega), List.length_take, joF_len, List.getElem?_drop, show k + (k - min k l.length) = k by omega]
  exact hx
theorem joS_step {l m : List Int} {k : Nat} {x y : Int} (hx : l[k]? = some x) (hy : m[k]? = some y) : (joS l m k).set k (max x y) = joS l m (k + 1) := by
  have hk := (List.getElem?_eq_some_iff.1 hx).1
  have hd : l.drop k = x :: l.drop (k + 1) := by
    rw [List.drop_eq_getElem_cons hk, (List.getElem?_eq_some_iff.1 hx).2]
  have hlt : ((joF l m).take k).length = k := by rw [List.length_take, joF_len]; omega
  unfold joS
  rw [List.set_append_right _ _ (by omega), hlt, Nat.sub_self, hd, List.set_cons_zero, List.take_add_one, joF_at hx hy, List.append_assoc]
  rfl
theorem jo_no {l m : List Int} {x : Int} (h : joE l m = x) (hx : x ≠ 0) : joL l m = [] ∧ joE l m = x := by
  unfold joL; rw [h, if_neg hx]; exact ⟨rfl, rfl⟩
theorem fl_z (l : List Int) : fl zC l = l.map (Value.int .i64) := by
  induction l with
  | nil => rfl
  | cons x l ih => simp only [fl, List.flatMap_cons, List.map_cons] at ih ⊢; rw [ih]; rfl
/-- a copy of numbers -/
theorem p_cloneZ (A : Option Addr) (l : List Int) (c : Nat) (w : World) (hl : l.length ≤ 100000) (hR : Rd zC 1 w A l) :
    Calls Tryd.prog 76 #[.slice A l.length c] w fun e w' => ∃ v, e = .returned v ∧ w'.ownsRow w.heap.size 3 1 v l.length (fl zC l) ∧ Below w.heap.size w w' := by
  by_cases h0 : l = []
  · subst h0
    cases A with
    | none => exact (Tryd.slices_Clone_int_nil 0 c w).mono fun e w' ⟨h1, h2⟩ => ⟨_, h1, by subst h2; exact World.ownsRow_nil _ _ _ _, by subst h2; exact below_refl _⟩
    | some a => exact (Tryd.slices_Clone_int_zero a c w).mono fun e w' ⟨v, h1, h2, _, h3⟩ => ⟨v, h1, h2, h3⟩
  · obtain ⟨b, off, rfl, hb, hc⟩ := hR h0
    refine (Tryd.slices_Clone_int b off l.length c l w (Nat.le_refl _) (by omega) (fun j hj => ?_)).mono fun e w' ⟨v, h1, h2, _, h3⟩ => ⟨v, h1, by rw [List.take_length] at h2; rw [fl_z]; exact h2, h3⟩
    obtain ⟨x, hx⟩ := get_lt hj
    rw [getD_of hx]
    simpa using hc j x hx 0 _ rfl
set_option maxHeartbeats 2000000 in
set_option maxRecDepth 20000 in
theorem p_Joined (A B : Option Addr) (l m : List Int) (c d : Nat) (w : World) (hl : l.length ≤ 100000) (hm : m.length ≤ 100000) (hR : Rd zC 1 w A l) (hS : Rd zC 1 w B m) :
    Calls Tryd.prog 45 #[.slice A l.length c, .slice B m.length d] w fun e w' => ∃ v, e = .returned (.tuple #[v, .int .i64 (joE l m)]) ∧ GotW w' v (joL l m) ∧ Below w.heap.size w w' := by
  have H1 := Lib.hid (fun b (h : vGu l = b) => p_ValidGustsV (c := c) h hl hR)
  have H2 := Lib.hid (fun b (h : vGu m = b) W (hb : Below w.heap.size w W) => p_ValidGustsV (c := d) h hm (hS.on hb))
  cases h1 : vGu l
  · obtain ⟨e1, e2⟩ := jo_no (l := l) (m := m) (x := 1) (by unfold joE; rw [if_neg (by simp [h1])]) (by decide)
    have E1 := Lib.hid e1
    have E2 := Lib.hid e2
    clear e1 e2 hR hS
    go_enter Tryd.func45, Tryd.ntmps45
    go_wp2_with (go_at_call 29; ((with_reducible refine (H1.out _ h1).mono ?_); rintro e w1 ⟨rfl, hb1⟩; obtain ⟨hc1, hf1⟩ := bcell hb1; have hz1 := hb1.size; (try simp [sz_drew, sz_drewN] at hz1); (try simp only [sz_drew, sz_drewN] at hc1 hf1)))
    go_ret2
    exact ⟨_, by rw [E2.out]; rfl, by rw [E1.out]; exact gotW_nil _, hb1⟩
  cases h2 : vGu m
  · obtain ⟨e1, e2⟩ := jo_no (l := l) (m := m) (x := 1) (by unfold joE; rw [if_neg (by simp [h2])]) (by decide)
    have E1 := Lib.hid e1
    have E2 := Lib.hid e2
    clear e1 e2 hR hS
    go_enter Tryd.func45, Tryd.ntmps45
    go_wp2_with (first | (go_at_call 29; ((with_reducible refine (H1.out _ h1).mono ?_); rintro e w1 ⟨rfl, hb1⟩; obtain ⟨hc1, hf1⟩ := bcell hb1; have hz1 := hb1.size; (try simp [sz_drew, sz_drewN] at hz1); (try simp only [sz_drew, sz_drewN] at hc1 hf1))) | (go_at_call 29; ((with_reducible refine (H2.out _ h2 _ hb1).mono ?_); rintro e w2 ⟨rfl, hb2⟩; obtain ⟨hc2, hf2⟩ := bcell hb2; have hz2 := hb2.size; (try simp [sz_drew, sz_drewN] at hz2); (try simp only [sz_drew, sz_drewN] at hc2 hf2))))
    go_ret2
    exact ⟨_, by rw [E2.out]; rfl, by rw [E1.out]; exact gotW_nil _, below_tr hb1 hb2⟩
  by_cases h3 : l.length = m.length
  rotate_left
  · obtain ⟨e1, e2⟩ := jo_no (l := l) (m := m) (x := 9) (by unfold joE; rw [if_pos ⟨h1, h2⟩, if_neg h3]) (by decide)
    have E1 := Lib.hid e1
    have E2 := Lib.hid e2
    have h4 : ((l.length : Int) != (m.length : Int)) = true := by simp; omega
    clear e1 e2 hR hS
    go_enter Tryd.func45, Tryd.ntmps45
    go_wp2_with (first | (go_at_call 29; ((with_reducible refine (H1.out _ h1).mono ?_); rintro e w1 ⟨rfl, hb1⟩; obtain ⟨hc1, hf1⟩ := bcell hb1; have hz1 := hb1.size; (try simp [sz_drew, sz_drewN] at hz1); (try simp only [sz_drew, sz_drewN] at hc1 hf1))) | (go_at_call 29; ((with_reducible refine (H2.out _ h2 _ hb1).mono ?_); rintro e w2 ⟨rfl, hb2⟩; obtain ⟨hc2, hf2⟩ := bcell hb2; have hz2 := hb2.size; (try simp [sz_drew, sz_drewN] at hz2); (try simp only [sz_drew, sz_drewN] at hc2 hf2))))
    go_ret2
    exact ⟨_, by rw [E2.out]; rfl, by rw [E1.out]; exact gotW_nil _, below_tr hb1 hb2⟩
  have hE : joE l m = 0 := by unfold joE; rw [if_pos ⟨h1, h2⟩, if_pos h3]
  have HE := Lib.hid hE
  have HL := Lib.hid (show joL l m = joF l m by unfold joL; rw [if_pos hE])
  have HC := Lib.hid (fun W (h : Below w.heap.size w W) => p_cloneZ A l c W hl (hR.on h))
  have HAT := Lib.hid (fun k x (hx : l[k]? = some x) => joS_at (m := m) hx)
  have HST := Lib.hid (fun k x y (hx : l[k]? = some x) (hy : m[k]? = some y) => joS_step hx hy)
  have HLN := Lib.hid (fun k (h : k ≤ l.length) => joS_len l m h)
  have HZ := Lib.hid (joS_zero l m)
  have HALL := Lib.hid (joS_all l m)
  have H3 := Lib.hid h3
  have H2 := Lib.hid (fun W (hb : Below w.heap.size w W) => h3 ▸ p_ValidGustsV (c := d) h2 hm (hS.on hb))
  rw [← h3]
  clear hE h3
  go_enter Tryd.func45, Tryd.ntmps45
  go_wp2_with (first | (go_at_call 29; ((with_reducible refine (H1.out _ h1).mono ?_); rintro e w1 ⟨rfl, hb1⟩; obtain ⟨hc1, hf1⟩ := bcell hb1; have hz1 := hb1.size; (try simp [sz_drew, sz_drewN] at hz1); (try simp only [sz_drew, sz_drewN] at hc1 hf1))) | (go_at_call 29; ((with_reducible refine (H2.out _ hb1).mono ?_); rintro e w2 ⟨rfl, hb2⟩; obtain ⟨hc2, hf2⟩ := bcell hb2; have hz2 := hb2.size; (try simp [sz_drew, sz_drewN] at hz2); (try simp only [sz_drew, sz_drewN] at hc2 hf2))) | (go_at_call 76; fail))
  have B2 := below_tr hb1 hb2
  clear hb1 hc1 hf1 hz1 hb2 hc2 hf2 hz2 H1 H2 h1 h2
  refine (HC.out _ B2).mono ?_
  rintro e w3 ⟨v, rfl, hown, hb3⟩
  have B3 := below_tr B2 hb3
  have B2s := B2.size
  by_cases h0 : l.length = 0
  · obtain rfl : l = [] := List.eq_nil_of_length_eq_zero h0
    have hm0 := H3.out
    obtain ⟨A3, c3, rfl, hr3⟩ := own_ints hown
    go_wp2
    go_loopw [26] (fun i wr => i = .int .i64 0 ∧ wr = w3) (fun _ _ => 0)
    case atStart => exact ⟨rfl, rfl⟩
    case round =>
      obtain ⟨rfl, rfl⟩ := hrel
      go_wp2
      go_ret2
      exact ⟨_, by rw [HE.out]; rfl, by rw [HL.out]; exact ⟨_, _, rfl, hr3⟩, B3⟩
  obtain ⟨g, cap, rfl, hg, hli⟩ := own_LI hown (by omega)
  rw [← HZ.out] at hli
  have hgW : w.heap.size ≤ g := by omega
  clear hown hb3
  go_wp2
  go_loopw [26] (fun i wr => ∃ k : Nat, k ≤ l.length ∧ i = .int .i64 k ∧ Below w.heap.size w wr ∧ LI wr g (joS l m k)) (fun i _ => l.length - (intOf i).toNat)
  case atStart => exact ⟨0, by omega, rfl, B3, hli⟩
  case round =>
    clear hli B3 B2 HC
    obtain ⟨k, hk, rfl, hbw, hli⟩ := hrel
    have k0 : (0 : Int) ≤ (k : Int) := Int.natCast_nonneg _
    by_cases hlt : k < l.length
    · have k1 : (k : Int) < (l.length : Int) := by omega
      have hlm := H3.out
      obtain ⟨x, hx⟩ := get_lt hlt
      obtain ⟨y, b, off, hy, rfl, hb, d0⟩ := rd_int (hS.on hbw) (show k < m.length by omega)
      clear hlm
      have q0 := hli.cell (HAT.out k x hx)
      have f0 := hli.frozen k
      have z0 := hli.lt
      have HL2 := Lib.hid (hli.set (HAT.out k x hx) (max x y))
      have HS2 := Lib.hid (HST.out k x y hx hy)
      have B4 := hbw.setCell (p := ⟨g, k, none⟩) hgW (.int .i64 (max x y))
      clear hx hy hli
      go_wp2
      go_roundw
      case rel => exact ⟨k + 1, by omega, by go_num, by simpa using B4, by rw [← HS2.out]; simpa using HL2.out⟩
      case measure => simp [intOf]; omega
    · obtain rfl : k = l.length := by omega
      rw [HALL.out] at hli
      have hr := hli.rd
      have hfl : (joF l m).length = l.length := joF_len l m
      have HG := Lib.hid (show GotW wr (.slice (some ⟨g, 0, none⟩) l.length cap) (joF l m) from ⟨_, _, by rw [hfl], hr⟩)
      clear hr hfl
      go_wp2
      go_ret2
      exact ⟨_, by rw [HE.out]; rfl, by rw [HL.out]; exact HG.out, hbw⟩
set_option maxHeartbeats 2000000 in
set_option maxRecDepth 20000 in
theorem r_Joined (A B : Option Addr) (l m : List Int) (c d : Nat) (w : World) (hl : l.length ≤ 100000) (hm : m.length ≤ 100000) (hR : Rd zC 1 w A l) (hS : Rd zC 1 w B m) :
    Calls Tryd.prog 46 #[.slice A l.length c, .slice B m.length d] w fun e w' => ∃ v, e = .returned (.tuple #[v, .int .i64 (joE l m)]) ∧ GotW w' v (joL l m) ∧ Below w.heap.size w w' := by
  have H1 := Lib.hid (fun b (h : vGu l = b) => r_ValidGustsV (c := c) h hl hR)
  have H2 := Lib.hid (fun b (h : vGu m = b) => r_ValidGustsV (c := d) h hm hS)
  cases h1 : vGu l
  · obtain ⟨e1, e2⟩ := jo_no (l := l) (m := m) (x := 1) (by unfold joE; rw [if_neg (by simp [h1])]) (by decide)
    have E1 := Lib.hid e1
    have E2 := Lib.hid e2
    clear e1 e2 hR hS
    go_enter Tryd.func46, Tryd.ntmps46
    go_wp2_with (go_at_call 30; ((with_reducible refine (H1.out _ h1).mono ?_); rintro e w' ⟨rfl, rfl⟩))
    go_ret2
    exact ⟨_, by rw [E2.out]; rfl, by rw [E1.out]; exact gotW_nil _, below_refl _⟩
  cases h2 : vGu m
  · obtain ⟨e1, e2⟩ := jo_no (l := l) (m := m) (x := 1) (by unfold joE; rw [if_neg (by simp [h2])]) (by decide)
    have E1 := Lib.hid e1
    have E2 := Lib.hid e2
    clear e1 e2 hR hS
    go_enter Tryd.func46, Tryd.ntmps46
    go_wp2_with (first | (go_at_call 30; ((with_reducible refine (H1.out _ h1).mono ?_); rintro e w' ⟨rfl, rfl⟩)) | (go_at_call 30; ((with_reducible refine (H2.out _ h2).mono ?_); rintro e w' ⟨rfl, rfl⟩)))
    go_ret2
    exact ⟨_, by rw [E2.out]; rfl, by rw [E1.out]; exact gotW_nil _, below_refl _⟩
  by_cases h3 : l.length = m.length
  rotate_left
  · obtain ⟨e1, e2⟩ := jo_no (l := l) (m := m) (x := 9) (by unfold joE; rw [if_pos ⟨h1, h2⟩, if_neg h3]) (by decide)
    have E1 := Lib.hid e1
    have E2 := Lib.hid e2
    have h4 : ((l.length : Int) != (m.length : Int)) = true := by simp; omega
    clear e1 e2 hR hS
    go_enter Tryd.func46, Tryd.ntmps46
    go_wp2_with (first | (go_at_call 30; ((with_reducible refine (H1.out _ h1).mono ?_); rintro e w' ⟨rfl, rfl⟩)) | (go_at_call 30; ((with_reducible refine (H2.out _ h2).mono ?_); rintro e w' ⟨rfl, rfl⟩)))
    go_ret2
    exact ⟨_, by rw [E2.out]; rfl, by rw [E1.out]; exact gotW_nil _, below_refl _⟩
  have hE : joE l m = 0 := by unfold joE; rw [if_pos ⟨h1, h2⟩, if_pos h3]
  have HE := Lib.hid hE
  have HL := Lib.hid (show joL l m = joF l m by unfold joL; rw [if_pos hE])
  have HAT := Lib.hid (fun k x y (hx : l[k]? = some x) (hy : m[k]? = some y) => joF_at hx hy)
  have HLN := Lib.hid (joF_len l m)
  obtain ⟨i0, hi, hi1, hi2, hi3⟩ := info_int2
  have H3 := Lib.hid h3
  have H2 := Lib.hid (h3 ▸ r_ValidGustsV (c := d) h2 hm hS)
  rw [← h3]
  clear hE h3
  go_enter Tryd.func46, Tryd.ntmps46
  go_wp2_with (first | (go_at_call 30; ((with_reducible refine (H1.out _ h1).mono ?_); rintro e w' ⟨rfl, rfl⟩)) | (go_at_call 30; ((with_reducible refine (H2.out).mono ?_); rintro e w' ⟨rfl, rfl⟩)))
  clear H1 H2 h1 h2
  go_loopw [6, 7] (fun v i wr => ∃ k : Nat, k ≤ l.length ∧ i = .int .i64 k ∧ Below w.heap.size w wr ∧ wr.ownsRow w.heap.size 3 1 v k (fl zC ((joF l m).take k))) (fun _ i _ => l.length - (intOf i).toNat)
  case atStart => exact ⟨0, by omega, rfl, below_refl _, World.ownsRow_nil w _ _ _⟩
  case round =>
    obtain ⟨k, hk, rfl, hbw, hown⟩ := hrel
    obtain ⟨ad, cp, rfl⟩ := own_slice hown
    have k0 : (0 : Int) ≤ (k : Int) := Int.natCast_nonneg _
    have hws := hbw.size
    by_cases hlt : k < l.length
    · have k1 : (k : Int) < (l.length : Int) := by omega
      have hlm := H3.out
      obtain ⟨x, b, off, hx, rfl, hb, c0⟩ := rd_int (hR.on hbw) hlt
      obtain ⟨y, b', off', hy, rfl, hb', d0⟩ := rd_int (hS.on hbw) (show k < m.length by omega)
      clear hlm
      have hst : (joF l m).take (k + 1) = (joF l m).take k ++ [max x y] := by rw [List.take_add_one, HAT.out k x y hx hy]; rfl
      have HST := Lib.hid hst
      clear hx hy hst
      by_cases hgt : x < y
      · obtain ⟨z, hz⟩ : ∃ z, z = max x y := ⟨_, rfl⟩
        have hzy : z = y := by omega
        rw [← hz, hzy] at HST
        clear hz hzy
        go_wp2_with (at_builtin; refine wpList_append_own _ rfl _ _ 24 rfl w.heap.size 3 i0 (.int .i64 0) 1 8 (by kernel_rfl) hi hi1 hi2 hi3 rfl (by omega) _ _ _ rfl (hown.alloc _) ⟨wr.heap.size, 0, none⟩ 1 1 [.int .i64 y] rfl rfl (cells_new wr [.int .i64 y] 3) (fun u hu => by simp at hu; subst hu; rfl) (by unfold maxLen; omega) (by omega) (by simp; omega) ?_; intro v' w9 hown9 hgrow _)
        go_roundw
        case rel => exact ⟨k + 1, by omega, by go_num, bl_app hbw hown hgrow (Nat.le_refl _) hbw.size, by rw [HST.out, fl_snoc]; exact hown9⟩
        case measure => simp [intOf]; omega
      · obtain ⟨z, hz⟩ : ∃ z, z = max x y := ⟨_, rfl⟩
        have hzy : z = x := by omega
        rw [← hz, hzy] at HST
        clear hz hzy
        go_wp2_with (at_builtin; refine wpList_append_own _ rfl _ _ 24 rfl w.heap.size 3 i0 (.int .i64 0) 1 8 (by kernel_rfl) hi hi1 hi2 hi3 rfl (by omega) _ _ _ rfl (hown.alloc _) ⟨wr.heap.size, 0, none⟩ 1 1 [.int .i64 x] rfl rfl (cells_new wr [.int .i64 x] 3) (fun u hu => by simp at hu; subst hu; rfl) (by unfold maxLen; omega) (by omega) (by simp; omega) ?_; intro v' w9 hown9 hgrow _)
        go_roundw
        case rel => exact ⟨k + 1, by omega, by go_num, bl_app hbw hown hgrow (Nat.le_refl _) hbw.size, by rw [HST.out, fl_snoc]; exact hown9⟩
        case measure => simp [intOf]; omega
    · obtain rfl : k = l.length := by omega
      have htk : (joF l m).take l.length = joF l m := by rw [← HLN.out, List.take_length]
      rw [htk] at hown
      have hw2 : wr.ownsRow w.heap.size 3 1 (.slice ad l.length cp) (joF l m).length (fl zC (joF l m)) := by rw [HLN.out]; exact hown
      obtain ⟨A2, c2, e2, hr2⟩ := own_ints hw2
      have HG := Lib.hid (show GotW wr (.slice ad l.length cp) (joF l m) from ⟨A2, c2, e2, hr2⟩)
      clear hown hw2 hr2 e2 htk
      go_wp2
      go_ret2
      exact ⟨_, by rw [HE.out]; rfl, by rw [HL.out]; exact HG.out, hbw⟩
end Go.Proofs.YtkigdjfagcnejaaDoor
