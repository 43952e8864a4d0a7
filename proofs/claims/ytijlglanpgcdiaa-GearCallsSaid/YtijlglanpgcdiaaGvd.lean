/- Gear: May by both; GearMay walked. -/
import Derived.Test.YtijlglanpgcdiaaGvc
set_option linter.unusedSimpArgs false
set_option linter.unusedVariables false
namespace Go.Proofs.Ytijlglanpgcdiaa
open Go.RowKit Go.Maps

def weL (g : List It) (r : List Lk) (back : List ByteArray) (day : Int) (L : List Int) : List Int := onE (wkE g r back day L) (wkZ g r back day L)
def mayB (g : List It) (r : List Lk) (back : List ByteArray) (day : Int) (L : List Int) : Bool := decide (wkE g r back day L = 0) && decide ((weL g r back day L).length = 0)
theorem weL_len (g : List It) (r : List Lk) (back : List ByteArray) (day : Int) (L : List Int) (hn : r.length ≤ 100000) : (weL g r back day L).length ≤ 100000 := by
  unfold weL onE
  split
  · have := wkN_len g r back day L r.length
    unfold wkZ; rw [List.length_map]; omega
  · simp
set_option maxHeartbeats 1000000 in
set_option maxRecDepth 20000 in
theorem p_May (A B C D : Option Addr) (g : List It) (r : List Lk) (back : List ByteArray) (day : Int) (L : List Int) (c d cb f : Nat) (w : World) (hl : g.length ≤ 100000) (hn : r.length ≤ 100000) (hbk : back.length ≤ 100000) (hk : L.length ≤ 100000) (hR : Rd It.cs 4 w A g) (hW : ∀ x ∈ g, IW x) (hS : Rd Lk.cs 2 w B r) (hV : ∀ x ∈ r, LW x) (hC : Rd sC 1 w C back) (hL : Rd zC 1 w D L) :
    Calls Try.prog 38 #[.slice A g.length c, .slice B r.length d, .slice C back.length cb, .int .i64 day, .slice D L.length f] w fun e w' => e = .returned (.tuple #[.bool (mayB g r back day L), .int .i64 (wkE g r back day L)]) ∧ Below w.heap.size w w' := by
  have H1 := Lib.hid (p_Weak A B C D g r back day L c d cb f w hl hn hbk hk hR hW hS hV hC hL)
  have HB := Lib.hid (show mayB g r back day L = (decide (wkE g r back day L = 0) && decide ((weL g r back day L).length = 0)) from rfl)
  have HL := Lib.hid (weL_len g r back day L hn)
  change Hid (Calls _ _ _ _ fun e w' => ∃ v, e = .returned (.tuple #[v, .int .i64 (wkE g r back day L)]) ∧ GotW w' v (weL g r back day L) ∧ Below w.heap.size w w') at H1
  generalize weL g r back day L = Z at *
  generalize mayB g r back day L = M at *
  generalize wkE g r back day L = E at *
  clear hR hW hS hV hC hL
  by_cases hE : E = 0
  · subst hE
    by_cases h0 : (Z.length : Int) = 0
    · have HM := Lib.hid (show M = true by rw [HB.out, decide_eq_true (show Z.length = 0 by omega)]; rfl)
      go_enter Try.func38, Try.ntmps38
      go_wp2_with (go_at_call 40; ((with_reducible refine (H1.out).mono ?_); rintro e w1 ⟨v, rfl, ⟨A1, c1, rfl, _⟩, hb1⟩))
      go_ret2
      exact ⟨by rw [HM.out]; simp [h0], hb1⟩
    · have HM := Lib.hid (show M = false by rw [HB.out]; simp; rintro rfl; exact h0 rfl)
      go_enter Try.func38, Try.ntmps38
      go_wp2_with (go_at_call 40; ((with_reducible refine (H1.out).mono ?_); rintro e w1 ⟨v, rfl, ⟨A1, c1, rfl, _⟩, hb1⟩))
      go_ret2
      exact ⟨by rw [HM.out]; simp; exact fun h => h0 (by rw [h]; rfl), hb1⟩
  · have HM := Lib.hid (show M = false by rw [HB.out]; simp [hE])
    have hE' : (E == 0) = false := by simpa using hE
    go_enter Try.func38, Try.ntmps38
    go_wp2_with (go_at_call 40; ((with_reducible refine (H1.out).mono ?_); rintro e w1 ⟨v, rfl, ⟨A1, c1, rfl, _⟩, hb1⟩))
    go_ret2
    exact ⟨by rw [HM.out]; rfl, hb1⟩
set_option maxHeartbeats 1000000 in
set_option maxRecDepth 20000 in
theorem r_May (A B C D : Option Addr) (g : List It) (r : List Lk) (back : List ByteArray) (day : Int) (L : List Int) (c d cb f : Nat) (w : World) (hl : g.length ≤ 100000) (hn : r.length ≤ 100000) (hbk : back.length ≤ 100000) (hk : L.length ≤ 100000) (hR : Rd It.cs 4 w A g) (hW : ∀ x ∈ g, IW x) (hS : Rd Lk.cs 2 w B r) (hV : ∀ x ∈ r, LW x) (hC : Rd sC 1 w C back) (hL : Rd zC 1 w D L) :
    Calls Try.prog 39 #[.slice A g.length c, .slice B r.length d, .slice C back.length cb, .int .i64 day, .slice D L.length f] w fun e w' => e = .returned (.tuple #[.bool (mayB g r back day L), .int .i64 (wkE g r back day L)]) ∧ Below w.heap.size w w' := by
  have H1 := Lib.hid (r_Weak A B C D g r back day L c d cb f w hl hn hbk hk hR hW hS hV hC hL)
  have HB := Lib.hid (show mayB g r back day L = (decide (wkE g r back day L = 0) && decide ((weL g r back day L).length = 0)) from rfl)
  have HL := Lib.hid (weL_len g r back day L hn)
  change Hid (Calls _ _ _ _ fun e w' => ∃ v, e = .returned (.tuple #[v, .int .i64 (wkE g r back day L)]) ∧ GotW w' v (weL g r back day L) ∧ Below w.heap.size w w') at H1
  generalize weL g r back day L = Z at *
  generalize mayB g r back day L = M at *
  generalize wkE g r back day L = E at *
  clear hR hW hS hV hC hL
  by_cases hE : E = 0
  · subst hE
    by_cases h0 : (Z.length : Int) = 0
    · have HM := Lib.hid (show M = true by rw [HB.out, decide_eq_true (show Z.length = 0 by omega)]; rfl)
      go_enter Try.func39, Try.ntmps39
      go_wp2_with (go_at_call 41; ((with_reducible refine (H1.out).mono ?_); rintro e w1 ⟨v, rfl, ⟨A1, c1, rfl, _⟩, hb1⟩))
      go_ret2
      exact ⟨by rw [HM.out]; simp [h0], hb1⟩
    · have HM := Lib.hid (show M = false by rw [HB.out]; simp; rintro rfl; exact h0 rfl)
      go_enter Try.func39, Try.ntmps39
      go_wp2_with (go_at_call 41; ((with_reducible refine (H1.out).mono ?_); rintro e w1 ⟨v, rfl, ⟨A1, c1, rfl, _⟩, hb1⟩))
      go_ret2
      exact ⟨by rw [HM.out]; simp; exact fun h => h0 (by rw [h]; rfl), hb1⟩
  · have HM := Lib.hid (show M = false by rw [HB.out]; simp [hE])
    have hE' : (E == 0) = false := by simpa using hE
    go_enter Try.func39, Try.ntmps39
    go_wp2_with (go_at_call 41; ((with_reducible refine (H1.out).mono ?_); rintro e w1 ⟨v, rfl, ⟨A1, c1, rfl, _⟩, hb1⟩))
    go_ret2
    exact ⟨by rw [HM.out]; rfl, hb1⟩
set_option maxHeartbeats 4000000 in
set_option maxRecDepth 20000 in
theorem l_GearMay (A : Option Addr) (g : List It) (c : Nat) (B : Option Addr) (r : List Lk) (d : Nat) (C : Option Addr) (back : List ByteArray) (cb : Nat) (day : Int) (D : Option Addr) (L : List Int) (f : Nat) (w : World) (hl0 : g.length ≤ maxLen) (hR : Rd It.cs 4 w A g) (hW : ∀ x ∈ g, IW x) (hn0 : r.length ≤ maxLen) (hS : Rd Lk.cs 2 w B r) (hV : ∀ x ∈ r, LW x) (hbk0 : back.length ≤ maxLen) (hC : Rd sC 1 w C back) (_ : ∀ x ∈ back, x.size ≤ maxLen) (_ : (Lit.int .i64 day).wf = true) (hk0 : L.length ≤ maxLen) (hL : Rd zC 1 w D L) (_ : ∀ x ∈ L, True) :
    Calls Try.prog 7 #[.slice A g.length c, .slice B r.length d, .slice C back.length cb, .int .i64 day, .slice D L.length f] w fun e w' => e = .returned (.bool true) ∧ Below w.heap.size w w' := by
  have HM := Lib.hid (fun W (h : Below w.heap.size w W) => l_many A B g r c d W hl0 hn0 (hR.on h) hW (hS.on h) hV)
  by_cases hsh : g.length ≤ 80 ∧ r.length ≤ 40
  rotate_left
  · clear hR hW hS hV hL hC hl0 hn0 hk0
    go_enter Try.func7, Try.ntmps7
    go_wp2_with (go_at_call 11; ((with_reducible refine (l_awake _).mono ?_); rintro e w1 ⟨rfl, hb1⟩; obtain ⟨hc1, hf1⟩ := bcell hb1; have hz1 := hb1.size; (try simp [sz_drew, sz_drewN] at hz1); (try simp only [sz_drew, sz_drewN] at hc1 hf1)))
    refine (HM.out _ hb1).mono ?_
    rintro e w2 ⟨v, rfl, ⟨b, rfl, hbb⟩, hb2⟩
    have B2 := below_tr hb1 hb2
    obtain rfl : b = true := by cases b; exact absurd (hbb rfl) hsh; rfl
    go_wp2
    go_ret
    exact ⟨rfl, B2⟩
  have hl : g.length ≤ 100000 := by omega
  have hn : r.length ≤ 100000 := by omega
  by_cases hk120 : 120 < (back.length : Int)
  · clear hR hW hS hV hL hC hl0 hn0
    unfold maxLen at hk0 hbk0
    go_enter Try.func7, Try.ntmps7
    go_wp2_with (go_at_call 11; ((with_reducible refine (l_awake _).mono ?_); rintro e w1 ⟨rfl, hb1⟩; obtain ⟨hc1, hf1⟩ := bcell hb1; have hz1 := hb1.size; (try simp [sz_drew, sz_drewN] at hz1); (try simp only [sz_drew, sz_drewN] at hc1 hf1)))
    refine (HM.out _ hb1).mono ?_
    rintro e w2 ⟨v, rfl, ⟨b, rfl, hbb⟩, hb2⟩
    have B2 := below_tr hb1 hb2
    cases b
    all_goals
      go_wp2
      go_ret
      exact ⟨rfl, B2⟩
  by_cases hk40 : 40 < (L.length : Int)
  · clear hR hW hS hV hL hC hl0 hn0
    unfold maxLen at hk0 hbk0
    go_enter Try.func7, Try.ntmps7
    go_wp2_with (go_at_call 11; ((with_reducible refine (l_awake _).mono ?_); rintro e w1 ⟨rfl, hb1⟩; obtain ⟨hc1, hf1⟩ := bcell hb1; have hz1 := hb1.size; (try simp [sz_drew, sz_drewN] at hz1); (try simp only [sz_drew, sz_drewN] at hc1 hf1)))
    refine (HM.out _ hb1).mono ?_
    rintro e w2 ⟨v, rfl, ⟨b, rfl, hbb⟩, hb2⟩
    have B2 := below_tr hb1 hb2
    cases b
    all_goals
      go_wp2
      go_ret
      exact ⟨rfl, B2⟩
  have hbk : back.length ≤ 100000 := by omega
  have hk : L.length ≤ 100000 := by omega
  have H1 := Lib.hid (fun W (h : Below w.heap.size w W) => p_May A B C D g r back day L c d cb f W hl hn hbk hk (hR.on h) hW (hS.on h) hV (hC.on h) (hL.on h))
  have H2 := Lib.hid (fun W (h : Below w.heap.size w W) => r_May A B C D g r back day L c d cb f W hl hn hbk hk (hR.on h) hW (hS.on h) hV (hC.on h) (hL.on h))
  have H3 : Hid (∀ W, Below w.heap.size w W → Calls Try.prog 40 #[.slice A g.length c, .slice B r.length d, .slice C back.length cb, .int .i64 day, .slice D L.length f] W fun e w' => ∃ v, e = .returned (.tuple #[v, .int .i64 (wkE g r back day L)]) ∧ GotW w' v (weL g r back day L) ∧ Below W.heap.size W w') := Lib.hid (fun W (h : Below w.heap.size w W) => p_Weak A B C D g r back day L c d cb f W hl hn hbk hk (hR.on h) hW (hS.on h) hV (hC.on h) (hL.on h))
  have H4 : Hid (∀ W, Below w.heap.size w W → Calls Try.prog 41 #[.slice A g.length c, .slice B r.length d, .slice C back.length cb, .int .i64 day, .slice D L.length f] W fun e w' => ∃ v, e = .returned (.tuple #[v, .int .i64 (wkE g r back day L)]) ∧ GotW w' v (weL g r back day L) ∧ Below W.heap.size W w') := Lib.hid (fun W (h : Below w.heap.size w W) => r_Weak A B C D g r back day L c d cb f W hl hn hbk hk (hR.on h) hW (hS.on h) hV (hC.on h) (hL.on h))
  have HB := Lib.hid (show mayB g r back day L = (decide (wkE g r back day L = 0) && decide ((weL g r back day L).length = 0)) from rfl)
  have hZl := weL_len g r back day L hn
  generalize weL g r back day L = Z at *
  generalize mayB g r back day L = M at *
  generalize wkE g r back day L = E at *
  have hcase : ((E != 0) = true ∧ M = false) ∨ (E = 0 ∧ M = ((Z.length : Int) == 0)) := by
    by_cases hE : E = 0
    · exact Or.inr ⟨hE, by rw [HB.out]; simp [hE]; rw [Bool.eq_iff_iff]; simp⟩
    · exact Or.inl ⟨by simpa using hE, by rw [HB.out]; simp [hE]⟩
  rcases hcase with ⟨hE, hMM⟩ | ⟨hE, hMM⟩
  all_goals
    subst hMM
    try subst hE
    go_enter Try.func7, Try.ntmps7
    go_wp2_with (go_at_call 11; ((with_reducible refine (l_awake _).mono ?_); rintro e w1 ⟨rfl, hb1⟩; obtain ⟨hc1, hf1⟩ := bcell hb1; have hz1 := hb1.size; (try simp [sz_drew, sz_drewN] at hz1); (try simp only [sz_drew, sz_drewN] at hc1 hf1)))
    refine (HM.out _ hb1).mono ?_
    rintro e w2 ⟨v, rfl, ⟨b, rfl, _⟩, hb2⟩
    have B2 := below_tr hb1 hb2
    clear hb1 hb2 hc1 hf1 hz1
    cases b
    rotate_left
    · go_wp2
      go_ret
      exact ⟨rfl, B2⟩
    go_wp2_with (first
      | (go_at_call 38; ((with_reducible refine (H1.out _ B2).mono ?_); rintro e w3 ⟨rfl, hb3⟩; have B3 := below_tr B2 hb3))
      | (go_at_call 39; ((with_reducible refine (H2.out _ B3).mono ?_); rintro e w4 ⟨rfl, hb4⟩; have B4 := below_tr B3 hb4))
      | (go_at_call 40; ((with_reducible refine (H3.out _ B4).mono ?_); rintro e w9 ⟨v9, rfl, ⟨A9, c9, rfl, hr9⟩, hb9⟩; have B9 := below_tr B4 hb9))
      | (go_at_call 41; ((with_reducible refine (H4.out _ B9).mono ?_); rintro e w10 ⟨v10, rfl, ⟨A10, c10, rfl, hr10⟩, hb10⟩; have B10 := below_tr B9 hb10; have hr9' := hr9.on hb10))
      | (go_at_call 21; ((with_reducible refine (r_sameInts _ _ _ _ _ _ hZl hr9' hr10).mono ?_); rintro e w11 ⟨rfl, hb11⟩; obtain ⟨hc11, hf11⟩ := bcell hb11; have hz11 := hb11.size; (try simp [sz_drew, sz_drewN] at hz11); (try simp only [sz_drew, sz_drewN] at hc11 hf11))))
    go_ret
    exact ⟨ret_bool (by simp), below_tr B10 hb11⟩
end Go.Proofs.Ytijlglanpgcdiaa
