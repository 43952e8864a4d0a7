/- Gear: GearChanges walked. -/
import Derived.Test.YtijlglanpgcdiaaGn
set_option linter.unusedSimpArgs false
set_option linter.unusedVariables false
namespace Go.Proofs.Ytijlglanpgcdiaa
open Go.RowKit Go.Maps

theorem swE_z {g : List It} {r : List Lk} {n : Int} {s : ByteArray} (h : swE g r n s = 0) : (vldG g && vldR g r) = true ∧ 0 ≤ n ∧ n ≤ r.length - 1 ∧ 0 ≤ fndI g s ∧ fndL r s < 0 := by
  unfold swE at h
  split at h
  · rename_i h1
    split at h
    · rename_i h2
      obtain ⟨a, b⟩ := wn_iff.1 h2
      split at h
      · rename_i h3
        split at h
        · rename_i h4; exact ⟨h1, a, b, h3, h4⟩
        · omega
      · omega
    · omega
  · omega
theorem vldR_all {g : List It} {r : List Lk} (h : wn r.length 1 32 = true) (hk : ∀ (k : Nat) (x : Lk), r[k]? = some x → 0 ≤ fndI g x.nm ∧ frB k x.fr = true ∧ ∀ (j : Nat) (y : Lk), j < k → r[j]? = some y → y.nm.toList ≠ x.nm.toList) : vldR g r = true := by
  unfold vldR
  rw [h, Bool.and_true, List.all_eq_true]
  intro k hkk
  obtain ⟨x, hx⟩ := get_lt (show k < r.length by simpa using hkk)
  obtain ⟨a, b, c⟩ := hk k x hx
  unfold okL
  rw [lkAt_of hx, b]
  have h0 := (fndl_of hx rfl).1
  have := fndl_ge (s := x.nm) (k := k) c h0
  simp; omega
theorem sw_vld {g : List It} {r : List Lk} {n : Int} {s : ByteArray} (h : swE g r n s = 0) : (vldG g && vldR g (swL g r n s)) = true := by
  obtain ⟨h1, h2, h3, h4, h5⟩ := swE_z h
  have hv := vr_of h1
  have h6 := h1
  rw [Bool.and_eq_true] at h6 ⊢
  refine ⟨h6.1, ?_⟩
  obtain ⟨k, rfl⟩ := Int.eq_ofNat_of_zero_le h2
  unfold swL
  rw [if_pos h, show ((k : Int)).toNat = k by omega]
  have hno : ∀ (j : Nat) (y : Lk), r[j]? = some y → y.nm.toList ≠ s.toList := fun j y hy he => by have := (fndl_of hy he).1; omega
  have l0 := hv.l0
  have l1 := hv.l1
  refine vldR_all (by rw [List.length_set, wn_iff]; omega) ?_
  intro i x hx
  obtain ⟨z, hz⟩ := get_lt (show i < r.length by have := (List.getElem?_eq_some_iff.1 hx).1; rwa [List.length_set] at this)
  have hlk : k < r.length := by omega
  have hfr := hv.fr i z hz
  have hfn := hv.fnd i z hz
  have hds := hv.dst i z hz
  by_cases hik : k = i
  · subst hik
    rw [List.getElem?_set_self hlk] at hx
    cases hx
    rw [lkAt_of hz]
    refine ⟨h4, hfr, ?_⟩
    intro j y hj hy
    rw [List.getElem?_set_ne (by omega)] at hy
    exact hno j y hy
  · rw [List.getElem?_set_ne hik, hz] at hx
    cases hx
    refine ⟨hfn, hfr, ?_⟩
    intro j y hj hy
    by_cases hjk : k = j
    · subst hjk
      rw [List.getElem?_set_self hlk] at hy
      cases hy
      exact fun he => hno i _ hz he.symm
    · rw [List.getElem?_set_ne hjk] at hy
      intro he
      have := (fndl_of hy he).2
      omega
theorem sw_w {g : List It} {r : List Lk} {n : Int} {s : ByteArray} (hV : ∀ x ∈ r, LW x) (hs : s.size ≤ maxLen) : ∀ x ∈ swL g r n s, LW x := by
  intro x hx
  unfold swL at hx
  split at hx
  · rename_i h
    obtain ⟨h1, h2, h3, _⟩ := swE_z h
    obtain ⟨k, rfl⟩ := Int.eq_ofNat_of_zero_le h2
    rw [show ((k : Int)).toNat = k by omega] at hx
    have l0 := (vr_of h1).l0
    obtain ⟨z, hz⟩ := get_lt (show k < r.length by omega)
    have hzz := hV z (List.mem_of_getElem? hz)
    rw [lkAt_of hz] at hx
    rcases List.mem_or_eq_of_mem_set hx with h | rfl
    · exact hV x h
    · exact ⟨hs, hzz.f0, hzz.f1⟩
  · cases hx
theorem sw_len {g : List It} {r : List Lk} {n : Int} {s : ByteArray} : (swL g r n s).length ≤ r.length := by
  unfold swL; split
  · rw [List.length_set]; exact Nat.le_refl _
  · simp
theorem lk_len {g : List It} {d : Int} {s : ByteArray} : (lkL g s d).length ≤ g.length := by
  unfold lkL; split
  · unfold setDu; rw [List.length_set]; exact Nat.le_refl _
  · simp
set_option maxHeartbeats 4000000 in
set_option maxRecDepth 20000 in
theorem l_GearChanges (A : Option Addr) (g : List It) (c : Nat) (B : Option Addr) (r : List Lk) (d : Nat) (n du : Int) (s : ByteArray) (w : World) (hl0 : g.length ≤ maxLen) (hR : Rd It.cs 4 w A g) (hW : ∀ x ∈ g, IW x) (hc : g.length ≤ c) (hcm : c ≤ maxLen) (hn0 : r.length ≤ maxLen) (hS : Rd Lk.cs 2 w B r) (hV : ∀ x ∈ r, LW x) (_ : (Lit.int .i64 n).wf = true) (_ : (Lit.int .i64 du).wf = true) (hs : s.size ≤ maxLen) :
    Calls Try.prog 4 #[.slice A g.length c, .slice B r.length d, .int .i64 n, .int .i64 du, .string s] w fun e w' => e = .returned (.bool true) ∧ Below w.heap.size w w' := by
  have HM := Lib.hid (fun W (h : Below w.heap.size w W) => l_many A B g r c d W hl0 hn0 (hR.on h) hW (hS.on h) hV)
  by_cases hsh : g.length ≤ 80 ∧ r.length ≤ 40
  rotate_left
  · clear hR hW hS hV hs hl0 hn0
    go_enter Try.func4, Try.ntmps4
    go_wp2_with (go_at_call 11; ((with_reducible refine (l_awake _).mono ?_); rintro e w1 ⟨rfl, hb1⟩; obtain ⟨hc1, hf1⟩ := bcell hb1; have hz1 := hb1.size; (try simp [sz_drew, sz_drewN] at hz1); (try simp only [sz_drew, sz_drewN] at hc1 hf1)))
    refine (HM.out _ hb1).mono ?_
    rintro e w2 ⟨v, rfl, ⟨b, rfl, hbb⟩, hb2⟩
    have B2 := below_tr hb1 hb2
    obtain rfl : b = true := by cases b; exact absurd (hbb rfl) hsh; rfl
    go_wp2
    go_ret
    exact ⟨rfl, B2⟩
  have hl : g.length ≤ 100000 := by omega
  have hn : r.length ≤ 100000 := by omega
  have H1 := Lib.hid (fun W (h : Below w.heap.size w W) => p_Looked A g c s du W hl hc hcm (hR.on h) hW hs)
  have H2 := Lib.hid (fun W (h : Below w.heap.size w W) => r_Looked A g c s du W hl (hR.on h) hW)
  have H3 := Lib.hid (fun W (h : Below w.heap.size w W) => p_Swapped A B g r c d n s W hl hn (hR.on h) hW (hS.on h) hV hs)
  have H4 := Lib.hid (fun W (h : Below w.heap.size w W) => r_Swapped A B g r c d n s W hl hn (hR.on h) hW (hS.on h) hV)
  have hll := @lk_len g du s
  have hsl := @sw_len g r n s
  have HLL := Lib.hid (show (lkL g s du).length ≤ 100000 by omega)
  have hLn : (swL g r n s).length ≤ 100000 := by omega
  have H5 := Lib.hid (fun (hE : swE g r n s = 0) W (h : Below w.heap.size w W) A' c' (hA : Rd Lk.cs 2 W A' (swL g r n s)) => p_ValidRigV (c := c) (d := c') (sw_vld hE) hl hLn (hR.on h) hW hA (sw_w hV hs))
  generalize lkE g s du = E1 at *
  generalize lkL g s du = L1 at *
  generalize swE g r n s = E2 at *
  generalize swL g r n s = L2 at *
  clear hR hW hS hV hs hll hsl
  go_enter Try.func4, Try.ntmps4
  go_wp2_with (go_at_call 11; ((with_reducible refine (l_awake _).mono ?_); rintro e w1 ⟨rfl, hb1⟩; obtain ⟨hc1, hf1⟩ := bcell hb1; have hz1 := hb1.size; (try simp [sz_drew, sz_drewN] at hz1); (try simp only [sz_drew, sz_drewN] at hc1 hf1)))
  refine (HM.out _ hb1).mono ?_
  rintro e w2 ⟨v, rfl, ⟨b, rfl, _⟩, hb2⟩
  have B2 := below_tr hb1 hb2
  clear hb1 hb2 hc1 hf1 hz1
  cases b
  · by_cases hsz : 100 < (s.size : Int)
    · go_wp2
      go_ret
      exact ⟨rfl, B2⟩
    · go_wp2_with (first
        | (go_at_call 22; ((with_reducible refine (H1.out _ B2).mono ?_); rintro e w3 ⟨A3, c3, rfl, hr3, hb3⟩; have B3 := below_tr B2 hb3))
        | (go_at_call 23; ((with_reducible refine (H2.out _ B3).mono ?_); rintro e w4 ⟨A4, c4, rfl, hr4, hb4⟩; have B4 := below_tr B3 hb4; have hr3' := hr3.on hb4))
        | ((go_at_call 24; ((with_reducible refine (l_items _ _ _ _ _ _ HLL.out hr3' hr4).mono ?_); rintro e w5 ⟨rfl, hb5⟩; obtain ⟨hc5, hf5⟩ := bcell hb5; have hz5 := hb5.size; (try simp [sz_drew, sz_drewN] at hz5); (try simp only [sz_drew, sz_drewN] at hc5 hf5))); have B5 := below_tr B4 hb5)
        | (go_at_call 25; ((with_reducible refine (H3.out _ B5).mono ?_); rintro e w6 ⟨v, rfl, ⟨A6, c6, rfl, hr6⟩, hb6⟩; have B6 := below_tr B5 hb6))
        | (go_at_call 26; ((with_reducible refine (H4.out _ B6).mono ?_); rintro e w7 ⟨v, rfl, ⟨A7, c7, rfl, hr7⟩, hb7⟩; have B7 := below_tr B6 hb7; have hr6' := hr6.on hb7)))
      go_loopw [17] (fun i wr => ∃ k : Nat, k ≤ L2.length ∧ i = .int .i64 k ∧ Below w.heap.size w wr ∧ Rd Lk.cs 2 wr A6 L2 ∧ Rd Lk.cs 2 wr A7 L2) (fun i _ => L2.length - (intOf i).toNat)
      case atStart => exact ⟨0, by omega, rfl, B7, hr6', hr7⟩
      case round =>
        clear hr3 hr4 hr6 hr7 hr3' hr6' hc5 hf5 hz5 hb3 hb4 hb5 hb6 hb7
        obtain ⟨k, hk, rfl, hbw, hx6, hx7⟩ := hrel
        have k0 : (0 : Int) ≤ (k : Int) := Int.natCast_nonneg _
        by_cases hlt : k < L2.length
        · have k1 : (k : Int) < (L2.length : Int) := by omega
          obtain ⟨x, b, off, hx, rfl, hb, p0, p1⟩ := rdL hx6 hlt
          obtain ⟨y, b', off', hy, rfl, hb', q0, q1⟩ := rdL hx7 hlt
          obtain rfl : x = y := by rw [hx] at hy; exact Option.some.inj hy
          clear hx hy
          go_wp2
          go_quiet (fail)
          go_wp2
          go_roundw
          case rel => exact ⟨k + 1, by omega, by go_num, below_drewN hbw _, hx6, hx7⟩
          case measure => simp [intOf]; omega
        · obtain rfl : k = L2.length := by omega
          by_cases hE : E2 = 0
          · subst hE
            have HQ := Lib.hid (H5.out rfl _ hbw _ c6 hx6)
            go_wp2_with (go_at_call 17; ((with_reducible refine (HQ.out).mono ?_); rintro e w8 ⟨rfl, hb8⟩; obtain ⟨hc8, hf8⟩ := bcell hb8; have hz8 := hb8.size; (try simp [sz_drew, sz_drewN] at hz8); (try simp only [sz_drew, sz_drewN] at hc8 hf8)))
            go_ret
            exact ⟨rfl, below_tr hbw hb8⟩
          · have hE' : (E2 != 0) = true := by simpa using hE
            go_wp2
            go_ret
            exact ⟨rfl, hbw⟩
  · go_wp2
    go_ret
    exact ⟨rfl, B2⟩
end Go.Proofs.Ytijlglanpgcdiaa
