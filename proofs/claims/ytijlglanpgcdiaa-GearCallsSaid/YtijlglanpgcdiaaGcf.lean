/- Gear: GearCalls walked. -/
import Derived.Test.YtijlglanpgcdiaaGce
set_option linter.unusedSimpArgs false
set_option linter.unusedVariables false
namespace Go.Proofs.Ytijlglanpgcdiaa
open Go.RowKit Go.Maps

theorem hasB_nil0 (s : ByteArray) : hasB [] s = false := rfl
theorem wkE_back {g : List It} {r : List Lk} {s : ByteArray} {day : Int} {L : List Int} : wkE g r [s] day L = wkE g r [] day L := by
  unfold wkE; simp
theorem may_back {g : List It} {r : List Lk} {s : ByteArray} {day : Int} {L : List Int} (h : wkE g r [] day L = 0) : mayB g r [s] day L = (mayB g r [] day L && !(r.any (tcP g s))) := by
  have h' : wkE g r [s] day L = 0 := by rw [wkE_back]; exact h
  rw [Bool.eq_iff_iff, Bool.and_eq_true, may_iff, may_iff, Bool.not_eq_true', List.any_eq_false]
  have hq : ∀ k, k < r.length → (wkB g r [s] day L k = false ↔ wkB g r [] day L k = false ∧ ¬ tcP g s (lkAt r k) = true) := fun k _ => by
    have e : hasB [s] (itR g (lkAt r k)).bt = tcP g s (lkAt r k) := by unfold hasB tcP; simp
    unfold wkB
    rw [wkC_no, wkC_no, e, hasB_nil0]
    constructor
    · rintro ⟨a, b, c⟩; exact ⟨⟨a, rfl, c⟩, by rw [b]; simp⟩
    · rintro ⟨⟨a, _, c⟩, b⟩; exact ⟨a, by simpa using b, c⟩
  constructor
  · rintro ⟨_, h2⟩
    refine ⟨⟨h, fun k hk => ((hq k hk).1 (h2 k hk)).1⟩, fun x hx => ?_⟩
    obtain ⟨k, hk⟩ := List.getElem?_of_mem hx
    have hkl := (List.getElem?_eq_some_iff.1 hk).1
    have := ((hq k hkl).1 (h2 k hkl)).2
    rwa [lkAt_of hk] at this
  · rintro ⟨⟨_, h2⟩, h3⟩
    refine ⟨h', fun k hk => (hq k hk).2 ⟨h2 k hk, ?_⟩⟩
    obtain ⟨x, hx⟩ := get_lt hk
    rw [lkAt_of hx]
    exact h3 x (List.mem_of_getElem? hx)
theorem fZ_any {p : Nat → Bool} {n i : Nat} (hi : i < n) : (fZ p n).any (fun z => z == (i : Int)) = p i := by
  rw [Bool.eq_iff_iff, List.any_eq_true]
  unfold fZ fN
  constructor
  · rintro ⟨z, hz, e⟩
    rw [List.mem_map] at hz
    obtain ⟨k, hk, rfl⟩ := hz
    rw [List.mem_filter] at hk
    have : k = i := by have : (k : Int) = i := by simpa using e
                       omega
    subst this; exact hk.2
  · intro h
    exact ⟨i, List.mem_map.2 ⟨i, List.mem_filter.2 ⟨by simpa using hi, h⟩, rfl⟩, by simp⟩
theorem blk_rdS1 {w : World} {b : Nat} {t : TypeId} {s : ByteArray} (h : Blk w b t #[.string s]) : Rd sC 1 w (some ⟨b, 0, none⟩) [s] := fun _ => by
  refine ⟨b, 0, rfl, h.lt, fun k x hx j v hv => ?_⟩
  have hk : k < 1 := (List.getElem?_eq_some_iff.1 hx).1
  rw [Nat.zero_add, h.cell]
  obtain rfl : k = 0 := by omega
  cases hx
  have hj : j < 1 := (List.getElem?_eq_some_iff.1 hv).1
  obtain rfl : j = 0 := by omega
  exact hv
theorem fZ_len (p : Nat → Bool) (n : Nat) : (fZ p n).length ≤ n := by unfold fZ; rw [List.length_map]; exact fN_len p n
set_option maxHeartbeats 8000000 in
set_option maxRecDepth 20000 in
theorem l_GearCalls (A : Option Addr) (g : List It) (c : Nat) (B : Option Addr) (R : List Rg) (d : Nat) (s : ByteArray) (day : Int) (D : Option Addr) (L : List Int) (f : Nat) (w : World) (hl0 : g.length ≤ maxLen) (hR : Rd It.cs 4 w A g) (hW : ∀ x ∈ g, IW x) (hr0 : R.length ≤ maxLen) (hB : Rd Rg.cs 1 w B R) (hO0 : ∀ x ∈ R, RgOk w x) (hs : s.size ≤ maxLen) (_ : (Lit.int .i64 day).wf = true) (hk0 : L.length ≤ maxLen) (hL : Rd zC 1 w D L) (_ : ∀ x ∈ L, True) :
    Calls Try.prog 9 #[.slice A g.length c, .slice B R.length d, .string s, .int .i64 day, .slice D L.length f] w fun e w' => e = .returned (.bool true) ∧ Below w.heap.size w w' := by
  have HM : Hid (∀ W, Below w.heap.size w W → Calls Try.prog 12 #[.slice A g.length c, .slice none 0 0] W fun e w' => ∃ v, e = .returned v ∧ ManyV g [] v ∧ Below W.heap.size W w') := Lib.hid (fun W (h : Below w.heap.size w W) => l_many A none g [] c 0 W hl0 (by simp) (hR.on h) hW Rd.nil_ (by simp))
  have HM2 : Hid (∀ W, Below w.heap.size w W → ∀ x ∈ R, Calls Try.prog 12 #[.slice none 0 0, .slice x.a x.l.length x.c] W fun e w' => ∃ v, e = .returned v ∧ ManyV [] x.l v ∧ Below W.heap.size W w') := Lib.hid (fun W (h : Below w.heap.size w W) x hx => l_many none x.a [] x.l 0 x.c W (by simp) (hO0 x hx).len Rd.nil_ (by simp) ((hO0 x hx).rd.on h) (hO0 x hx).lw)
  by_cases hsh : g.length ≤ 80
  rotate_left
  · clear hR hW hB hO0 hL hl0 hk0
    go_enter Try.func9, Try.ntmps9
    go_wp2_with (go_at_call 11; ((with_reducible refine (l_awake _).mono ?_); rintro e w1 ⟨rfl, hb1⟩; obtain ⟨hc1, hf1⟩ := bcell hb1; have hz1 := hb1.size; (try simp [sz_drew, sz_drewN] at hz1); (try simp only [sz_drew, sz_drewN] at hc1 hf1)))
    refine (HM.out _ hb1).mono ?_
    rintro e w2 ⟨v, rfl, ⟨b, rfl, hbb⟩, hb2⟩
    have B2 := below_tr hb1 hb2
    obtain rfl : b = true := by cases b; exact absurd (hbb rfl).1 hsh; rfl
    go_wp2
    go_ret
    exact ⟨rfl, B2⟩
  have hl : g.length ≤ 100000 := by omega
  have hmain : ((¬ 8 < (R.length : Int)) ∧ ¬ 60 < (R.length : Int) ∧ ¬ 100 < (s.size : Int) ∧ ¬ 40 < (L.length : Int)) ∨ (8 < (R.length : Int) ∧ ¬ (R.length : Int) ≤ 50 ∧ ¬ 60 < (R.length : Int) ∧ ¬ 100 < (s.size : Int) ∧ ¬ 40 < (L.length : Int)) ∨
    ((8 < (R.length : Int) ∧ (R.length : Int) ≤ 50) ∨ (¬ 8 < (R.length : Int) ∧ ¬ 60 < (R.length : Int) ∧ 100 < (s.size : Int)) ∨ (¬ 8 < (R.length : Int) ∧ ¬ 60 < (R.length : Int) ∧ ¬ 100 < (s.size : Int) ∧ 40 < (L.length : Int)) ∨ (8 < (R.length : Int) ∧ ¬ (R.length : Int) ≤ 50 ∧ 60 < (R.length : Int)) ∨ (8 < (R.length : Int) ∧ ¬ (R.length : Int) ≤ 50 ∧ ¬ 60 < (R.length : Int) ∧ 100 < (s.size : Int)) ∨ (8 < (R.length : Int) ∧ ¬ (R.length : Int) ≤ 50 ∧ ¬ 60 < (R.length : Int) ∧ ¬ 100 < (s.size : Int) ∧ 40 < (L.length : Int))) := by omega
  rcases hmain with ⟨r1, r3, r4, r5⟩ | ⟨r1, r2, r3, r4, r5⟩ | hmain
  rotate_left 2
  · clear hR hW hB hO0 hL hl0
    unfold maxLen at hk0 hr0 hs
    rcases hmain with ⟨r1, r2⟩ | ⟨r1, r2, r3⟩ | ⟨r1, r2, r3, r4⟩ | ⟨r1, r2, r3⟩ | ⟨r1, r2, r3, r4⟩ | ⟨r1, r2, r3, r4, r5⟩
    all_goals
      go_enter Try.func9, Try.ntmps9
      go_wp2_with (go_at_call 11; ((with_reducible refine (l_awake _).mono ?_); rintro e w1 ⟨rfl, hb1⟩; obtain ⟨hc1, hf1⟩ := bcell hb1; have hz1 := hb1.size; (try simp [sz_drew, sz_drewN] at hz1); (try simp only [sz_drew, sz_drewN] at hc1 hf1)))
      refine (HM.out _ hb1).mono ?_
      rintro e w2 ⟨v, rfl, ⟨b, rfl, hbb⟩, hb2⟩
      have B2 := below_tr hb1 hb2
      cases b
      all_goals
        go_wp2
        go_ret
        exact ⟨rfl, B2⟩
  all_goals
    have hr : R.length ≤ 100000 := by omega
    have hk : L.length ≤ 100000 := by omega
    have H1 := Lib.hid (fun W (h : Below w.heap.size w W) => p_Called A g c s W hl (hR.on h) hW)
    have H2 := Lib.hid (fun W (h : Below w.heap.size w W) => r_Called A g c s W hl (hR.on h) hW)
    have H3 := Lib.hid (fun (h40 : ∀ x ∈ R, x.l.length ≤ 40) W (h : Below w.heap.size w W) => p_Taken A B g R c d W hl hr (hR.on h) hW (hB.on h) (fun x hx => ⟨(hO0 x hx).on h, h40 x hx⟩))
    have H4 := Lib.hid (fun (h40 : ∀ x ∈ R, x.l.length ≤ 40) W (h : Below w.heap.size w W) => r_Taken A B g R c d W hl hr (hR.on h) hW (hB.on h) (fun x hx => ⟨(hO0 x hx).on h, h40 x hx⟩))
    have H5 := Lib.hid (fun (h40 : ∀ x ∈ R, x.l.length ≤ 40) W (h : Below w.heap.size w W) => p_Touched A B g R s c d W hl hr (hR.on h) hW (hB.on h) (fun x hx => ⟨(hO0 x hx).on h, h40 x hx⟩))
    have H6 := Lib.hid (fun (h40 : ∀ x ∈ R, x.l.length ≤ 40) W (h : Below w.heap.size w W) => r_Touched A B g R s c d W hl hr (hR.on h) hW (hB.on h) (fun x hx => ⟨(hO0 x hx).on h, h40 x hx⟩))
    have HC1 := Lib.hid (show (caZ g s).length ≤ 100000 by unfold caZ; split; exact Nat.le_trans (fZ_len _ _) hl; simp)
    have HC2 := Lib.hid (show (tkZ g R).length ≤ 100000 by unfold tkZ; split; exact Nat.le_trans (fZ_len _ _) hl; simp)
    have HC3 := Lib.hid (show (tcZ g R s).length ≤ 100000 by unfold tcZ; split; exact Nat.le_trans (fZ_len _ _) hr; simp)
    have HTZ := Lib.hid (fun (h : svE g R = 0) i (hi : i < R.length) => show (tcZ g R s).any (fun z => z == (i : Int)) = tcB g R s i by unfold tcZ; rw [if_pos h]; exact fZ_any hi)
    go_enter Try.func9, Try.ntmps9
    go_wp2_with (go_at_call 11; ((with_reducible refine (l_awake _).mono ?_); rintro e w1 ⟨rfl, hb1⟩; obtain ⟨hc1, hf1⟩ := bcell hb1; have hz1 := hb1.size; (try simp [sz_drew, sz_drewN] at hz1); (try simp only [sz_drew, sz_drewN] at hc1 hf1)))
    refine (HM.out _ hb1).mono ?_
    rintro e w2 ⟨v, rfl, ⟨b, rfl, _⟩, hb2⟩
    have B2 := below_tr hb1 hb2
    clear hb1 hb2 hc1 hf1 hz1
    cases b
    rotate_left
    · go_wp2
      go_ret
      exact ⟨rfl, B2⟩
    go_wp2
    go_loopw [11] (fun i wr => ∃ k : Nat, k ≤ R.length ∧ i = .int .i64 k ∧ Below w.heap.size w wr ∧ Hid (∀ x ∈ R.take k, x.l.length ≤ 40)) (fun i _ => R.length - (intOf i).toNat)
    case atStart => exact ⟨0, by omega, rfl, B2, Lib.hid (by simp)⟩
    case round =>
      clear B2
      obtain ⟨k, hk', rfl, hbw, HI⟩ := hrel
      rename World => wa
      have k0 : (0 : Int) ≤ (k : Int) := Int.natCast_nonneg _
      by_cases hlt : k < R.length
      · have k1 : (k : Int) < (R.length : Int) := by omega
        obtain ⟨x, b, off, hx, rfl, hb, q0⟩ := rdG (hB.on hbw) hlt
        have HC := Lib.hid (HM2.out wa hbw x (List.mem_of_getElem? hx))
        have HX := Lib.hid hx
        clear hx
        go_wp2_with fail
        refine (HC.out).mono ?_
        rintro e w3 ⟨v, rfl, ⟨b, rfl, hbb⟩, hb3⟩
        have B3 := below_tr hbw hb3
        cases b
        · have HI2 := Lib.hid (show ∀ y ∈ R.take (k + 1), y.l.length ≤ 40 by
            intro y hy
            rw [List.take_add_one, HX.out, List.mem_append] at hy
            rcases hy with hy | hy
            · exact HI.out y hy
            · have : y = x := by simpa using hy
              subst this; exact (hbb rfl).2)
          clear hbb
          go_wp2
          go_roundw
          case rel => exact ⟨k + 1, by omega, by go_num, B3, HI2⟩
          case measure => simp [intOf]; omega
        · clear hbb
          go_wp2
          go_ret
          exact ⟨rfl, B3⟩
      · obtain rfl : k = R.length := by omega
        have h40 := HI.out
        rw [List.take_length] at h40
        have H40 := Lib.hid h40
        clear h40
        have G3 := Lib.hid (H3.out H40.out)
        have G4 := Lib.hid (H4.out H40.out)
        have G5 := Lib.hid (H5.out H40.out)
        have G6 := Lib.hid (H6.out H40.out)
        have hz1 := HC1.out
        have hz2 := HC2.out
        have hz3 := HC3.out
        have B0 := hbw
        have HMY := Lib.hid (fun x (hx : x ∈ R) C l cb (hl1 : l.length ≤ 100) W (h : Below w.heap.size w W) (hC : Rd sC 1 W C l) => p_May A x.a C D g x.l l day L c x.c cb f W hl (by have := H40.out x hx; omega) (by omega) hk (hR.on h) hW ((hO0 x hx).rd.on h) (hO0 x hx).lw hC (hL.on h))
        generalize hcaE : caE g = E0 at *
        generalize caZ g s = Z1 at *
        generalize tkZ g R = Z2 at *
        generalize tcZ g R s = Z3 at *
        clear hcaE
        by_cases hE : svE g R = 0
        rotate_left
        · have hE' : (svE g R == 0) = false := by simpa using hE
          generalize svE g R = E at *
          clear hE
          go_wp2_with (first
          | (go_at_call 21; ((with_reducible refine (r_sameInts _ _ _ _ _ _ hz3 hr10' hr11).mono ?_); rintro e w12 ⟨rfl, hb12⟩; have B12 := below_tr B11 hb12; have hr12 := hr10'.on hb12))
          | (go_at_call 21; ((with_reducible refine (r_sameInts _ _ _ _ _ _ hz2 hr7' hr8).mono ?_); rintro e w9 ⟨rfl, hb9⟩; have B9 := below_tr B8 hb9))
          | (go_at_call 21; ((with_reducible refine (r_sameInts _ _ _ _ _ _ hz1 hr4' hr5).mono ?_); rintro e w6 ⟨rfl, hb6⟩; have B6 := below_tr B5 hb6))
          | (go_at_call 47; ((with_reducible refine (G6.out _ B10).mono ?_); rintro e w11 ⟨v11, rfl, ⟨A11, c11, rfl, hr11⟩, hb11⟩; have B11 := below_tr B10 hb11; have hr10' := hr10.on hb11))
          | (go_at_call 46; ((with_reducible refine (G5.out _ B9).mono ?_); rintro e w10 ⟨v10, rfl, ⟨A10, c10, rfl, hr10⟩, hb10⟩; have B10 := below_tr B9 hb10))
          | (go_at_call 45; ((with_reducible refine (G4.out _ B7).mono ?_); rintro e w8 ⟨v8, rfl, ⟨A8, c8, rfl, hr8⟩, hb8⟩; have B8 := below_tr B7 hb8; have hr7' := hr7.on hb8))
          | (go_at_call 44; ((with_reducible refine (G3.out _ B6).mono ?_); rintro e w7 ⟨v7, rfl, ⟨A7, c7, rfl, hr7⟩, hb7⟩; have B7 := below_tr B6 hb7))
          | (go_at_call 43; ((with_reducible refine (H2.out _ B4).mono ?_); rintro e w5 ⟨v5, rfl, ⟨A5, c5, rfl, hr5⟩, hb5⟩; have B5 := below_tr B4 hb5; have hr4' := hr4.on hb5))
          | (go_at_call 42; ((with_reducible refine (H1.out _ B0).mono ?_); rintro e w4 ⟨v4, rfl, ⟨A4, c4, rfl, hr4⟩, hb4⟩; have B4 := below_tr B0 hb4)))
          go_loop [16] (fun i => ∃ k : Nat, k ≤ R.length ∧ i = .int .i64 k) (fun i => R.length - (intOf i).toNat)
          case atStart => exact ⟨0, by omega, rfl⟩
          case round =>
            obtain ⟨k, hk', rfl⟩ := hrel
            have k0 : (0 : Int) ≤ (k : Int) := Int.natCast_nonneg _
            by_cases hlt : (k : Int) < (R.length : Int)
            all_goals
              go_wp2
              go_ret
              exact ⟨rfl, B12⟩
        have HT := Lib.hid (HTZ.out hE)
        rw [hE] at G3 G4 G5 G6
        clear hE
        go_wp2_with (first
          | (go_at_call 21; ((with_reducible refine (r_sameInts _ _ _ _ _ _ hz3 hr10' hr11).mono ?_); rintro e w12 ⟨rfl, hb12⟩; have B12 := below_tr B11 hb12; have hr12 := hr10'.on hb12))
          | (go_at_call 21; ((with_reducible refine (r_sameInts _ _ _ _ _ _ hz2 hr7' hr8).mono ?_); rintro e w9 ⟨rfl, hb9⟩; have B9 := below_tr B8 hb9))
          | (go_at_call 21; ((with_reducible refine (r_sameInts _ _ _ _ _ _ hz1 hr4' hr5).mono ?_); rintro e w6 ⟨rfl, hb6⟩; have B6 := below_tr B5 hb6))
          | (go_at_call 47; ((with_reducible refine (G6.out _ B10).mono ?_); rintro e w11 ⟨v11, rfl, ⟨A11, c11, rfl, hr11⟩, hb11⟩; have B11 := below_tr B10 hb11; have hr10' := hr10.on hb11))
          | (go_at_call 46; ((with_reducible refine (G5.out _ B9).mono ?_); rintro e w10 ⟨v10, rfl, ⟨A10, c10, rfl, hr10⟩, hb10⟩; have B10 := below_tr B9 hb10))
          | (go_at_call 45; ((with_reducible refine (G4.out _ B7).mono ?_); rintro e w8 ⟨v8, rfl, ⟨A8, c8, rfl, hr8⟩, hb8⟩; have B8 := below_tr B7 hb8; have hr7' := hr7.on hb8))
          | (go_at_call 44; ((with_reducible refine (G3.out _ B6).mono ?_); rintro e w7 ⟨v7, rfl, ⟨A7, c7, rfl, hr7⟩, hb7⟩; have B7 := below_tr B6 hb7))
          | (go_at_call 43; ((with_reducible refine (H2.out _ B4).mono ?_); rintro e w5 ⟨v5, rfl, ⟨A5, c5, rfl, hr5⟩, hb5⟩; have B5 := below_tr B4 hb5; have hr4' := hr4.on hb5))
          | (go_at_call 42; ((with_reducible refine (H1.out _ B0).mono ?_); rintro e w4 ⟨v4, rfl, ⟨A4, c4, rfl, hr4⟩, hb4⟩; have B4 := below_tr B0 hb4)))
        go_loopw [16] (fun i wr => ∃ k : Nat, k ≤ R.length ∧ i = .int .i64 k ∧ Below w.heap.size w wr ∧ Below w12.heap.size w12 wr) (fun i _ => R.length - (intOf i).toNat)
        case atStart => exact ⟨0, by omega, rfl, B12, below_refl _⟩
        case round =>
          clear B0 B4 B5 B6 B7 B8 B9 B10 B11 B12 hbw
          obtain ⟨k, hk', rfl, hbw, hbv⟩ := hrel
          rename World => wb
          have k0 : (0 : Int) ≤ (k : Int) := Int.natCast_nonneg _
          by_cases hlt : k < R.length
          · have k1 : (k : Int) < (R.length : Int) := by omega
            obtain ⟨x, b, off, hx, rfl, hb, q0⟩ := rdG (hB.on hbw) hlt
            have hm := List.mem_of_getElem? hx
            have htc : tcB g R s k = x.l.any (tcP g s) := by unfold tcB; rw [rgAt_of hx]
            have HTK := Lib.hid (HT.out k hlt)
            have hre := hr12.on hbv
            have HQ0 := Lib.hid (fun W (h : Below wb.heap.size wb W) => show W.cell? ⟨b, off + k, none⟩ = some (.slice x.a x.l.length x.c) from (h.cell (p := ⟨b, _, none⟩) hb).trans q0)
            clear hx
            go_wp2
            go_loop [17, 18] (fun t j => ∃ q : Nat, q ≤ Z3.length ∧ j = .int .i64 q ∧ t = .bool ((Z3.take q).any (fun z => z == (k : Int)))) (fun _ j => Z3.length - (intOf j).toNat)
            case atStart => exact ⟨0, by omega, rfl, rfl⟩
            case round =>
              obtain ⟨q, hq, rfl, rfl⟩ := hrel
              have q0' : (0 : Int) ≤ (q : Int) := Int.natCast_nonneg _
              by_cases hql : q < Z3.length
              · have q1' : (q : Int) < (Z3.length : Int) := by omega
                obtain ⟨z, zb, zo, hz, e5, hzb, r0⟩ := rd_int hre hql
                have HST := Lib.hid (show (Z3.take (q + 1)).any (fun z => z == (k : Int)) = ((Z3.take q).any (fun z => z == (k : Int)) || (z == (k : Int))) by rw [List.take_add_one, hz, List.any_append]; simp)
                rw [e5]
                clear hz
                cases ht : (Z3.take q).any (fun z => z == (k : Int))
                all_goals
                  have HT2 := Lib.hid ht
                  clear ht
                  go_wp2
                  go_round
                  case rel => exact ⟨q + 1, by omega, by go_num, by rw [HST.out, HT2.out]; simp⟩
                  case measure => simp [intOf]; omega
              · obtain rfl : q = Z3.length := by omega
                rw [List.take_length, HTK.out, htc]
                have HY1 := Lib.hid (fun W h => HMY.out x hm none [] 0 (by simp) W h Rd.nil_)
                have HY2 := Lib.hid (fun W h b' (hC : Rd sC 1 W (some ⟨b', 0, none⟩) [s]) => HMY.out x hm (some ⟨b', 0, none⟩) [s] 1 (by simp) W h hC)
                simp only [List.length_nil] at HY1
                simp only [List.length_cons, List.length_nil, Nat.zero_add] at HY2
                rw [wkE_back] at HY2
                by_cases hE : wkE g x.l [] day L = 0
                · have HMB := Lib.hid (may_back (s := s) hE)
                  rw [hE] at HY1 HY2
                  generalize mayB g x.l [s] day L = b2 at *
                  generalize mayB g x.l [] day L = b1 at *
                  generalize x.l.any (tcP g s) = tt at *
                  clear hE
                  cases b1 <;> cases tt
                  all_goals
                    have hb2' := HMB.out
                    simp only [Bool.not_true, Bool.not_false, Bool.and_true, Bool.and_false] at hb2'
                    subst hb2'
                    go_wp2_with (go_at_call 38; ((with_reducible refine (HY1.out _ hbw).mono ?_); rintro e w13 ⟨rfl, hb13⟩; have B13 := below_tr hbw hb13; have V13 := below_tr hbv hb13; have q1 := HQ0.out _ hb13))
                    refine (HY2.out _ (bl_alloc B13 _) _ (blk_rdS1 (Blk.new _ 9 _))).mono ?_
                    rintro e w14 ⟨rfl, hb14⟩
                    have B14 := below_tr (bl_alloc B13 (.cells #[.string s] 9)) hb14
                    have V14 := below_tr (bl_alloc V13 (.cells #[.string s] 9)) hb14
                    go_wp2
                    go_roundw
                    case rel => exact ⟨k + 1, by omega, by go_num, B14, V14⟩
                    case measure => simp [intOf]; omega
                · have hE2 : (wkE g x.l [] day L == 0) = false := by simpa using hE
                  generalize wkE g x.l [] day L = E at *
                  generalize mayB g x.l [s] day L = b2 at *
                  generalize mayB g x.l [] day L = b1 at *
                  generalize x.l.any (tcP g s) = tt at *
                  clear hE
                  go_wp2_with (go_at_call 38; ((with_reducible refine (HY1.out _ hbw).mono ?_); rintro e w13 ⟨rfl, hb13⟩; have B13 := below_tr hbw hb13; have V13 := below_tr hbv hb13; have q1 := HQ0.out _ hb13))
                  refine (HY2.out _ (bl_alloc B13 _) _ (blk_rdS1 (Blk.new _ 9 _))).mono ?_
                  rintro e w14 ⟨rfl, hb14⟩
                  have B14 := below_tr (bl_alloc B13 (.cells #[.string s] 9)) hb14
                  have V14 := below_tr (bl_alloc V13 (.cells #[.string s] 9)) hb14
                  go_wp2
                  go_roundw
                  case rel => exact ⟨k + 1, by omega, by go_num, B14, V14⟩
                  case measure => simp [intOf]; omega
          · obtain rfl : k = R.length := by omega
            go_wp2
            go_ret
            exact ⟨rfl, hbw⟩
end Go.Proofs.Ytijlglanpgcdiaa
