/- Wind cards: Strictest by the program and by the reference. -/
import Derived.Test.YtkigdjfagcnejaaDoorEb
set_option linter.unusedSimpArgs false
set_option linter.unusedVariables false
namespace Go.Proofs.YtkigdjfagcnejaaDoor
open Go.RowKit

theorem rdRu {w : World} {A : Option Addr} {l : List Ru} (h : Rd Ru.cs 3 w A l) {k : Nat} (hk : k < l.length) :
    ∃ x b off, l[k]? = some x ∧ A = some ⟨b, off, none⟩ ∧ b < w.heap.size ∧ w.cell? ⟨b, off + k * 3, none⟩ = some (.int .i64 x.s) ∧ w.cell? ⟨b, off + k * 3 + 1, none⟩ = some (.int .i64 x.g) ∧ w.cell? ⟨b, off + k * 3 + 2, none⟩ = some (.int .i64 x.c) := by
  obtain ⟨x, hx⟩ := get_lt hk
  obtain ⟨b, off, e, hb, hc⟩ := h.get hx
  exact ⟨x, b, off, hx, e, hb, hc 0 _ rfl, hc 1 _ rfl, hc 2 _ rfl⟩
theorem c_indexRu (A : Option Addr) (l : List (Ru)) (c : Nat) (p : Ru → Bool) (f : FuncId) (cap : Array Value) (w : World) (hl : l.length ≤ 100000) (hR : Rd Ru.cs 3 w A l)
    (he : ∀ args W, (callFunc f args).run Tryd.prog W = .ok (.enter f args) W)
    (hf : ∀ W x, Below w.heap.size w W → x ∈ l → Calls Tryd.prog f (#[ruV x] ++ cap) W fun e W' => e = .returned (.bool (p x)) ∧ Below W.heap.size W W') :
    Calls Tryd.prog 87 #[.slice A l.length c, .func (.func f) #[] cap] w fun e w' => e = .returned (.int .i64 (idxOf p l 0)) ∧ Below w.heap.size w w' := by
  have HF := Lib.hid hf
  clear hf
  go_enter Tryd.func87, Tryd.ntmps87
  go_wp2
  go_loopw [8] (fun i wr => ∃ k : Nat, k ≤ l.length ∧ i = .int .i64 k ∧ Below w.heap.size w wr ∧ Hid (idxOf p l 0 = idxOf p (l.drop k) k)) (fun i _ => l.length - (intOf i).toNat)
  case atStart => exact ⟨0, by omega, rfl, Below.refl _ _, rfl⟩
  case round =>
    obtain ⟨k, hk, rfl, hB, HI⟩ := hrel
    by_cases hlt : k < l.length
    · obtain ⟨x, b, off, hx, rfl, hb, c0, c1, c2⟩ := rdRu (hR.on hB) hlt
      have HD := Lib.hid (idxOf_drop p l k x hx)
      have hm := List.mem_of_getElem? hx
      have HC := Lib.hid (HF.out wr x hB hm)
      clear hx hm
      cases hp : p x
      all_goals
        have HP := Lib.hid hp
        clear hp
        go_wp2_with fail
        refine HC.out.mono ?_
        rintro e w1 ⟨rfl, hb1⟩
        rw [HP.out]
        go_wp2
      · go_roundw
        case rel => exact ⟨k + 1, by omega, by go_num, hB.trans (hb1.mono hB.size), by rw [HI.out, HD.out, HP.out]; rfl⟩
        case measure => simp [intOf]; omega
      · go_ret
        exact ⟨ret_int (by rw [HI.out, HD.out, HP.out]; rfl), hB.trans (hb1.mono hB.size)⟩
    · go_wp2
      go_ret
      exact ⟨ret_int (by rw [HI.out, List.drop_of_length_le (by omega)]; rfl), hB⟩

theorem c_containsRu (A : Option Addr) (l : List (Ru)) (c : Nat) (p : Ru → Bool) (f : FuncId) (cap : Array Value) (w : World) (hl : l.length ≤ 100000) (hR : Rd Ru.cs 3 w A l)
    (he : ∀ args W, (callFunc f args).run Tryd.prog W = .ok (.enter f args) W)
    (hf : ∀ W x, Below w.heap.size w W → x ∈ l → Calls Tryd.prog f (#[ruV x] ++ cap) W fun e W' => e = .returned (.bool (p x)) ∧ Below W.heap.size W W') :
    Calls Tryd.prog 73 #[.slice A l.length c, .func (.func f) #[] cap] w fun e w' => e = .returned (.bool (l.any p)) ∧ Below w.heap.size w w' := by
  have HC := Lib.hid (c_indexRu A l c p f cap w hl hR he hf)
  have HA := Lib.hid (idxOf_nonneg p l 0)
  clear he hf hR
  go_enter Tryd.func73, Tryd.ntmps73
  go_wp2_with (go_at_call 87; refine HC.out.mono ?_; rintro e w' ⟨rfl, hb⟩)
  go_ret
  exact ⟨ret_bool (by rw [Bool.eq_iff_iff, ← HA.out]; simp), hb⟩

/-- for how many minutes work goes by a rule -/
def cR (l : List Int) (r : Ru) : Nat := cnS (gA r l) 0 l.length
def ruAt (rs : List Ru) (k : Nat) : Ru := rs[k]?.getD ⟨0, 0, 0⟩
theorem ruAt_of {l : List Ru} {i : Nat} {p : Ru} (h : l[i]? = some p) : ruAt l i = p := by simp [ruAt, h]
/-- the first rule of k by which work goes for the fewest minutes -/
def bsK (l : List Int) (rs : List Ru) : Nat → Nat
  | 0 => 0
  | k + 1 => if cR l (ruAt rs k) < cR l (ruAt rs (bsK l rs k)) then k else bsK l rs k
theorem bsK_lt (l : List Int) (rs : List Ru) : ∀ k, bsK l rs k ≤ k ∧ (0 < k → bsK l rs k < k)
  | 0 => ⟨Nat.le_refl _, fun h => absurd h (by decide)⟩
  | k + 1 => by
    have ih := bsK_lt l rs k
    unfold bsK
    split
    · omega
    · rcases Nat.eq_zero_or_pos k with h | h
      · subst h; simp [bsK]
      · have := ih.2 h; omega
theorem bsK_yes {l : List Int} {rs : List Ru} {k : Nat} (h : cR l (ruAt rs k) < cR l (ruAt rs (bsK l rs k))) : bsK l rs (k + 1) = k := by rw [bsK, if_pos h]
theorem bsK_no {l : List Int} {rs : List Ru} {k : Nat} (h : cR l (ruAt rs (bsK l rs k)) ≤ cR l (ruAt rs k)) : bsK l rs (k + 1) = bsK l rs k := by rw [bsK, if_neg (by omega)]
def stE (l : List Int) (rs : List Ru) : Int := if vGu l = true ∧ rs.all vRu = true then (if wn (rs.length : Int) 1 20 = true then 0 else 7) else 1
def stN (l : List Int) (rs : List Ru) : Int := if stE l rs = 0 then (bsK l rs rs.length : Nat) else 0
theorem st_no {l : List Int} {rs : List Ru} {x : Int} (h : stE l rs = x) (hx : x ≠ 0) : stN l rs = 0 ∧ stE l rs = x := by
  unfold stN; rw [h, if_neg hx]; exact ⟨rfl, rfl⟩
theorem any_nru (rs : List Ru) : (rs.any fun x => !vRu x) = !rs.all vRu := by induction rs <;> simp_all
theorem p_Strictest1 (r : Ru) (w : World) : Calls Tryd.prog 74 #[ruV r] w fun e w' => e = .returned (.bool (!vRu r)) ∧ Below w.heap.size w w' := by
  generalize hb : vRu r = b
  go_enter Tryd.func74, Tryd.ntmps74
  go_wp2_with (go_at_call 31; ((with_reducible refine (p_ValidRuleV hb _).mono ?_); rintro e w1 ⟨rfl, hb1⟩; obtain ⟨hc1, hf1⟩ := bcell hb1; have hz1 := hb1.size; (try simp [sz_drew, sz_drewN] at hz1); (try simp only [sz_drew, sz_drewN] at hc1 hf1); have z1_0 : w.heap.size < w1.heap.size := (by omega)))
  go_ret
  exact ⟨rfl, by (repeat' (first | assumption | exact below_refl _ | refine bl_alloc ?_ _ | refine Below.setCell ?_ ?_ _ | refine below_draw ?_ | refine below_drewN ?_ _ | refine below_tr ?_ (by assumption))) <;> (first | omega | (simp; done) | (simp; omega))⟩
theorem p_anyRu (A : Option Addr) (rs : List Ru) (c : Nat) (b : Bool) (h : rs.all vRu = b) (w : World) (hl : rs.length ≤ 100000) (hR : Rd Ru.cs 3 w A rs) :
    Calls Tryd.prog 73 #[.slice A rs.length c, .func (.func 74) #[] #[]] w fun e w' => e = .returned (.bool (!b)) ∧ Below w.heap.size w w' := by
  have := c_containsRu A rs c (fun x => !vRu x) 74 #[] w hl hR (enters_of Tryd.func74 (by kernel_rfl) rfl) (fun W x _ _ => p_Strictest1 x W)
  rw [any_nru, h] at this
  exact this
set_option maxHeartbeats 2000000 in
set_option maxRecDepth 20000 in
theorem p_Strictest (A B : Option Addr) (l : List Int) (rs : List Ru) (c d : Nat) (w : World) (hl : l.length ≤ 100000) (hrl : rs.length ≤ 100000) (hR : Rd zC 1 w A l) (hS : Rd Ru.cs 3 w B rs) :
    Calls Tryd.prog 39 #[.slice A l.length c, .slice B rs.length d] w fun e w' => e = .returned (.tuple #[.int .i64 (stN l rs), .int .i64 (stE l rs)]) ∧ Below w.heap.size w w' := by
  have H1 := Lib.hid (fun b (h : vGu l = b) => p_ValidGustsV (c := c) h hl hR)
  have H2 := Lib.hid (fun b (h : rs.all vRu = b) W (hb : Below w.heap.size w W) => p_anyRu B rs d b h W hrl (hS.on hb))
  cases h1 : vGu l
  · obtain ⟨e1, e2⟩ := st_no (l := l) (rs := rs) (x := 1) (by unfold stE; rw [if_neg (by simp [h1])]) (by decide)
    have E1 := Lib.hid e1
    have E2 := Lib.hid e2
    clear e1 e2 hR hS
    go_enter Tryd.func39, Tryd.ntmps39
    go_wp2_with (go_at_call 29; ((with_reducible refine (H1.out _ h1).mono ?_); rintro e w1 ⟨rfl, hb1⟩; obtain ⟨hc1, hf1⟩ := bcell hb1; have hz1 := hb1.size; (try simp [sz_drew, sz_drewN] at hz1); (try simp only [sz_drew, sz_drewN] at hc1 hf1)))
    go_ret2
    exact ⟨by rw [E1.out, E2.out]; rfl, hb1⟩
  cases h2 : rs.all vRu
  · obtain ⟨e1, e2⟩ := st_no (l := l) (rs := rs) (x := 1) (by unfold stE; rw [if_neg (by simp [h2])]) (by decide)
    have E1 := Lib.hid e1
    have E2 := Lib.hid e2
    clear e1 e2 hR hS
    go_enter Tryd.func39, Tryd.ntmps39
    go_wp2_with (first | (go_at_call 29; ((with_reducible refine (H1.out _ h1).mono ?_); rintro e w1 ⟨rfl, hb1⟩; obtain ⟨hc1, hf1⟩ := bcell hb1; have hz1 := hb1.size; (try simp [sz_drew, sz_drewN] at hz1); (try simp only [sz_drew, sz_drewN] at hc1 hf1))) | (go_at_call 73; ((with_reducible refine (H2.out _ h2 _ hb1).mono ?_); rintro e w2 ⟨rfl, hb2⟩)))
    go_ret2
    exact ⟨by rw [E1.out, E2.out]; rfl, below_tr hb1 hb2⟩
  cases h3 : wn (rs.length : Int) 1 20
  · obtain ⟨e1, e2⟩ := st_no (l := l) (rs := rs) (x := 7) (by unfold stE; rw [if_pos ⟨h1, h2⟩, if_neg (by simp [h3])]) (by decide)
    have E1 := Lib.hid e1
    have E2 := Lib.hid e2
    clear e1 e2 hR hS
    go_enter Tryd.func39, Tryd.ntmps39
    go_wp2_with (first | (go_at_call 29; ((with_reducible refine (H1.out _ h1).mono ?_); rintro e w1 ⟨rfl, hb1⟩; obtain ⟨hc1, hf1⟩ := bcell hb1; have hz1 := hb1.size; (try simp [sz_drew, sz_drewN] at hz1); (try simp only [sz_drew, sz_drewN] at hc1 hf1))) | (go_at_call 73; ((with_reducible refine (H2.out _ h2 _ hb1).mono ?_); rintro e w2 ⟨rfl, hb2⟩)) | (go_at_call 55; ((with_reducible refine (p_withinV h3 _).mono ?_); rintro e w' ⟨rfl, rfl⟩)))
    go_ret2
    exact ⟨by rw [E1.out, E2.out]; rfl, below_tr hb1 hb2⟩
  have hE : stE l rs = 0 := by unfold stE; rw [if_pos ⟨h1, h2⟩, if_pos h3]
  have HE := Lib.hid hE
  have HNN := Lib.hid (show stN l rs = (bsK l rs rs.length : Nat) by unfold stN; rw [if_pos hE])
  have Q := Lib.hid (p_withinV h3)
  have HV := Lib.hid (fun k x (hx : rs[k]? = some x) => List.all_eq_true.1 h2 x (List.mem_of_getElem? hx))
  have HG := Lib.hid (fun r (hv : vRu r = true) W (hb : Below w.heap.size w W) => p_gone A r l c W hv h1 (hR.on hb))
  have HGL := Lib.hid (fun r => goL_len r l)
  have HGA := Lib.hid (fun r k x h => goL_at (r := r) (l := l) (k := k) (x := x) h)
  have HY := Lib.hid (fun k => bsK_yes (l := l) (rs := rs) (k := k))
  have HN := Lib.hid (fun k => bsK_no (l := l) (rs := rs) (k := k))
  have HAT := Lib.hid (fun k x (hx : rs[k]? = some x) => ruAt_of hx)
  have HLe := Lib.hid (fun r => cnS_le (gA r l) 0 l.length)
  have HLT := Lib.hid (bsK_lt l rs)
  clear hE hR h3
  go_enter Tryd.func39, Tryd.ntmps39
  go_wp2_with (first | (go_at_call 29; ((with_reducible refine (H1.out _ h1).mono ?_); rintro e w1 ⟨rfl, hb1⟩; obtain ⟨hc1, hf1⟩ := bcell hb1; have hz1 := hb1.size; (try simp [sz_drew, sz_drewN] at hz1); (try simp only [sz_drew, sz_drewN] at hc1 hf1))) | (go_at_call 73; ((with_reducible refine (H2.out _ h2 _ hb1).mono ?_); rintro e w2 ⟨rfl, hb2⟩)) | (go_at_call 55; ((with_reducible refine (Q.out _).mono ?_); rintro e w' ⟨rfl, rfl⟩)))
  have B2 := below_tr hb1 hb2
  clear hb1 hc1 hf1 hz1 hb2 H1 H2 h1 h2
  go_loopw [6, 7, 27] (fun s6 s7 i wr => ∃ k : Nat, k ≤ rs.length ∧ i = .int .i64 k ∧ s6 = .int .i64 (bsK l rs k : Nat) ∧ (∃ v : Nat, v ≤ 100001 ∧ s7 = .int .i64 (v : Nat) ∧ ((k = 0 ∧ v = l.length + 1) ∨ (0 < k ∧ v = cR l (ruAt rs (bsK l rs k))))) ∧ Below w.heap.size w wr) (fun _ _ i _ => rs.length - (intOf i).toNat)
  case atStart => exact ⟨0, by omega, rfl, rfl, ⟨l.length + 1, by omega, int_eq (by simp), Or.inl ⟨rfl, rfl⟩⟩, B2⟩
  case round =>
    clear B2
    obtain ⟨k, hk, rfl, rfl, ⟨v, hv5, rfl, hv⟩, hbw⟩ := hrel
    have k0 : (0 : Int) ≤ (k : Int) := Int.natCast_nonneg _
    by_cases hlt : k < rs.length
    · have k1 : (k : Int) < (rs.length : Int) := by omega
      obtain ⟨x, b, off, hx, rfl, hb, c0, c1, c2⟩ := rdRu (hS.on hbw) hlt
      have hvx := HV.out k x hx
      have hat := HAT.out k x hx
      have x0 := Blk.new wr 23 #[.int .i64 x.s, .int .i64 x.g, .int .i64 x.c]
      have bA := bl_alloc hbw (.cells #[.int .i64 x.s, .int .i64 x.g, .int .i64 x.c] 23)
      have HC := Lib.hid (HG.out x hvx _ bA)
      have HL2 := Lib.hid (HGL.out x)
      have HA2 := Lib.hid (fun k y => HGA.out x k y)
      have hle := HLe.out x
      have HYN := Lib.hid (show (cnS (gA x l) 0 l.length < v → bsK l rs (k + 1) = k ∧ cnS (gA x l) 0 l.length = cR l (ruAt rs (bsK l rs (k + 1)))) ∧ (v ≤ cnS (gA x l) 0 l.length → bsK l rs (k + 1) = bsK l rs k ∧ v = cR l (ruAt rs (bsK l rs (k + 1)))) by
        have hcr : cR l (ruAt rs k) = cnS (gA x l) 0 l.length := by rw [hat]; rfl
        rcases hv with ⟨rfl, rfl⟩ | ⟨hk0, hv⟩
        · refine ⟨fun _ => ?_, fun h => by omega⟩
          have : bsK l rs (0 + 1) = 0 := by
            have := HLT.out (0 + 1)
            have := this.2 (by omega)
            omega
          rw [this, hat]
          exact ⟨rfl, rfl⟩
        · constructor
          · intro h
            have h5 := HY.out k (by rw [hcr, ← hv]; exact h)
            rw [h5, hat]
            exact ⟨rfl, rfl⟩
          · intro h
            have h5 := HN.out k (by rw [hcr, ← hv]; exact h)
            rw [h5]
            exact ⟨rfl, hv⟩)
      clear hx hvx hat hv
      go_wp2_with fail
      generalize wr.alloc (.cells #[.int .i64 x.s, .int .i64 x.g, .int .i64 x.c] 23) = W0 at *
      refine HC.out.mono ?_
      rintro e w3 ⟨v3, rfl, hv3, hb3⟩
      obtain ⟨A3, c3, rfl, hr3⟩ := own_bools hv3
      have B3 := below_tr bA hb3
      have HD : Hid (Calls Tryd.prog 70 #[.slice A3 (goL x l).length c3] w3 fun e w' => e = .returned (.int .i64 (cnS (gA x l) 0 l.length : Nat)) ∧ w3 = w') := Lib.hid (by
        have h := p_count A3 (goL x l) c3 (gA x l) 0 w3 (by rw [HL2.out]; omega) hr3 (fun k y hy => by rw [Nat.zero_add]; exact HA2.out k y hy)
        rw [HL2.out] at h ⊢
        exact h)
      clear HC bA x0 hv3 hb3 hr3
      generalize goL x l = G at *
      generalize cnS (gA x l) 0 l.length = N at *
      by_cases hN : (N : Int) < (v : Int)
      · obtain ⟨e1, e2⟩ := HYN.out.1 (by omega)
        have E1 := Lib.hid e1
        have E2 := Lib.hid e2
        clear e1 e2 HYN
        generalize bsK l rs k = J at *
        go_wp2_with (go_at_call 70; ((with_reducible refine HD.out.mono ?_); rintro e w4 ⟨rfl, rfl⟩))
        go_roundw
        case rel => exact ⟨k + 1, by omega, by go_num, by rw [E1.out], ⟨N, by omega, rfl, Or.inr ⟨by omega, E2.out⟩⟩, B3⟩
        case measure => simp [intOf]; omega
      · obtain ⟨e1, e2⟩ := HYN.out.2 (by omega)
        have E1 := Lib.hid e1
        have E2 := Lib.hid e2
        clear e1 e2 HYN
        generalize bsK l rs k = J at *
        go_wp2_with (go_at_call 70; ((with_reducible refine HD.out.mono ?_); rintro e w4 ⟨rfl, rfl⟩))
        go_roundw
        case rel => exact ⟨k + 1, by omega, by go_num, by rw [E1.out], ⟨v, by omega, rfl, Or.inr ⟨by omega, E2.out⟩⟩, B3⟩
        case measure => simp [intOf]; omega
    · obtain rfl : k = rs.length := by omega
      generalize bsK l rs rs.length = J at *
      go_wp2
      go_ret2
      exact ⟨by rw [HE.out, HNN.out]; rfl, hbw⟩
set_option maxHeartbeats 2000000 in
set_option maxRecDepth 20000 in
theorem r_Strictest (A B : Option Addr) (l : List Int) (rs : List Ru) (c d : Nat) (w : World) (hl : l.length ≤ 100000) (hrl : rs.length ≤ 100000) (hR : Rd zC 1 w A l) (hS : Rd Ru.cs 3 w B rs) :
    Calls Tryd.prog 40 #[.slice A l.length c, .slice B rs.length d] w fun e w' => e = .returned (.tuple #[.int .i64 (stN l rs), .int .i64 (stE l rs)]) ∧ Below w.heap.size w w' := by
  have H1 := Lib.hid (fun b (h : vGu l = b) => r_ValidGustsV (c := c) h hl hR)
  cases h1 : vGu l
  · obtain ⟨e1, e2⟩ := st_no (l := l) (rs := rs) (x := 1) (by unfold stE; rw [if_neg (by simp [h1])]) (by decide)
    have E1 := Lib.hid e1
    have E2 := Lib.hid e2
    clear e1 e2 hR hS
    go_enter Tryd.func40, Tryd.ntmps40
    go_wp2_with (go_at_call 30; ((with_reducible refine (H1.out _ h1).mono ?_); rintro e w' ⟨rfl, rfl⟩))
    go_ret2
    exact ⟨by rw [E1.out, E2.out]; rfl, below_refl _⟩
  have HM := Lib.hid (fun r (hv : vRu r = true) W (hb : Below w.heap.size w W) => show Calls Tryd.prog 71 #[ruV r, .slice A l.length c, .int .i64 0, .int .i64 l.length] W fun e w' => e = .returned (.int .i64 (cR l r : Nat)) ∧ Below W.heap.size W w' by
    have := r_minutes A r l c 0 l.length W hl hv h1 (hR.on hb) (by omega)
    simpa [cR] using this)
  have HVR := Lib.hid (fun r b (h : vRu r = b) W => r_ValidRuleV h W)
  have HY := Lib.hid (fun k => bsK_yes (l := l) (rs := rs) (k := k))
  have HN := Lib.hid (fun k => bsK_no (l := l) (rs := rs) (k := k))
  have HAT := Lib.hid (fun k x (hx : rs[k]? = some x) => ruAt_of hx)
  have HLe := Lib.hid (fun r => show cR l r ≤ l.length from cnS_le (gA r l) 0 l.length)
  have HLT := Lib.hid (bsK_lt l rs)
  have HE1 := Lib.hid (fun (h : rs.all vRu = false) => st_no (l := l) (rs := rs) (x := 1) (by unfold stE; rw [if_neg (by simp [h])]) (by decide))
  have HE7 := Lib.hid (fun (h : rs.all vRu = true) (h3 : wn (rs.length : Int) 1 20 = false) => st_no (l := l) (rs := rs) (x := 7) (by unfold stE; rw [if_pos ⟨h1, h⟩, if_neg (by simp [h3])]) (by decide))
  have HE0 := Lib.hid (fun (h : rs.all vRu = true) (h3 : wn (rs.length : Int) 1 20 = true) => show stN l rs = (bsK l rs rs.length : Nat) ∧ stE l rs = 0 by
    have hE : stE l rs = 0 := by unfold stE; rw [if_pos ⟨h1, h⟩, if_pos h3]
    exact ⟨by unfold stN; rw [if_pos hE], hE⟩)
  have QW := Lib.hid (fun b (h : wn (rs.length : Int) 1 20 = b) => r_withinV h)
  clear hR
  go_enter Tryd.func40, Tryd.ntmps40
  go_wp2_with (go_at_call 30; ((with_reducible refine (H1.out _ h1).mono ?_); rintro e w' ⟨rfl, rfl⟩))
  clear h1 H1
  go_loopw [6] (fun i wr => ∃ k : Nat, k ≤ rs.length ∧ i = .int .i64 k ∧ Below w.heap.size w wr ∧ Hid (∀ j y, j < k → rs[j]? = some y → vRu y = true)) (fun i _ => rs.length - (intOf i).toNat)
  case atStart => exact ⟨0, by omega, rfl, below_refl _, Lib.hid (fun j y h => by omega)⟩
  case round =>
    obtain ⟨k, hk, rfl, hbw, HI⟩ := hrel
    have k0 : (0 : Int) ≤ (k : Int) := Int.natCast_nonneg _
    by_cases hlt : k < rs.length
    · have k1 : (k : Int) < (rs.length : Int) := by omega
      obtain ⟨x, b, off, hx, rfl, hb, c0, c1, c2⟩ := rdRu (hS.on hbw) hlt
      have HX := Lib.hid hx
      clear hx
      cases hv : vRu x
      · obtain ⟨e1, e2⟩ := HE1.out (by rw [List.all_eq_false]; exact ⟨x, List.mem_of_getElem? HX.out, by simp [hv]⟩)
        have E1 := Lib.hid e1
        have E2 := Lib.hid e2
        clear e1 e2
        go_wp2_with (go_at_call 12; ((with_reducible refine (HVR.out _ _ hv _).mono ?_); rintro e w1 ⟨rfl, hb1⟩; obtain ⟨hc1, hf1⟩ := bcell hb1; have hz1 := hb1.size; (try simp [sz_drew, sz_drewN] at hz1); (try simp only [sz_drew, sz_drewN] at hc1 hf1)))
        go_ret2
        exact ⟨by rw [E1.out, E2.out]; rfl, below_tr hbw hb1⟩
      · go_wp2_with (go_at_call 12; ((with_reducible refine (HVR.out _ _ hv _).mono ?_); rintro e w1 ⟨rfl, hb1⟩; obtain ⟨hc1, hf1⟩ := bcell hb1; have hz1 := hb1.size; (try simp [sz_drew, sz_drewN] at hz1); (try simp only [sz_drew, sz_drewN] at hc1 hf1)))
        go_roundw
        case rel => exact ⟨k + 1, by omega, by go_num, below_tr hbw hb1, Lib.hid (fun j y hj hy => by
          by_cases e : j = k
          · subst e; rw [HX.out] at hy; cases hy; exact hv
          · exact HI.out j y (by omega) hy)⟩
        case measure => simp [intOf]; omega
    · obtain rfl : k = rs.length := by omega
      have hall : rs.all vRu = true := by
        rw [List.all_eq_true]
        intro y hy
        obtain ⟨j, hj⟩ := List.getElem?_of_mem hy
        exact HI.out j y (List.getElem?_eq_some_iff.1 hj).1 hj
      have HV := Lib.hid HI.out
      cases h3 : wn (rs.length : Int) 1 20
      · obtain ⟨e1, e2⟩ := HE7.out hall h3
        have E1 := Lib.hid e1
        have E2 := Lib.hid e2
        clear e1 e2 hall
        go_wp2_with (go_at_call 54; ((with_reducible refine (QW.out _ h3 _).mono ?_); rintro e w' ⟨rfl, rfl⟩))
        go_ret2
        exact ⟨by rw [E1.out, E2.out]; rfl, hbw⟩
      obtain ⟨e1, e2⟩ := HE0.out hall h3
      have E1 := Lib.hid e1
      have E2 := Lib.hid e2
      clear e1 e2 hall
      go_wp2_with (go_at_call 54; ((with_reducible refine (QW.out _ h3 _).mono ?_); rintro e w' ⟨rfl, rfl⟩))
      clear h3 HI
      go_loopw [7, 8] (fun s7 i wq => ∃ k : Nat, k ≤ rs.length ∧ i = .int .i64 k ∧ s7 = .int .i64 (bsK l rs k : Nat) ∧ Below w.heap.size w wq) (fun _ i _ => rs.length - (intOf i).toNat)
      case atStart => exact ⟨0, by omega, rfl, rfl, hbw⟩
      case round =>
        clear hbw
        rename World => wq
        obtain ⟨k, hk, rfl, rfl, hbw⟩ := hrel
        have k0 : (0 : Int) ≤ (k : Int) := Int.natCast_nonneg _
        by_cases hlt : k < rs.length
        · have k1 : (k : Int) < (rs.length : Int) := by omega
          obtain ⟨x, b, off, hx, rfl, hb, c0, c1, c2⟩ := rdRu (hS.on hbw) hlt
          have hj := (HLT.out k).1
          obtain ⟨y, b', off', hy, e9, hb', d0, d1, d2⟩ := rdRu (hS.on hbw) (show bsK l rs k < rs.length by omega)
          cases e9
          have HC1 := Lib.hid (fun W (h : Below w.heap.size w W) => HM.out x (HV.out k x hlt hx) W h)
          have HC2 := Lib.hid (fun W (h : Below w.heap.size w W) => HM.out y (HV.out _ y (by omega) hy) W h)
          have a1 := HAT.out k x hx
          have a2 := HAT.out _ y hy
          have HYN := Lib.hid (show (cR l x < cR l y → bsK l rs (k + 1) = k) ∧ (cR l y ≤ cR l x → bsK l rs (k + 1) = bsK l rs k) from ⟨fun h => HY.out k (by rw [a1, a2]; exact h), fun h => HN.out k (by rw [a1, a2]; exact h)⟩)
          have l1 := HLe.out x
          have l2 := HLe.out y
          clear a1 a2 hx hy HM HV HAT
          have j0 : (0 : Int) ≤ ((bsK l rs k : Nat) : Int) := Int.natCast_nonneg _
          have j1 : ((bsK l rs k : Nat) : Int) < (rs.length : Int) := by omega
          generalize hJ : bsK l rs k = J at *
          clear hJ
          generalize cR l x = X at *
          generalize cR l y = Y at *
          go_upto_region 14 with fail
          go_cut [50] (fun s wx => s = .bool (decide (X < Y)) ∧ Below w.heap.size w wx)
          case first =>
            go_region_held3 (fun w' => (∀ b o, b < wq.heap.size → w'.cell? ⟨b, o, none⟩ = wq.cell? ⟨b, o, none⟩) ∧ (∀ b o, b < wq.heap.size → w'.frozen? ⟨b, o, none⟩ = wq.frozen? ⟨b, o, none⟩) ∧ Below wq.heap.size wq w') ((first | assumption | (refine kp_of ?_; (repeat' (first | assumption | exact below_refl _ | refine bl_alloc ?_ _ | refine Below.setCell ?_ ?_ _ | refine below_draw ?_ | refine below_drewN ?_ _ | refine below_tr ?_ (by assumption))) <;> (first | omega | (simp; done) | (simp; omega))))) ((first
                          | (go_at_call 71; ((with_reducible refine (HC1.out _ (below_tr hbw (by (repeat' (first | assumption | exact below_refl _ | refine bl_alloc ?_ _ | refine Below.setCell ?_ ?_ _ | refine below_draw ?_ | refine below_drewN ?_ _ | refine below_tr ?_ (by assumption))) <;> (first | omega | (simp; done) | (simp; omega))))).mono ?_); rintro e w4 ⟨rfl, hb4⟩; obtain ⟨hc4, hf4⟩ := bcell hb4; have hz4 := hb4.size; (try simp [sz_drew, sz_drewN] at hz4); (try simp only [sz_drew, sz_drewN] at hc4 hf4); have B4 : Below wq.heap.size wq w4 := (by (repeat' (first | assumption | exact below_refl _ | refine bl_alloc ?_ _ | refine Below.setCell ?_ ?_ _ | refine below_draw ?_ | refine below_drewN ?_ _ | refine below_tr ?_ (by assumption))) <;> (first | omega | (simp; done) | (simp; omega)))))
                          | (go_at_call 71; ((with_reducible refine (HC2.out _ (below_tr hbw (by (repeat' (first | assumption | exact below_refl _ | refine bl_alloc ?_ _ | refine Below.setCell ?_ ?_ _ | refine below_draw ?_ | refine below_drewN ?_ _ | refine below_tr ?_ (by assumption))) <;> (first | omega | (simp; done) | (simp; omega))))).mono ?_); rintro e w5 ⟨rfl, hb5⟩; obtain ⟨hc5, hf5⟩ := bcell hb5; have hz5 := hb5.size; (try simp [sz_drew, sz_drewN] at hz5); (try simp only [sz_drew, sz_drewN] at hc5 hf5); have B5 : Below wq.heap.size wq w5 := (by (repeat' (first | assumption | exact below_refl _ | refine bl_alloc ?_ _ | refine Below.setCell ?_ ?_ _ | refine below_draw ?_ | refine below_drewN ?_ _ | refine below_tr ?_ (by assumption))) <;> (first | omega | (simp; done) | (simp; omega)))))))
            go_wp2
            go_meet
            case rel => exact ⟨rfl, below_tr hbw (by (repeat' (first | assumption | exact below_refl _ | refine bl_alloc ?_ _ | refine Below.setCell ?_ ?_ _ | refine below_draw ?_ | refine below_drewN ?_ _ | refine below_tr ?_ (by assumption))) <;> (first | omega | (simp; done) | (simp; omega)))⟩
          case rest =>
            obtain ⟨rfl, Bx⟩ := hcut
            by_cases hXY : (X : Int) < (Y : Int)
            · have E5 := Lib.hid (HYN.out.1 (by omega))
              rw [decide_eq_true (show X < Y by omega)]
              go_wp2
              go_roundw
              case rel => exact ⟨k + 1, by omega, by go_num, by rw [E5.out], Bx⟩
              case measure => simp [intOf]; omega
            · have E5 := Lib.hid (HYN.out.2 (by omega))
              rw [decide_eq_false (show ¬ X < Y by omega)]
              go_wp2
              go_roundw
              case rel => exact ⟨k + 1, by omega, by go_num, by rw [E5.out], Bx⟩
              case measure => simp [intOf]; omega
        · obtain rfl : k = rs.length := by omega
          generalize bsK l rs rs.length = J at *
          go_wp2
          go_ret2
          exact ⟨by rw [E1.out, E2.out]; rfl, hbw⟩
end Go.Proofs.YtkigdjfagcnejaaDoor
