/- Gear: greatest of the reference. -/
import Derived.Test.YtijlglanpgcdiaaGx
import Derived.Test.YtijlglanpgcdiaaGv
set_option linter.unusedSimpArgs false
set_option linter.unusedVariables false
namespace Go.Proofs.Ytijlglanpgcdiaa
open Go.RowKit Go.Maps

/-- the greatest load that a link can bear by what hangs from it -/
def grF (g : List It) (r : List Lk) : Nat → Nat → Int
  | 0, _ => 0
  | f + 1, i => if (!(kids r i r.length).isEmpty && decide (sumL (grF g r f) (kids r i r.length) < (ldL g r).getD i 0)) = true then sumL (grF g r f) (kids r i r.length) else (ldL g r).getD i 0
def gr (g : List It) (r : List Lk) (i : Nat) : Int := grF g r (r.length - i) i
theorem grF_s (g : List It) (r : List Lk) (f i : Nat) : grF g r (f + 1) i = if (!(kids r i r.length).isEmpty && decide (sumL (grF g r f) (kids r i r.length) < (ldL g r).getD i 0)) = true then sumL (grF g r f) (kids r i r.length) else (ldL g r).getD i 0 := rfl
theorem grF_any {g : List It} {r : List Lk} (hv : VR g r) : ∀ (f i : Nat), i < r.length → r.length - i ≤ f → grF g r f i = gr g r i
  | 0, i, hi, hf => by omega
  | f + 1, i, hi, hf => by
    obtain ⟨q, hq⟩ : ∃ q, r.length - i = q + 1 := ⟨r.length - i - 1, by omega⟩
    have hin : ∀ j ∈ kids r i r.length, grF g r f j = grF g r q j := fun j hj => by
      obtain ⟨h1, h2⟩ := kid_gt hv hj
      rw [grF_any hv f j h2 (by omega), grF_any hv q j h2 (by omega)]
    rw [gr, hq, grF_s, grF_s, sumL_congr hin]
termination_by f i => (f, r.length - i)
decreasing_by all_goals simp_wf; omega
theorem gr_eq {g : List It} {r : List Lk} (hv : VR g r) {i : Nat} (hi : i < r.length) : gr g r i = if (!(kids r i r.length).isEmpty && decide (sumL (gr g r) (kids r i r.length) < (ldL g r).getD i 0)) = true then sumL (gr g r) (kids r i r.length) else (ldL g r).getD i 0 := by
  obtain ⟨q, hq⟩ : ∃ q, r.length - i = q + 1 := ⟨r.length - i - 1, by omega⟩
  have hin : ∀ j ∈ kids r i r.length, grF g r q j = gr g r j := fun j hj => by
    obtain ⟨h1, h2⟩ := kid_gt hv hj
    exact grF_any hv q j h2 (by omega)
  rw [gr, hq, grF_s, sumL_congr hin]
theorem ldL_bd {g : List It} {r : List Lk} (hv : VR g r) {i : Nat} (hi : i < r.length) : 1 ≤ (ldL g r).getD i 0 ∧ (ldL g r).getD i 0 ≤ 1000000 := by
  obtain ⟨x, hx⟩ := get_lt hi
  have hl : (ldL g r)[i]? = some (itR g x).ld := by unfold ldL; rw [List.getElem?_map, hx]; rfl
  rw [getD_of hl]
  exact hv.ld hl
theorem sumL_nn {f : Nat → Int} {l : List Nat} (h : ∀ x ∈ l, 0 ≤ f x) : 0 ≤ sumL f l := by
  induction l with
  | nil => exact Int.le_refl _
  | cons x l ih =>
    rw [sumL_cons]
    have := h x (List.mem_cons_self ..)
    have := ih fun y hy => h y (List.mem_cons_of_mem _ hy)
    omega
theorem gr_bd {g : List It} {r : List Lk} (hv : VR g r) : ∀ (f i : Nat), i < r.length → r.length - i ≤ f → 0 ≤ gr g r i ∧ gr g r i ≤ (ldL g r).getD i 0
  | 0, i, hi, hf => by omega
  | f + 1, i, hi, hf => by
    have hb := ldL_bd hv hi
    have hs : 0 ≤ sumL (gr g r) (kids r i r.length) := sumL_nn fun j hj => by
      obtain ⟨h1, h2⟩ := kid_gt hv hj
      exact (gr_bd hv f j h2 (by omega)).1
    rw [gr_eq hv hi]
    split
    · rename_i h
      rw [Bool.and_eq_true] at h
      have := of_decide_eq_true h.2
      omega
    · omega
theorem sumL_le {f : Nat → Int} {m : Int} {l : List Nat} (h : ∀ x ∈ l, f x ≤ m) : sumL f l ≤ m * l.length := by
  induction l with
  | nil => simp [sumL]
  | cons x l ih =>
    have h1 := h x (List.mem_cons_self ..)
    have h2 := ih fun y hy => h y (List.mem_cons_of_mem _ hy)
    have e : m * ((l.length + 1 : Nat) : Int) = m * l.length + m := by rw [Int.natCast_add, Int.mul_add]; simp
    rw [sumL_cons, List.length_cons, e]
    generalize m * (l.length : Int) = q at *
    omega
theorem kids_self {g : List It} {r : List Lk} (hv : VR g r) {i : Nat} (hi : i < r.length) : kids r i (i + 1) = [] := by
  unfold kids
  rw [List.filter_eq_nil_iff]
  intro j hj
  have hj' : j < i + 1 := by simpa using hj
  obtain ⟨x, hx⟩ := get_lt (show j < r.length by omega)
  have := hv.frs hx
  rw [lkAt_of hx]
  simp; omega
set_option maxHeartbeats 2000000 in
set_option maxRecDepth 20000 in
theorem r_greatest (A B : Option Addr) (g : List It) (r : List Lk) (c d : Nat) (w : World) (hv : VR g r) (hl : g.length ≤ 100000) (hR : Rd It.cs 4 w A g) (hS : Rd Lk.cs 2 w B r) : ∀ (f i : Nat), i < r.length → r.length - i ≤ f →
    Calls Try.prog 72 #[.slice A g.length c, .slice B r.length d, .int .i64 (i : Nat)] w fun e w' => e = .returned (.int .i64 (gr g r i)) ∧ w = w' := by
  intro f
  induction f with
  | zero => intro i hi hf; omega
  | succ f ih =>
    intro i hi hf
    have HIH := Lib.hid ih
    have HVV := Lib.hid hv
    have HM := Lib.hid (fun s => r_find A g c s w hl hR)
    have HGR := Lib.hid (gr_eq hv hi)
    have HK0 := Lib.hid (kids_self hv hi)
    have hn32 := hv.l1
    have i0 : (0 : Int) ≤ (i : Int) := Int.natCast_nonneg _
    clear ih hv
    go_enter Try.func72, Try.ntmps72
    go_wp2
    go_loop [7, 8, 9] (fun s b j => ∃ k : Nat, i + 1 ≤ k ∧ k ≤ r.length ∧ j = .int .i64 k ∧ s = .int .i64 (sumL (gr g r) (kids r i k)) ∧ b = .bool (!(kids r i k).isEmpty)) (fun _ _ j => r.length - (intOf j).toNat)
    case atStart => exact ⟨i + 1, by omega, by omega, by go_num, by rw [HK0.out]; rfl, by rw [HK0.out]; rfl⟩
    case round =>
      obtain ⟨k, hik, hk, rfl, rfl, rfl⟩ := hrel
      have k0 : (0 : Int) ≤ (k : Int) := Int.natCast_nonneg _
      by_cases hlt : k < r.length
      · have k1 : (k : Int) < (r.length : Int) := by omega
        obtain ⟨x, b, off, hx, rfl, hb, c0, c1⟩ := rdL hS hlt
        have hbd : ∀ j, j < r.length → 0 ≤ gr g r j ∧ gr g r j ≤ 1000000 := fun j hj => by
          have h1 := gr_bd HVV.out (r.length - j) j hj (Nat.le_refl _)
          have h2 := ldL_bd HVV.out hj
          omega
        have hmem : ∀ j ∈ kids r i k, j < r.length := fun j hj => by
          unfold kids at hj
          rw [List.mem_filter] at hj
          have : j < k := by simpa using hj.1
          omega
        have hs0 := sumL_nn (f := gr g r) (l := kids r i k) fun j hj => (hbd j (hmem j hj)).1
        have hs1 := sumL_le (f := gr g r) (m := 1000000) (l := kids r i k) fun j hj => (hbd j (hmem j hj)).2
        have hkn := kids_len r i k
        have hs2 : sumL (gr g r) (kids r i k) ≤ 32000000 := by omega
        obtain ⟨g0, g1⟩ := hbd k hlt
        by_cases he : x.fr = (i : Int)
        · have HK := Lib.hid (kids_yes (r := r) (i := i) (k := k) (by rw [lkAt_of hx, he]; simp))
          have HSN := Lib.hid (show sumL (gr g r) (kids r i k ++ [k]) = sumL (gr g r) (kids r i k) + gr g r k by rw [sumL_app]; show _ + (gr g r k + 0) = _; rw [Int.add_zero])
          have he1 : (x.fr == (i : Int)) = true := by simpa using he
          have HC := Lib.hid (HIH.out k hlt (by omega))
          generalize sumL (gr g r) (kids r i k) = S at *
          generalize gr g r k = G at *
          clear hx he hs1 hbd hmem
          go_wp2_with (go_at_call 72; ((with_reducible refine (HC.out).mono ?_); rintro e w' ⟨rfl, rfl⟩))
          go_round
          case rel => exact ⟨k + 1, by omega, by omega, by go_num, by rw [HK.out, HSN.out], by rw [HK.out]; simp⟩
          case measure => simp [intOf]; omega
        · have HK := Lib.hid (kids_no (r := r) (i := i) (k := k) (by rw [lkAt_of hx]; simpa using he))
          clear hx hs1 hbd hmem
          go_wp2
          go_round
          case rel => exact ⟨k + 1, by omega, by omega, by go_num, by rw [HK.out], by rw [HK.out]⟩
          case measure => simp [intOf]; omega
      · obtain rfl : k = r.length := by omega
        obtain ⟨x, b, off, hx, rfl, hb, c0, c1⟩ := rdL hS hi
        obtain ⟨hy, _⟩ := HVV.out.it hx
        have f1 := HVV.out.fnd i x hx
        have f2 := (fnd_bd g x.nm).2
        have HF := Lib.hid (HM.out x.nm)
        have hll : (ldL g r)[i]? = some (itR g x).ld := by unfold ldL; rw [List.getElem?_map, hx]; rfl
        obtain ⟨v, hn'⟩ := Int.eq_ofNat_of_zero_le f1
        rw [hn'] at f2 hy HF
        obtain ⟨it, gb, goff, hz, hA, hgb, d0, d1, d2, d3⟩ := rdI hR (show v < g.length by omega)
        rw [show ((v : Nat) : Int).toNat = v by omega, hz] at hy
        cases hy
        have v0 : (0 : Int) ≤ (v : Int) := Int.natCast_nonneg _
        have i1 : (i : Int) < (r.length : Int) := by omega
        rw [getD_of hll] at HGR
        subst hA
        generalize (itR g x).ld = D at *
        generalize sumL (gr g r) (kids r i r.length) = S at *
        clear hx hz hn' d0 d2 d3 hll
        cases hkk : (kids r i r.length).isEmpty
        · by_cases hD : S < D
          · have HG := Lib.hid (show gr g r i = S by rw [HGR.out, hkk]; simp [hD])
            go_wp2_with (go_at_call 50; ((with_reducible refine (HF.out).mono ?_); rintro e w' ⟨rfl, rfl⟩))
            go_ret
            exact ⟨ret_int (by rw [HG.out]), rfl⟩
          · have HG := Lib.hid (show gr g r i = D by rw [HGR.out, hkk]; simp [hD])
            go_wp2_with (go_at_call 50; ((with_reducible refine (HF.out).mono ?_); rintro e w' ⟨rfl, rfl⟩))
            go_ret
            exact ⟨ret_int (by rw [HG.out]), rfl⟩
        · have HG := Lib.hid (show gr g r i = D by rw [HGR.out, hkk]; simp)
          go_wp2_with (go_at_call 50; ((with_reducible refine (HF.out).mono ?_); rintro e w' ⟨rfl, rfl⟩))
          go_ret
          exact ⟨ret_int (by rw [HG.out]), rfl⟩
end Go.Proofs.Ytijlglanpgcdiaa
