/- Wind cards: merged forecasts, and that a window that is sure may be; plain, no program in sight. -/
import Derived.Test.YtkigdjfagcnejaaDoorDt
set_option linter.unusedSimpArgs false
set_option linter.unusedVariables false
namespace Go.Proofs.YtkigdjfagcnejaaDoor
open Go.RowKit

theorem ct_some {c : List Ca} {t : Int} {x : Ca} (e : ctO c t = some x) : x ∈ c ∧ x.f ≤ t ∧ t < x.t := by
  unfold ctO at e
  split at e
  · rename_i y hy
    split at e
    · rename_i hf
      cases e
      exact ⟨List.mem_of_getElem? hy, hf, kF_at hy⟩
    · cases e
  · cases e
theorem ct_mem {c : List Ca} (h : vCa c = true) {t : Int} {x : Ca} (hx : x ∈ c) (h1 : x.f ≤ t) (h2 : t < x.t) : ctO c t = some x := by
  obtain ⟨i, hi⟩ := List.getElem?_of_mem hx
  have hil := (List.getElem?_eq_some_iff.1 hi).1
  refine hit_at h hi (wn_iff.2 ⟨h1, by omega⟩) (fun j y hj hy => ?_)
  have h3 := ca_sorted h i j hj hil
  rw [caAt_of hy, caAt_of hi] at h3
  unfold inC
  cases hw : wn t y.f (y.t - 1) with
  | false => rfl
  | true => have := wn_iff.1 hw; omega
theorem su_iff {c : List Ca} (h : vCa c = true) {t mk : Int} : suQ mk (ctO c t) = true ↔ ∃ x ∈ c, x.f ≤ t ∧ t < x.t ∧ x.hi < mk := by
  constructor
  · intro hs
    cases e : ctO c t with
    | none => rw [e] at hs; cases hs
    | some x =>
      rw [e] at hs
      obtain ⟨h1, h2, h3⟩ := ct_some e
      exact ⟨x, h1, h2, h3, by simpa [suQ] using hs⟩
  · rintro ⟨x, hx, h1, h2, h3⟩
    rw [ct_mem h hx h1 h2]
    simpa [suQ] using h3
/-- a cast that is sound -/
def GdC (x : Ca) : Prop := 0 ≤ x.f ∧ x.f < x.t ∧ x.t ≤ 100000 ∧ (0 ≤ x.lo ∧ x.lo ≤ x.hi) ∧ x.hi ≤ 200
theorem vca_pw {c : List Ca} : vCa c = true ↔ c.length ≤ 200 ∧ (∀ x ∈ c, GdC x) ∧ c.Pairwise (fun a b => a.t ≤ b.f) := by
  constructor
  · intro h
    obtain ⟨h1, h2⟩ := vca h
    refine ⟨h1, fun x hx => ?_, ?_⟩
    · obtain ⟨i, hi⟩ := List.getElem?_of_mem hx
      have := okC_iff.1 (h2 i (List.getElem?_eq_some_iff.1 hi).1)
      rw [caAt_of hi] at this
      exact ⟨this.1, this.2.1, this.2.2.1, this.2.2.2.1, this.2.2.2.2.1⟩
    · rw [List.pairwise_iff_getElem]
      intro i j hi hj hij
      have := ca_sorted h j i hij hj
      rw [caAt_of (List.getElem?_eq_getElem hi), caAt_of (List.getElem?_eq_getElem hj)] at this
      exact this
  · rintro ⟨h1, h2, h3⟩
    unfold vCa
    rw [Bool.and_eq_true, List.all_eq_true]
    refine ⟨fun k hk => ?_, by simpa using h1⟩
    have hk : k < c.length := by simpa using hk
    rw [okC_iff, caAt_of (List.getElem?_eq_getElem hk)]
    obtain ⟨g1, g2, g3, g4, g5⟩ := h2 _ (List.getElem_mem hk)
    refine ⟨g1, g2, g3, g4, g5, ?_⟩
    rcases Nat.eq_zero_or_pos k with h0 | h0
    · exact .inl h0
    · right
      rw [caAt_of (List.getElem?_eq_getElem (show k - 1 < c.length by omega))]
      exact List.pairwise_iff_getElem.1 h3 (k - 1) k (by omega) hk (by omega)
/-- a cast put behind merged ones -/
def mgS (s : List Ca) (x : Ca) : List Ca := match s.getLast? with
  | some y => if y.t = x.f ∧ y.lo = x.lo ∧ y.hi = x.hi then s.dropLast ++ [⟨y.f, x.t, y.lo, y.hi⟩] else s ++ [x]
  | none => [x]
/-- the first k casts merged -/
def mgK (c : List Ca) (k : Nat) : List Ca := (c.take k).foldl mgS []
theorem mgK_zero (c : List Ca) : mgK c 0 = [] := by simp [mgK]
theorem mgK_step {c : List Ca} {k : Nat} {x : Ca} (h : c[k]? = some x) : mgK c (k + 1) = mgS (mgK c k) x := by
  unfold mgK
  rw [List.take_add_one, h, List.foldl_append]; rfl
theorem mgS_none (x : Ca) : mgS [] x = [x] := rfl
theorem mgS_join {s : List Ca} {y x : Ca} (h1 : y.t = x.f) (h2 : y.lo = x.lo) (h3 : y.hi = x.hi) : mgS (s ++ [y]) x = s ++ [⟨y.f, x.t, y.lo, y.hi⟩] := by
  unfold mgS
  rw [List.getLast?_append]
  simp [h1, h2, h3]
theorem mgS_new {s : List Ca} {y x : Ca} (h : ¬ (y.t = x.f ∧ y.lo = x.lo ∧ y.hi = x.hi)) : mgS (s ++ [y]) x = s ++ [y] ++ [x] := by
  unfold mgS
  rw [List.getLast?_append]
  simp only [List.getLast?_singleton, Option.some_or]
  rw [if_neg h]
theorem mgS_len (s : List Ca) (x : Ca) : (mgS s x).length ≤ s.length + 1 := by
  rcases List.eq_nil_or_concat s with rfl | ⟨s, y, rfl⟩
  · simp [mgS_none]
  · rw [List.concat_eq_append]
    by_cases h : y.t = x.f ∧ y.lo = x.lo ∧ y.hi = x.hi
    · rw [mgS_join h.1 h.2.1 h.2.2]; simp
    · rw [mgS_new h]; simp
theorem mgK_len (c : List Ca) : ∀ k, (mgK c k).length ≤ k
  | 0 => by rw [mgK_zero]; exact Nat.le_refl _
  | k + 1 => by
    have ih := mgK_len c k
    cases h : c[k]? with
    | none =>
      have : mgK c (k + 1) = mgK c k := by unfold mgK; rw [List.take_add_one, h]; simp
      rw [this]; omega
    | some x =>
      rw [mgK_step h]
      have := mgS_len (mgK c k) x
      omega
theorem mem_take_lt {c : List Ca} {k : Nat} {z : Ca} (h : z ∈ c.take k) : ∃ i, i < k ∧ c[i]? = some z := by
  obtain ⟨i, hi⟩ := List.getElem?_of_mem h
  rw [List.getElem?_take] at hi
  split at hi
  · exact ⟨i, by assumption, hi⟩
  · cases hi
theorem mg_all {c : List Ca} (h : vCa c = true) : ∀ k, k ≤ c.length → (∀ x ∈ mgK c k, GdC x) ∧ (mgK c k).Pairwise (fun a b => a.t ≤ b.f) ∧ (∀ y ∈ mgK c k, ∃ z ∈ c.take k, y.t = z.t) ∧ ∀ t mk : Int, (∃ y ∈ mgK c k, y.f ≤ t ∧ t < y.t ∧ y.hi < mk) ↔ ∃ x ∈ c.take k, x.f ≤ t ∧ t < x.t ∧ x.hi < mk
  | 0, _ => by rw [mgK_zero]; simp
  | k + 1, hk => by
    obtain ⟨i1, i2, i3, i4⟩ := mg_all h k (by omega)
    obtain ⟨x, hx⟩ := get_lt (show k < c.length by omega)
    obtain ⟨_, c2, c3⟩ := vca_pw.1 h
    have gx := c2 x (List.mem_of_getElem? hx)
    have hlate : ∀ y ∈ mgK c k, y.t ≤ x.f := fun y hy => by
      obtain ⟨z, hz, e⟩ := i3 y hy
      obtain ⟨i, hi, hzi⟩ := mem_take_lt hz
      have h2 := ca_sorted h k i hi (by omega)
      rw [caAt_of hzi, caAt_of hx] at h2
      omega
    have htk : c.take (k + 1) = c.take k ++ [x] := by rw [List.take_add_one, hx]; rfl
    rw [mgK_step hx, htk]
    generalize hS : mgK c k = S at *
    rcases List.eq_nil_or_concat S with rfl | ⟨s, y, rfl⟩
    · rw [mgS_none]
      refine ⟨by simpa using gx, by simp, fun y hy => ⟨x, by simp, by rw [show y = x by simpa using hy]⟩, fun t mk => ?_⟩
      have := i4 t mk
      constructor
      · rintro ⟨y, hy, hp⟩
        obtain rfl : y = x := by simpa using hy
        exact ⟨y, by simp, hp⟩
      · rintro ⟨y, hy, hp⟩
        rcases List.mem_append.1 hy with hy | hy
        · obtain ⟨z, hz, _⟩ := this.2 ⟨y, hy, hp⟩; cases hz
        · exact ⟨y, hy, hp⟩
    · rw [List.concat_eq_append] at i1 i2 i3 i4 hlate ⊢
      have gy := i1 y (by simp)
      obtain ⟨p1, p2, p3⟩ := List.pairwise_append.1 i2
      by_cases hj : y.t = x.f ∧ y.lo = x.lo ∧ y.hi = x.hi
      · rw [mgS_join hj.1 hj.2.1 hj.2.2]
        obtain ⟨j1, j2, j3⟩ := hj
        unfold GdC at gx gy
        refine ⟨fun z hz => ?_, ?_, fun z hz => ?_, fun t mk => ?_⟩
        · rcases List.mem_append.1 hz with hz | hz
          · exact i1 z (List.mem_append_left _ hz)
          · obtain rfl : z = ⟨y.f, x.t, y.lo, y.hi⟩ := by simpa using hz
            unfold GdC; dsimp only; omega
        · rw [List.pairwise_append]
          exact ⟨p1, by simp, fun a ha b hb => by
            obtain rfl : b = ⟨y.f, x.t, y.lo, y.hi⟩ := by simpa using hb
            exact p3 a ha y (by simp)⟩
        · rcases List.mem_append.1 hz with hz | hz
          · obtain ⟨u, hu, e⟩ := i3 z (List.mem_append_left _ hz)
            exact ⟨u, List.mem_append_left _ hu, e⟩
          · obtain rfl : z = ⟨y.f, x.t, y.lo, y.hi⟩ := by simpa using hz
            exact ⟨x, by simp, rfl⟩
        · have i5 := i4 t mk
          constructor
          · rintro ⟨z, hz, q1, q2, q3⟩
            rcases List.mem_append.1 hz with hz | hz
            · obtain ⟨u, hu, e⟩ := i5.1 ⟨z, List.mem_append_left _ hz, q1, q2, q3⟩
              exact ⟨u, List.mem_append_left _ hu, e⟩
            · obtain rfl : z = ⟨y.f, x.t, y.lo, y.hi⟩ := by simpa using hz
              dsimp only at q1 q2 q3
              by_cases ht : t < y.t
              · obtain ⟨u, hu, e⟩ := i5.1 ⟨y, by simp, q1, ht, q3⟩
                exact ⟨u, List.mem_append_left _ hu, e⟩
              · exact ⟨x, by simp, by omega, q2, by omega⟩
          · rintro ⟨z, hz, q1, q2, q3⟩
            rcases List.mem_append.1 hz with hz | hz
            · obtain ⟨u, hu, e1, e2, e3⟩ := i5.2 ⟨z, hz, q1, q2, q3⟩
              rcases List.mem_append.1 hu with hu | hu
              · exact ⟨u, List.mem_append_left _ hu, e1, e2, e3⟩
              · obtain rfl : u = y := by simpa using hu
                exact ⟨⟨u.f, x.t, u.lo, u.hi⟩, by simp, e1, by dsimp only; omega, e3⟩
            · obtain rfl : z = x := by simpa using hz
              exact ⟨⟨y.f, z.t, y.lo, y.hi⟩, by simp, by dsimp only; omega, q2, by dsimp only; omega⟩
      · rw [mgS_new hj]
        refine ⟨fun z hz => ?_, ?_, fun z hz => ?_, fun t mk => ?_⟩
        · rcases List.mem_append.1 hz with hz | hz
          · exact i1 z hz
          · obtain rfl : z = x := by simpa using hz
            exact gx
        · rw [List.pairwise_append]
          exact ⟨i2, by simp, fun a ha b hb => by
            obtain rfl : b = x := by simpa using hb
            exact hlate a ha⟩
        · rcases List.mem_append.1 hz with hz | hz
          · obtain ⟨u, hu, e⟩ := i3 z hz
            exact ⟨u, List.mem_append_left _ hu, e⟩
          · exact ⟨x, by simp, by rw [show z = x by simpa using hz]⟩
        · have i5 := i4 t mk
          constructor
          · rintro ⟨z, hz, q⟩
            rcases List.mem_append.1 hz with hz | hz
            · obtain ⟨u, hu, e⟩ := i5.1 ⟨z, hz, q⟩
              exact ⟨u, List.mem_append_left _ hu, e⟩
            · exact ⟨z, List.mem_append_right _ hz, q⟩
          · rintro ⟨z, hz, q⟩
            rcases List.mem_append.1 hz with hz | hz
            · obtain ⟨u, hu, e⟩ := i5.2 ⟨z, hz, q⟩
              exact ⟨u, List.mem_append_left _ hu, e⟩
            · exact ⟨z, List.mem_append_right _ hz, q⟩
/-- Merged -/
def mgE (c : List Ca) : Int := if vCa c = true then 0 else 1
def mgL (c : List Ca) : List Ca := if vCa c = true then mgK c c.length else []
theorem mgL_v {c : List Ca} (h : vCa c = true) : vCa (mgL c) = true ∧ ∀ t mk : Int, suQ mk (ctO (mgL c) t) = suQ mk (ctO c t) := by
  obtain ⟨i1, i2, _, i4⟩ := mg_all h c.length (Nat.le_refl _)
  have hl : mgL c = mgK c c.length := by unfold mgL; rw [if_pos h]
  rw [hl]
  have hv : vCa (mgK c c.length) = true := vca_pw.2 ⟨Nat.le_trans (mgK_len c _) (vca h).1, i1, i2⟩
  refine ⟨hv, fun t mk => ?_⟩
  rw [Bool.eq_iff_iff, su_iff hv, su_iff h, i4 t mk, List.take_length]
theorem wdE_mg {c : List Ca} (h : vCa c = true) (mk n fr tu : Int) : wdE (mgL c) mk n fr tu = wdE c mk n fr tu := by
  unfold wdE; rw [if_pos h, if_pos (mgL_v h).1]
theorem sf_mg {c : List Ca} (h : vCa c = true) (mk n fr tu : Int) : sfI (suQ mk) (mgL c) mk n fr tu = sfI (suQ mk) c mk n fr tu ∧ sfE (suQ mk) (mgL c) mk n fr tu = sfE (suQ mk) c mk n fr tu := by
  have hf : (fun t => suQ mk (ctO (mgL c) t)) = fun t => suQ mk (ctO c t) := funext fun t => (mgL_v h).2 t mk
  unfold sfI sfE
  rw [wdE_mg h, hf]
  exact ⟨rfl, rfl⟩
theorem bgS_le {f g : Int → Bool} (h : ∀ t, f t = true → g t = true) (fr : Int) : ∀ k : Nat, bgS g fr k ≤ bgS f fr k
  | 0 => Int.le_refl _
  | k + 1 => by
    have ih := bgS_le h fr k
    have hb := (bgS_bd g fr k).2.1
    unfold bgS
    by_cases hf : f (fr + k) = true
    · rw [if_pos hf, if_pos (h _ hf)]; exact ih
    · rw [if_neg hf]
      split
      · omega
      · exact Int.le_refl _
theorem row_lt {g : Int → Bool} {n fr : Int} (hn : 1 ≤ n) : ∀ k : Nat, (∀ j, j < k → hitB g n fr j = false) → fr + k - bgS g fr k < n
  | 0, _ => by unfold bgS; omega
  | k + 1, h => by
    have ih := row_lt (g := g) hn k (fun j hj => h j (by omega))
    have h2 := h k (by omega)
    unfold bgS
    by_cases hg : g (fr + k) = true
    · rw [if_pos hg]
      unfold hitB at h2
      rw [hg, Bool.true_and, decide_eq_false_iff_not] at h2
      omega
    · rw [if_neg hg]; omega
theorem win_le {f g : Int → Bool} (h : ∀ t, f t = true → g t = true) {n fr tu : Int} (hn : 1 ≤ n) (he : winE f n fr tu = 0) : winE g n fr tu = 0 ∧ winI g n fr tu ≤ winI f n fr tu := by
  unfold winE at he
  cases hw : winO f n fr tu with
  | none => rw [hw] at he; exact absurd he (by decide)
  | some k =>
    have hI : winI f n fr tu = bgS f fr k := by unfold winI; rw [hw]
    unfold winO at hw
    rw [List.find?_range_eq_some] at hw
    obtain ⟨h1, h2, _⟩ := hw
    unfold hitB at h1
    rw [Bool.and_eq_true, decide_eq_true_eq] at h1
    have hb := bgS_le h fr k
    cases hv : winO g n fr tu with
    | none =>
      exfalso
      unfold winO at hv
      rw [List.find?_eq_none] at hv
      have hlt : k < (tu - fr).toNat := by simpa using h2
      have hno : ∀ j, j < k + 1 → hitB g n fr j = false := fun j hj => by
        have := hv j (by simp; omega)
        simpa using this
      have h3 := row_lt hn k (fun j hj => hno j (by omega))
      have h4 := hno k (by omega)
      unfold hitB at h4
      rw [h _ h1.1, Bool.true_and, decide_eq_false_iff_not] at h4
      omega
    | some j =>
      refine ⟨by unfold winE; rw [hv], ?_⟩
      rw [hI]
      have hJ : winI g n fr tu = bgS g fr j := by unfold winI; rw [hv]
      rw [hJ]
      unfold winO at hv
      rw [List.find?_range_eq_some] at hv
      obtain ⟨g1, g2, g3⟩ := hv
      unfold hitB at g1
      rw [Bool.and_eq_true, decide_eq_true_eq] at g1
      rcases Nat.lt_or_ge k j with hkj | hkj
      · exfalso
        have h3 := row_lt hn k (fun i hi => by have := g3 i (by omega); simpa using this)
        have h4 := g3 k hkj
        unfold hitB at h4
        rw [h _ h1.1] at h4
        have h5 : ¬ fr + (k : Int) + 1 - bgS g fr k = n := by simpa using h4
        omega
      · omega
theorem su_ma {c : List Ca} (h : vCa c = true) {t mk : Int} (hs : suQ mk (ctO c t) = true) : maQ mk (ctO c t) = true := by
  cases e : ctO c t with
  | none => rfl
  | some x =>
    rw [e] at hs
    have g := (vca_pw.1 h).2.1 x (ct_some e).1
    unfold GdC at g
    have : x.hi < mk := by simpa [suQ] using hs
    simp [maQ]; omega
/-- a window that is sure may be -/
theorem sure_may {c : List Ca} {mk n fr tu : Int} (h : sfE (suQ mk) c mk n fr tu = 0) : sfE (maQ mk) c mk n fr tu = 0 ∧ sfI (maQ mk) c mk n fr tu ≤ sfI (suQ mk) c mk n fr tu := by
  by_cases hw : wdE c mk n fr tu = 0
  · obtain ⟨hv, _, hn, _, _⟩ := wdE_z hw
    unfold sfE at h
    rw [if_pos hw] at h
    have h2 := win_le (f := fun t => suQ mk (ctO c t)) (g := fun t => maQ mk (ctO c t)) (fun t => su_ma hv) hn.1 h
    unfold sfE sfI
    rw [if_pos hw, if_pos hw, if_pos hw]
    exact h2
  · unfold sfE at h
    rw [if_neg hw] at h
    exact absurd h hw
end Go.Proofs.YtkigdjfagcnejaaDoor
