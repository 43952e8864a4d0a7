/- Gear: what TopRigs asks (plain). -/
import Derived.Test.YtijlglanpgcdiaaGvg
set_option linter.unusedSimpArgs false
set_option linter.unusedVariables false
namespace Go.Proofs.Ytijlglanpgcdiaa
open Go.RowKit Go.Maps

theorem hasB_nil (s : ByteArray) : hasB [] s = false := rfl
theorem ld_of {g : List It} {r : List Lk} {k : Nat} (hk : k < r.length) : (ldL g r).getD k 0 = (itR g (lkAt r k)).ld := by
  obtain ⟨x, hx⟩ := get_lt hk
  have hl : (ldL g r)[k]? = some (itR g x).ld := by unfold ldL; rw [List.getElem?_map, hx]; rfl
  rw [getD_of hl, lkAt_of hx]
/-- a rig may lift its Shares until the last day -/
theorem share_may {g : List It} {r : List Lk} (h : (vldG g && vldR g r) = true) : wkE g r [] (unN g r r.length) (shZ g r) = 0 ∧ mayB g r [] (unN g r r.length) (shZ g r) = true := by
  have hv := vr_of h
  have h1 : wkE g r [] (unN g r r.length) (shZ g r) = 0 := wkE_z.2 ⟨h, by simp, wn_iff.2 ⟨unN_nn hv, unN_max g r _⟩, sh_ok hv⟩
  refine ⟨h1, may_iff.2 ⟨h1, fun k hk => wkC_no.2 ⟨unN_le g r _ k hk, hasB_nil _, ?_⟩⟩⟩
  rw [← ld_of hk]
  exact sh_fits hv hk
theorem bv_set {r : List Lk} {E : List Nat} {L : List Int} {i : Nat} {x : Int} (hx : L[i]? = some x) (m : Nat) : ∀ k, bv r E (L.set i (x + 1)) k m = bv r E L k m + (if i < k then cnt r m (E.getD i 0) else 0)
  | 0 => by show (0 : Int) = 0 + _; simp
  | k + 1 => by
    show bv r E (L.set i (x + 1)) k m + (L.set i (x + 1)).getD k 0 * cnt r m (E.getD k 0) = bv r E L k m + L.getD k 0 * cnt r m (E.getD k 0) + _
    rw [bv_set hx m k]
    have hil := (List.getElem?_eq_some_iff.1 hx).1
    by_cases hk : i = k
    · subst hk
      rw [if_neg (by omega), if_pos (by omega), getD_of hx, List.getD_eq_getElem?_getD, List.getElem?_set_self hil, Option.getD_some, Int.add_mul]
      omega
    · rw [List.getD_eq_getElem?_getD (l := L.set i (x + 1)), List.getElem?_set_ne hk, ← List.getD_eq_getElem?_getD]
      by_cases h2 : i < k
      · rw [if_pos h2, if_pos (by omega)]; omega
      · rw [if_neg h2, if_neg (by omega)]; omega
/-- not a newton more at any end -/
theorem more_no {g : List It} {r : List Lk} (h : (vldG g && vldR g r) = true) {i : Nat} {x : Int} (hx : (shZ g r)[i]? = some x) :
    mayB g r [] (unN g r r.length) ((shZ g r).set i (x + 1)) = false ∧ (wkE g r [] (unN g r r.length) ((shZ g r).set i (x + 1)) = 0 ∨ wkE g r [] (unN g r r.length) ((shZ g r).set i (x + 1)) = 7) := by
  have hv := vr_of h
  have hil := (List.getElem?_eq_some_iff.1 hx).1
  have hlen : ((shZ g r).set i (x + 1)).length = (endN r r.length).length := by rw [List.length_set, shZ_len]
  constructor
  · cases hm : mayB g r [] (unN g r r.length) ((shZ g r).set i (x + 1)) with
    | false => rfl
    | true =>
      exfalso
      obtain ⟨h1, h2⟩ := may_iff.1 hm
      obtain ⟨_, _, _, h3⟩ := wkE_z.1 h1
      obtain ⟨n, hn⟩ := get_lt (show i < (endN r r.length).length by rw [← shZ_len (g := g)]; exact hil)
      have hnl := endN_lt hn
      obtain ⟨m, m1, m2⟩ := sh_tight hv (List.mem_of_getElem? hn)
      have hml := chn_lt hv (n + 1) n (by omega) (by omega) m m1
      have hmr : m < r.length := by omega
      obtain ⟨_, _, h4⟩ := wkC_no.1 (h2 m hmr)
      rw [← ld_of hmr, boZ_at hv h3 hmr, hlen, bv_set hx m, if_pos (by rw [← shZ_len (g := g)]; exact hil), show (endN r r.length).getD i 0 = n by simp [List.getD_eq_getElem?_getD, hn]] at h4
      have hc : 1 ≤ cnt r m n := by
        unfold cnt
        have := List.count_pos_iff.2 m1
        omega
      omega
  · have hw : wn (unN g r r.length) 0 100000 = true := wn_iff.2 ⟨unN_nn hv, unN_max g r _⟩
    have : wkE g r [] (unN g r r.length) ((shZ g r).set i (x + 1)) = ldE r ((shZ g r).set i (x + 1)) := by
      unfold wkE; rw [if_pos h, if_pos (by simp), if_pos hlen, if_pos hw]
    rw [this]
    unfold ldE
    rw [if_pos hlen]
    split
    · exact Or.inl rfl
    · exact Or.inr rfl
theorem unN_at (g : List It) (r : List Lk) : ∀ n, unN g r n = 100000 ∨ ∃ k, k < n ∧ unN g r n = (itR g (lkAt r k)).du
  | 0 => Or.inl rfl
  | n + 1 => by
    unfold unN
    split
    · exact Or.inr ⟨n, by omega, rfl⟩
    · rcases unN_at g r n with h | ⟨k, hk, h⟩
      · exact Or.inl h
      · exact Or.inr ⟨k, by omega, h⟩
/-- .. and not later -/
theorem late_no {g : List It} {r : List Lk} (h : (vldG g && vldR g r) = true) {day : Int} (h1 : unN g r r.length < day) (h2 : day ≤ 100000) : wkE g r [] day (shZ g r) = 0 ∧ mayB g r [] day (shZ g r) = false := by
  have hv := vr_of h
  have h0 := unN_nn hv
  have h3 : wkE g r [] day (shZ g r) = 0 := wkE_z.2 ⟨h, by simp, wn_iff.2 ⟨by omega, h2⟩, sh_ok hv⟩
  refine ⟨h3, ?_⟩
  cases hm : mayB g r [] day (shZ g r) with
  | false => rfl
  | true =>
    have := may_until hm
    omega
/-- gear that differs only in its days -/
structure Sm (a g : List It) : Prop where
  len : a.length = g.length
  it : ∀ (i : Nat) (x y : It), a[i]? = some x → g[i]? = some y → x.nm = y.nm ∧ x.ld = y.ld ∧ x.bt = y.bt
  du : ∀ x ∈ a, 0 ≤ x.du ∧ x.du ≤ 100000
theorem idx_same (s : ByteArray) : ∀ (a g : List It) (k : Nat), a.length = g.length → (∀ (i : Nat) (x y : It), a[i]? = some x → g[i]? = some y → x.nm = y.nm) → idxOf (fun x : It => x.nm.toList == s.toList) a k = idxOf (fun x : It => x.nm.toList == s.toList) g k
  | [], [], _, _, _ => rfl
  | [], _ :: _, _, h, _ => by simp at h
  | _ :: _, [], _, h, _ => by simp at h
  | x :: a, y :: g, k, h, hn => by
    have h0 := hn 0 x y rfl rfl
    unfold idxOf
    rw [h0, idx_same s a g (k + 1) (by simpa using h) (fun i x y hx hy => hn (i + 1) x y hx hy)]
theorem Sm.fnd {a g : List It} (h : Sm a g) (s : ByteArray) : fndI a s = fndI g s := idx_same s a g 0 h.len fun i x y hx hy => (h.it i x y hx hy).1
theorem Sm.refl {g : List It} (h : vldG g = true) : Sm g g := ⟨rfl, fun i x y hx hy => by rw [hx] at hy; cases hy; exact ⟨rfl, rfl, rfl⟩, fun x hx => by
  have h3 := h
  rw [vldG_is, Bool.and_eq_true, Bool.and_eq_true, List.all_eq_true] at h3
  exact (snd_ld (h3.2.1 x hx)).2⟩
theorem Sm.ok {a g : List It} (h : Sm a g) (hv : vldG g = true) : vldG a = true := by
  have hv0 := hv
  unfold vldG at hv ⊢
  rw [Bool.and_eq_true, List.all_eq_true] at hv ⊢
  rw [h.len]
  refine ⟨fun i hi => ?_, hv.2⟩
  have h1 := hv.1 i hi
  have hil : i < g.length := by simpa using hi
  obtain ⟨y, hy⟩ := get_lt hil
  obtain ⟨x, hx⟩ := get_lt (show i < a.length by rw [h.len]; exact hil)
  obtain ⟨e1, e2, e3⟩ := h.it i x y hx hy
  unfold okI at h1 ⊢
  rw [itAt_of hy] at h1
  rw [itAt_of hx, h.fnd, e1]
  rw [Bool.and_eq_true] at h1 ⊢
  refine ⟨?_, h1.2⟩
  have h2 := h1.1
  unfold sndI at h2 ⊢
  rw [Bool.and_eq_true] at h2 ⊢
  rw [e1, e2, e3]
  exact ⟨h2.1, wn_iff.2 (h.du x (List.mem_of_getElem? hx))⟩
theorem Sm.okR {a g : List It} (h : Sm a g) (r : List Lk) : vldR a r = vldR g r := by
  unfold vldR okL
  simp only [h.fnd]
theorem Sm.itr {a g : List It} (h : Sm a g) {r : List Lk} (hv : VR g r) {k : Nat} (hk : k < r.length) : (itR a (lkAt r k)).nm = (itR g (lkAt r k)).nm ∧ (itR a (lkAt r k)).ld = (itR g (lkAt r k)).ld := by
  obtain ⟨x, hx⟩ := get_lt hk
  have h1 := (hv.it hx).1
  rw [lkAt_of hx]
  obtain ⟨y, hy⟩ := get_lt (show (fndI g x.nm).toNat < a.length by rw [h.len]; exact (List.getElem?_eq_some_iff.1 h1).1)
  have e : itR a x = y := by unfold itR; rw [h.fnd]; exact itAt_of hy
  rw [e]
  obtain ⟨e1, e2, _⟩ := h.it _ _ _ hy h1
  exact ⟨e1, e2⟩
theorem Sm.set {a g : List It} (h : Sm a g) {i : Nat} {d : Int} (hi : i < a.length) (hd : 0 ≤ d ∧ d ≤ 100000) : Sm (setDu a i d) g := by
  obtain ⟨z, hz⟩ := get_lt hi
  unfold setDu
  rw [itAt_of hz]
  refine ⟨by rw [List.length_set]; exact h.len, fun j x y hx hy => ?_, fun x hx => ?_⟩
  · by_cases hj : i = j
    · subst hj
      rw [List.getElem?_set_self hi] at hx
      cases hx
      exact h.it i z y hz hy
    · rw [List.getElem?_set_ne hj] at hx
      exact h.it j x y hx hy
  · rcases List.mem_or_eq_of_mem_set hx with h1 | rfl
    · exact h.du x h1
    · exact hd
theorem set_du {a : List It} {i j : Nat} {d : Int} (hi : i < a.length) (h : d ≤ (itAt a j).du) : d ≤ (itAt (setDu a i d) j).du := by
  unfold setDu
  by_cases hj : i = j
  · subst hj
    rw [itAt_of (List.getElem?_set_self hi)]; exact Int.le_refl _
  · unfold itAt at h ⊢
    rw [List.getElem?_set_ne hj]; exact h
theorem set_at {a : List It} {i : Nat} {d : Int} (hi : i < a.length) : (itAt (setDu a i d) i).du = d := by
  unfold setDu; rw [itAt_of (List.getElem?_set_self hi)]
/-- looked at again, on a later day, too -/
theorem look_may {a g : List It} {r : List Lk} (h : (vldG g && vldR g r) = true) (hs : Sm a g) {day : Int} (hd : wn day 0 100000 = true) (hdu : ∀ k, k < r.length → day ≤ (itR a (lkAt r k)).du) : wkE a r [] day (shZ g r) = 0 ∧ mayB a r [] day (shZ g r) = true := by
  have hv := vr_of h
  have h0 : (vldG a && vldR a r) = true := by
    rw [Bool.and_eq_true] at h ⊢
    exact ⟨hs.ok h.1, by rw [hs.okR]; exact h.2⟩
  have h1 : wkE a r [] day (shZ g r) = 0 := wkE_z.2 ⟨h0, by simp, hd, sh_ok hv⟩
  refine ⟨h1, may_iff.2 ⟨h1, fun k hk => wkC_no.2 ⟨hdu k hk, hasB_nil _, ?_⟩⟩⟩
  rw [(hs.itr hv hk).2, ← ld_of hk]
  exact sh_fits hv hk
theorem Sm.iw {a g : List It} (h : Sm a g) (hW : ∀ x ∈ g, IW x) : ∀ x ∈ a, IW x := fun x hx => by
  obtain ⟨i, hi⟩ := List.getElem?_of_mem hx
  obtain ⟨y, hy⟩ := get_lt (show i < g.length by rw [← h.len]; exact (List.getElem?_eq_some_iff.1 hi).1)
  obtain ⟨e1, e2, e3⟩ := h.it i x y hi hy
  have w := hW y (List.mem_of_getElem? hy)
  have d := h.du x hx
  exact ⟨by rw [e1]; exact w.m, by rw [e3]; exact w.b, by rw [e2]; exact w.l0, by rw [e2]; exact w.l1, by omega, by omega⟩
end Go.Proofs.Ytijlglanpgcdiaa
