/- Gear: what a link bears: by chains and by what hangs. -/
import Derived.Test.YtijlglanpgcdiaaGr
set_option linter.unusedSimpArgs false
set_option linter.unusedVariables false
namespace Go.Proofs.Ytijlglanpgcdiaa
open Go.RowKit

def cnt (r : List Lk) (i v : Nat) : Int := ((chn r (v : Int)).count i : Nat)
def sumL (f : Nat → Int) (l : List Nat) : Int := l.foldr (fun x s => f x + s) 0
theorem sumL_cons (f : Nat → Int) (x : Nat) (l : List Nat) : sumL f (x :: l) = f x + sumL f l := rfl
theorem sumL_app (f : Nat → Int) (l m : List Nat) : sumL f (l ++ m) = sumL f l + sumL f m := by
  induction l with
  | nil => simp [sumL]
  | cons x l ih => rw [List.cons_append, sumL_cons, sumL_cons, ih]; omega
theorem sumL_add (f h : Nat → Int) (l : List Nat) : sumL (fun x => f x + h x) l = sumL f l + sumL h l := by
  induction l with
  | nil => rfl
  | cons x l ih => rw [sumL_cons, sumL_cons, sumL_cons, ih]; omega
theorem sumL_mul (f : Nat → Int) (c : Int) (l : List Nat) : sumL (fun x => c * f x) l = c * sumL f l := by
  induction l with
  | nil => simp [sumL]
  | cons x l ih => rw [sumL_cons, sumL_cons, ih, Int.mul_add]
theorem sumL_congr {f h : Nat → Int} {l : List Nat} (e : ∀ x ∈ l, f x = h x) : sumL f l = sumL h l := by
  induction l with
  | nil => rfl
  | cons x l ih => rw [sumL_cons, sumL_cons, e x (List.mem_cons_self ..), ih fun y hy => e y (List.mem_cons_of_mem _ hy)]
theorem sumL_flat (f : Nat → Int) (h : Nat → List Nat) (l : List Nat) : sumL f (l.flatMap h) = sumL (fun x => sumL f (h x)) l := by
  induction l with
  | nil => rfl
  | cons x l ih => rw [List.flatMap_cons, sumL_app, sumL_cons, ih]
theorem sumL_zero (l : List Nat) : sumL (fun _ => 0) l = 0 := by
  induction l with
  | nil => rfl
  | cons x l ih => rw [sumL_cons, ih]; rfl
/-- one element of a list without repeats -/
theorem sumL_one (v : Nat) : ∀ (l : List Nat), l.Nodup → sumL (fun x => if x = v then 1 else 0) l = if v ∈ l then 1 else 0
  | [], _ => rfl
  | x :: l, h => by
    obtain ⟨h1, h2⟩ := List.nodup_cons.1 h
    rw [sumL_cons, sumL_one v l h2]
    by_cases hx : x = v
    · subst hx; rw [if_pos rfl, if_neg h1, if_pos (List.mem_cons_self ..)]; rfl
    · rw [if_neg hx]
      by_cases hv : v ∈ l
      · rw [if_pos hv, if_pos (List.mem_cons_of_mem _ hv)]; rfl
      · rw [if_neg hv, if_neg (fun h => by rcases List.mem_cons.1 h with h | h; exact hx h.symm; exact hv h)]; rfl
theorem kids_nodup (r : List Lk) (i k : Nat) : (kids r i k).Nodup := List.nodup_range.sublist List.filter_sublist
theorem mem_kids {r : List Lk} {i j : Nat} {x : Lk} (hx : r[j]? = some x) : j ∈ kids r i r.length ↔ x.fr = (i : Int) := by
  have := (List.getElem?_eq_some_iff.1 hx).1
  unfold kids
  rw [List.mem_filter, lkAt_of hx]; simp [this]
theorem cnt_neg (r : List Lk) (i : Nat) {v : Int} (h : v < 0) : ((chn r v).count i : Nat) = 0 := by rw [chn_neg h]; rfl
theorem cnt_step {g : List It} {r : List Lk} (hv : VR g r) (i : Nat) {v : Nat} {x : Lk} (hx : r[v]? = some x) : cnt r i v = (if v = i then 1 else 0) + (((chn r x.fr).count i : Nat) : Int) := by
  unfold cnt
  rw [chn_step hv hx, List.count_cons]
  by_cases h : v = i
  · simp [h]; omega
  · simp [h]
/-- a link's count in a chain: itself, and the counts of its own links -/
theorem cnt_kids {g : List It} {r : List Lk} (hv : VR g r) (i : Nat) : ∀ (v : Nat), v < r.length → cnt r i v = (if v = i then 1 else 0) + sumL (fun c => cnt r c v) (kids r i r.length) := by
  intro v
  induction v using Nat.strongRecOn with
  | _ v ih =>
    intro hvl
    obtain ⟨x, hx⟩ := get_lt hvl
    have hf := hv.frs hx
    have hk := mem_kids (i := i) hx
    have e : sumL (fun c => cnt r c v) (kids r i r.length) = (if v ∈ kids r i r.length then 1 else 0) + sumL (fun c => (((chn r x.fr).count c : Nat) : Int)) (kids r i r.length) := by
      rw [sumL_congr fun c _ => cnt_step hv c hx, sumL_add, ← sumL_one v _ (kids_nodup r i _)]
      congr 1
      exact sumL_congr fun c _ => by by_cases h : v = c <;> simp [h, eq_comm]
    rw [cnt_step hv i hx, e]
    by_cases hneg : x.fr < 0
    · have hnk : v ∉ kids r i r.length := fun h => by have := hk.1 h; omega
      rw [cnt_neg r i hneg, sumL_congr fun c _ => by rw [cnt_neg r c hneg], if_neg hnk]
      have := sumL_zero (kids r i r.length)
      simp only [Int.natCast_zero] at this ⊢
      rw [this]; omega
    · obtain ⟨u, hu⟩ := Int.eq_ofNat_of_zero_le (show 0 ≤ x.fr by omega)
      have h1 := ih u (by omega) (by omega)
      unfold cnt at h1
      rw [hu] at hk ⊢
      rw [h1]
      by_cases h2 : u = i
      · have hnk : v ∈ kids r i r.length := hk.2 (by rw [h2])
        rw [if_pos h2, if_pos hnk]
      · have hnk : v ∉ kids r i r.length := fun h => h2 (by have : (u : Int) = i := hk.1 h; omega)
        rw [if_neg h2, if_neg hnk]
theorem cnt_top {g : List It} {r : List Lk} (hv : VR g r) : ∀ (v : Nat), v < r.length → cnt r 0 v = 1 := by
  intro v
  induction v using Nat.strongRecOn with
  | _ v ih =>
    intro hvl
    obtain ⟨x, hx⟩ := get_lt hvl
    have hf := hv.frs hx
    rw [cnt_step hv 0 hx]
    by_cases hneg : x.fr < 0
    · rw [cnt_neg r 0 hneg, if_pos (hf.2.2.1 hneg)]; rfl
    · obtain ⟨u, hu⟩ := Int.eq_ofNat_of_zero_le (show 0 ≤ x.fr by omega)
      have h1 := ih u (by omega) (by omega)
      unfold cnt at h1
      rw [hu, h1, if_neg (fun h => hneg (hf.2.2.2 h))]; rfl
/-- what link i bears of the first k ends' loads -/
def bv (r : List Lk) (E : List Nat) (L : List Int) : Nat → Nat → Int
  | 0, _ => 0
  | k + 1, i => bv r E L k i + L.getD k 0 * cnt r i (E.getD k 0)
/-- what hangs at link v itself -/
def av (E : List Nat) (L : List Int) : Nat → Nat → Int
  | 0, _ => 0
  | k + 1, v => av E L k v + L.getD k 0 * (if E.getD k 0 = v then 1 else 0)
theorem bv_kids {g : List It} {r : List Lk} (hv : VR g r) (E : List Nat) (L : List Int) (hE : ∀ (k n : Nat), E[k]? = some n → n < r.length) (i : Nat) : ∀ k, k ≤ E.length → bv r E L k i = av E L k i + sumL (fun c => bv r E L k c) (kids r i r.length)
  | 0, _ => by show (0 : Int) = 0 + sumL (fun _ => 0) _; rw [sumL_zero]; rfl
  | k + 1, hk => by
    obtain ⟨n, hn⟩ := get_lt (show k < E.length by omega)
    have e1 : E.getD k 0 = n := by simp [List.getD_eq_getElem?_getD, hn]
    have ih := bv_kids hv E L hE i k (by omega)
    show bv r E L k i + L.getD k 0 * cnt r i (E.getD k 0) = (av E L k i + L.getD k 0 * (if E.getD k 0 = i then 1 else 0)) + sumL (fun c => bv r E L k c + L.getD k 0 * cnt r c (E.getD k 0)) (kids r i r.length)
    rw [e1, sumL_add, sumL_mul, cnt_kids hv i n (hE k n hn), ih, Int.mul_add]
    generalize L.getD k 0 * (if n = i then (1 : Int) else 0) = p
    generalize L.getD k 0 * sumL (fun c => cnt r c n) (kids r i r.length) = q
    generalize sumL (fun c => bv r E L k c) (kids r i r.length) = z
    omega
/-- the program's sum over what hangs is that -/
theorem ds_bv {g : List It} {r : List Lk} (hv : VR g r) (E : List Nat) (L : List Int) (hE : ∀ (k n : Nat), E[k]? = some n → n < r.length) (k : Nat) (hk : k ≤ E.length) : ∀ (f i : Nat), i < r.length → r.length - i ≤ f → sumL (av E L k) (ds r i) = bv r E L k i
  | 0, i, hi, hf => by omega
  | f + 1, i, hi, hf => by
    rw [ds_eq hv hi, sumL_cons, sumL_flat, bv_kids hv E L hE i k hk]
    congr 1
    exact sumL_congr fun c hc => by
      obtain ⟨h1, h2⟩ := kid_gt hv hc
      exact ds_bv hv E L hE k hk f c h2 (by omega)
/-- the reference's adding along chains is that too -/
theorem subC_at (N : Int) : ∀ (c : List Nat) (M : List Int) (i : Nat), (∀ j ∈ c, j < M.length) → (subC M (-N) c).getD i 0 = M.getD i 0 + N * ((c.count i : Nat) : Int)
  | [], M, i, _ => by simp [subC]
  | j :: c, M, i, h => by
    have hj := h j (List.mem_cons_self ..)
    have e : subC M (-N) (j :: c) = subC (M.set j (M.getD j 0 - (-N))) (-N) c := rfl
    rw [e, subC_at N c _ i (fun q hq => by rw [List.length_set]; exact h q (List.mem_cons_of_mem _ hq)), List.count_cons]
    by_cases hji : j = i
    · subst hji
      have : (M.set j (M.getD j 0 - (-N))).getD j 0 = M.getD j 0 - (-N) := by rw [List.getD_eq_getElem?_getD, List.getElem?_set_self hj]; rfl
      rw [this]; simp [Int.mul_add]; omega
    · have : (M.set j (M.getD j 0 - (-N))).getD i 0 = M.getD i 0 := by rw [List.getD_eq_getElem?_getD, List.getElem?_set_ne hji, ← List.getD_eq_getElem?_getD]
      rw [this]; simp [hji]
theorem boS_at {g : List It} {r : List Lk} (hv : VR g r) {L : List Int} (hL : L.all okZ = true) (hl : L.length = (endN r r.length).length) (i : Nat) (hi : i < r.length) : ∀ k, k ≤ L.length → (boS r L (endN r r.length) k).getD i 0 = bv r (endN r r.length) L k i
  | 0, _ => by unfold boS bv; simp [List.getD_eq_getElem?_getD, List.getElem?_replicate, hi]
  | k + 1, hk => by
    obtain ⟨n, hx⟩ := get_lt (show k < (endN r r.length).length by omega)
    have hnr := endN_lt hx
    have hlen := (boS_bd hv hL hl k (by omega)).1
    rw [boS, subC_at _ _ _ _ (fun j hj => ?_), boS_at hv hL hl i hi k (by omega)]
    · rfl
    · rw [show (endN r r.length).getD k 0 = n by simp [List.getD_eq_getElem?_getD, hx]] at hj
      have := chn_lt hv (n + 1) n (by omega) (by omega) j hj
      omega
theorem endN_nodup (r : List Lk) : (endN r r.length).Nodup := List.nodup_range.sublist List.filter_sublist
theorem av_zero (E : List Nat) (L : List Int) (v : Nat) : ∀ k, k ≤ E.length → (∀ j, j < k → E.getD j 0 ≠ v) → av E L k v = 0
  | 0, _, _ => rfl
  | k + 1, hk, h => by
    show av E L k v + L.getD k 0 * (if E.getD k 0 = v then 1 else 0) = 0
    rw [av_zero E L v k (by omega) (fun j hj => h j (by omega)), if_neg (h k (by omega))]; simp
theorem av_end {E : List Nat} {L : List Int} {v : Nat} (h : v ∉ E) (k : Nat) (hk : k ≤ E.length) : av E L k v = 0 :=
  av_zero E L v k hk fun j hj e => h (by
    obtain ⟨n, hn⟩ := get_lt (show j < E.length by omega)
    rw [List.getD_eq_getElem?_getD, hn] at e
    exact e ▸ List.mem_of_getElem? hn)
theorem av_nonneg {E : List Nat} {L : List Int} (h : ∀ x ∈ L, 0 ≤ x) (v : Nat) : ∀ k, 0 ≤ av E L k v
  | 0 => Int.le_refl _
  | k + 1 => by
    show 0 ≤ av E L k v + L.getD k 0 * (if E.getD k 0 = v then 1 else 0)
    have h1 := av_nonneg h (E := E) v k
    have h2 : 0 ≤ L.getD k 0 := by
      cases hx : L[k]? with
      | none => simp [List.getD_eq_getElem?_getD, hx]
      | some x => rw [getD_of hx]; exact h x (List.mem_of_getElem? hx)
    by_cases he : E.getD k 0 = v
    · rw [if_pos he]; omega
    · rw [if_neg he]; omega
theorem sumL_nonneg {f : Nat → Int} (h : ∀ x, 0 ≤ f x) (l : List Nat) : 0 ≤ sumL f l := by
  induction l with
  | nil => exact Int.le_refl _
  | cons x l ih => rw [sumL_cons]; have := h x; omega
theorem sumL_pre {f : Nat → Int} (h : ∀ x, 0 ≤ f x) (l m : List Nat) : sumL f l ≤ sumL f (l ++ m) := by
  rw [sumL_app]; have := sumL_nonneg h m; omega
theorem bv_top {g : List It} {r : List Lk} (hv : VR g r) (E : List Nat) (L : List Int) (hE : ∀ (k n : Nat), E[k]? = some n → n < r.length) : ∀ k, k ≤ E.length → k ≤ L.length → bv r E L k 0 = sumN L k
  | 0, _, _ => by simp [bv, sumN]
  | k + 1, hk, hl => by
    obtain ⟨n, hn⟩ := get_lt (show k < E.length by omega)
    obtain ⟨x, hx⟩ := get_lt (show k < L.length by omega)
    have e1 : E.getD k 0 = n := by simp [List.getD_eq_getElem?_getD, hn]
    show bv r E L k 0 + L.getD k 0 * cnt r 0 (E.getD k 0) = _
    rw [e1, cnt_top hv n (hE k n hn), sumN_step hx, getD_of hx, bv_top hv E L hE k (by omega) (by omega), Int.mul_one]
/-- a list is what its places say -/
theorem list_of_getD {n : Nat} {M : List Int} (h : M.length = n) (f : Nat → Int) (hf : ∀ i, i < n → M.getD i 0 = f i) : M = (List.range n).map f := by
  refine List.ext_getElem? fun i => ?_
  by_cases hi : i < n
  · obtain ⟨x, hx⟩ := get_lt (show i < M.length by omega)
    rw [hx, List.getElem?_map, List.getElem?_range hi, Option.map_some, ← hf i hi, getD_of hx]
  · rw [List.getElem?_eq_none (by omega), List.getElem?_eq_none (by simp; omega)]
theorem boZ_is {g : List It} {r : List Lk} (hv : VR g r) {L : List Int} (hL : L.all okZ = true) (hl : L.length = (endN r r.length).length) : boZ r L = (List.range r.length).map (fun i => bv r (endN r r.length) L L.length i) := by
  unfold boZ
  rw [← hl]
  exact list_of_getD (boS_bd hv hL hl _ (Nat.le_refl _)).1 _ fun i hi => boS_at hv hL hl i hi _ (Nat.le_refl _)
end Go.Proofs.Ytijlglanpgcdiaa
