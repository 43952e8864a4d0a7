/- Fell's texts, plain: a prop's line; what a line is read as, by both; a text is read back. -/
import Derived.Test.YthklgkgincebhaaGreatDoorYb
import Derived.Test.YthklgkgincebhaaGreatDoorTl
import Derived.Test.YthklgkgincebhaaGreatDoorFw
set_option linter.unusedSimpArgs false
set_option linter.unusedVariables false
namespace Go.Proofs.YthklgkgincebhaaGreatDoor.T6
open Go.Lib Tx

def wdS : List UInt8 := [119, 111, 111, 100]
/-- the words of a prop's line -/
def wsP (p : Pr) : List (List UInt8) := itoa p.a.x :: itoa p.a.y :: (if p.wd = true then [wdS] else [])
/-- a prop's line -/
def lnP (p : Pr) : List UInt8 := joinZ 32 (wsP p)
def rdP2 (t : List UInt8) : Pr := ⟨⟨valA ((cutZ 32 t ++ [[], []]).getD 0 []), valA ((cutZ 32 t ++ [[], []]).getD 1 [])⟩, decide ((cutZ 32 t ++ [[], []]).getD 2 [] = wdS)⟩
def rdRP (t : List UInt8) : Option Pr := match cutZ 32 t with
  | [a, b] => if (numB a && numB b) = true then some ⟨⟨numV a, numV b⟩, false⟩ else none
  | [a, b, c] => if (decide (c = wdS) && (numB a && numB b)) = true then some ⟨⟨numV a, numV b⟩, true⟩ else none
  | _ => none
theorem cut_prop (p : Pr) : cutZ 32 (lnP p) = wsP p := by
  refine cut_join (by unfold wsP; simp) fun q hq => ?_
  unfold wsP at hq
  rcases List.mem_cons.1 hq with rfl | hq
  · exact itoa_no (by decide) (by decide)
  · rcases List.mem_cons.1 hq with rfl | hq
    · exact itoa_no (by decide) (by decide)
    · split at hq
      · simp at hq; subst hq; decide
      · simp at hq
theorem spot_of {g : List Pr} {x : Pr} (h : vP (g ++ [x]) = true) : isS x.a = true := (vP_at h (i := g.length) (x := x) (by simp)).1
theorem rd_prop {p : Pr} (h : isS p.a = true) : rdP2 (lnP p) = p := by
  obtain ⟨⟨x, y⟩, wd⟩ := p
  have hb := isS_bd h
  obtain ⟨h1, h2, h3, h4⟩ := hb
  unfold rdP2
  rw [cut_prop]
  unfold wsP
  dsimp only at *
  cases wd
  · simp only [Bool.false_eq_true, if_false, List.cons_append, List.nil_append, List.getD_cons_zero, List.getD_cons_succ]
    rw [valA_itoa (by omega) (by omega), valA_itoa (by omega) (by omega)]
    rfl
  · simp only [if_true, List.cons_append, List.nil_append, List.getD_cons_zero, List.getD_cons_succ]
    rw [valA_itoa (by omega) (by omega), valA_itoa (by omega) (by omega)]
    rfl
theorem prop_nl (p : Pr) : (10 : UInt8) ∉ lnP p := by
  unfold lnP wsP
  have a : (10 : UInt8) ∉ itoa p.a.x := itoa_no (by decide) (by decide)
  have b : (10 : UInt8) ∉ itoa p.a.y := itoa_no (by decide) (by decide)
  split
  · intro h
    simp only [joinZ, List.mem_append, List.mem_cons] at h
    rcases h with h | h | h | h | h
    · exact a h
    · revert h; decide
    · exact b h
    · revert h; decide
    · revert h; decide
  · intro h
    simp only [joinZ, List.mem_append, List.mem_cons] at h
    rcases h with h | h | h
    · exact a h
    · revert h; decide
    · exact b h
/-- both read a line alike -/
theorem fell_line (g : List Pr) (t : List UInt8) : match rdRP t with
    | some x => lnP x = t ∧ rdP2 t = x
    | none => ¬ (lnP (rdP2 t) = t ∧ vP (g ++ [rdP2 t]) = true) := by
  cases hr : rdRP t with
  | some x =>
    dsimp only
    have hj := join_cut 32 t
    unfold rdRP at hr
    split at hr
    · rename_i a b hc
      split at hr
      · rename_i hb
        rw [Bool.and_eq_true] at hb
        injection hr with hr
        obtain ⟨a1, a2, a3⟩ := (num_iff a).1 hb.1
        obtain ⟨b1, b2, b3⟩ := (num_iff b).1 hb.2
        rw [hc] at hj
        refine ⟨?_, ?_⟩
        · rw [← hr]; unfold lnP wsP
          dsimp only
          rw [if_neg (by simp), a1, b1]; exact hj
        · unfold rdP2
          rw [hc]
          simp only [List.cons_append, List.nil_append, List.getD_cons_zero, List.getD_cons_succ]
          have e1 := valA_itoa (n := numV a) (by omega) (by omega)
          have e2 := valA_itoa (n := numV b) (by omega) (by omega)
          rw [a1] at e1
          rw [b1] at e2
          rw [← hr, e1, e2, decide_eq_false (by decide)]
      · cases hr
    · rename_i a b c hc
      split at hr
      · rename_i hb
        rw [Bool.and_eq_true, Bool.and_eq_true, decide_eq_true_eq] at hb
        injection hr with hr
        obtain ⟨a1, a2, a3⟩ := (num_iff a).1 hb.2.1
        obtain ⟨b1, b2, b3⟩ := (num_iff b).1 hb.2.2
        rw [hc] at hj
        refine ⟨?_, ?_⟩
        · rw [← hr]; unfold lnP wsP
          dsimp only
          rw [if_pos rfl, a1, b1, ← hb.1]; exact hj
        · unfold rdP2
          rw [hc]
          simp only [List.cons_append, List.nil_append, List.getD_cons_zero, List.getD_cons_succ]
          have e1 := valA_itoa (n := numV a) (by omega) (by omega)
          have e2 := valA_itoa (n := numV b) (by omega) (by omega)
          rw [a1] at e1
          rw [b1] at e2
          rw [← hr, e1, e2, decide_eq_true hb.1]
      · cases hr
    · cases hr
  | none =>
    dsimp only
    rintro ⟨h1, h2⟩
    have hs := spot_of h2
    have hc := cut_prop (rdP2 t)
    rw [h1] at hc
    obtain ⟨c1, c2, c3, c4⟩ := isS_bd hs
    obtain ⟨n1, n2⟩ := num_of (m := (rdP2 t).a.x) (by omega) (by omega)
    obtain ⟨m1, m2⟩ := num_of (m := (rdP2 t).a.y) (by omega) (by omega)
    unfold rdRP at hr
    unfold wsP at hc
    split at hc
    · rw [hc] at hr
      dsimp only at hr
      rw [n1, m1, decide_eq_true rfl] at hr
      cases hr
    · rw [hc] at hr
      dsimp only at hr
      rw [n1, m1] at hr
      cases hr
theorem vP_take {g : List Pr} (h : vP g = true) (k : Nat) : vP (g.take k) = true := by
  unfold vP at *
  rw [Bool.and_eq_true, List.all_eq_true, decide_eq_true_eq] at *
  refine ⟨fun i hi => ?_, by rw [List.length_take]; omega⟩
  rw [List.mem_range, List.length_take] at hi
  have h1 := h.1 i (List.mem_range.2 (by omega))
  have e : ∀ j, j < k → prAt (g.take k) j = prAt g j := fun j hj => by unfold prAt; rw [List.getElem?_take, if_pos hj]
  unfold okP at *
  rw [e i (by omega)]
  rw [Bool.and_eq_true, List.all_eq_true] at h1 ⊢
  refine ⟨h1.1, fun j hj => ?_⟩
  have h2 := h1.2 j hj
  rw [List.mem_range] at hj
  unfold frP at *
  rw [e i (by omega), e j (by omega)]
  exact h2
theorem vP_spot {g : List Pr} (h : vP g = true) : ∀ x ∈ g, isS x.a = true := fun x hx => by
  obtain ⟨i, hi, rfl⟩ := List.getElem_of_mem hx
  exact (vP_at h (List.getElem?_eq_getElem hi)).1
/-- what Parse reads: props, line, right or not -/
def paF (s : List UInt8) : List Pr × Nat × Bool := lnGo rdP2 lnP vP s.length 0 [] s
theorem paF_ref (s : List UInt8) : paF s = lnR vP rdRP 0 [] (cutZ 10 s) := ln_same (fun g t => by have := fell_line g t; revert this; cases rdRP t <;> exact id) s.length 0 [] s (Nat.le_refl _)
theorem paF_fm {g : List Pr} (h : vP g = true) : paF (fmtZ lnP g) = (g, 0, true) := by
  have := ln_fmt (rd := rdP2) (wr := lnP) (vld := vP) (fmtZ lnP g).length 0 [] g (Nat.le_refl _) (fun x hx => ⟨prop_nl x, rd_prop (vP_spot h x hx)⟩) (fun k _ _ => by rw [List.nil_append]; exact vP_take h k)
  unfold paF
  simpa using this
theorem paF_back {s : List UInt8} (h : (paF s).2.2 = true) : fmtZ lnP (paF s).1 = s ∧ vP (paF s).1 = true ∧ (paF s).2.1 = 0 := by
  obtain ⟨h1, h2, h3⟩ := ln_back (rd := rdP2) (wr := lnP) (vld := vP) s.length 0 [] s (Nat.le_refl _) h
  refine ⟨by unfold paF; simpa [fmtZ] using h1, ?_, h3⟩
  rcases h2 with h2 | h2
  · show vP (lnGo rdP2 lnP vP s.length 0 [] s).1 = true
    rw [h2]; rfl
  · exact h2
/-- what Format writes -/
def fmF (g : List Pr) : ByteArray := if vP g = true then bts (fmtZ lnP g) else ⟨#[]⟩
theorem lnP_len {p : Pr} (h : isS p.a = true) : (lnP p).length ≤ 60 := by
  obtain ⟨c1, c2, c3, c4⟩ := isS_bd h
  have a := itoa_len (n := p.a.x) (by omega) (by omega)
  have b := itoa_len (n := p.a.y) (by omega) (by omega)
  unfold lnP wsP
  split
  · simp only [joinZ, List.length_append, List.length_cons, wdS, List.length_nil]; omega
  · simp only [joinZ, List.length_append, List.length_cons]; omega
theorem fmF_len {g : List Pr} (h : ∀ x ∈ g, isS x.a = true) : (fmtZ lnP g).length ≤ 61 * g.length := by
  induction g with
  | nil => simp [fmtZ]
  | cons x g ih =>
    have h1 := ih fun y hy => h y (List.mem_cons_of_mem _ hy)
    have h2 := lnP_len (h x (List.mem_cons_self ..))
    rw [show x :: g = [x] ++ g from rfl, fmt_app, fmt_one]
    simp only [List.length_append, List.length_cons, List.length_nil]
    omega
theorem fmF_step {g : List Pr} {k : Nat} {x : Pr} (hx : g[k]? = some x) : fmtZ lnP (g.take (k + 1)) = fmtZ lnP (g.take k) ++ (lnP x ++ [10]) := by
  rw [List.take_add_one, hx, fmt_app]
  show _ ++ fmtZ lnP [x] = _
  rw [fmt_one]
theorem vP_len {g : List Pr} (h : vP g = true) : g.length ≤ 24 := by unfold vP at h; rw [Bool.and_eq_true, decide_eq_true_eq] at h; exact h.2
/-- what Parse answers: props, line, error -/
def paFE (s : List UInt8) : List Pr × Nat × Int := if 65536 < s.length then ([], 0, 3) else ((paF s).1, (paF s).2.1, if (paF s).2.2 = true then 0 else 2)
theorem paFE_zero {s : ByteArray} (h : (paFE s.data.toList).2.2 = 0) : fmF (paFE s.data.toList).1 = s := by
  unfold paFE at h ⊢
  split at h
  · cases h
  · rename_i h0
    rw [if_neg h0]
    dsimp only at h ⊢
    split at h
    · rename_i h1
      obtain ⟨h2, h3, _⟩ := paF_back h1
      unfold fmF
      rw [if_pos h3, h2, list_bts]
    · cases h
theorem paFE_fm {g : List Pr} (h : vP g = true) : paFE (fmF g).data.toList = (g, 0, 0) := by
  have e : (fmF g).data.toList = fmtZ lnP g := by unfold fmF; rw [if_pos h, bts_list]
  have h24 := vP_len h
  have := fmF_len (vP_spot h)
  rw [e]
  unfold paFE
  rw [if_neg (by omega), paF_fm h]
  rfl
theorem fmF_size (g : List Pr) : (fmF g).size ≤ 1464 := by
  unfold fmF
  split
  · rename_i h
    have h24 := vP_len h
    have := fmF_len (vP_spot h)
    rw [bts_size]; omega
  · decide
end Go.Proofs.YthklgkgincebhaaGreatDoor.T6
