/- Wind cards: bounds of the minutes of work; plain, no program in sight. -/
import Derived.Test.YtkigdjfagcnejaaDoorDs
set_option linter.unusedSimpArgs false
set_option linter.unusedVariables false
namespace Go.Proofs.YtkigdjfagcnejaaDoor
open Go.RowKit

def tS (r : Ru) (s : Nat) (g : Int) : Nat := (nx r ((s : Int) - 1) g + 1).toNat
def iS (r : Ru) (s : Nat) (g : Int) : Int := if gB r ((s : Int) - 1) g = true then 1 else 0
/-- gusts that a reading (or none) may be -/
def okG (x g : Int) : Prop := (0 ≤ x ∧ g = x) ∨ (x < 0 ∧ 0 ≤ g ∧ g ≤ 200)
/-- what can be behind k minutes: a state, and how many minutes work went -/
def Rch (r : Ru) (l : List Int) : Nat → Nat → Int → Prop
  | 0, s, n => s = 0 ∧ n = 0
  | k + 1, t, m => ∃ s n g, Rch r l k s n ∧ okG (l.getD k 0) g ∧ t = tS r s g ∧ m = n + iS r s g
theorem tS_le {r : Ru} (h : vRu r = true) {s : Nat} (hs : (s : Int) ≤ r.c) (g : Int) : (tS r s g : Int) ≤ r.c ∧ (tS r s g : Int) = nx r ((s : Int) - 1) g + 1 := by
  have := nx_bd h (st := (s : Int) - 1) (by omega) (by omega) g
  unfold tS; omega
theorem iS_bd (r : Ru) (s : Nat) (g : Int) : 0 ≤ iS r s g ∧ iS r s g ≤ 1 := by unfold iS; split <;> omega
theorem rch_bd {r : Ru} (h : vRu r = true) {l : List Int} : ∀ {k s : Nat} {n : Int}, Rch r l k s n → (s : Int) ≤ r.c ∧ 0 ≤ n ∧ n ≤ k
  | 0, s, n, hr => by obtain ⟨rfl, rfl⟩ := hr; have := vru h; omega
  | k + 1, t, m, hr => by
    obtain ⟨s, n, g, h1, _, rfl, rfl⟩ := hr
    obtain ⟨i1, i2, i3⟩ := rch_bd h h1
    have := tS_le h i1 g
    have := iS_bd r s g
    omega
/-- the least (or greatest) one is asked -/
def bt (b : Bool) (x y : Int) : Bool := if b = true then decide (x < y) else decide (y < x)
def Bst (b : Bool) (S : Int → Prop) (v : Int) : Prop := (v = -1 ∧ ∀ n, ¬ S n) ∨ (0 ≤ v ∧ S v ∧ ∀ n, S n → bt b n v = false)
theorem bt_f {b : Bool} {x y : Int} : bt b x y = false ↔ (if b = true then y ≤ x else x ≤ y) := by
  cases b <;> simp [bt]
theorem bst_uniq {b : Bool} {S : Int → Prop} {v u : Int} (h1 : Bst b S v) (h2 : Bst b S u) : v = u := by
  rcases h1 with ⟨rfl, h1⟩ | ⟨_, h3, h4⟩
  · rcases h2 with ⟨rfl, _⟩ | ⟨_, h5, _⟩
    · rfl
    · exact absurd h5 (h1 _)
  · rcases h2 with ⟨rfl, h5⟩ | ⟨_, h5, h6⟩
    · exact absurd h3 (h5 _)
    · have a := bt_f.1 (h4 _ h5)
      have c := bt_f.1 (h6 _ h3)
      cases b <;> simp at a c <;> omega
def putV (b : Bool) (v n : Int) : Int := if v < 0 ∨ bt b n v = true then n else v
theorem putV_ge {b : Bool} {v n : Int} (hn : 0 ≤ n) : 0 ≤ putV b v n := by unfold putV; split <;> omega
theorem bst_put {b : Bool} {S : Int → Prop} {v n : Int} (h : Bst b S v) (hn : 0 ≤ n) : Bst b (fun m => S m ∨ m = n) (putV b v n) := by
  right
  refine ⟨putV_ge hn, ?_, ?_⟩
  · unfold putV
    split
    · exact .inr rfl
    · rename_i h1
      rcases h with ⟨rfl, _⟩ | ⟨_, h2, _⟩
      · exact absurd (.inl (by omega)) h1
      · exact .inl h2
  · intro m hm
    rcases h with ⟨rfl, h1⟩ | ⟨h0, h1, h2⟩
    · rcases hm with hm | rfl
      · exact absurd hm (h1 _)
      · unfold putV; rw [if_pos (.inl (by omega)), bt_f]; cases b <;> simp
    · unfold putV
      rcases hm with hm | rfl
      · have h3 := h2 m hm
        split
        · rename_i h4
          rcases h4 with h4 | h4
          · omega
          · rw [bt_f] at h3 ⊢
            cases b <;> simp [bt] at h3 h4 ⊢ <;> omega
        · exact h3
      · split
        · rw [bt_f]; cases b <;> simp
        · rename_i h4
          cases h5 : bt b m v
          · rfl
          · exact absurd (.inr h5) h4
theorem bst_iff {b : Bool} {S T : Int → Prop} {v : Int} (e : ∀ n, S n ↔ T n) (h : Bst b S v) : Bst b T v := by
  rcases h with ⟨h1, h2⟩ | ⟨h1, h2, h3⟩
  · exact .inl ⟨h1, fun n hn => h2 n ((e n).2 hn)⟩
  · exact .inr ⟨h1, (e v).1 h2, fun n hn => h3 n ((e n).2 hn)⟩
theorem bst_union {b : Bool} {S T : Int → Prop} {o v : Int} (h : Bst b S o) (h2 : Bst b T v) : Bst b (fun n => S n ∨ T n) (if 0 ≤ v then putV b o v else o) := by
  rcases h2 with ⟨rfl, h3⟩ | ⟨h3, h4, h5⟩
  · rw [if_neg (by omega)]
    exact bst_iff (fun n => ⟨.inl, fun hn => hn.elim id (fun k => absurd k (h3 _))⟩) h
  · rw [if_pos h3]
    have h6 := bst_put h h3
    rcases h6 with ⟨h7, _⟩ | ⟨h7, h8, h9⟩
    · have := putV_ge (b := b) (v := o) h3; omega
    · refine .inr ⟨h7, h8.elim .inl (fun e => .inr (by rw [e]; exact h4)), fun n hn => ?_⟩
      rcases hn with hn | hn
      · exact h9 n (.inl hn)
      · have h10 := h9 v (.inr rfl)
        have h11 := h5 n hn
        rw [bt_f] at h10 h11 ⊢
        cases b <;> simp at h10 h11 ⊢ <;> omega
/-- what is put for a state in the round of a minute -/
def PV (r : Ru) (now : List Int) (ps : List (Nat × Int)) (t : Nat) (m : Int) : Prop := ∃ p ∈ ps, 0 ≤ now.getD p.1 (-1) ∧ t = tS r p.1 p.2 ∧ m = now.getD p.1 (-1) + iS r p.1 p.2
def NV (b : Bool) (r : Ru) (now : List Int) (ps : List (Nat × Int)) (N : List Int) : Prop := ∀ t, t < N.length → Bst b (PV r now ps t) (N.getD t (-1))
theorem nv_nil (b : Bool) (r : Ru) (now : List Int) (n : Nat) : NV b r now [] (List.replicate n (-1)) := fun t ht => by
  have ht : t < n := by simpa using ht
  refine .inl ⟨by rw [List.getD_eq_getElem?_getD, List.getElem?_replicate, if_pos ht]; rfl, ?_⟩
  rintro m ⟨p, hp, _⟩; cases hp
theorem nv_skip {b : Bool} {r : Ru} {now N : List Int} {ps : List (Nat × Int)} {s : Nat} (h : NV b r now ps N) (hn : now.getD s (-1) < 0) (g : Int) : NV b r now (ps ++ [(s, g)]) N := fun t ht => by
  refine bst_iff (fun m => ?_) (h t ht)
  constructor
  · rintro ⟨p, hp, hq⟩; exact ⟨p, List.mem_append_left _ hp, hq⟩
  · rintro ⟨p, hp, hq⟩
    rcases List.mem_append.1 hp with hp | hp
    · exact ⟨p, hp, hq⟩
    · obtain rfl : p = (s, g) := by simpa using hp
      dsimp only at hq; omega
theorem nv_put {b : Bool} {r : Ru} {now N : List Int} {ps : List (Nat × Int)} {s : Nat} (h : NV b r now ps N) (hn : 0 ≤ now.getD s (-1)) (g : Int) : NV b r now (ps ++ [(s, g)]) (N.set (tS r s g) (putV b (N.getD (tS r s g) (-1)) (now.getD s (-1) + iS r s g))) := fun t ht => by
  have ht : t < N.length := by simpa using ht
  have hi := iS_bd r s g
  by_cases e : tS r s g = t
  · subst e
    rw [show (N.set (tS r s g) (putV b (N.getD (tS r s g) (-1)) (now.getD s (-1) + iS r s g))).getD (tS r s g) (-1) = putV b (N.getD (tS r s g) (-1)) (now.getD s (-1) + iS r s g) by rw [List.getD_eq_getElem?_getD, List.getElem?_set_self ht]; rfl]
    refine bst_iff (fun m => ?_) (bst_put (h _ ht) (n := now.getD s (-1) + iS r s g) (by omega))
    constructor
    · rintro (⟨p, hp, hq⟩ | rfl)
      · exact ⟨p, List.mem_append_left _ hp, hq⟩
      · exact ⟨(s, g), by simp, hn, rfl, rfl⟩
    · rintro ⟨p, hp, hq⟩
      rcases List.mem_append.1 hp with hp | hp
      · exact .inl ⟨p, hp, hq⟩
      · obtain rfl : p = (s, g) := by simpa using hp
        exact .inr hq.2.2
  · rw [show (N.set (tS r s g) (putV b (N.getD (tS r s g) (-1)) (now.getD s (-1) + iS r s g))).getD t (-1) = N.getD t (-1) by rw [List.getD_eq_getElem?_getD, List.getElem?_set_ne e, ← List.getD_eq_getElem?_getD]]
    refine bst_iff (fun m => ?_) (h t ht)
    constructor
    · rintro ⟨p, hp, hq⟩; exact ⟨p, List.mem_append_left _ hp, hq⟩
    · rintro ⟨p, hp, hq⟩
      rcases List.mem_append.1 hp with hp | hp
      · exact ⟨p, hp, hq⟩
      · obtain rfl : p = (s, g) := by simpa using hp
        exact absurd hq.2.1.symm e
/-- for each state what is best behind k minutes -/
def VK (b : Bool) (r : Ru) (l : List Int) (k : Nat) (L : List Int) : Prop := ∀ s, s < L.length → Bst b (Rch r l k s) (L.getD s (-1))
theorem vk_zero (b : Bool) (r : Ru) (l : List Int) (n : Nat) : VK b r l 0 (0 :: List.replicate n (-1)) := fun s hs => by
  cases s with
  | zero => exact .inr ⟨by simp, ⟨rfl, by simp⟩, fun n hn => by obtain ⟨_, rfl⟩ := hn; rw [bt_f]; cases b <;> simp⟩
  | succ s =>
    have hs : s < n := by simpa using hs
    refine .inl ⟨?_, fun m hm => by obtain ⟨h, _⟩ := hm; omega⟩
    rw [List.getD_eq_getElem?_getD, List.getElem?_cons_succ, List.getElem?_replicate, if_pos hs]; rfl
/-- gusts that stand for all that a reading may be -/
def Cov (r : Ru) (x : Int) (gs : List Int) : Prop := (∀ g ∈ gs, okG x g) ∧ ∀ (s : Nat) g, okG x g → ∃ g' ∈ gs, tS r s g' = tS r s g ∧ iS r s g' = iS r s g
def prs (n : Nat) (gs : List Int) : List (Nat × Int) := (List.range n).flatMap fun s => gs.map fun g => (s, g)
theorem mem_prs {n s : Nat} {g : Int} {gs : List Int} : (s, g) ∈ prs n gs ↔ s < n ∧ g ∈ gs := by
  unfold prs
  rw [List.mem_flatMap]
  constructor
  · rintro ⟨a, ha, hb⟩
    rw [List.mem_map] at hb
    obtain ⟨g', hg, e⟩ := hb
    cases e
    exact ⟨by simpa using ha, hg⟩
  · rintro ⟨h1, h2⟩
    exact ⟨s, by simpa using h1, List.mem_map.2 ⟨g, h2, rfl⟩⟩
theorem prs_succ (n : Nat) (gs : List Int) : prs (n + 1) gs = prs n gs ++ gs.map fun g => (n, g) := by
  unfold prs; rw [List.range_succ, List.flatMap_append]; simp
theorem vk_step {b : Bool} {r : Ru} {l : List Int} {k : Nat} {L N gs : List Int} (hv : vRu r = true) (h : VK b r l k L) (hl : r.c < (L.length : Int)) (hc : Cov r (l.getD k 0) gs) (hN : NV b r L (prs L.length gs) N) : VK b r l (k + 1) N := fun t ht => by
  have hput : ∀ n, Rch r l (k + 1) t n → ∃ u, PV r L (prs L.length gs) t u ∧ (if b = true then u ≤ n else n ≤ u) := by
    rintro n ⟨s, n0, g, h1, h2, rfl, rfl⟩
    have hs : s < L.length := by have := (rch_bd hv h1).1; omega
    obtain ⟨g', hg', e1, e2⟩ := hc.2 s g h2
    rcases h s hs with ⟨_, h4⟩ | ⟨h4, h5, h6⟩
    · exact absurd h1 (h4 _)
    · refine ⟨L.getD s (-1) + iS r s g', ⟨(s, g'), mem_prs.2 ⟨hs, hg'⟩, h4, e1.symm, rfl⟩, ?_⟩
      have := bt_f.1 (h6 n0 h1)
      rw [e2]
      cases b <;> simp at this ⊢ <;> omega
  rcases hN t ht with ⟨h1, h2⟩ | ⟨h1, h2, h3⟩
  · exact .inl ⟨h1, fun n hn => by obtain ⟨u, hu, _⟩ := hput n hn; exact h2 _ hu⟩
  · refine .inr ⟨h1, ?_, fun n hn => ?_⟩
    · obtain ⟨⟨s, g⟩, hp, hq, e1, e2⟩ := h2
      obtain ⟨hs, hg⟩ := mem_prs.1 hp
      dsimp only at hq e1 e2
      rcases h s hs with ⟨h4, _⟩ | ⟨_, h5, _⟩
      · omega
      · exact ⟨s, _, g, h5, hc.1 g hg, e1, e2⟩
    · obtain ⟨u, hu, hle⟩ := hput n hn
      have := bt_f.1 (h3 u hu)
      rw [bt_f]
      cases b <;> simp at this hle ⊢ <;> omega
theorem cov_one (r : Ru) {x : Int} (h : 0 ≤ x) : Cov r x [x] := by
  refine ⟨fun g hg => .inl ⟨h, by simpa using hg⟩, fun s g hg => ?_⟩
  rcases hg with ⟨_, rfl⟩ | ⟨h2, _⟩
  · exact ⟨g, by simp, rfl, rfl⟩
  · omega
theorem same_low {r : Ru} {s : Nat} {g g' : Int} (hg : 0 ≤ g) (hg' : 0 ≤ g') (hs : s = 0) (h : r.s ≤ g ↔ r.s ≤ g') : tS r s g' = tS r s g ∧ iS r s g' = iS r s g := by
  subst hs
  have e1 : nx r (((0 : Nat) : Int) - 1) g' = nx r (((0 : Nat) : Int) - 1) g := by
    unfold nx
    rw [if_pos (show ((0 : Nat) : Int) - 1 < 0 by omega), if_pos (show ((0 : Nat) : Int) - 1 < 0 by omega)]
    by_cases h1 : r.s ≤ g
    · rw [if_pos (Or.inr (h.1 h1)), if_pos (Or.inr h1)]
    · rw [if_neg (show ¬ (g' < 0 ∨ r.s ≤ g') by omega), if_neg (show ¬ (g < 0 ∨ r.s ≤ g) by omega)]
  have e2 : gB r (((0 : Nat) : Int) - 1) g' = gB r (((0 : Nat) : Int) - 1) g := by
    unfold gB
    rw [decide_eq_true hg, decide_eq_true hg']
    by_cases h1 : r.s ≤ g
    · rw [decide_eq_false (show ¬ g < r.s by omega), decide_eq_false (show ¬ g' < r.s by omega)]
    · rw [decide_eq_true (show g < r.s by omega), decide_eq_true (show g' < r.s by omega)]
  unfold tS iS
  rw [e1, e2]
  exact ⟨rfl, rfl⟩
theorem same_high {r : Ru} {s : Nat} {g g' : Int} (hg : 0 ≤ g) (hg' : 0 ≤ g') (hs : 0 < s) (h : r.g ≤ g ↔ r.g ≤ g') : tS r s g' = tS r s g ∧ iS r s g' = iS r s g := by
  have e1 : nx r ((s : Int) - 1) g' = nx r ((s : Int) - 1) g := by
    unfold nx
    rw [if_neg (show ¬ ((s : Int) - 1 < 0) by omega), if_neg (show ¬ ((s : Int) - 1 < 0) by omega)]
    by_cases h1 : r.g ≤ g
    · rw [if_pos (Or.inr (h.1 h1)), if_pos (Or.inr h1)]
    · rw [if_neg (show ¬ (g' < 0 ∨ r.g ≤ g') by omega), if_neg (show ¬ (g < 0 ∨ r.g ≤ g) by omega)]
  have e2 : gB r ((s : Int) - 1) g' = gB r ((s : Int) - 1) g := by
    unfold gB; rw [decide_eq_false (show ¬ ((s : Int) - 1 < 0) by omega)]; rfl
  unfold tS iS
  rw [e1, e2]
  exact ⟨rfl, rfl⟩
theorem cov_p {r : Ru} (hv : vRu r = true) {x : Int} (h : x < 0) : Cov r x [0, r.s - 1, 200] := by
  have := vru hv
  refine ⟨fun g hg => ?_, fun s g hg => ?_⟩
  · right
    simp only [List.mem_cons, List.not_mem_nil, or_false] at hg
    rcases hg with rfl | rfl | rfl <;> omega
  · have hg : 0 ≤ g ∧ g ≤ 200 := by rcases hg with ⟨h1, _⟩ | ⟨_, h1⟩ <;> omega
    rcases Nat.eq_zero_or_pos s with hs | hs
    · by_cases h1 : r.s ≤ g
      · exact ⟨200, by simp, same_low hg.1 (by omega) hs (by omega)⟩
      · exact ⟨0, by simp, same_low hg.1 (by omega) hs (by omega)⟩
    · by_cases h1 : r.g ≤ g
      · exact ⟨200, by simp, same_high hg.1 (by omega) hs (by omega)⟩
      · exact ⟨0, by simp, same_high hg.1 (by omega) hs (by omega)⟩
theorem cov_r {r : Ru} (hv : vRu r = true) {x : Int} (h : x < 0) : Cov r x [0, r.g - 1, r.g, r.s - 1, r.s] := by
  have := vru hv
  refine ⟨fun g hg => ?_, fun s g hg => ?_⟩
  · right
    simp only [List.mem_cons, List.not_mem_nil, or_false] at hg
    rcases hg with rfl | rfl | rfl | rfl | rfl <;> omega
  · have hg : 0 ≤ g ∧ g ≤ 200 := by rcases hg with ⟨h1, _⟩ | ⟨_, h1⟩ <;> omega
    rcases Nat.eq_zero_or_pos s with hs | hs
    · by_cases h1 : r.s ≤ g
      · exact ⟨r.s, by simp, same_low hg.1 (by omega) hs (by omega)⟩
      · exact ⟨0, by simp, same_low hg.1 (by omega) hs (by omega)⟩
    · by_cases h1 : r.g ≤ g
      · exact ⟨r.g, by simp, same_high hg.1 (by omega) hs (by omega)⟩
      · exact ⟨0, by simp, same_high hg.1 (by omega) hs (by omega)⟩
/-- gusts for the missing minutes -/
theorem rch_fill {r : Ru} (hv : vRu r = true) {l f : List Int} (h : ∀ k, k < l.length → okG (l.getD k 0) (f.getD k 0)) : ∀ k, k ≤ l.length → Rch r l k (stA r f k + 1).toNat (cnS (gA r f) 0 k : Nat)
  | 0, _ => ⟨rfl, rfl⟩
  | k + 1, hk => by
    have ih := rch_fill hv h k (by omega)
    have hb := stA_bd hv f k
    refine ⟨_, _, f.getD k 0, ih, h k (by omega), ?_, ?_⟩
    · unfold tS
      rw [show (((stA r f k + 1).toNat : Nat) : Int) - 1 = stA r f k by omega]
      rfl
    · unfold iS
      rw [show (((stA r f k + 1).toNat : Nat) : Int) - 1 = stA r f k by omega]
      show ((cnS (gA r f) 0 (k + 1) : Nat) : Int) = _
      have hg : gA r f k = gB r (stA r f k) (f.getD k 0) := rfl
      rw [← hg]
      cases e : gA r f k
      · rw [cnS_no (by rw [Nat.zero_add]; exact e)]; simp
      · rw [cnS_yes (by rw [Nat.zero_add]; exact e)]; simp
/-- the best of all states -/
def AllR (r : Ru) (l : List Int) (n : Int) : Prop := ∃ s, Rch r l l.length s n
theorem bst_in {r : Ru} {l : List Int} {a b n : Int} (h1 : Bst true (AllR r l) a) (h2 : Bst false (AllR r l) b) (h : AllR r l n) : a ≤ n ∧ n ≤ b := by
  rcases h1 with ⟨_, h3⟩ | ⟨_, _, h3⟩
  · exact absurd h (h3 _)
  rcases h2 with ⟨_, h4⟩ | ⟨_, _, h4⟩
  · exact absurd h (h4 _)
  have a1 := bt_f.1 (h3 n h)
  have a2 := bt_f.1 (h4 n h)
  simp at a1 a2
  exact ⟨a1, a2⟩
/-- states under n -/
def UpR (r : Ru) (l : List Int) (n : Nat) (m : Int) : Prop := ∃ s, s < n ∧ Rch r l l.length s m
theorem up_zero (b : Bool) (r : Ru) (l : List Int) : Bst b (UpR r l 0) (-1) := .inl ⟨rfl, fun n hn => by obtain ⟨s, hs, _⟩ := hn; omega⟩
theorem up_step {b : Bool} {r : Ru} {l L : List Int} {s : Nat} {o : Int} (h : Bst b (UpR r l s) o) (hv : VK b r l l.length L) (hs : s < L.length) : Bst b (UpR r l (s + 1)) (if 0 ≤ L.getD s (-1) then putV b o (L.getD s (-1)) else o) := by
  refine bst_iff (fun n => ?_) (bst_union h (hv s hs))
  constructor
  · rintro (⟨t, h1, h2⟩ | h2)
    · exact ⟨t, by omega, h2⟩
    · exact ⟨s, by omega, h2⟩
  · rintro ⟨t, h1, h2⟩
    by_cases e : t = s
    · subst e; exact .inr h2
    · exact .inl ⟨t, by omega, h2⟩
theorem up_all {b : Bool} {r : Ru} {l : List Int} {n : Nat} {o : Int} (hv : vRu r = true) (hn : r.c < (n : Int)) (h : Bst b (UpR r l n) o) : Bst b (AllR r l) o := by
  refine bst_iff (fun m => ?_) h
  constructor
  · rintro ⟨s, _, h1⟩; exact ⟨s, h1⟩
  · rintro ⟨s, h1⟩; exact ⟨s, by have := (rch_bd hv h1).1; omega, h1⟩
/-- Bounds -/
def BdV (b : Bool) (r : Ru) (l : List Int) (v : Int) : Prop := if aE r l = 0 then Bst b (AllR r l) v else v = 0
theorem bdV_uniq {b : Bool} {r : Ru} {l : List Int} {v u : Int} (h1 : BdV b r l v) (h2 : BdV b r l u) : v = u := by
  unfold BdV at h1 h2
  split at h1
  · rename_i h; rw [if_pos h] at h2; exact bst_uniq h1 h2
  · rename_i h; rw [if_neg h] at h2; omega
end Go.Proofs.YtkigdjfagcnejaaDoor
