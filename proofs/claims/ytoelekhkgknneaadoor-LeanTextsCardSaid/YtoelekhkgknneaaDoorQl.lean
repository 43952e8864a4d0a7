/- Texts of lines of numbers: what the reading loops come to; what is left to read; what Parse answers. -/
import Derived.Test.YtoelekhkgknneaaDoorQb
import Derived.Test.YtoelekhkgknneaaDoorQh
import Derived.Test.YtoelekhkgknneaaDoorQi
import Derived.Test.YtoelekhkgknneaaDoorQp
set_option linter.unusedSimpArgs false
set_option linter.unusedVariables false
namespace Go.Proofs.YtoelekhkgknneaaDoor.Tx
open Go.RowKit Go.Lib

def aC (L : List Int) : Array Value := (L.map (Value.int .i64)).toArray
theorem aC_size (L : List Int) : (aC L).size = L.length := by simp [aC]
theorem aC_get {L : List Int} {k : Nat} {x : Int} (h : L[k]? = some x) : (aC L)[k]? = some (.int .i64 x) := by
  unfold aC
  rw [List.getElem?_toArray, List.getElem?_map, h]; rfl
theorem aC_set (L : List Int) (k : Nat) (x : Int) : (aC L).setIfInBounds k (.int .i64 x) = aC (L.set k x) := by
  unfold aC
  rw [List.map_set]; simp
theorem blk_at {w : World} {g : Nat} {t : TypeId} {L : List Int} (h : Blk w g t (aC L)) {k : Nat} {x : Int} (hx : L[k]? = some x) : w.cell? ⟨g, k, none⟩ = some (.int .i64 x) := by
  rw [h.cell]; exact aC_get hx
theorem blk_put {w : World} {g : Nat} {t : TypeId} {L : List Int} (h : Blk w g t (aC L)) (k : Nat) (x : Int) : Blk (w.setCell ⟨g, k, none⟩ (.int .i64 x)) g t (aC (L.set k x)) := by
  have := h.set_ k (.int .i64 x)
  rwa [aC_set] at this
theorem cut_sz (b : UInt8) : ∀ s, ∀ p ∈ cutZ b s, p.length ≤ s.length
  | [], p, hp => by simp [cutZ] at hp; subst hp; simp
  | x :: s, p, hp => by
    have ih := cut_sz b s
    unfold cutZ at hp
    split at hp
    · rcases List.mem_cons.1 hp with rfl | hp
      · simp
      · have := ih p hp; simp; omega
    · split at hp
      · simp at hp; subst hp; simp
      · rename_i h t e
        rw [e] at ih
        rcases List.mem_cons.1 hp with rfl | hp
        · have := ih h (List.mem_cons_self ..); simp; omega
        · have := ih p (List.mem_cons_of_mem _ hp); simp; omega
theorem cut_le (L : List UInt8) : (Lib.cut L [10]).1.length ≤ L.length ∧ (Lib.cut L [10]).2.1.length ≤ L.length ∧ (L ≠ [] → (Lib.cut L [10]).2.1.length < L.length) := by
  rcases first_or 10 L with hn | ⟨p, q, rfl, hp⟩
  · rw [cutL_no hn]
    exact ⟨Nat.le_refl _, Nat.zero_le _, fun h => List.length_pos_iff.2 h⟩
  · rw [cutL_at q hp]
    simp
    omega
theorem own_full (w : World) (P : List (List UInt8)) (h : P.length ≤ maxLen) : (w.alloc (.cells (fl stG P).toArray 9)).ownsRow w.heap.size 9 1 (.slice (some ⟨w.heap.size, 0, none⟩) P.length P.length) P.length (fl stG P) := by
  have hl := fl_length stG_len P
  refine ⟨hl, .inr ⟨w.heap.size, P.length, (fl stG P).toArray, rfl, Nat.le_refl _, (Blk.new w _ _ : _), Nat.le_refl _, h, by simpa using hl, ?_⟩⟩
  rw [List.take_of_length_le (by simp [hl])]
/-- what the reading loop of a line's numbers has come to -/
structure RdI (n : Nat) (E : Bool) (P : List (List UInt8)) (k : Nat) (b : Bool) (L : List Int) : Prop where
  len : L.length = n
  bd : ∀ m ∈ L, -9223372036854775808 ≤ m ∧ m ≤ 9223372036854775807
  yes : b = true → E = true ∧ P.length = n ∧ (P.take k).all okA = true ∧ L = (P.take k).map valA ++ List.replicate (n - k) 0
  no : b = false → ¬ (E = true ∧ P.length = n ∧ P.all okA = true)
theorem rdi_zero (n : Nat) (E : Bool) (P : List (List UInt8)) (b : Bool) (hb : b = (E && decide (P.length = n))) : RdI n E P 0 b (List.replicate n 0) := by
  refine ⟨by simp, fun m hm => ?_, fun h => ?_, fun h => ?_⟩
  · rw [List.eq_of_mem_replicate hm]; decide
  · rw [hb, Bool.and_eq_true, decide_eq_true_eq] at h
    exact ⟨h.1, h.2, by simp, by simp⟩
  · rintro ⟨h1, h2, _⟩
    rw [hb, h1, decide_eq_true h2] at h; cases h
theorem rdi_step {n : Nat} {E : Bool} {P : List (List UInt8)} {k : Nat} {L : List Int} {p : List UInt8} (h : RdI n E P k true L) (hk : k < n) (hp : P[k]? = some p) : RdI n E P (k + 1) (okA p) (L.set k (valA p)) := by
  obtain ⟨h1, h2, h3, h4⟩ := h.yes rfl
  have ht : P.take (k + 1) = P.take k ++ [p] := by rw [List.take_add_one, hp]; rfl
  refine ⟨by rw [List.length_set]; exact h.len, fun m hm => ?_, fun hb => ⟨h1, h2, ?_, ?_⟩, fun hb => ?_⟩
  · rcases List.mem_or_eq_of_mem_set hm with hm | rfl
    · exact h.bd m hm
    · exact valA_bd p
  · rw [ht, List.all_append, h3]; simp [hb]
  · have hl : ((P.take k).map valA).length = k := by rw [List.length_map, List.length_take]; omega
    rw [h4, ht, List.map_append, List.set_append_right _ _ (by omega), hl, Nat.sub_self]
    obtain ⟨r, hr⟩ : ∃ r, n - k = r + 1 := ⟨n - k - 1, by omega⟩
    rw [hr, List.replicate_succ, List.set_cons_zero, show n - (k + 1) = r by omega]
    simp
  · rintro ⟨_, _, h5⟩
    have := List.all_eq_true.1 h5 p (List.mem_of_getElem? hp)
    rw [hb] at this; cases this
theorem rdi_end {n : Nat} {P : List (List UInt8)} {E : Bool} {L : List Int} {t : List UInt8} (h : RdI n E P n true L) (hP : cutZ 32 t = P) : rdP n t = some L := by
  obtain ⟨h1, h2, h3, h4⟩ := h.yes rfl
  have ht : P.take n = P := List.take_of_length_le (by omega)
  rw [ht] at h3 h4
  unfold rdP
  rw [hP, if_pos (by rw [h3, decide_eq_true h2]; rfl), h4]
  simp
theorem rdi_none {n k : Nat} {P : List (List UInt8)} {L : List Int} {t : List UInt8} (h : RdI n true P k false L) (hP : cutZ 32 t = P) : rdP n t = none := by
  have := h.no rfl
  unfold rdP
  rw [hP, if_neg]
  intro q
  rw [Bool.and_eq_true, decide_eq_true_eq] at q
  exact this ⟨rfl, q.1, q.2⟩
section
variable {X : Type} (Y : LayX X) (cs : X → List Value) (sz : Nat)
def ParP (s : List UInt8) (w : World) (e : Ending) (w' : World) : Prop := ∃ A c, e = .returned (.tuple #[.slice A (Y.paE s).1.length c, .int .i64 ((Y.paE s).2.1 : Nat), .int .i64 (Y.paE s).2.2]) ∧ Rd cs sz w' A (Y.paE s).1 ∧ Below w.heap.size w w' ∧ (Y.paE s).1.length ≤ 70000
end
section
variable {X : Type} {Y : LayX X} {cs : X → List Value} {sz : Nat} {s : List UInt8} {w w' : World}
theorem par_bad {k : Nat} (h0 : ¬ 65536 < s.length) (h : Y.pa s = ([], k, false)) (hb : Below w.heap.size w w') : ParP Y cs sz s w (.returned (.tuple #[.slice none 0 0, .int .i64 (k : Int), .int .i64 2])) w' := by
  have e : Y.paE s = ([], k, 2) := by unfold LayX.paE; rw [if_neg h0, h]; rfl
  unfold ParP
  rw [e]
  exact ⟨none, 0, rfl, fun q => absurd rfl q, hb, by simp⟩
theorem par_good {g : List X} {A : Option Addr} {c : Nat} (h0 : ¬ 65536 < s.length) (h : Y.pa s = (g, 0, true)) (hr : Rd cs sz w' A g) (hb : Below w.heap.size w w') (hl : g.length ≤ 70000) : ParP Y cs sz s w (.returned (.tuple #[.slice A g.length c, .int .i64 0, .int .i64 0])) w' := by
  have e : Y.paE s = (g, 0, 0) := by unfold LayX.paE; rw [if_neg h0, h]; rfl
  unfold ParP
  rw [e]
  exact ⟨A, c, rfl, hr, hb, hl⟩
theorem par_long (h0 : 65536 < s.length) (hb : Below w.heap.size w w') : ParP Y cs sz s w (.returned (.tuple #[.slice none 0 0, .int .i64 0, .int .i64 3])) w' := by
  have e : Y.paE s = ([], 0, 3) := by unfold LayX.paE; rw [if_pos h0]
  unfold ParP
  rw [e]
  exact ⟨none, 0, rfl, fun q => absurd rfl q, hb, by simp⟩
/-- what is left to read -/
def paN (Y : LayX X) (n k : Nat) (g : List X) (L : List UInt8) : List X × Nat × Bool := if k = 0 ∧ L = [] then ([], 0, false) else lnGo Y.rd Y.wr Y.vld n k g L
theorem pa_n (Y : LayX X) (s : List UInt8) : Y.pa s = paN Y s.length 0 [] s := by
  unfold LayX.pa paN
  by_cases h : s = []
  · rw [if_pos h, if_pos ⟨rfl, h⟩]
  · rw [if_neg h, if_neg (fun q => h q.2)]
theorem paN_end {n k : Nat} {g : List X} (hk : k ≠ 0) : paN Y n k g [] = (g, 0, true) := by
  unfold paN
  rw [if_neg (fun q => hk q.1)]
  cases n <;> rfl
theorem paN_bad {n k : Nat} {g : List X} {L : List UInt8} (hL : k = 0 ∨ L ≠ []) (hn : L.length ≤ n) (h : ¬ ((Lib.cut L [10]).2.2 = true ∧ Y.wr (Y.rd (Lib.cut L [10]).1) = (Lib.cut L [10]).1 ∧ Y.vld (g ++ [Y.rd (Lib.cut L [10]).1]) = true)) : paN Y n k g L = ([], k, false) := by
  unfold paN
  by_cases h0 : L = []
  · rcases hL with rfl | h1
    · rw [if_pos ⟨rfl, h0⟩]
    · exact absurd h0 h1
  · rw [if_neg (fun q => h0 q.2)]
    obtain ⟨m, rfl⟩ : ∃ m, n = m + 1 := ⟨n - 1, by have := List.length_pos_iff.2 h0; omega⟩
    rw [lnGo, if_neg h0, if_neg h]
theorem paN_good {m k : Nat} {g : List X} {L : List UInt8} (h0 : L ≠ []) (h : (Lib.cut L [10]).2.2 = true ∧ Y.wr (Y.rd (Lib.cut L [10]).1) = (Lib.cut L [10]).1 ∧ Y.vld (g ++ [Y.rd (Lib.cut L [10]).1]) = true) : paN Y (m + 1) k g L = paN Y m (k + 1) (g ++ [Y.rd (Lib.cut L [10]).1]) (Lib.cut L [10]).2.1 := by
  unfold paN
  rw [if_neg (fun q => h0 q.2), if_neg (fun q => by omega), lnGo, if_neg h0, if_pos h]
end
theorem is_below {T e : TypeId} {B b : Nat} {bs : List Value} {w w' : World} (h : Lib.IsBuilder T e B b bs w) (hb : Below w.heap.size w w') : Lib.IsBuilder T e B b bs w' := by
  have q : ∀ p, Lib.BuilderAt T e B b p bs w → Lib.BuilderAt T e B b p bs w' := fun p h => by
    have hlt := h.lt
    obtain ⟨h1, v, h2, h3, h4⟩ := h
    exact ⟨h1, v, (hb.block b hlt).trans h2, own_on h3 hb, h4⟩
  rcases h with h | h
  · exact .inl (q _ h)
  · exact .inr (q _ h)
end Go.Proofs.YtoelekhkgknneaaDoor.Tx
