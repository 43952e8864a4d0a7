/- Fell: FellMore. -/
import Derived.Test.YtkeojokbpjdhpaaGreatDoorFaw
import Derived.Maps.AppendAt
set_option linter.unusedSimpArgs false
set_option linter.unusedVariables false
namespace Go.Proofs.YtkeojokbpjdhpaaGreatDoor
open Go.RowKit

theorem vP_iff {l : List Pr} : vP l = true ↔ (∀ x ∈ l, isS x.a = true) ∧ (spL l).Nodup ∧ l.length ≤ 24 := by
  constructor
  · intro h
    refine ⟨fun x hx => ?_, vP_nodup h, vP_len h⟩
    obtain ⟨i, hi⟩ := List.getElem?_of_mem hx
    exact (vP_at h hi).1
  · rintro ⟨h1, h2, h3⟩
    rw [vP_yes, decide_eq_true h3]
    rw [List.all_eq_true]
    intro i hi
    have hi' : i < l.length := by simpa using hi
    obtain ⟨x, hx⟩ := get_lt hi'
    refine okP_yes (by rw [prAt_of hx]; exact h1 x (List.mem_of_getElem? hx)) ?_
    rw [List.all_eq_true]
    intro j hj
    have hji : j < i := by simpa using hj
    obtain ⟨y, hy⟩ := get_lt (show j < l.length by omega)
    unfold frP
    rw [prAt_of hy, prAt_of hx, decide_eq_true_eq]
    unfold List.Nodup at h2
    rw [List.pairwise_iff_getElem] at h2
    have := h2 j i (by rw [spL_len]; omega) (by rw [spL_len]; omega) hji
    have e1 := (List.getElem?_eq_some_iff.1 hy).2
    have e2 := (List.getElem?_eq_some_iff.1 hx).2
    simpa [spL, e1, e2] using this
theorem vP_sub {l m : List Pr} (h : m.Sublist l) (hv : vP l = true) : vP m = true := by
  rw [vP_iff] at hv ⊢
  exact ⟨fun x hx => hv.1 x (h.mem hx), (h.map Pr.a).nodup hv.2.1, Nat.le_trans h.length_le hv.2.2⟩
theorem stE_sub {l m : List Pr} {s : Sp} (h : m.Sublist l) (he : stE l s = 0) : stE m s = 0 := by
  obtain ⟨hv, hs⟩ := stE_z he
  exact askE_ok (vP_sub h hv) (by simp [hs])
theorem stD_sub {l m : List Pr} {s : Sp} (h : m.Sublist l) (he : stE l s = 0) (hd : stD m s = true) : stD l s = true := by
  have hm := stE_sub h he
  rw [stD_ok hm, heldB_iff] at hd
  rw [stD_ok he, heldB_iff]
  exact hd.mono fun x hx => (h.map Pr.a).mem hx
def lsP (l : List Pr) (k : Nat) : List Pr := l.take k ++ l.drop (k + 1)
theorem lsP_sub (l : List Pr) (k : Nat) : (lsP l k).Sublist l := by
  unfold lsP; rw [← List.eraseIdx_eq_take_drop_succ]; exact List.eraseIdx_sublist l k
theorem lsP_len {l : List Pr} {k : Nat} (h : k < l.length) : (lsP l k).length = k + (l.length - (k + 1)) := by
  unfold lsP; rw [List.length_append, List.length_take, List.length_drop]; omega
theorem info_prop : ∃ i : TypeInfo, Tryz.prog.info? 34 = some i ∧ i.zero = some (.agg #[.int .i64 0, .int .i64 0, .bool false]) ∧ i.size = 3 ∧ i.bytes = 24 := info_parts (by kernel_rfl)
theorem prC_one (l : List Pr) : ∀ u ∈ fl Pr.cs l, u.oneCell' = true := fun u hu => by
  unfold fl at hu
  obtain ⟨x, _, hx⟩ := List.mem_flatMap.1 hu
  simp only [Pr.cs, List.mem_cons, List.not_mem_nil, or_false] at hx
  rcases hx with rfl | rfl | rfl <;> rfl
def manyB (n : Nat) : Bool := (decide (12 < n) && decide (n ≤ 24)) || decide (30 < n)
section
variable {P : Program}
theorem step_append_at {ops : Array Oper} {o : Oper} {a : Act} {w : World} {K : Act → World → Prop} {Q : Exit → Act → World → Prop} {E : Prop} (hgd : o.guard = none) (s x : Operand) (t : TypeId)
    (ho : o.op = .call { callee := .builtin .append, args := #[s, x], argTypes := #[t, t] })
    (base : Nat) (e : TypeId) (i : TypeInfo) (z : Value) (size bytes : Nat) (ht : P.underlying t = some (.slice e)) (hi : P.info? e = some i) (hz : i.zero = some z)
    (hsize : i.size = size) (hby : i.bytes = bytes) (hzs : z.cells.size = size) (hsz : 0 < size)
    (v : Value) (n : Nat) (xs : List Value) (hs : a.eval s = v) (hown : w.ownsRow base e size v n xs)
    (ad : Addr) (m c : Nat) (news : List Value) (hx : a.eval x = .slice (some ad) m c) (hl : news.length = m * size) (hnews : ∀ j u, news[j]? = some u → w.cell? (ad.add j) = some u) (h1 : ∀ u ∈ news, u.oneCell' = true)
    (h63 : n + m ≤ maxLen) (hbytes : (n + m) * bytes ≤ 140737488355328) (hbase : base ≤ w.heap.size)
    (h : ∀ v' w', w'.ownsRow base e size v' (n + m) (xs ++ news) → w.grownBy w' v.ownBlock → K (a.put o.dst v') w') :
    if Region.wanted o (yielded ops a.tmps) = true then Oper.wp P o a w K Q else E := by
  have hw : Region.wanted o (yielded ops a.tmps) = true := by simp [Region.wanted, hgd]
  rw [if_pos hw]
  obtain ⟨v', w', hr, h2, h3, _, _⟩ := Go.run_append_own_at (P := P) w base t o.type e i z size bytes ht hi hz hsize hby hzs hsz v n xs hown ad m c news hl hnews h1 h63 hbytes hbase
  unfold Oper.wp execOp
  simp only [ho, resolve, invoke, builtin, Sem.run_bind, Sem.run_pure, Result.andThen_ok, List.map_toArray, List.map_cons, List.map_nil, hs, hx, hr]
  exact h v' w' h2 h3
end
end Go.Proofs.YtkeojokbpjdhpaaGreatDoor
