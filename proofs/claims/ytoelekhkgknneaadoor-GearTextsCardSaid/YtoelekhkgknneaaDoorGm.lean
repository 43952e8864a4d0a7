/- Gear: items compared; Looked by both. -/
import Derived.Test.YtoelekhkgknneaaDoorGl
import Derived.ArgAppend
import Derived.Deep.AppendLies
set_option linter.unusedSimpArgs false
set_option linter.unusedVariables false
namespace Go.Proofs.YtoelekhkgknneaaDoor
open Go.RowKit Go.Maps


set_option maxHeartbeats 1000000 in
set_option maxRecDepth 20000 in
theorem l_items (A B : Option Addr) (l : List It) (c d : Nat) (w : World) (hl : l.length ≤ 100000) (hA : Rd It.cs 4 w A l) (hB : Rd It.cs 4 w B l) :
    Calls Tryd.prog 13 #[.slice A l.length c, .slice B l.length d] w fun e w' => e = .returned (.bool true) ∧ Below w.heap.size w w' := by
  go_enter Tryd.func13, Tryd.ntmps13
  go_wp2
  go_loopw [5] (fun i wr => ∃ k : Nat, k ≤ l.length ∧ i = .int .i64 k ∧ Below w.heap.size w wr) (fun i _ => l.length - (intOf i).toNat)
  case atStart => exact ⟨0, by omega, rfl, below_refl _⟩
  case round =>
    obtain ⟨k, hk, rfl, hbw⟩ := hrel
    by_cases hlt : k < l.length
    · obtain ⟨x, b, off, hx, rfl, hb, c0, c1, c2, c3⟩ := rdI (hA.on hbw) hlt
      obtain ⟨y, b', off', hy, rfl, hb', d0, d1, d2, d3⟩ := rdI (hB.on hbw) hlt
      obtain rfl : x = y := by rw [hx] at hy; exact Option.some.inj hy
      have k0 : (0 : Int) ≤ (k : Int) := Int.natCast_nonneg _
      have k1 : (k : Int) < (l.length : Int) := by omega
      clear hx hy
      go_wp2
      go_quiet (fail)
      go_wp2
      go_roundw
      case rel => exact ⟨k + 1, by omega, by go_num, below_drewN hbw _⟩
      case measure => simp [intOf]; omega
    · obtain rfl : k = l.length := by omega
      go_wp2
      go_ret
      exact ⟨rfl, hbw⟩

theorem fits_wrap {n : Int} (h : -9223372036854775808 ≤ n ∧ n ≤ 9223372036854775807) : IntKind.i64.wrap n = n := by
  simp only [IntKind.wrap, IntKind.bits, IntKind.signed]
  simp
  omega
theorem info_item : ∃ i : TypeInfo, Tryd.prog.info? 52 = some i ∧ i.zero = some (.agg #[.string ByteArray.empty, .int .i64 0, .int .i64 0, .string ByteArray.empty]) ∧ i.size = 4 ∧ i.bytes = 48 := info_parts (by kernel_rfl)
theorem upI {l : List It} {cur : Array Value} {k : Nat} {x : It} {n : Int} (hc : InRow It.cs 4 cur l) (hx : l[k]? = some x) :
    InRow It.cs 4 (cur.setIfInBounds (k * 4 + 2) (.int .i64 n)) (l.set k ⟨x.nm, x.ld, n, x.bt⟩) := fun k' z hz r u hu => by
  have hr : r < 4 := by
    rcases Nat.lt_or_ge r 4 with h | h
    · exact h
    · rw [List.getElem?_eq_none (by rw [It.cs_len]; exact h)] at hu; cases hu
  have h2 := hc k x hx 2 _ rfl
  have l2 := (Array.getElem?_eq_some_iff.1 h2).1
  by_cases hk : k = k'
  · subst hk
    have hkl : k < l.length := (List.getElem?_eq_some_iff.1 hx).1
    rw [List.getElem?_set_self hkl] at hz
    cases hz
    rcases (by omega : r = 0 ∨ r = 1 ∨ r = 2 ∨ r = 3) with rfl | rfl | rfl | rfl
    · rw [Array.getElem?_setIfInBounds_ne (by omega)]; exact hc k x hx 0 u hu
    · rw [Array.getElem?_setIfInBounds_ne (by omega)]; exact hc k x hx 1 u hu
    · rw [Array.getElem?_setIfInBounds_self_of_lt l2]; exact hu
    · rw [Array.getElem?_setIfInBounds_ne (by omega)]; exact hc k x hx 3 u hu
  · rw [List.getElem?_set_ne hk] at hz
    rw [Array.getElem?_setIfInBounds_ne (by omega)]
    exact hc k' z hz r u hu
def lkE (g : List It) (s : ByteArray) (d : Int) : Int := if vldG g = true then (if wn d 0 100000 = true then (if 0 ≤ fndI g s then 0 else 5) else 7) else 1
def setDu (g : List It) (i : Nat) (d : Int) : List It := g.set i ⟨(itAt g i).nm, (itAt g i).ld, d, (itAt g i).bt⟩
def lkL (g : List It) (s : ByteArray) (d : Int) : List It := if lkE g s d = 0 then setDu g (fndI g s).toNat d else []
theorem vldG_len {g : List It} (h : vldG g = true) : g.length ≤ 64 := by
  unfold vldG at h
  rw [Bool.and_eq_true] at h
  simpa using h.2
section
variable {P : Program} (w : World)
/-- append that must grow, at a step of a region that draws -/
theorem step_append_grows {ops : Array Oper} {o : Oper} {a : Act} {K : Act → World → Prop} {Q : Exit → Act → World → Prop} {E : Prop} (hgd : o.guard = none) (s x : Operand) (t : TypeId)
    (ho : o.op = .call { callee := .builtin .append, args := #[s, x], argTypes := #[t, t] })
    (e : TypeId) (i : TypeInfo) (z : Value) (size bytes : Nat) (ht : P.underlying t = some (.slice e)) (hi : P.info? e = some i) (hz : i.zero = some z)
    (hsize : i.size = size) (hby : i.bytes = bytes) (hzs : z.cells.size = size) (hsz : 0 < size)
    (b : Addr) (n cap : Nat) (olds : List Value) (hs : a.eval s = .slice (some b) n cap) (hlo : olds.length = n * size) (holds : ∀ j u, olds[j]? = some u → w.cell? (b.add j) = some u)
    (ad : Addr) (m c : Nat) (news : List Value) (hx : a.eval x = .slice (some ad) m c) (hl : news.length = m * size) (hnews : ∀ j u, news[j]? = some u → w.cell? (ad.add j) = some u)
    (hg : cap < n + m) (h63 : n + m ≤ maxLen) (hbytes : (n + m) * bytes ≤ 140737488355328)
    (h : ∀ v' w', w'.ownsRow w.heap.size e size v' (n + m) (olds ++ news) → w.grownBy w' none → K (a.put o.dst v') w') :
    if Region.wanted o (yielded ops a.tmps) = true then Oper.wp P o a w K Q else E := by
  have hw : Region.wanted o (yielded ops a.tmps) = true := by simp [Region.wanted, hgd]
  rw [if_pos hw]
  obtain ⟨v', w', hrun, r1, r2⟩ := run_append_arg_grows (P := P) w t o.type e i z size bytes ht hi hz hsize hby hzs hsz b n cap olds hlo holds ad m c news hl hnews hg h63 hbytes
  unfold Oper.wp
  simp [execOp, ho, resolve, invoke, builtin, hs, hx, hrun, Result.andThen]
  exact h v' w' r1 r2
/-- append onto what the call owns, whatever is appended, at such a step -/
theorem step_append_own {ops : Array Oper} {o : Oper} {a : Act} {K : Act → World → Prop} {Q : Exit → Act → World → Prop} {E : Prop} (hgd : o.guard = none) (s x : Operand) (t : TypeId)
    (ho : o.op = .call { callee := .builtin .append, args := #[s, x], argTypes := #[t, t] })
    (base : Nat) (e : TypeId) (i : TypeInfo) (z : Value) (size bytes : Nat) (ht : P.underlying t = some (.slice e)) (hi : P.info? e = some i) (hz : i.zero = some z)
    (hsize : i.size = size) (hby : i.bytes = bytes) (hzs : z.cells.size = size) (hsz : 0 < size)
    (v : Value) (n : Nat) (xs : List Value) (hs : a.eval s = v) (hown : w.ownsRow base e size v n xs)
    (ad : Addr) (m c : Nat) (news : List Value) (hx : a.eval x = .slice (some ad) m c) (hl : news.length = m * size) (hnews : ∀ j u, news[j]? = some u → w.cell? (ad.add j) = some u) (h1 : ∀ u ∈ news, u.oneCell' = true)
    (h63 : n + m ≤ maxLen) (hbytes : (n + m) * bytes ≤ 140737488355328) (hbase : base ≤ w.heap.size)
    (h : ∀ v' w', w'.ownsRow base e size v' (n + m) (xs ++ news) → w.grownBy w' v.ownBlock → K (a.put o.dst v') w') :
    if Region.wanted o (yielded ops a.tmps) = true then Oper.wp P o a w K Q else E := by
  have hw : Region.wanted o (yielded ops a.tmps) = true := by simp [Region.wanted, hgd]
  rw [if_pos hw]
  obtain ⟨v', w', hrun, r1, r2, _⟩ := run_append_own (P := P) w base t o.type e i z size bytes ht hi hz hsize hby hzs hsz v n xs hown ad m c news hl hnews h1 h63 hbytes hbase
  unfold Oper.wp
  simp [execOp, ho, resolve, invoke, builtin, hs, hx, hrun, Result.andThen]
  exact h v' w' r1 r2
end
theorem rdI_take {w : World} {A : Option Addr} {l : List It} (h : Rd It.cs 4 w A l) (n : Nat) : Rd It.cs 4 w A (l.take n) := fun hne => by
  obtain ⟨b, off, e, hb, hc⟩ := h (by rintro rfl; simp at hne)
  refine ⟨b, off, e, hb, fun k x hx j v hv => hc k x ?_ j v hv⟩
  rw [List.getElem?_take] at hx
  split at hx
  · exact hx
  · cases hx
theorem rdI_drop {w : World} {b off : Nat} {l : List It} (h : Rd It.cs 4 w (some ⟨b, off, none⟩) l) (n : Nat) : Rd It.cs 4 w (some ⟨b, off + n * 4, none⟩) (l.drop n) := fun hne => by
  obtain ⟨b', off', e, hb, hc⟩ := h (by rintro rfl; simp at hne)
  cases e
  refine ⟨b, off + n * 4, rfl, hb, fun k x hx j v hv => ?_⟩
  rw [List.getElem?_drop] at hx
  rw [show off + n * 4 + k * 4 + j = off + (n + k) * 4 + j by omega]
  exact hc _ x hx j v hv
end Go.Proofs.YtoelekhkgknneaaDoor
