/- Gear: items compared; Looked by both. -/
import Derived.Test.YtijlglanpgcdiaaGl
import Derived.ArgAppend
import Derived.Deep.AppendLies
set_option linter.unusedSimpArgs false
set_option linter.unusedVariables false
namespace Go.Proofs.Ytijlglanpgcdiaa
open Go.RowKit Go.Maps


set_option maxHeartbeats 1000000 in
set_option maxRecDepth 20000 in
theorem l_items (A B : Option Addr) (l : List It) (c d : Nat) (w : World) (hl : l.length ≤ 100000) (hA : Rd It.cs 4 w A l) (hB : Rd It.cs 4 w B l) :
    Calls Try.prog 24 #[.slice A l.length c, .slice B l.length d] w fun e w' => e = .returned (.bool true) ∧ Below w.heap.size w w' := by
  go_enter Try.func24, Try.ntmps24
  go_wp2
  go_loopw [5] (fun i wr => ∃ k : Nat, k ≤ l.length ∧ i = .int .i64 k ∧ Below w.heap.size w wr) (fun i _ => l.length - (intOf i).toNat)
  case atStart => exact ⟨0, by omega, rfl, below_refl _⟩
  case round =>
    obtain ⟨k, hk, rfl, hbw⟩ := hrel
    by_cases hlt : k < l.length
    · obtain ⟨x, b, off, hx, rfl, hb, c0, c1, c2, c3⟩ := rdI (hA.on hbw) hlt
      obtain ⟨y, b', off', hy, rfl, hb', d0, d1, d2, d3⟩ := rdI (hB.on hbw) hlt
      obtain rfl : x = y := by rw [hx] at hy; exact Option.some.inj hy
      have k0 : (0 : Int) ≤ (k : Int) := Int.natCast_nonneg _
      have k1 : (k : Int) < (l.length : Int) := by omega
      clear hx hy
      go_wp2
      go_quiet (fail)
      go_wp2
      go_roundw
      case rel => exact ⟨k + 1, by omega, by go_num, below_drewN hbw _⟩
      case measure => simp [intOf]; omega
    · obtain rfl : k = l.length := by omega
      go_wp2
      go_ret
      exact ⟨rfl, hbw⟩

theorem fits_wrap {n : Int} (h : -9223372036854775808 ≤ n ∧ n ≤ 9223372036854775807) : IntKind.i64.wrap n = n := by
  simp only [IntKind.wrap, IntKind.bits, IntKind.signed]
  simp
  omega
theorem info_item : ∃ i : TypeInfo, Try.prog.info? 62 = some i ∧ i.zero = some (.agg #[.string ByteArray.empty, .int .i64 0, .int .i64 0, .string ByteArray.empty]) ∧ i.size = 4 ∧ i.bytes = 48 := info_parts (by kernel_rfl)
theorem upI {l : List It} {cur : Array Value} {k : Nat} {x : It} {n : Int} (hc : InRow It.cs 4 cur l) (hx : l[k]? = some x) :
    InRow It.cs 4 (cur.setIfInBounds (k * 4 + 2) (.int .i64 n)) (l.set k ⟨x.nm, x.ld, n, x.bt⟩) := fun k' z hz r u hu => by
  have hr : r < 4 := by
    rcases Nat.lt_or_ge r 4 with h | h
    · exact h
    · rw [List.getElem?_eq_none (by rw [It.cs_len]; exact h)] at hu; cases hu
  have h2 := hc k x hx 2 _ rfl
  have l2 := (Array.getElem?_eq_some_iff.1 h2).1
  by_cases hk : k = k'
  · subst hk
    have hkl : k < l.length := (List.getElem?_eq_some_iff.1 hx).1
    rw [List.getElem?_set_self hkl] at hz
    cases hz
    rcases (by omega : r = 0 ∨ r = 1 ∨ r = 2 ∨ r = 3) with rfl | rfl | rfl | rfl
    · rw [Array.getElem?_setIfInBounds_ne (by omega)]; exact hc k x hx 0 u hu
    · rw [Array.getElem?_setIfInBounds_ne (by omega)]; exact hc k x hx 1 u hu
    · rw [Array.getElem?_setIfInBounds_self_of_lt l2]; exact hu
    · rw [Array.getElem?_setIfInBounds_ne (by omega)]; exact hc k x hx 3 u hu
  · rw [List.getElem?_set_ne hk] at hz
    rw [Array.getElem?_setIfInBounds_ne (by omega)]
    exact hc k' z hz r u hu
def lkE (g : List It) (s : ByteArray) (d : Int) : Int := if vldG g = true then (if wn d 0 100000 = true then (if 0 ≤ fndI g s then 0 else 5) else 7) else 1
def setDu (g : List It) (i : Nat) (d : Int) : List It := g.set i ⟨(itAt g i).nm, (itAt g i).ld, d, (itAt g i).bt⟩
def lkL (g : List It) (s : ByteArray) (d : Int) : List It := if lkE g s d = 0 then setDu g (fndI g s).toNat d else []
theorem vldG_len {g : List It} (h : vldG g = true) : g.length ≤ 64 := by
  unfold vldG at h
  rw [Bool.and_eq_true] at h
  simpa using h.2
set_option maxHeartbeats 2000000 in
set_option maxRecDepth 20000 in
theorem r_Looked (A : Option Addr) (g : List It) (c : Nat) (s : ByteArray) (du : Int) (w : World) (hl : g.length ≤ 100000) (hR : Rd It.cs 4 w A g) (hW : ∀ x ∈ g, IW x) :
    Calls Try.prog 23 #[.slice A g.length c, .string s, .int .i64 du] w fun e w' => ∃ A' c', e = .returned (.tuple #[.slice A' (lkL g s du).length c', .int .i64 (lkE g s du)]) ∧ Rd It.cs 4 w' A' (lkL g s du) ∧ Below w.heap.size w w' := by
  have H1 := Lib.hid (fun b (h : vldG g = b) => calls_bool h (r_Valid A g c w hl hR hW))
  have H2 := Lib.hid (fun W (h : Below w.heap.size w W) => r_find A g c s W hl (hR.on h))
  cases h : vldG g
  · have HE := Lib.hid (show lkE g s du = 1 by unfold lkE; rw [if_neg (by simp [h])])
    have HL := Lib.hid (show lkL g s du = [] by unfold lkL; rw [HE.out]; rfl)
    go_enter Try.func23, Try.ntmps23
    go_wp2_with (go_at_call 16; ((with_reducible refine (H1.out _ h).mono ?_); rintro e w1 ⟨rfl, hb1⟩; obtain ⟨hc1, hf1⟩ := bcell hb1; have hz1 := hb1.size; (try simp [sz_drew, sz_drewN] at hz1); (try simp only [sz_drew, sz_drewN] at hc1 hf1)))
    go_ret2
    exact ⟨none, 0, by rw [HE.out, HL.out]; rfl, by rw [HL.out]; exact fun h => absurd rfl h, by (repeat' (first | assumption | exact below_refl _ | refine bl_alloc ?_ _ | refine Below.setCell ?_ ?_ _ | refine below_draw ?_ | refine below_drewN ?_ _ | refine below_tr ?_ (by assumption))) <;> (first | omega | (simp; done) | (simp; omega))⟩
  cases h2 : wn du 0 100000
  · have HE := Lib.hid (show lkE g s du = 7 by unfold lkE; rw [if_pos h, if_neg (by simp [h2])])
    have HL := Lib.hid (show lkL g s du = [] by unfold lkL; rw [HE.out]; rfl)
    have Q := Lib.hid (r_withinV h2)
    go_enter Try.func23, Try.ntmps23
    go_wp2_with (first | (go_at_call 16; ((with_reducible refine (H1.out _ h).mono ?_); rintro e w1 ⟨rfl, hb1⟩; obtain ⟨hc1, hf1⟩ := bcell hb1; have hz1 := hb1.size; (try simp [sz_drew, sz_drewN] at hz1); (try simp only [sz_drew, sz_drewN] at hc1 hf1))) | (go_at_call 57; ((with_reducible refine (Q.out _).mono ?_); rintro e w' ⟨rfl, rfl⟩)))
    go_ret2
    exact ⟨none, 0, by rw [HE.out, HL.out]; rfl, by rw [HL.out]; exact fun h => absurd rfl h, by (repeat' (first | assumption | exact below_refl _ | refine bl_alloc ?_ _ | refine Below.setCell ?_ ?_ _ | refine below_draw ?_ | refine below_drewN ?_ _ | refine below_tr ?_ (by assumption))) <;> (first | omega | (simp; done) | (simp; omega))⟩
  have Q := Lib.hid (r_withinV h2)
  obtain ⟨f1, f2⟩ := fnd_bd g s
  by_cases h3 : 0 ≤ fndI g s
  rotate_left
  · have HE := Lib.hid (show lkE g s du = 5 by unfold lkE; rw [if_pos h, if_pos h2, if_neg h3])
    have HL := Lib.hid (show lkL g s du = [] by unfold lkL; rw [HE.out]; rfl)
    have h4 : fndI g s < 0 := by omega
    go_enter Try.func23, Try.ntmps23
    go_wp2_with (first | (go_at_call 16; ((with_reducible refine (H1.out _ h).mono ?_); rintro e w1 ⟨rfl, hb1⟩; obtain ⟨hc1, hf1⟩ := bcell hb1; have hz1 := hb1.size; (try simp [sz_drew, sz_drewN] at hz1); (try simp only [sz_drew, sz_drewN] at hc1 hf1))) | (go_at_call 57; ((with_reducible refine (Q.out _).mono ?_); rintro e w' ⟨rfl, rfl⟩)) | (go_at_call 50; ((with_reducible refine (H2.out _ hb1).mono ?_); rintro e w' ⟨rfl, rfl⟩)))
    go_ret2
    exact ⟨none, 0, by rw [HE.out, HL.out]; rfl, by rw [HL.out]; exact fun h => absurd rfl h, by (repeat' (first | assumption | exact below_refl _ | refine bl_alloc ?_ _ | refine Below.setCell ?_ ?_ _ | refine below_draw ?_ | refine below_drewN ?_ _ | refine below_tr ?_ (by assumption))) <;> (first | omega | (simp; done) | (simp; omega))⟩
  have HE := Lib.hid (show lkE g s du = 0 by unfold lkE; rw [if_pos h, if_pos h2, if_pos h3])
  have HL := Lib.hid (show lkL g s du = setDu g (fndI g s).toNat du by unfold lkL; rw [if_pos HE.out])
  have hg64 := vldG_len h
  obtain ⟨k, hk⟩ := Int.eq_ofNat_of_zero_le h3
  rw [hk] at H2 HL f2
  obtain ⟨x, b, off, hx, rfl, hb, c0, c1, c2, c3⟩ := rdI hR (show k < g.length by omega)
  have HX := Lib.hid hx
  have HXA := Lib.hid (itAt_of hx)
  have HR := Lib.hid (fun W (h : Below w.heap.size w W) => rd_fl It.cs_len (hR.on h))
  have HO := Lib.hid (show ∀ u ∈ fl It.cs g, u.oneCell' = true by
    intro u hu
    simp only [fl, List.mem_flatMap] at hu
    obtain ⟨y, _, hy⟩ := hu
    simp only [It.cs, List.mem_cons, List.not_mem_nil, or_false] at hy
    rcases hy with rfl | rfl | rfl | rfl <;> rfl)
  obtain ⟨i0, hi, hi1, hi2, hi3⟩ := info_item
  have HIO := Lib.hid hi
  have k0 : ¬ (k : Int) < 0 := by omega
  have k1 : (k : Int) < (g.length : Int) := by omega
  clear hx h3 hk
  go_enter Try.func23, Try.ntmps23
  go_wp2_with (first
    | (go_at_call 16; ((with_reducible refine (H1.out _ h).mono ?_); rintro e w1 ⟨rfl, hb1⟩; obtain ⟨hc1, hf1⟩ := bcell hb1; have hz1 := hb1.size; (try simp [sz_drew, sz_drewN] at hz1); (try simp only [sz_drew, sz_drewN] at hc1 hf1)))
    | (go_at_call 57; ((with_reducible refine (Q.out _).mono ?_); rintro e w' ⟨rfl, rfl⟩))
    | (go_at_call 50; ((with_reducible refine (H2.out _ hb1).mono ?_); rintro e w' ⟨rfl, rfl⟩))
    | (at_builtin; go_loud (refine wpList_append_own _ rfl _ _ 22 rfl w1.heap.size 62 i0 (.agg #[.string ByteArray.empty, .int .i64 0, .int .i64 0, .string ByteArray.empty]) 4 48 (by kernel_rfl) hi hi1 hi2 hi3 rfl (by omega) _ _ _ rfl (own_none w1 _ 4) ⟨b, off, none⟩ g.length c (fl It.cs g) rfl (fl_length It.cs_len g) (HR.out _ (bl_alloc hb1 _)) HO.out (by unfold maxLen; omega) (by omega) (by simp) ?_; intro v w2 hown hgrow _; rw [Nat.zero_add, List.nil_append] at hown; have hb2 : Below w1.heap.size w1 w2 := bl_grown (below_alloc w1 _) hgrow (fun r hr => by cases hr; exact Nat.le_refl _) (by simp); obtain ⟨gb, cap, cur, rfl, hgb, hbk, hcur⟩ := own_row It.cs_len hown (by omega); have q2 := (hbk.cell (k * 4 + 2)).trans (hcur k x HX.out 2 _ rfl); have f4 := hbk.frozen (k * 4 + 2); have hwg : w.heap.size ≤ gb := (by omega); have HC := Lib.hid hcur)))
  go_ret2
  exact ⟨some ⟨gb, 0, none⟩, cap, by rw [HE.out, HL.out]; simp [setDu], by rw [HL.out]; unfold setDu; rw [show ((k : Int)).toNat = k by omega, HXA.out]; exact row_rd (hbk.set_ _ _) (upI HC.out HX.out), (below_tr hb1 hb2).setCell (p := ⟨gb, _, none⟩) hwg _⟩
section
variable {P : Program} (w : World)
/-- append that must grow, at a step of a region that draws -/
theorem step_append_grows {ops : Array Oper} {o : Oper} {a : Act} {K : Act → World → Prop} {Q : Exit → Act → World → Prop} {E : Prop} (hgd : o.guard = none) (s x : Operand) (t : TypeId)
    (ho : o.op = .call { callee := .builtin .append, args := #[s, x], argTypes := #[t, t] })
    (e : TypeId) (i : TypeInfo) (z : Value) (size bytes : Nat) (ht : P.underlying t = some (.slice e)) (hi : P.info? e = some i) (hz : i.zero = some z)
    (hsize : i.size = size) (hby : i.bytes = bytes) (hzs : z.cells.size = size) (hsz : 0 < size)
    (b : Addr) (n cap : Nat) (olds : List Value) (hs : a.eval s = .slice (some b) n cap) (hlo : olds.length = n * size) (holds : ∀ j u, olds[j]? = some u → w.cell? (b.add j) = some u)
    (ad : Addr) (m c : Nat) (news : List Value) (hx : a.eval x = .slice (some ad) m c) (hl : news.length = m * size) (hnews : ∀ j u, news[j]? = some u → w.cell? (ad.add j) = some u)
    (hg : cap < n + m) (h63 : n + m ≤ maxLen) (hbytes : (n + m) * bytes ≤ 140737488355328)
    (h : ∀ v' w', w'.ownsRow w.heap.size e size v' (n + m) (olds ++ news) → w.grownBy w' none → K (a.put o.dst v') w') :
    if Region.wanted o (yielded ops a.tmps) = true then Oper.wp P o a w K Q else E := by
  have hw : Region.wanted o (yielded ops a.tmps) = true := by simp [Region.wanted, hgd]
  rw [if_pos hw]
  obtain ⟨v', w', hrun, r1, r2⟩ := run_append_arg_grows (P := P) w t o.type e i z size bytes ht hi hz hsize hby hzs hsz b n cap olds hlo holds ad m c news hl hnews hg h63 hbytes
  unfold Oper.wp
  simp [execOp, ho, resolve, invoke, builtin, hs, hx, hrun, Result.andThen]
  exact h v' w' r1 r2
/-- append onto what the call owns, whatever is appended, at such a step -/
theorem step_append_own {ops : Array Oper} {o : Oper} {a : Act} {K : Act → World → Prop} {Q : Exit → Act → World → Prop} {E : Prop} (hgd : o.guard = none) (s x : Operand) (t : TypeId)
    (ho : o.op = .call { callee := .builtin .append, args := #[s, x], argTypes := #[t, t] })
    (base : Nat) (e : TypeId) (i : TypeInfo) (z : Value) (size bytes : Nat) (ht : P.underlying t = some (.slice e)) (hi : P.info? e = some i) (hz : i.zero = some z)
    (hsize : i.size = size) (hby : i.bytes = bytes) (hzs : z.cells.size = size) (hsz : 0 < size)
    (v : Value) (n : Nat) (xs : List Value) (hs : a.eval s = v) (hown : w.ownsRow base e size v n xs)
    (ad : Addr) (m c : Nat) (news : List Value) (hx : a.eval x = .slice (some ad) m c) (hl : news.length = m * size) (hnews : ∀ j u, news[j]? = some u → w.cell? (ad.add j) = some u) (h1 : ∀ u ∈ news, u.oneCell' = true)
    (h63 : n + m ≤ maxLen) (hbytes : (n + m) * bytes ≤ 140737488355328) (hbase : base ≤ w.heap.size)
    (h : ∀ v' w', w'.ownsRow base e size v' (n + m) (xs ++ news) → w.grownBy w' v.ownBlock → K (a.put o.dst v') w') :
    if Region.wanted o (yielded ops a.tmps) = true then Oper.wp P o a w K Q else E := by
  have hw : Region.wanted o (yielded ops a.tmps) = true := by simp [Region.wanted, hgd]
  rw [if_pos hw]
  obtain ⟨v', w', hrun, r1, r2, _⟩ := run_append_own (P := P) w base t o.type e i z size bytes ht hi hz hsize hby hzs hsz v n xs hown ad m c news hl hnews h1 h63 hbytes hbase
  unfold Oper.wp
  simp [execOp, ho, resolve, invoke, builtin, hs, hx, hrun, Result.andThen]
  exact h v' w' r1 r2
end
theorem rdI_take {w : World} {A : Option Addr} {l : List It} (h : Rd It.cs 4 w A l) (n : Nat) : Rd It.cs 4 w A (l.take n) := fun hne => by
  obtain ⟨b, off, e, hb, hc⟩ := h (by rintro rfl; simp at hne)
  refine ⟨b, off, e, hb, fun k x hx j v hv => hc k x ?_ j v hv⟩
  rw [List.getElem?_take] at hx
  split at hx
  · exact hx
  · cases hx
theorem rdI_drop {w : World} {b off : Nat} {l : List It} (h : Rd It.cs 4 w (some ⟨b, off, none⟩) l) (n : Nat) : Rd It.cs 4 w (some ⟨b, off + n * 4, none⟩) (l.drop n) := fun hne => by
  obtain ⟨b', off', e, hb, hc⟩ := h (by rintro rfl; simp at hne)
  cases e
  refine ⟨b, off + n * 4, rfl, hb, fun k x hx j v hv => ?_⟩
  rw [List.getElem?_drop] at hx
  rw [show off + n * 4 + k * 4 + j = off + (n + k) * 4 + j by omega]
  exact hc _ x hx j v hv
set_option maxHeartbeats 4000000 in
set_option maxRecDepth 20000 in
theorem p_Looked (A : Option Addr) (g : List It) (c : Nat) (s : ByteArray) (du : Int) (w : World) (hl : g.length ≤ 100000) (hc : g.length ≤ c) (hcm : c ≤ maxLen) (hR : Rd It.cs 4 w A g) (hW : ∀ x ∈ g, IW x) (hs : s.size ≤ maxLen) :
    Calls Try.prog 22 #[.slice A g.length c, .string s, .int .i64 du] w fun e w' => ∃ A' c', e = .returned (.tuple #[.slice A' (lkL g s du).length c', .int .i64 (lkE g s du)]) ∧ Rd It.cs 4 w' A' (lkL g s du) ∧ Below w.heap.size w w' := by
  have H1 := Lib.hid (fun b (h : vldG g = b) => calls_bool h (p_Valid A g c w hl hR hW))
  have H2 := Lib.hid (fun W (h : Below w.heap.size w W) => p_byMark A g c W hl (hR.on h) hW)
  have hkey := keyS hs
  cases h : vldG g
  · have HE := Lib.hid (show lkE g s du = 1 by unfold lkE; rw [if_neg (by simp [h])])
    have HL := Lib.hid (show lkL g s du = [] by unfold lkL; rw [HE.out]; rfl)
    go_enter Try.func22, Try.ntmps22
    go_wp2_with (go_at_call 15; ((with_reducible refine (H1.out _ h).mono ?_); rintro e w1 ⟨rfl, hb1⟩; obtain ⟨hc1, hf1⟩ := bcell hb1; have hz1 := hb1.size; (try simp [sz_drew, sz_drewN] at hz1); (try simp only [sz_drew, sz_drewN] at hc1 hf1)))
    go_ret2
    exact ⟨none, 0, by rw [HE.out, HL.out]; rfl, by rw [HL.out]; exact fun h => absurd rfl h, by (repeat' (first | assumption | exact below_refl _ | refine bl_alloc ?_ _ | refine Below.setCell ?_ ?_ _ | refine below_draw ?_ | refine below_drewN ?_ _ | refine below_tr ?_ (by assumption))) <;> (first | omega | (simp; done) | (simp; omega))⟩
  cases h2 : wn du 0 100000
  · have HE := Lib.hid (show lkE g s du = 7 by unfold lkE; rw [if_pos h, if_neg (by simp [h2])])
    have HL := Lib.hid (show lkL g s du = [] by unfold lkL; rw [HE.out]; rfl)
    have Q := Lib.hid (p_isDayV h2)
    go_enter Try.func22, Try.ntmps22
    go_wp2_with (first | (go_at_call 15; ((with_reducible refine (H1.out _ h).mono ?_); rintro e w1 ⟨rfl, hb1⟩; obtain ⟨hc1, hf1⟩ := bcell hb1; have hz1 := hb1.size; (try simp [sz_drew, sz_drewN] at hz1); (try simp only [sz_drew, sz_drewN] at hc1 hf1))) | (go_at_call 55; ((with_reducible refine (Q.out _).mono ?_); rintro e w' ⟨rfl, rfl⟩)))
    go_ret2
    exact ⟨none, 0, by rw [HE.out, HL.out]; rfl, by rw [HL.out]; exact fun h => absurd rfl h, by (repeat' (first | assumption | exact below_refl _ | refine bl_alloc ?_ _ | refine Below.setCell ?_ ?_ _ | refine below_draw ?_ | refine below_drewN ?_ _ | refine below_tr ?_ (by assumption))) <;> (first | omega | (simp; done) | (simp; omega))⟩
  have Q := Lib.hid (p_isDayV h2)
  obtain ⟨f1, f2⟩ := fnd_bd g s
  have HH := mkD_has g s g.length (Nat.le_refl _)
  have HA := mkD_at (vldG_dst h) s g.length (Nat.le_refl _)
  by_cases h3 : 0 ≤ fndI g s
  rotate_left
  · have HE := Lib.hid (show lkE g s du = 5 by unfold lkE; rw [if_pos h, if_pos h2, if_neg h3])
    have HL := Lib.hid (show lkL g s du = [] by unfold lkL; rw [HE.out]; rfl)
    rw [decide_eq_false (by omega)] at HH
    have HHH := Lib.hid HH
    clear HH HA h3
    go_enter Try.func22, Try.ntmps22
    go_wp2_with (first
      | (go_at_call 15; ((with_reducible refine (H1.out _ h).mono ?_); rintro e w1 ⟨rfl, hb1⟩; obtain ⟨hc1, hf1⟩ := bcell hb1; have hz1 := hb1.size; (try simp [sz_drew, sz_drewN] at hz1); (try simp only [sz_drew, sz_drewN] at hc1 hf1)))
      | (go_at_call 55; ((with_reducible refine (Q.out _).mono ?_); rintro e w' ⟨rfl, rfl⟩))
      | (go_at_call 49; refine (H2.out _ hb1).mono ?_; rintro e w2 ⟨rfl, hown, hb2⟩)
      | (at_lookup; refine wpList_lookup_own_ok_int _ rfl _ _ 64 rfl 9 3 .i64 lawS und_map und_int (zeroN _) _ g.length _ rfl hown _ _ rfl hkey ?_; intro cc hat hwc; rw [HHH.out]))
    go_ret2
    exact ⟨none, 0, by rw [HE.out, HL.out]; rfl, by rw [HL.out]; exact fun h => absurd rfl h, by (repeat' (first | assumption | exact below_refl _ | refine bl_alloc ?_ _ | refine Below.setCell ?_ ?_ _ | refine below_draw ?_ | refine below_drewN ?_ _ | refine below_tr ?_ (by assumption))) <;> (first | omega | (simp; done) | (simp; omega))⟩
  have HE := Lib.hid (show lkE g s du = 0 by unfold lkE; rw [if_pos h, if_pos h2, if_pos h3])
  have HL := Lib.hid (show lkL g s du = setDu g (fndI g s).toNat du by unfold lkL; rw [if_pos HE.out])
  have hg64 := vldG_len h
  rw [decide_eq_true (by omega)] at HH
  rw [if_pos (by omega)] at HA
  obtain ⟨k, hk⟩ := Int.eq_ofNat_of_zero_le h3
  rw [hk] at HL f2 HA
  have hkl : k < g.length := by omega
  obtain ⟨b, off, rfl, hb⟩ : ∃ b off, A = some ⟨b, off, none⟩ ∧ b < w.heap.size := by
    obtain ⟨x, b, off, _, e, hb, _⟩ := rdI hR hkl
    exact ⟨b, off, e, hb⟩
  have HHH := Lib.hid HH
  have HAA := Lib.hid HA
  have HR := Lib.hid (fun W (h : Below w.heap.size w W) => hR.on h)
  obtain ⟨i0, hi, hi1, hi2, hi3⟩ := info_item
  have k0 : (0 : Int) ≤ (k : Int) := by omega
  have k1 : (k : Int) < (g.length : Int) := by omega
  have k2 : (k : Int) ≤ (c : Int) := by omega
  obtain ⟨m, hm⟩ : ∃ m, m = k + 1 := ⟨_, rfl⟩
  have e1 : IntKind.i64.wrap ((k : Int) + 1) = (m : Int) := by rw [fits_wrap ⟨by omega, by omega⟩]; omega
  have m0 : (0 : Int) ≤ (m : Int) := by omega
  have m1 : (m : Int) ≤ (g.length : Int) := by omega
  have HM1 := Lib.hid hm
  clear hm
  unfold maxLen at hcm
  have HO1 := Lib.hid (show ∀ u ∈ fl It.cs (g.drop m), u.oneCell' = true by
    intro u hu
    simp only [fl, List.mem_flatMap] at hu
    obtain ⟨y, _, hy⟩ := hu
    simp only [It.cs, List.mem_cons, List.not_mem_nil, or_false] at hy
    rcases hy with rfl | rfl | rfl | rfl <;> rfl)
  clear h3 hk HH HA
  go_enter Try.func22, Try.ntmps22
  go_wp2_with (first
    | (go_at_call 15; ((with_reducible refine (H1.out _ h).mono ?_); rintro e w1 ⟨rfl, hb1⟩; obtain ⟨hc1, hf1⟩ := bcell hb1; have hz1 := hb1.size; (try simp [sz_drew, sz_drewN] at hz1); (try simp only [sz_drew, sz_drewN] at hc1 hf1)))
    | (go_at_call 55; ((with_reducible refine (Q.out _).mono ?_); rintro e w' ⟨rfl, rfl⟩))
    | (go_at_call 49; refine (H2.out _ hb1).mono ?_; rintro e w2 ⟨rfl, hown, hb2⟩; have B2 := below_tr hb1 hb2; obtain ⟨x, b', off', hx, e9, _, c0, c1, c2, c3⟩ := rdI (HR.out _ B2) hkl; cases e9; have HX := Lib.hid hx; clear hx; have hbw : b < w2.heap.size := (by have := B2.size; omega); have hbne : b ≠ w2.heap.size := (by omega))
    | (at_lookup; refine wpList_lookup_own_ok_int _ rfl _ _ 64 rfl 9 3 .i64 lawS und_map und_int (zeroN _) _ g.length _ rfl hown _ _ rfl hkey ?_; intro cc hat hwc; rw [HHH.out]; rw [HAA.out] at hat; obtain rfl : (k : Int) = cc := by (cases hat; rfl)))
  refine wp_world ?_
  intro W hW
  have bW : Below w.heap.size w W := by rw [hW]; (repeat' (first | assumption | exact below_refl _ | refine bl_alloc ?_ _ | refine Below.setCell ?_ ?_ _ | refine below_draw ?_ | refine below_drewN ?_ _ | refine below_tr ?_ (by assumption))) <;> (first | omega | (simp; done) | (simp; omega))
  have gW_0 : w2.heap.size < W.heap.size := by rw [hW]; (first | assumption | (simp; done) | (simp; omega))
  have gW_0_0 : W.cell? ⟨w2.heap.size, 0, none⟩ = some (.string x.nm) := by rw [hW]; go_simp
  have gW_0_1 : W.cell? ⟨w2.heap.size, 1, none⟩ = some (.int .i64 x.ld) := by rw [hW]; go_simp
  have gW_0_2 : W.cell? ⟨w2.heap.size, 2, none⟩ = some (.int .i64 du) := by rw [hW]; go_simp
  have gW_0_3 : W.cell? ⟨w2.heap.size, 3, none⟩ = some (.string x.bt) := by rw [hW]; go_simp
  clear hW
  have BW : Below w.heap.size w W := by (repeat' (first | assumption | exact below_refl _ | refine bl_alloc ?_ _ | refine Below.setCell ?_ ?_ _ | refine below_draw ?_ | refine below_drewN ?_ _ | refine below_tr ?_ (by assumption))) <;> (first | omega | (simp; done) | (simp; omega))
  have HGT := Lib.hid (fun V (h : Below W.heap.size W V) => rd_fl It.cs_len (rdI_take ((HR.out _ BW).on h) k))
  clear c0 c1 c2 c3 hown
  have HGD := Lib.hid (fun V (h : Below W.heap.size W V) => rd_fl It.cs_len (rdI_drop ((HR.out _ BW).on h) m))
  have zW : w.heap.size ≤ W.heap.size := BW.size
  by_cases hcm2 : c = m
  · subst hcm2
    have hgc : g.length = c := by omega
    go_region_held3 (fun w' => (∀ b o, b < W.heap.size → w'.cell? ⟨b, o, none⟩ = W.cell? ⟨b, o, none⟩) ∧ (∀ b o, b < W.heap.size → w'.frozen? ⟨b, o, none⟩ = W.frozen? ⟨b, o, none⟩) ∧ Below W.heap.size W w') ((first | assumption | (refine kp_of ?_; (repeat' (first | assumption | exact below_refl _ | refine bl_alloc ?_ _ | refine Below.setCell ?_ ?_ _ | refine below_draw ?_ | refine below_drewN ?_ _ | refine below_tr ?_ (by assumption))) <;> (first | omega | (simp; done) | (simp; omega))))) ((first
          | (refine step_append_grows _ (by rfl) _ _ _ (by rfl) 62 i0 _ 4 48 Try.underlying22 hi hi1 hi2 hi3 rfl (by omega) ⟨b, off, none⟩ k k (fl It.cs (g.take k)) (by rfl) (by rw [fl_length It.cs_len]; simp; omega) (HGT.out _ (by (repeat' (first | assumption | exact below_refl _ | refine bl_alloc ?_ _ | refine Below.setCell ?_ ?_ _ | refine below_draw ?_ | refine below_drewN ?_ _ | refine below_tr ?_ (by assumption))) <;> (first | omega | (simp; done) | (simp; omega)))) ⟨W.heap.size, 0, none⟩ 1 1 (It.cs ⟨x.nm, x.ld, du, x.bt⟩) (by rfl) (by rfl) (cells_new _ _ _) (by omega) (by unfold maxLen; omega) (by omega) ?_; intro v4 w4 hown4 hgrow4; have B4 : Below W.heap.size W w4 := bl_grown (by (repeat' (first | assumption | exact below_refl _ | refine bl_alloc ?_ _ | refine Below.setCell ?_ ?_ _ | refine below_draw ?_ | refine below_drewN ?_ _ | refine below_tr ?_ (by assumption))) <;> (first | omega | (simp; done) | (simp; omega))) hgrow4 (fun r h => by cases h) (by simp))
          | ((refine step_append_own _ (by rfl) _ _ _ (by rfl) W.heap.size 62 i0 _ 4 48 Try.underlying22 hi hi1 hi2 hi3 rfl (by omega) _ (k + 1) (fl It.cs (g.take k) ++ It.cs ⟨x.nm, x.ld, du, x.bt⟩) (by rfl) (own_base hown4 (by simp)) ⟨b, off, none⟩ _ _ [] (by rfl) (by first | (simp; done) | (simp; omega)) (fun j u hu => by simp at hu) (fun u hu => by cases hu) (by unfold maxLen; omega) (by omega) B4.size ?_; intro v5 w5 hown5 hgrow5; have B5 : Below W.heap.size W w5 := bl_grown B4 hgrow5 (fun r h => (own_ge hown4 r h).1 |> Nat.le_trans (by simp)) (by have := B4.size; omega)))
          ))
    go_wp2
    go_ret2
    have hown6 : w5.ownsRow W.heap.size 62 4 v5 (setDu g k du).length (fl It.cs (setDu g k du)) := by
      have e1 : setDu g k du = g.take k ++ [⟨x.nm, x.ld, du, x.bt⟩] ++ g.drop c := by
        unfold setDu
        rw [itAt_of HX.out, List.set_eq_take_append_cons_drop, if_pos hkl, HM1.out]; simp
      have e2 : (setDu g k du).length = k + 1 + (g.length - c) := by
        have := HM1.out
        unfold setDu; rw [List.length_set]; omega
      rw [e2, e1]
      simp only [fl, List.flatMap_append, List.flatMap_cons, List.flatMap_nil, List.append_nil] at hown5 ⊢
      have e3 : g.drop c = [] := List.drop_eq_nil_of_le (by omega)
      rw [e3, show g.length - c = 0 by omega]
      simp only [fl, List.flatMap_nil, List.append_nil] at hown5 ⊢
      exact hown5
    obtain ⟨A', c', e, hr⟩ := own_rd It.cs_len hown6
    have hkk : ((k : Int)).toNat = k := by omega
    exact ⟨A', c', by rw [HE.out, HL.out, hkk, ← e]; rfl, by rw [HL.out, hkk]; exact hr, below_tr BW B5⟩
  · have hcm3 := hcm2
    go_region_held3 (fun w' => (∀ b o, b < W.heap.size → w'.cell? ⟨b, o, none⟩ = W.cell? ⟨b, o, none⟩) ∧ (∀ b o, b < W.heap.size → w'.frozen? ⟨b, o, none⟩ = W.frozen? ⟨b, o, none⟩) ∧ Below W.heap.size W w') ((first | assumption | (refine kp_of ?_; (repeat' (first | assumption | exact below_refl _ | refine bl_alloc ?_ _ | refine Below.setCell ?_ ?_ _ | refine below_draw ?_ | refine below_drewN ?_ _ | refine below_tr ?_ (by assumption))) <;> (first | omega | (simp; done) | (simp; omega))))) ((first
          | (refine step_append_grows _ (by rfl) _ _ _ (by rfl) 62 i0 _ 4 48 Try.underlying22 hi hi1 hi2 hi3 rfl (by omega) ⟨b, off, none⟩ k k (fl It.cs (g.take k)) (by rfl) (by rw [fl_length It.cs_len]; simp; omega) (HGT.out _ (by (repeat' (first | assumption | exact below_refl _ | refine bl_alloc ?_ _ | refine Below.setCell ?_ ?_ _ | refine below_draw ?_ | refine below_drewN ?_ _ | refine below_tr ?_ (by assumption))) <;> (first | omega | (simp; done) | (simp; omega)))) ⟨W.heap.size, 0, none⟩ 1 1 (It.cs ⟨x.nm, x.ld, du, x.bt⟩) (by rfl) (by rfl) (cells_new _ _ _) (by omega) (by unfold maxLen; omega) (by omega) ?_; intro v4 w4 hown4 hgrow4; have B4 : Below W.heap.size W w4 := bl_grown (by (repeat' (first | assumption | exact below_refl _ | refine bl_alloc ?_ _ | refine Below.setCell ?_ ?_ _ | refine below_draw ?_ | refine below_drewN ?_ _ | refine below_tr ?_ (by assumption))) <;> (first | omega | (simp; done) | (simp; omega))) hgrow4 (fun r h => by cases h) (by simp))
          | ((refine step_append_own _ (by rfl) _ _ _ (by rfl) W.heap.size 62 i0 _ 4 48 Try.underlying22 hi hi1 hi2 hi3 rfl (by omega) _ (k + 1) (fl It.cs (g.take k) ++ It.cs ⟨x.nm, x.ld, du, x.bt⟩) (by rfl) (own_base hown4 (by simp)) ⟨b, off + m * 4, none⟩ (g.length - m) (c - m) (fl It.cs (g.drop m)) (by rfl) (by rw [fl_length It.cs_len]; simp) (HGD.out _ B4) (fun u hu => HO1.out u hu) (by unfold maxLen; omega) (by omega) B4.size ?_; intro v5 w5 hown5 hgrow5; have B5 : Below W.heap.size W w5 := bl_grown B4 hgrow5 (fun r h => (own_ge hown4 r h).1 |> Nat.le_trans (by simp)) (by have := B4.size; omega)))
          ))
    go_wp2
    go_ret2
    have hown6 : w5.ownsRow W.heap.size 62 4 v5 (setDu g k du).length (fl It.cs (setDu g k du)) := by
      have e1 : setDu g k du = g.take k ++ [⟨x.nm, x.ld, du, x.bt⟩] ++ g.drop m := by
        unfold setDu
        rw [itAt_of HX.out, List.set_eq_take_append_cons_drop, if_pos hkl, HM1.out]; simp
      have e2 : (setDu g k du).length = k + 1 + (g.length - m) := by
        have := HM1.out
        unfold setDu; rw [List.length_set]; omega
      rw [e2, e1]
      simp only [fl, List.flatMap_append, List.flatMap_cons, List.flatMap_nil, List.append_nil] at hown5 ⊢
      exact hown5
    obtain ⟨A', c', e, hr⟩ := own_rd It.cs_len hown6
    have hkk : ((k : Int)).toNat = k := by omega
    exact ⟨A', c', by rw [HE.out, HL.out, hkk, ← e]; rfl, by rw [HL.out, hkk]; exact hr, below_tr BW B5⟩
end Go.Proofs.Ytijlglanpgcdiaa
