/- Gear: Swapped by both. -/
import Derived.Test.YtijlglanpgcdiaaGm
set_option linter.unusedSimpArgs false
set_option linter.unusedVariables false
namespace Go.Proofs.Ytijlglanpgcdiaa
open Go.RowKit Go.Maps

theorem info_link : ∃ i : TypeInfo, Try.prog.info? 41 = some i ∧ i.zero = some (.agg #[.string ByteArray.empty, .int .i64 0]) ∧ i.size = 2 ∧ i.bytes = 24 := info_parts (by kernel_rfl)
theorem fl_oneL (l : List Lk) : ∀ u ∈ fl Lk.cs l, u.oneCell' = true := by
  intro u hu
  simp only [fl, List.mem_flatMap] at hu
  obtain ⟨y, _, hy⟩ := hu
  simp only [Lk.cs, List.mem_cons, List.not_mem_nil, or_false] at hy
  rcases hy with rfl | rfl <;> rfl
theorem not_nilL (a : Addr) (n c : Nat) (W : World) : (binOp .eql 23 (.slice (some a) n c) (.slice none 0 0)).run Try.prog W = .ok (.bool false) W := by kernel_rfl
set_option maxRecDepth 20000 in
theorem c_cloneL (b off : Nat) (l : List Lk) (c : Nat) (w : World) (h0 : 0 < l.length) (hl : l.length ≤ 60) (hR : Rd Lk.cs 2 w (some ⟨b, off, none⟩) l) :
    Calls Try.prog 64 #[.slice (some ⟨b, off, none⟩) l.length c] w fun e w' =>
      ∃ v, e = .returned v ∧ w'.ownsRow w.heap.size 41 2 v l.length (fl Lk.cs l) ∧ Below w.heap.size w w' := by
  obtain ⟨i0, hi, hi1, hi2, hi3⟩ := info_link
  have HR := Lib.hid (fun o => rd_fl Lk.cs_len (hR.on (below_alloc w o)))
  have hnn := not_nilL ⟨b, off, none⟩ l.length c w
  go_enter Try.func64, Try.ntmps64
  go_wp2_with (at_builtin; go_loud (refine wpList_append_own _ rfl _ _ 23 rfl w.heap.size 41 i0 _ 2 24 (by kernel_rfl) hi hi1 hi2 hi3 rfl (by omega) _ _ _ rfl (own_none w _ 2) ⟨b, off, none⟩ l.length c (fl Lk.cs l) rfl (fl_length Lk.cs_len l) (HR.out _) (fl_oneL l) (by unfold maxLen; omega) (by omega) (by simp) ?_; intro v w1 hown hgrow _; rw [Nat.zero_add, List.nil_append] at hown))
  go_ret
  exact ⟨_, rfl, hown, bl_grown (below_alloc w _) hgrow (fun r hr => by cases hr; exact Nat.le_refl _) (by simp)⟩
theorem upL {l : List Lk} {cur : Array Value} {k : Nat} {x : Lk} {s : ByteArray} (hc : InRow Lk.cs 2 cur l) (hx : l[k]? = some x) :
    InRow Lk.cs 2 (cur.setIfInBounds (k * 2) (.string s)) (l.set k ⟨s, x.fr⟩) := fun k' z hz r u hu => by
  have hr : r < 2 := by
    rcases Nat.lt_or_ge r 2 with h | h
    · exact h
    · rw [List.getElem?_eq_none (by rw [Lk.cs_len]; exact h)] at hu; cases hu
  have h2 := hc k x hx 0 _ rfl
  have l2 := (Array.getElem?_eq_some_iff.1 h2).1
  by_cases hk : k = k'
  · subst hk
    have hkl : k < l.length := (List.getElem?_eq_some_iff.1 hx).1
    rw [List.getElem?_set_self hkl] at hz
    cases hz
    rcases (by omega : r = 0 ∨ r = 1) with rfl | rfl
    · rw [Nat.add_zero, Array.getElem?_setIfInBounds_self_of_lt (by simpa using l2)]; exact hu
    · rw [Array.getElem?_setIfInBounds_ne (by omega)]; exact hc k x hx 1 u hu
  · rw [List.getElem?_set_ne hk] at hz
    rw [Array.getElem?_setIfInBounds_ne (by omega)]
    exact hc k' z hz r u hu
def swE (g : List It) (r : List Lk) (n : Int) (s : ByteArray) : Int :=
  if (vldG g && vldR g r) = true then (if wn n 0 (r.length - 1) = true then (if 0 ≤ fndI g s then (if fndL r s < 0 then 0 else 6) else 5) else 7) else 1
def swL (g : List It) (r : List Lk) (n : Int) (s : ByteArray) : List Lk := if swE g r n s = 0 then r.set n.toNat ⟨s, (lkAt r n.toNat).fr⟩ else []
theorem fndL_bd (r : List Lk) (s : ByteArray) : -1 ≤ fndL r s ∧ fndL r s < r.length := by
  have := idx_bd (fun x : Lk => x.nm.toList == s.toList) r 0
  unfold fndL; simp at this ⊢; omega
/-- links that are handed back -/
def GotL (w' : World) (v : Value) (l : List Lk) : Prop := ∃ A c, v = .slice A l.length c ∧ Rd Lk.cs 2 w' A l
theorem gotL_nil (w' : World) : GotL w' (.slice none 0 0) [] := ⟨none, 0, rfl, fun h => absurd rfl h⟩
set_option maxHeartbeats 2000000 in
set_option maxRecDepth 20000 in
theorem r_Swapped (A B : Option Addr) (g : List It) (r : List Lk) (c d : Nat) (n : Int) (s : ByteArray) (w : World) (hl : g.length ≤ 100000) (hn : r.length ≤ 100000) (hR : Rd It.cs 4 w A g) (hW : ∀ x ∈ g, IW x) (hS : Rd Lk.cs 2 w B r) (hV : ∀ x ∈ r, LW x) :
    Calls Try.prog 26 #[.slice A g.length c, .slice B r.length d, .int .i64 n, .string s] w fun e w' => ∃ v, e = .returned (.tuple #[v, .int .i64 (swE g r n s)]) ∧ GotL w' v (swL g r n s) ∧ Below w.heap.size w w' := by
  have H1 := Lib.hid (fun b h => r_ValidRigV (c := c) (d := d) (b := b) h hl hn hR hW hS hV)
  have H2 := Lib.hid (fun W (h : Below w.heap.size w W) => r_find A g c s W hl (hR.on h))
  cases h : (vldG g && vldR g r)
  · have HE := Lib.hid (show swE g r n s = 1 by unfold swE; rw [if_neg (by simp [h])])
    have HL := Lib.hid (show swL g r n s = [] by unfold swL; rw [HE.out]; rfl)
    go_enter Try.func26, Try.ntmps26
    go_wp2_with (go_at_call 18; ((with_reducible refine (H1.out _ h).mono ?_); rintro e w1 ⟨rfl, hb1⟩; obtain ⟨hc1, hf1⟩ := bcell hb1; have hz1 := hb1.size; (try simp [sz_drew, sz_drewN] at hz1); (try simp only [sz_drew, sz_drewN] at hc1 hf1)))
    go_ret2
    exact ⟨_, by rw [HE.out]; rfl, by rw [HL.out]; exact gotL_nil _, by (repeat' (first | assumption | exact below_refl _ | refine bl_alloc ?_ _ | refine Below.setCell ?_ ?_ _ | refine below_draw ?_ | refine below_drewN ?_ _ | refine below_tr ?_ (by assumption))) <;> (first | omega | (simp; done) | (simp; omega))⟩
  have hv := vr_of h
  have hn32 := hv.l1
  have hm0 := hv.l0
  cases h2 : wn n 0 (r.length - 1)
  · have HE := Lib.hid (show swE g r n s = 7 by unfold swE; rw [if_pos h, if_neg (by simp [h2])])
    have HL := Lib.hid (show swL g r n s = [] by unfold swL; rw [HE.out]; rfl)
    have Q := Lib.hid (r_withinV h2)
    go_enter Try.func26, Try.ntmps26
    go_wp2_with (first | (go_at_call 18; ((with_reducible refine (H1.out _ h).mono ?_); rintro e w1 ⟨rfl, hb1⟩; obtain ⟨hc1, hf1⟩ := bcell hb1; have hz1 := hb1.size; (try simp [sz_drew, sz_drewN] at hz1); (try simp only [sz_drew, sz_drewN] at hc1 hf1))) | (go_at_call 57; ((with_reducible refine (Q.out _).mono ?_); rintro e w' ⟨rfl, rfl⟩)))
    go_ret2
    exact ⟨_, by rw [HE.out]; rfl, by rw [HL.out]; exact gotL_nil _, by (repeat' (first | assumption | exact below_refl _ | refine bl_alloc ?_ _ | refine Below.setCell ?_ ?_ _ | refine below_draw ?_ | refine below_drewN ?_ _ | refine below_tr ?_ (by assumption))) <;> (first | omega | (simp; done) | (simp; omega))⟩
  have Q := Lib.hid (r_withinV h2)
  obtain ⟨f1, f2⟩ := fnd_bd g s
  by_cases h3 : fndI g s < 0
  · have HE := Lib.hid (show swE g r n s = 5 by unfold swE; rw [if_pos h, if_pos h2, if_neg (by omega)])
    have HL := Lib.hid (show swL g r n s = [] by unfold swL; rw [HE.out]; rfl)
    go_enter Try.func26, Try.ntmps26
    go_wp2_with (first | (go_at_call 18; ((with_reducible refine (H1.out _ h).mono ?_); rintro e w1 ⟨rfl, hb1⟩; obtain ⟨hc1, hf1⟩ := bcell hb1; have hz1 := hb1.size; (try simp [sz_drew, sz_drewN] at hz1); (try simp only [sz_drew, sz_drewN] at hc1 hf1))) | (go_at_call 57; ((with_reducible refine (Q.out _).mono ?_); rintro e w' ⟨rfl, rfl⟩)) | (go_at_call 50; ((with_reducible refine (H2.out _ hb1).mono ?_); rintro e w' ⟨rfl, rfl⟩)))
    go_ret2
    exact ⟨_, by rw [HE.out]; rfl, by rw [HL.out]; exact gotL_nil _, by (repeat' (first | assumption | exact below_refl _ | refine bl_alloc ?_ _ | refine Below.setCell ?_ ?_ _ | refine below_draw ?_ | refine below_drewN ?_ _ | refine below_tr ?_ (by assumption))) <;> (first | omega | (simp; done) | (simp; omega))⟩
  obtain ⟨n0, n1⟩ := wn_iff.1 h2
  obtain ⟨k, rfl⟩ := Int.eq_ofNat_of_zero_le n0
  have hkl : k < r.length := by omega
  have HEF := Lib.hid (show swE g r k s = if fndL r s < 0 then 0 else 6 by unfold swE; rw [if_pos h, if_pos h2, if_pos (by omega)])
  obtain ⟨x, b, off, hx, rfl, hb, _, _⟩ := rdL hS hkl
  have HX := Lib.hid hx
  have HXA := Lib.hid (lkAt_of hx)
  have HSR := Lib.hid (fun W (h : Below w.heap.size w W) => hS.on h)
  have HFB := Lib.hid (fndL_bd r s)
  obtain ⟨i0, hi, hi1, hi2, hi3⟩ := info_link
  have k1 : (k : Int) < (r.length : Int) := by omega
  have k0 : (0 : Int) ≤ (k : Int) := by omega
  clear hx hv
  go_enter Try.func26, Try.ntmps26
  go_wp2_with (first | (go_at_call 18; ((with_reducible refine (H1.out _ h).mono ?_); rintro e w1 ⟨rfl, hb1⟩; obtain ⟨hc1, hf1⟩ := bcell hb1; have hz1 := hb1.size; (try simp [sz_drew, sz_drewN] at hz1); (try simp only [sz_drew, sz_drewN] at hc1 hf1))) | (go_at_call 57; ((with_reducible refine (Q.out _).mono ?_); rintro e w' ⟨rfl, rfl⟩)) | (go_at_call 50; ((with_reducible refine (H2.out _ hb1).mono ?_); rintro e w' ⟨rfl, rfl⟩)))
  go_loop [10] (fun i => ∃ j : Nat, j ≤ r.length ∧ i = .int .i64 j ∧ Hid (fndL r s = idxOf (fun x : Lk => x.nm.toList == s.toList) (r.drop j) j)) (fun i => r.length - (intOf i).toNat)
  case atStart => exact ⟨0, by omega, rfl, Lib.hid rfl⟩
  case round =>
    obtain ⟨j, hj, rfl, HI⟩ := hrel
    have j0 : (0 : Int) ≤ (j : Int) := Int.natCast_nonneg _
    by_cases hlt : j < r.length
    · have j1 : (j : Int) < (r.length : Int) := by omega
      obtain ⟨y, b', off', hy, e, _, d0, d1⟩ := rdL hS hlt
      cases e
      have HD := Lib.hid (idxOf_drop (fun x : Lk => x.nm.toList == s.toList) r j y hy)
      clear hy d1
      cases he : (y.nm.toList == s.toList)
      · have HEE := Lib.hid he
        go_wp2
        go_round
        case rel => exact ⟨j + 1, by omega, by go_num, Lib.hid (by rw [HI.out, HD.out, HEE.out]; rfl)⟩
        case measure => simp [intOf]; omega
      · have HEE := Lib.hid he
        have HE := Lib.hid (show swE g r k s = 6 by rw [HEF.out, HI.out, HD.out, HEE.out]; exact if_neg (by simp))
        have HL := Lib.hid (show swL g r k s = [] by unfold swL; rw [HE.out]; rfl)
        go_wp2
        go_ret2
        exact ⟨_, by rw [HE.out]; rfl, by rw [HL.out]; exact gotL_nil _, by (repeat' (first | assumption | exact below_refl _ | refine bl_alloc ?_ _ | refine Below.setCell ?_ ?_ _ | refine below_draw ?_ | refine below_drewN ?_ _ | refine below_tr ?_ (by assumption))) <;> (first | omega | (simp; done) | (simp; omega))⟩
    · obtain rfl : j = r.length := by omega
      have HE := Lib.hid (show swE g r k s = 0 by rw [HEF.out, HI.out, List.drop_length]; rfl)
      have HL := Lib.hid (show swL g r k s = r.set k ⟨s, x.fr⟩ by unfold swL; rw [if_pos HE.out, show ((k : Int)).toNat = k by omega, HXA.out])
      go_wp2_with (at_builtin; go_loud (refine wpList_append_own _ rfl _ _ 23 rfl w1.heap.size 41 i0 _ 2 24 (by kernel_rfl) hi hi1 hi2 hi3 rfl (by omega) _ _ _ rfl (own_none w1 _ 2) ⟨b, off, none⟩ r.length d (fl Lk.cs r) rfl (fl_length Lk.cs_len r) (rd_fl Lk.cs_len (HSR.out _ (bl_alloc hb1 _))) (fl_oneL r) (by unfold maxLen; omega) (by omega) (by simp) ?_; intro v w2 hown hgrow _; rw [Nat.zero_add, List.nil_append] at hown; have hb2 : Below w1.heap.size w1 w2 := bl_grown (below_alloc w1 _) hgrow (fun r hr => by cases hr; exact Nat.le_refl _) (by simp); obtain ⟨gb, cap, cur, rfl, hgb, hbk, hcur⟩ := own_row Lk.cs_len hown (by omega); have q2 := (hbk.cell (k * 2)).trans (hcur k x HX.out 0 _ rfl); have f4 := hbk.frozen (k * 2); have hwg : w.heap.size ≤ gb := (by omega); have HC := Lib.hid hcur))
      go_ret2
      exact ⟨_, by rw [HE.out]; rfl, by rw [HL.out]; exact ⟨some ⟨gb, 0, none⟩, cap, by rw [List.length_set]; rfl, row_rd (hbk.set_ _ _) (upL HC.out HX.out)⟩, (below_tr hb1 hb2).setCell (p := ⟨gb, _, none⟩) hwg _⟩
theorem p_Sw1 (x : Lk) (s : ByteArray) (bx : Nat) (w : World) (hc : w.cell? ⟨bx, 0, none⟩ = some (.string s)) (hb : bx < w.heap.size) :
    Calls Try.prog 63 #[lkV x, .pointer (some ⟨bx, 0, none⟩)] w fun e w' => e = .returned (.bool (x.nm.toList == s.toList)) ∧ Below w.heap.size w w' := by
  have hne : bx ≠ w.heap.size := by omega
  go_enter Try.func63, Try.ntmps63
  go_wp2
  go_ret
  exact ⟨rfl, by (repeat' (first | assumption | exact below_refl _ | refine bl_alloc ?_ _ | refine Below.setCell ?_ ?_ _ | refine below_draw ?_ | refine below_drewN ?_ _ | refine below_tr ?_ (by assumption))) <;> (first | omega | (simp; done) | (simp; omega))⟩
theorem any_fndL (r : List Lk) (s : ByteArray) : (r.any fun x => x.nm.toList == s.toList) = decide (0 ≤ fndL r s) := by
  have := idxOf_nonneg (fun x : Lk => x.nm.toList == s.toList) r 0
  rw [Bool.eq_iff_iff, ← this]; unfold fndL; simp
set_option maxHeartbeats 4000000 in
set_option maxRecDepth 20000 in
theorem p_Swapped (A B : Option Addr) (g : List It) (r : List Lk) (c d : Nat) (n : Int) (s : ByteArray) (w : World) (hl : g.length ≤ 100000) (hn : r.length ≤ 100000) (hR : Rd It.cs 4 w A g) (hW : ∀ x ∈ g, IW x) (hS : Rd Lk.cs 2 w B r) (hV : ∀ x ∈ r, LW x) (hs : s.size ≤ maxLen) :
    Calls Try.prog 25 #[.slice A g.length c, .slice B r.length d, .int .i64 n, .string s] w fun e w' => ∃ v, e = .returned (.tuple #[v, .int .i64 (swE g r n s)]) ∧ GotL w' v (swL g r n s) ∧ Below w.heap.size w w' := by
  have H1 := Lib.hid (fun b h W (hb : Below w.heap.size w W) => p_ValidRigV (c := c) (d := d) (b := b) h hl hn (hR.on hb) hW (hS.on hb) hV)
  have H2 := Lib.hid (fun W (h : Below w.heap.size w W) => p_byMark A g c W hl (hR.on h) hW)
  have hkey := keyS hs
  cases h : (vldG g && vldR g r)
  · have HE := Lib.hid (show swE g r n s = 1 by unfold swE; rw [if_neg (by simp [h])])
    have HL := Lib.hid (show swL g r n s = [] by unfold swL; rw [HE.out]; rfl)
    go_enter Try.func25, Try.ntmps25
    go_wp2_with (go_at_call 17; ((with_reducible refine (H1.out _ h _ (by (repeat' (first | assumption | exact below_refl _ | refine bl_alloc ?_ _ | refine Below.setCell ?_ ?_ _ | refine below_draw ?_ | refine below_drewN ?_ _ | refine below_tr ?_ (by assumption))) <;> (first | omega | (simp; done) | (simp; omega)))).mono ?_); rintro e w1 ⟨rfl, hb1⟩; obtain ⟨hc1, hf1⟩ := bcell hb1; have hz1 := hb1.size; (try simp [sz_drew, sz_drewN] at hz1); (try simp only [sz_drew, sz_drewN] at hc1 hf1)))
    go_ret2
    exact ⟨_, by rw [HE.out]; rfl, by rw [HL.out]; exact gotL_nil _, by (repeat' (first | assumption | exact below_refl _ | refine bl_alloc ?_ _ | refine Below.setCell ?_ ?_ _ | refine below_draw ?_ | refine below_drewN ?_ _ | refine below_tr ?_ (by assumption))) <;> (first | omega | (simp; done) | (simp; omega))⟩
  have hv := vr_of h
  have hn32 := hv.l1
  have hm0 := hv.l0
  cases h2 : wn n 0 (r.length - 1)
  · have HE := Lib.hid (show swE g r n s = 7 by unfold swE; rw [if_pos h, if_neg (by simp [h2])])
    have HL := Lib.hid (show swL g r n s = [] by unfold swL; rw [HE.out]; rfl)
    have Q := Lib.hid (p_withinV h2)
    go_enter Try.func25, Try.ntmps25
    go_wp2_with (first | (go_at_call 17; ((with_reducible refine (H1.out _ h _ (by (repeat' (first | assumption | exact below_refl _ | refine bl_alloc ?_ _ | refine Below.setCell ?_ ?_ _ | refine below_draw ?_ | refine below_drewN ?_ _ | refine below_tr ?_ (by assumption))) <;> (first | omega | (simp; done) | (simp; omega)))).mono ?_); rintro e w1 ⟨rfl, hb1⟩; obtain ⟨hc1, hf1⟩ := bcell hb1; have hz1 := hb1.size; (try simp [sz_drew, sz_drewN] at hz1); (try simp only [sz_drew, sz_drewN] at hc1 hf1))) | (go_at_call 54; ((with_reducible refine (Q.out _).mono ?_); rintro e w' ⟨rfl, rfl⟩)))
    go_ret2
    exact ⟨_, by rw [HE.out]; rfl, by rw [HL.out]; exact gotL_nil _, by (repeat' (first | assumption | exact below_refl _ | refine bl_alloc ?_ _ | refine Below.setCell ?_ ?_ _ | refine below_draw ?_ | refine below_drewN ?_ _ | refine below_tr ?_ (by assumption))) <;> (first | omega | (simp; done) | (simp; omega))⟩
  have Q := Lib.hid (p_withinV h2)
  obtain ⟨n0, n1⟩ := wn_iff.1 h2
  obtain ⟨k, rfl⟩ := Int.eq_ofNat_of_zero_le n0
  have hkl : k < r.length := by omega
  obtain ⟨x, b, off, hx, rfl, hb, _, _⟩ := rdL hS hkl
  have HX := Lib.hid hx
  have HXA := Lib.hid (lkAt_of hx)
  have HH := mkD_has g s g.length (Nat.le_refl _)
  obtain ⟨f1, f2⟩ := fnd_bd g s
  have HC := Lib.hid (fun W (h : Below w.heap.size w W) (hb : Blk W w.heap.size 9 #[.string s]) => c_containsL (some ⟨b, off, none⟩) r d (fun x => x.nm.toList == s.toList) 63 #[.pointer (some ⟨w.heap.size, 0, none⟩)] W hn (hS.on h) (fun _ _ => rfl)
    (fun V x hV _ => p_Sw1 x s w.heap.size V ((hb.below hV hb.lt).cell 0) (hb.below hV hb.lt).lt))
  have HCL := Lib.hid (fun W (h : Below w.heap.size w W) => c_cloneL b off r d W (by omega) (by omega) (hS.on h))
  have k1 : (k : Int) < (r.length : Int) := by omega
  have k0 : (0 : Int) ≤ (k : Int) := by omega
  clear hx hv
  by_cases h3 : 0 ≤ fndI g s
  rotate_left
  · have HE := Lib.hid (show swE g r k s = 5 by unfold swE; rw [if_pos h, if_pos h2, if_neg h3])
    have HL := Lib.hid (show swL g r k s = [] by unfold swL; rw [HE.out]; rfl)
    rw [decide_eq_false (by omega)] at HH
    have HHH := Lib.hid HH
    clear HH h3
    go_enter Try.func25, Try.ntmps25
    go_wp2_with (first | (go_at_call 17; ((with_reducible refine (H1.out _ h _ (by (repeat' (first | assumption | exact below_refl _ | refine bl_alloc ?_ _ | refine Below.setCell ?_ ?_ _ | refine below_draw ?_ | refine below_drewN ?_ _ | refine below_tr ?_ (by assumption))) <;> (first | omega | (simp; done) | (simp; omega)))).mono ?_); rintro e w1 ⟨rfl, hb1⟩; obtain ⟨hc1, hf1⟩ := bcell hb1; have hz1 := hb1.size; (try simp [sz_drew, sz_drewN] at hz1); (try simp only [sz_drew, sz_drewN] at hc1 hf1); have z1_0 : w.heap.size < w1.heap.size := (by omega))) | (go_at_call 54; ((with_reducible refine (Q.out _).mono ?_); rintro e w' ⟨rfl, rfl⟩)))
    have K1 := (Blk.new w 9 #[.string s]).below hb1 (by simp)
    have B1 : Below w.heap.size w w1 := by (repeat' (first | assumption | exact below_refl _ | refine bl_alloc ?_ _ | refine Below.setCell ?_ ?_ _ | refine below_draw ?_ | refine below_drewN ?_ _ | refine below_tr ?_ (by assumption))) <;> (first | omega | (simp; done) | (simp; omega))
    have q1 := K1.cell 0
    simp only [List.getElem?_toArray, List.getElem?_cons_zero] at q1
    have y1 := K1.lt
    clear hb1 hc1 hf1
    go_region_held3 (fun w' => (∀ b o, b < w1.heap.size → w'.cell? ⟨b, o, none⟩ = w1.cell? ⟨b, o, none⟩) ∧ (∀ b o, b < w1.heap.size → w'.frozen? ⟨b, o, none⟩ = w1.frozen? ⟨b, o, none⟩) ∧ Below w1.heap.size w1 w') ((first | assumption | (refine kp_of ?_; (repeat' (first | assumption | exact below_refl _ | refine bl_alloc ?_ _ | refine Below.setCell ?_ ?_ _ | refine below_draw ?_ | refine below_drewN ?_ _ | refine below_tr ?_ (by assumption))) <;> (first | omega | (simp; done) | (simp; omega))))) ((go_at_call 49; ((with_reducible refine (H2.out _ (by (repeat' (first | assumption | exact below_refl _ | refine bl_alloc ?_ _ | refine Below.setCell ?_ ?_ _ | refine below_draw ?_ | refine below_drewN ?_ _ | refine below_tr ?_ (by assumption))) <;> (first | omega | (simp; done) | (simp; omega)))).mono ?_); rintro e w3 ⟨rfl, hown, hb3⟩; obtain ⟨hc3, hf3⟩ := bcell hb3; have hz3 := hb3.size; (try simp [sz_drew, sz_drewN] at hz3); obtain ⟨v, ps, hlk, hv⟩ := hown.look_ok lawS und_map (zeroN _) (plainElem_int und_int (by decide)) hkey; rw [HHH.out] at hlk; (try simp only [sz_drew, sz_drewN] at hlk); have S3 : Below w1.heap.size w1 w3 := (by (repeat' (first | assumption | exact below_refl _ | refine bl_alloc ?_ _ | refine Below.setCell ?_ ?_ _ | refine below_draw ?_ | refine below_drewN ?_ _ | refine below_tr ?_ (by assumption))) <;> (first | omega | (simp; done) | (simp; omega))); have B3 : Below w.heap.size w w3 := below_tr B1 S3; have K3 : Blk w3 w.heap.size 9 #[.string s] := (by first | exact K1.below hb3 y1 | exact (K1.drew).below hb3 y1))))
    go_wp2
    go_ret2
    exact ⟨_, by rw [HE.out]; rfl, by rw [HL.out]; exact gotL_nil _, B3⟩
  · rw [decide_eq_true (by omega)] at HH
    have HHH := Lib.hid HH
    have HAN := any_fndL r s
    obtain ⟨i0, hi, hi1, hi2, hi3⟩ := info_link
    by_cases h4 : 0 ≤ fndL r s
    · have HE := Lib.hid (show swE g r k s = 6 by unfold swE; rw [if_pos h, if_pos h2, if_pos h3, if_neg (by omega)])
      have HL := Lib.hid (show swL g r k s = [] by unfold swL; rw [HE.out]; rfl)
      rw [decide_eq_true h4] at HAN
      rw [HAN] at HC
      clear HH h3 h4 HAN
      go_enter Try.func25, Try.ntmps25
      go_wp2_with (first | (go_at_call 17; ((with_reducible refine (H1.out _ h _ (by (repeat' (first | assumption | exact below_refl _ | refine bl_alloc ?_ _ | refine Below.setCell ?_ ?_ _ | refine below_draw ?_ | refine below_drewN ?_ _ | refine below_tr ?_ (by assumption))) <;> (first | omega | (simp; done) | (simp; omega)))).mono ?_); rintro e w1 ⟨rfl, hb1⟩; obtain ⟨hc1, hf1⟩ := bcell hb1; have hz1 := hb1.size; (try simp [sz_drew, sz_drewN] at hz1); (try simp only [sz_drew, sz_drewN] at hc1 hf1); have z1_0 : w.heap.size < w1.heap.size := (by omega))) | (go_at_call 54; ((with_reducible refine (Q.out _).mono ?_); rintro e w' ⟨rfl, rfl⟩)))
      have K1 := (Blk.new w 9 #[.string s]).below hb1 (by simp)
      have B1 : Below w.heap.size w w1 := by (repeat' (first | assumption | exact below_refl _ | refine bl_alloc ?_ _ | refine Below.setCell ?_ ?_ _ | refine below_draw ?_ | refine below_drewN ?_ _ | refine below_tr ?_ (by assumption))) <;> (first | omega | (simp; done) | (simp; omega))
      have q1 := K1.cell 0
      simp only [List.getElem?_toArray, List.getElem?_cons_zero] at q1
      have y1 := K1.lt
      clear hb1 hc1 hf1
      go_region_held3 (fun w' => (∀ b o, b < w1.heap.size → w'.cell? ⟨b, o, none⟩ = w1.cell? ⟨b, o, none⟩) ∧ (∀ b o, b < w1.heap.size → w'.frozen? ⟨b, o, none⟩ = w1.frozen? ⟨b, o, none⟩) ∧ Below w1.heap.size w1 w') ((first | assumption | (refine kp_of ?_; (repeat' (first | assumption | exact below_refl _ | refine bl_alloc ?_ _ | refine Below.setCell ?_ ?_ _ | refine below_draw ?_ | refine below_drewN ?_ _ | refine below_tr ?_ (by assumption))) <;> (first | omega | (simp; done) | (simp; omega))))) ((go_at_call 49; ((with_reducible refine (H2.out _ (by (repeat' (first | assumption | exact below_refl _ | refine bl_alloc ?_ _ | refine Below.setCell ?_ ?_ _ | refine below_draw ?_ | refine below_drewN ?_ _ | refine below_tr ?_ (by assumption))) <;> (first | omega | (simp; done) | (simp; omega)))).mono ?_); rintro e w3 ⟨rfl, hown, hb3⟩; obtain ⟨hc3, hf3⟩ := bcell hb3; have hz3 := hb3.size; (try simp [sz_drew, sz_drewN] at hz3); obtain ⟨v, ps, hlk, hv⟩ := hown.look_ok lawS und_map (zeroN _) (plainElem_int und_int (by decide)) hkey; rw [HHH.out] at hlk; (try simp only [sz_drew, sz_drewN] at hlk); have S3 : Below w1.heap.size w1 w3 := (by (repeat' (first | assumption | exact below_refl _ | refine bl_alloc ?_ _ | refine Below.setCell ?_ ?_ _ | refine below_draw ?_ | refine below_drewN ?_ _ | refine below_tr ?_ (by assumption))) <;> (first | omega | (simp; done) | (simp; omega))); have B3 : Below w.heap.size w w3 := below_tr B1 S3; have K3 : Blk w3 w.heap.size 9 #[.string s] := (by first | exact K1.below hb3 y1 | exact (K1.drew).below hb3 y1))))
      go_wp2_with (go_at_call 62; ((with_reducible refine (HC.out _ B3 K3).mono ?_); rintro e w4 ⟨rfl, hb4⟩; have B4 := below_tr B3 hb4))
      go_ret2
      exact ⟨_, by rw [HE.out]; rfl, by rw [HL.out]; exact gotL_nil _, B4⟩
    · have HE := Lib.hid (show swE g r k s = 0 by unfold swE; rw [if_pos h, if_pos h2, if_pos h3, if_pos (by omega)])
      have HL := Lib.hid (show swL g r k s = r.set k ⟨s, x.fr⟩ by unfold swL; rw [if_pos HE.out, show ((k : Int)).toNat = k by omega, HXA.out])
      rw [decide_eq_false h4] at HAN
      rw [HAN] at HC
      clear HH h3 h4 HAN
      go_enter Try.func25, Try.ntmps25
      go_wp2_with (first | (go_at_call 17; ((with_reducible refine (H1.out _ h _ (by (repeat' (first | assumption | exact below_refl _ | refine bl_alloc ?_ _ | refine Below.setCell ?_ ?_ _ | refine below_draw ?_ | refine below_drewN ?_ _ | refine below_tr ?_ (by assumption))) <;> (first | omega | (simp; done) | (simp; omega)))).mono ?_); rintro e w1 ⟨rfl, hb1⟩; obtain ⟨hc1, hf1⟩ := bcell hb1; have hz1 := hb1.size; (try simp [sz_drew, sz_drewN] at hz1); (try simp only [sz_drew, sz_drewN] at hc1 hf1); have z1_0 : w.heap.size < w1.heap.size := (by omega))) | (go_at_call 54; ((with_reducible refine (Q.out _).mono ?_); rintro e w' ⟨rfl, rfl⟩)))
      have K1 := (Blk.new w 9 #[.string s]).below hb1 (by simp)
      have B1 : Below w.heap.size w w1 := by (repeat' (first | assumption | exact below_refl _ | refine bl_alloc ?_ _ | refine Below.setCell ?_ ?_ _ | refine below_draw ?_ | refine below_drewN ?_ _ | refine below_tr ?_ (by assumption))) <;> (first | omega | (simp; done) | (simp; omega))
      have q1 := K1.cell 0
      simp only [List.getElem?_toArray, List.getElem?_cons_zero] at q1
      have y1 := K1.lt
      clear hb1 hc1 hf1
      go_region_held3 (fun w' => (∀ b o, b < w1.heap.size → w'.cell? ⟨b, o, none⟩ = w1.cell? ⟨b, o, none⟩) ∧ (∀ b o, b < w1.heap.size → w'.frozen? ⟨b, o, none⟩ = w1.frozen? ⟨b, o, none⟩) ∧ Below w1.heap.size w1 w') ((first | assumption | (refine kp_of ?_; (repeat' (first | assumption | exact below_refl _ | refine bl_alloc ?_ _ | refine Below.setCell ?_ ?_ _ | refine below_draw ?_ | refine below_drewN ?_ _ | refine below_tr ?_ (by assumption))) <;> (first | omega | (simp; done) | (simp; omega))))) ((go_at_call 49; ((with_reducible refine (H2.out _ (by (repeat' (first | assumption | exact below_refl _ | refine bl_alloc ?_ _ | refine Below.setCell ?_ ?_ _ | refine below_draw ?_ | refine below_drewN ?_ _ | refine below_tr ?_ (by assumption))) <;> (first | omega | (simp; done) | (simp; omega)))).mono ?_); rintro e w3 ⟨rfl, hown, hb3⟩; obtain ⟨hc3, hf3⟩ := bcell hb3; have hz3 := hb3.size; (try simp [sz_drew, sz_drewN] at hz3); obtain ⟨v, ps, hlk, hv⟩ := hown.look_ok lawS und_map (zeroN _) (plainElem_int und_int (by decide)) hkey; rw [HHH.out] at hlk; (try simp only [sz_drew, sz_drewN] at hlk); have S3 : Below w1.heap.size w1 w3 := (by (repeat' (first | assumption | exact below_refl _ | refine bl_alloc ?_ _ | refine Below.setCell ?_ ?_ _ | refine below_draw ?_ | refine below_drewN ?_ _ | refine below_tr ?_ (by assumption))) <;> (first | omega | (simp; done) | (simp; omega))); have B3 : Below w.heap.size w w3 := below_tr B1 S3; have K3 : Blk w3 w.heap.size 9 #[.string s] := (by first | exact K1.below hb3 y1 | exact (K1.drew).below hb3 y1))))
      go_wp2_with (first
        | (go_at_call 62; ((with_reducible refine (HC.out _ B3 K3).mono ?_); rintro e w4 ⟨rfl, hb4⟩; have B4 := below_tr B3 hb4; have K4 := K3.below hb4 K3.lt))
        | (go_at_call 64; ((with_reducible refine (HCL.out _ B4).mono ?_); rintro e w5 ⟨v, rfl, hown, hb5⟩; have B5 := below_tr B4 hb5; have K5 := K4.below hb5 K4.lt; have q5 := K5.cell 0; simp only [List.getElem?_toArray, List.getElem?_cons_zero] at q5; obtain ⟨gb, cap, cur, rfl, hgb, hbk, hcur⟩ := own_row Lk.cs_len hown (by omega); have q2 := (hbk.cell (k * 2)).trans (hcur k x HX.out 0 _ rfl); have f4 := hbk.frozen (k * 2); have hwg : w.heap.size ≤ gb := (by have := B4.size; omega); have HCU := Lib.hid hcur)))
      go_ret2
      exact ⟨_, by rw [HE.out]; rfl, by rw [HL.out]; exact ⟨some ⟨gb, 0, none⟩, cap, by rw [List.length_set]; rfl, row_rd (hbk.set_ _ _) (upL HCU.out HX.out)⟩, B5.setCell (p := ⟨gb, _, none⟩) hwg _⟩
end Go.Proofs.Ytijlglanpgcdiaa
