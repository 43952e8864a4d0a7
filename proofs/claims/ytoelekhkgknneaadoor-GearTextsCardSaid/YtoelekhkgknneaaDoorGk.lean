/- Gear: Most, Shares of the program. -/
import Derived.Test.YtoelekhkgknneaaDoorGj
set_option linter.unusedSimpArgs false
set_option linter.unusedVariables false
namespace Go.Proofs.YtoelekhkgknneaaDoor
open Go.RowKit Go.Maps

theorem end_pos {g : List It} {r : List Lk} (h : VR g r) : 0 < (endN r r.length).length := by
  have h0 := h.l0
  have hm : r.length - 1 ∈ endN r r.length := by
    unfold endN
    rw [List.mem_filter]
    refine ⟨by simp; omega, ?_⟩
    unfold isE
    rw [Bool.not_eq_true', List.any_eq_false]
    intro x hx
    obtain ⟨k, hk⟩ := List.getElem?_of_mem hx
    have := (h.frs hk).2.1
    have hl := (List.getElem?_eq_some_iff.1 hk).1
    simp; omega
  exact List.length_pos_of_mem hm
theorem endN_lt {r : List Lk} {k n : Nat} (h : (endN r r.length)[k]? = some n) : n < r.length := by
  have := List.mem_of_getElem? h
  unfold endN at this
  rw [List.mem_filter] at this
  simpa using this.1
theorem p_up' (A B : Option Addr) (g : List It) (r : List Lk) (l : List Int) (c d n : Nat) (w : World) (hv : VR g r) (hS : Rd Lk.cs 2 w B r) (hA : Rd zC 1 w A l) (hl : l.length = r.length) (hn : n < r.length) :
    Calls Tryd.prog 71 #[.slice B r.length d, .slice A r.length c, .int .i64 n] w fun e w' => e = .returned (.int .i64 (upZ r l n)) ∧ w = w' := by
  have := p_up A B g r l c d n w hv hS hA hl hn
  rwa [hl] at this
def mtE (g : List It) (r : List Lk) (n : Int) : Int := if (vldG g && vldR g r) = true then (if wn n 0 (r.length - 1) = true then (if isE r n = true then 0 else 10) else 7) else 1
def mtI (g : List It) (r : List Lk) (n : Int) : Int := if mtE g r n = 0 then upZ r (ldL g r) n.toNat else 0
set_option maxHeartbeats 2000000 in
set_option maxRecDepth 20000 in
theorem p_Most (A B : Option Addr) (g : List It) (r : List Lk) (c d : Nat) (n : Int) (w : World) (hl : g.length ≤ 100000) (hn : r.length ≤ 100000) (hR : Rd It.cs 4 w A g) (hW : ∀ x ∈ g, IW x) (hS : Rd Lk.cs 2 w B r) (hV : ∀ x ∈ r, LW x) :
    Calls Tryd.prog 37 #[.slice A g.length c, .slice B r.length d, .int .i64 n] w fun e w' => e = .returned (.tuple #[.int .i64 (mtI g r n), .int .i64 (mtE g r n)]) ∧ Below w.heap.size w w' := by
  have H1 := Lib.hid (fun b h => p_ValidRigV (c := c) (d := d) (b := b) h hl hn hR hW hS hV)
  have H2 := Lib.hid (fun b (h : isE r n = b) W (hb : Below w.heap.size w W) => p_isEndV (d := d) h hn (hS.on hb))
  cases h : (vldG g && vldR g r)
  · have HE := Lib.hid (show mtE g r n = 1 by unfold mtE; rw [if_neg (by simp [h])])
    have HI := Lib.hid (show mtI g r n = 0 by unfold mtI; rw [HE.out]; rfl)
    go_enter Tryd.func37, Tryd.ntmps37
    go_wp2_with (go_at_call 68; ((with_reducible refine (H1.out _ h).mono ?_); rintro e w1 ⟨rfl, hb1⟩; obtain ⟨hc1, hf1⟩ := bcell hb1; have hz1 := hb1.size; (try simp [sz_drew, sz_drewN] at hz1); (try simp only [sz_drew, sz_drewN] at hc1 hf1)))
    go_ret2
    exact ⟨by rw [HE.out, HI.out]; rfl, by (repeat' (first | assumption | exact below_refl _ | refine bl_alloc ?_ _ | refine Below.setCell ?_ ?_ _ | refine below_draw ?_ | refine below_drewN ?_ _ | refine below_tr ?_ (by assumption))) <;> (first | omega | (simp; done) | (simp; omega))⟩
  have hv := vr_of h
  have hn32 := hv.l1
  have hm0 := hv.l0
  cases h2 : wn n 0 (r.length - 1)
  · have HE := Lib.hid (show mtE g r n = 7 by unfold mtE; rw [if_pos h, if_neg (by simp [h2])])
    have HI := Lib.hid (show mtI g r n = 0 by unfold mtI; rw [HE.out]; rfl)
    have Q := Lib.hid (p_withinV h2)
    go_enter Tryd.func37, Tryd.ntmps37
    go_wp2_with (first | (go_at_call 68; ((with_reducible refine (H1.out _ h).mono ?_); rintro e w1 ⟨rfl, hb1⟩; obtain ⟨hc1, hf1⟩ := bcell hb1; have hz1 := hb1.size; (try simp [sz_drew, sz_drewN] at hz1); (try simp only [sz_drew, sz_drewN] at hc1 hf1))) | (go_at_call 72; ((with_reducible refine (Q.out _).mono ?_); rintro e w' ⟨rfl, rfl⟩)))
    go_ret2
    exact ⟨by rw [HE.out, HI.out]; rfl, by (repeat' (first | assumption | exact below_refl _ | refine bl_alloc ?_ _ | refine Below.setCell ?_ ?_ _ | refine below_draw ?_ | refine below_drewN ?_ _ | refine below_tr ?_ (by assumption))) <;> (first | omega | (simp; done) | (simp; omega))⟩
  have Q := Lib.hid (p_withinV h2)
  cases h3 : isE r n
  · have HE := Lib.hid (show mtE g r n = 10 by unfold mtE; rw [if_pos h, if_pos h2, if_neg (by simp [h3])])
    have HI := Lib.hid (show mtI g r n = 0 by unfold mtI; rw [HE.out]; rfl)
    go_enter Tryd.func37, Tryd.ntmps37
    go_wp2_with (first | (go_at_call 68; ((with_reducible refine (H1.out _ h).mono ?_); rintro e w1 ⟨rfl, hb1⟩; obtain ⟨hc1, hf1⟩ := bcell hb1; have hz1 := hb1.size; (try simp [sz_drew, sz_drewN] at hz1); (try simp only [sz_drew, sz_drewN] at hc1 hf1))) | (go_at_call 72; ((with_reducible refine (Q.out _).mono ?_); rintro e w' ⟨rfl, rfl⟩)) | (go_at_call 73; ((with_reducible refine (H2.out _ h3 _ hb1).mono ?_); rintro e w2 ⟨rfl, hb2⟩; obtain ⟨hc2, hf2⟩ := bcell hb2; have hz2 := hb2.size; (try simp [sz_drew, sz_drewN] at hz2); (try simp only [sz_drew, sz_drewN] at hc2 hf2))))
    go_ret2
    exact ⟨by rw [HE.out, HI.out]; rfl, by (repeat' (first | assumption | exact below_refl _ | refine bl_alloc ?_ _ | refine Below.setCell ?_ ?_ _ | refine below_draw ?_ | refine below_drewN ?_ _ | refine below_tr ?_ (by assumption))) <;> (first | omega | (simp; done) | (simp; omega))⟩
  · have HE := Lib.hid (show mtE g r n = 0 by unfold mtE; rw [if_pos h, if_pos h2, if_pos h3])
    have HI := Lib.hid (show mtI g r n = upZ r (ldL g r) n.toNat by unfold mtI; rw [if_pos HE.out])
    obtain ⟨n0, n1⟩ := wn_iff.1 h2
    obtain ⟨k, rfl⟩ := Int.eq_ofNat_of_zero_le n0
    have H3 := Lib.hid (fun W (h : Below w.heap.size w W) => p_loadsOf A B g r c d W hv (hR.on h) hW (hS.on h) hV)
    have HL := Lib.hid (show (ldL g r).length = r.length from List.length_map ..)
    have H4 := Lib.hid (fun W (h : Below w.heap.size w W) A' c' (hA : Rd zC 1 W A' (ldL g r)) => p_up A' B g r (ldL g r) c' d k W hv (hS.on h) hA HL.out (by omega))
    go_enter Tryd.func37, Tryd.ntmps37
    go_wp2_with (first
      | (go_at_call 68; ((with_reducible refine (H1.out _ h).mono ?_); rintro e w1 ⟨rfl, hb1⟩; obtain ⟨hc1, hf1⟩ := bcell hb1; have hz1 := hb1.size; (try simp [sz_drew, sz_drewN] at hz1); (try simp only [sz_drew, sz_drewN] at hc1 hf1)))
      | (go_at_call 72; ((with_reducible refine (Q.out _).mono ?_); rintro e w' ⟨rfl, rfl⟩))
      | ((go_at_call 73; ((with_reducible refine (H2.out _ h3 _ hb1).mono ?_); rintro e w2 ⟨rfl, hb2⟩; obtain ⟨hc2, hf2⟩ := bcell hb2; have hz2 := hb2.size; (try simp [sz_drew, sz_drewN] at hz2); (try simp only [sz_drew, sz_drewN] at hc2 hf2))); have B2 : Below w.heap.size w w2 := (by (repeat' (first | assumption | exact below_refl _ | refine bl_alloc ?_ _ | refine Below.setCell ?_ ?_ _ | refine below_draw ?_ | refine below_drewN ?_ _ | refine below_tr ?_ (by assumption))) <;> (first | omega | (simp; done) | (simp; omega))))
      | (go_at_call 69; ((with_reducible refine (H3.out _ B2).mono ?_); rintro e w3 ⟨v, rfl, hv3, hb3⟩; obtain ⟨A3, c3, rfl, hr3⟩ := own_ints hv3; have B3 : Below w.heap.size w w3 := (by (repeat' (first | assumption | exact below_refl _ | refine bl_alloc ?_ _ | refine Below.setCell ?_ ?_ _ | refine below_draw ?_ | refine below_drewN ?_ _ | refine below_tr ?_ (by assumption))) <;> (first | omega | (simp; done) | (simp; omega)))))
      | (go_at_call 71; ((with_reducible refine (H4.out _ B3 _ _ hr3).mono ?_); rintro e w' ⟨rfl, rfl⟩)))
    go_ret2
    exact ⟨by rw [HE.out, HI.out]; rfl, by (repeat' (first | assumption | exact below_refl _ | refine bl_alloc ?_ _ | refine Below.setCell ?_ ?_ _ | refine below_draw ?_ | refine below_drewN ?_ _ | refine below_tr ?_ (by assumption))) <;> (first | omega | (simp; done) | (simp; omega))⟩
/-- the loads less a number along a chain -/
def subC (l : List Int) (n : Int) (c : List Nat) : List Int := c.foldl (fun l i => l.set i (l.getD i 0 - n)) l
/-- what is left and what is given, end by end -/
def shS (r : List Lk) (l : List Int) (E : List Nat) : Nat → List Int × List Int
  | 0 => (l, [])
  | k + 1 => (subC (shS r l E k).1 (upZ r (shS r l E k).1 (E.getD k 0)) (chn r ((E.getD k 0 : Nat) : Int)), (shS r l E k).2 ++ [upZ r (shS r l E k).1 (E.getD k 0)])
def shZ (g : List It) (r : List Lk) : List Int := (shS r (ldL g r) (endN r r.length) (endN r r.length).length).2
theorem shS_len (r : List Lk) (l : List Int) (E : List Nat) (k : Nat) : (shS r l E k).2.length = k := by
  induction k with
  | zero => rfl
  | succ k ih => simp [shS, ih]
/-- numbers from 0 to a million -/
def Bd (l : List Int) : Prop := ∀ (i : Nat) (x : Int), l[i]? = some x → 0 ≤ x ∧ x ≤ 1000000
theorem Bd.getD {l : List Int} (h : Bd l) (i : Nat) : 0 ≤ l.getD i 0 ∧ l.getD i 0 ≤ 1000000 := by
  cases hx : l[i]? with
  | none => simp [List.getD_eq_getElem?_getD, hx]
  | some x => rw [getD_of hx]; exact h i x hx
theorem lowC_bd {l : List Int} (h : Bd l) : ∀ (c : List Nat) (s : Int), 0 ≤ s → 0 ≤ lowC l s c ∧ lowC l s c ≤ s ∧ ∀ i ∈ c, lowC l s c ≤ l.getD i 0
  | [], s, hs => ⟨hs, Int.le_refl _, by simp⟩
  | i :: c, s, hs => by
    have hi := (h.getD i).1
    have ih := lowC_bd h c (if l.getD i 0 < s then l.getD i 0 else s) (by split <;> omega)
    have e : lowC l s (i :: c) = lowC l (if l.getD i 0 < s then l.getD i 0 else s) c := rfl
    rw [e]
    generalize lowC l (if l.getD i 0 < s then l.getD i 0 else s) c = X at *
    obtain ⟨a, b, d⟩ := ih
    refine ⟨a, by split at b <;> omega, ?_⟩
    intro j hj
    rcases List.mem_cons.1 hj with rfl | hj
    · split at b <;> omega
    · exact d j hj
theorem upZ_bd {g : List It} {r : List Lk} {l : List Int} {n : Nat} {x : Lk} (hv : VR g r) (hx : r[n]? = some x) (h : Bd l) : 0 ≤ upZ r l n ∧ upZ r l n ≤ 1000000 ∧ ∀ i ∈ chn r (n : Int), upZ r l n ≤ l.getD i 0 := by
  have h0 := h.getD n
  obtain ⟨a, b, d⟩ := lowC_bd h (chn r x.fr) (l.getD n 0) h0.1
  unfold upZ
  rw [lkAt_of hx]
  refine ⟨a, by omega, ?_⟩
  intro i hi
  rw [chn_step hv hx] at hi
  rcases List.mem_cons.1 hi with rfl | hi
  · exact b
  · exact d i hi
def shE (g : List It) (r : List Lk) : Int := if (vldG g && vldR g r) = true then 0 else 1
set_option maxHeartbeats 4000000 in
set_option maxRecDepth 20000 in
theorem p_Shares (A B : Option Addr) (g : List It) (r : List Lk) (c d : Nat) (w : World) (hl : g.length ≤ 100000) (hn : r.length ≤ 100000) (hR : Rd It.cs 4 w A g) (hW : ∀ x ∈ g, IW x) (hS : Rd Lk.cs 2 w B r) (hV : ∀ x ∈ r, LW x) :
    Calls Tryd.prog 36 #[.slice A g.length c, .slice B r.length d] w fun e w' => ∃ v, e = .returned (.tuple #[v, .int .i64 (shE g r)]) ∧ GotZ w w' v (shE g r) (shZ g r) ∧ Below w.heap.size w w' := by
  have H1 := Lib.hid (fun b h => p_ValidRigV (c := c) (d := d) (b := b) h hl hn hR hW hS hV)
  cases h : (vldG g && vldR g r)
  · have HE := Lib.hid (show shE g r = 1 by unfold shE; rw [if_neg (by simp [h])])
    go_enter Tryd.func36, Tryd.ntmps36
    go_wp2_with (go_at_call 68; ((with_reducible refine (H1.out _ h).mono ?_); rintro e w1 ⟨rfl, hb1⟩; obtain ⟨hc1, hf1⟩ := bcell hb1; have hz1 := hb1.size; (try simp [sz_drew, sz_drewN] at hz1); (try simp only [sz_drew, sz_drewN] at hc1 hf1)))
    go_ret2
    exact ⟨_, by rw [HE.out]; rfl, by rw [HE.out]; exact gotZ_no (by decide), by (repeat' (first | assumption | exact below_refl _ | refine bl_alloc ?_ _ | refine Below.setCell ?_ ?_ _ | refine below_draw ?_ | refine below_drewN ?_ _ | refine below_tr ?_ (by assumption))) <;> (first | omega | (simp; done) | (simp; omega))⟩
  have HE := Lib.hid (show shE g r = 0 by unfold shE; rw [if_pos h])
  have hv := vr_of h
  have hn32 := hv.l1
  have hm0 := hv.l0
  have H3 := Lib.hid (fun W (h : Below w.heap.size w W) => p_loadsOf A B g r c d W hv (hR.on h) hW (hS.on h) hV)
  have H4 := Lib.hid (fun W (h : Below w.heap.size w W) => p_ends B r d W hn (hS.on h))
  have HL := Lib.hid (show (ldL g r).length = r.length from List.length_map ..)
  have H5 := Lib.hid (fun W (h : Below w.heap.size w W) A' c' (l : List Int) (k : Nat) (hA : Rd zC 1 W A' l) hl hk => p_up' A' B g r l c' d k W hv (hS.on h) hA hl hk)
  have HVV := Lib.hid hv
  have hep := end_pos hv
  have hel := endN_len r r.length
  have HEL := Lib.hid (fun k n => endN_lt (r := r) (k := k) (n := n))
  obtain ⟨i0, hi, hi1, hi2, hi3⟩ := info_int2
  have HZ := Lib.hid (show shZ g r = (shS r (ldL g r) (endN r r.length) (endN r r.length).length).2 from rfl)
  have HB0 := Lib.hid (show Bd (ldL g r) from fun i x hx => by have := hv.ld hx; omega)
  generalize shZ g r = Z at *
  generalize endN r r.length = E at *
  clear hR hW hV hv
  go_enter Tryd.func36, Tryd.ntmps36
  go_wp2_with (first
    | (go_at_call 68; ((with_reducible refine (H1.out _ h).mono ?_); rintro e w1 ⟨rfl, hb1⟩; obtain ⟨hc1, hf1⟩ := bcell hb1; have hz1 := hb1.size; (try simp [sz_drew, sz_drewN] at hz1); (try simp only [sz_drew, sz_drewN] at hc1 hf1)))
    | (go_at_call 69; ((with_reducible refine (H3.out _ hb1).mono ?_); rintro e w2 ⟨v, rfl, hv2, hb2⟩; obtain ⟨gl, cl, e2, hgl, HL2⟩ := own_LI hv2 (by rw [HL.out]; exact hm0); rw [HL.out] at e2; subst e2; have B2 : Below w.heap.size w w2 := (by (repeat' (first | assumption | exact below_refl _ | refine bl_alloc ?_ _ | refine Below.setCell ?_ ?_ _ | refine below_draw ?_ | refine below_drewN ?_ _ | refine below_tr ?_ (by assumption))) <;> (first | omega | (simp; done) | (simp; omega)))))
    | (go_at_call 70; ((with_reducible refine (H4.out _ B2).mono ?_); rintro e w3 ⟨v, rfl, hv3, hb3⟩; obtain ⟨ge, ce, rfl, hge, HG3⟩ := own_LI (nz_own hv3) (by rw [List.length_map]; exact hep); have B3 : Below w.heap.size w w3 := (by (repeat' (first | assumption | exact below_refl _ | refine bl_alloc ?_ _ | refine Below.setCell ?_ ?_ _ | refine below_draw ?_ | refine below_drewN ?_ _ | refine below_tr ?_ (by assumption))) <;> (first | omega | (simp; done) | (simp; omega))))))
  have glt := HL2.lt
  have HLn := Lib.hid (Nat.ne_of_lt (Nat.lt_of_lt_of_le glt hge))
  have B3s := hb3.size
  have B1s := hb1.size
  have gwl : w.heap.size ≤ gl := by omega
  have gwl3 : gl < w3.heap.size := by omega
  have ge3 := HG3.lt
  go_loopw [7, 22] (fun v i wr => ∃ k : Nat, k ≤ E.length ∧ i = .int .i64 k ∧ Below w.heap.size w wr ∧ w3.heap.size ≤ wr.heap.size ∧ LI wr ge (E.map fun n : Nat => (n : Int)) ∧ LI wr gl (shS r (ldL g r) E k).1 ∧ Hid ((shS r (ldL g r) E k).1.length = r.length ∧ Bd (shS r (ldL g r) E k).1) ∧ wr.ownsRow w3.heap.size 3 1 v k (fl zC (shS r (ldL g r) E k).2)) (fun _ i _ => E.length - (intOf i).toNat)
  case atStart => exact ⟨0, by omega, rfl, B3, Nat.le_refl _, HG3, HL2.on hb3, Lib.hid ⟨HL.out, HB0.out⟩, World.ownsRow_nil w3 _ _ _⟩
  case round =>
    clear hv2 hv3 hb1 hb2 hb3 B2 B3 hc1 hf1 HL2 HG3
    obtain ⟨k, hk, rfl, hbw, hsz, HG, HLL, HBB, hown⟩ := hrel
    obtain ⟨ad, cp, rfl⟩ := own_slice hown
    by_cases hlt : k < E.length
    · have k0 : (0 : Int) ≤ (k : Int) := Int.natCast_nonneg _
      have k1 : (k : Int) < (E.length : Int) := by omega
      have k2 : (k : Int) < ((E.map fun n : Nat => (n : Int)).length : Int) := by rw [List.length_map]; exact k1
      obtain ⟨n, hx⟩ := get_lt hlt
      have hnr := HEL.out k n (by first | exact hx)
      have hxx : (E.map fun n : Nat => (n : Int))[k]? = some (n : Int) := by rw [List.getElem?_map, hx]; rfl
      have q0 := HG.cell hxx
      obtain ⟨y, hy⟩ := get_lt hnr
      have HST1 := Lib.hid (show shS r (ldL g r) E (k + 1) = (subC (shS r (ldL g r) E k).1 (upZ r (shS r (ldL g r) E k).1 n) (chn r (n : Int)), (shS r (ldL g r) E k).2 ++ [upZ r (shS r (ldL g r) E k).1 n]) by
        rw [shS, show E.getD k 0 = n by simp [List.getD_eq_getElem?_getD, hx]])
      have HUP := Lib.hid (H5.out wr hbw _ cl _ n HLL.rd HBB.out.1 hnr)
      obtain ⟨u0, u1, u2⟩ := upZ_bd HVV.out hy HBB.out.2
      have HU2 := Lib.hid u2
      generalize shS r (ldL g r) E k = S at *
      obtain ⟨L, O⟩ := S
      simp only at *
      generalize upZ r L n = N at *
      clear hx hxx hy u2
      go_wp2_with (go_at_call 71; ((with_reducible refine (HUP.out).mono ?_); rintro e w' ⟨rfl, rfl⟩))
      go_loopw [11] (fun i wv => ∃ (j : Int) (M : List Int), -1 ≤ j ∧ j < r.length ∧ i = .int .i64 j ∧ Below w.heap.size w wv ∧ w3.heap.size ≤ wv.heap.size ∧ LI wv ge (E.map fun n : Nat => (n : Int)) ∧ LI wv gl M ∧ wv.ownsRow w3.heap.size 3 1 (.slice ad k cp) k (fl zC O) ∧ Hid (subC L N (chn r (n : Int)) = subC M N (chn r j) ∧ M.length = r.length ∧ Bd M ∧ ∀ i ∈ chn r j, N ≤ M.getD i 0)) (fun i _ => (intOf i + 1).toNat)
      case atStart => exact ⟨n, L, by omega, by omega, rfl, hbw, hsz, HG, HLL, hown, Lib.hid ⟨rfl, HBB.out.1, HBB.out.2, HU2.out⟩⟩
      case round =>
        clear hbw hsz HG HLL hown q0 HUP
        obtain ⟨j, M, hj, hj', rfl, hbw, hsz, HG, HLL, hown, HI⟩ := hrel
        by_cases hneg : j < 0
        · have HJ := Lib.hid (chn_neg (r := r) hneg)
          go_wp2_with (at_builtin; refine wpList_append_own _ rfl _ _ 32 rfl w3.heap.size 3 i0 (.int .i64 0) 1 8 (by kernel_rfl) hi hi1 hi2 hi3 rfl (by omega) _ _ _ rfl (hown.alloc _) ⟨wr.heap.size, 0, none⟩ 1 1 [.int .i64 N] rfl rfl (cells_new wr [.int .i64 N] 3) (fun u hu => by simp at hu; subst hu; rfl) (by unfold maxLen; omega) (by omega) (by simp; omega) ?_; intro v' w4 hown4 hgrow _)
          go_roundw
          case rel => exact ⟨k + 1, by omega, by go_num, bl_app hbw hown hgrow (by omega) hbw.size, by have := hgrow.size; simp at this; omega, (HG.alloc _).grown hgrow (own_ne hown (by omega)), by rw [HST1.out, HI.out.1, HJ.out]; exact (HLL.alloc _).grown hgrow (own_ne hown (by omega)), Lib.hid (by rw [HST1.out, HI.out.1, HJ.out]; exact ⟨HI.out.2.1, HI.out.2.2.1⟩), by rw [HST1.out]; show w4.ownsRow w3.heap.size 3 1 v' (k + 1) (fl zC (O ++ [N])); rw [fl_snoc]; exact hown4⟩
          case measure => simp [intOf]; omega
        · obtain ⟨m, rfl⟩ := Int.eq_ofNat_of_zero_le (show 0 ≤ j by omega)
          obtain ⟨z, b', off', hz, rfl, _, d0, d1⟩ := rdL (hS.on hbw) (show m < r.length by omega)
          obtain ⟨t, ht⟩ := get_lt (show m < M.length by have := HI.out.2.1; omega)
          have d2 := HLL.cell ht
          have d3 := HLL.frozen m
          obtain ⟨t0, t1⟩ := HI.out.2.2.1 m t ht
          have hfz := HVV.out.frs hz
          have HN := Lib.hid (show subC M N (chn r (m : Int)) = subC (M.set m (t - N)) N (chn r z.fr) by
            rw [chn_step HVV.out hz]; unfold subC; rw [List.foldl_cons, getD_of ht])
          have HN2 := Lib.hid (show Bd (M.set m (t - N)) ∧ ∀ i ∈ chn r z.fr, N ≤ (M.set m (t - N)).getD i 0 by
            have hall := HI.out.2.2.2
            rw [chn_step HVV.out hz] at hall
            have hmt := hall m (List.mem_cons_self ..)
            rw [getD_of ht] at hmt
            refine ⟨?_, ?_⟩
            · intro i x hx
              by_cases hi : m = i
              · subst hi
                rw [List.getElem?_set_self (List.getElem?_eq_some_iff.1 ht).1] at hx
                cases hx; omega
              · rw [List.getElem?_set_ne hi] at hx
                exact HI.out.2.2.1 i x hx
            · intro i hi
              have hlt2 := chn_lt HVV.out (m + 1) z.fr (by omega) (by omega) i hi
              rw [List.getD_eq_getElem?_getD, List.getElem?_set_ne (by omega), ← List.getD_eq_getElem?_getD]
              exact hall i (List.mem_cons_of_mem _ hi))
          have HT := Lib.hid ht
          have m1 : (m : Int) < (r.length : Int) := by omega
          have m0 : (0 : Int) ≤ (m : Int) := by omega
          clear hz ht
          go_wp2
          go_roundw
          case rel => exact ⟨z.fr, M.set m (t - N), by omega, by omega, rfl, hbw.setCell (p := ⟨gl, m, none⟩) gwl _, by simp; exact hsz, HG.far (fun e => HLn.out e.symm) _, HLL.set HT.out _, own_far hown (fun b hb => by have := (own_ge hown b hb).1; show b ≠ gl; omega), Lib.hid ⟨by rw [HI.out.1, HN.out], by rw [List.length_set]; exact HI.out.2.1, HN2.out.1, HN2.out.2⟩⟩
          case measure => simp [intOf]; omega
    · obtain rfl : k = E.length := by omega
      have HO := Lib.hid (shS_len r (ldL g r) E E.length)
      go_wp2
      go_ret2
      exact ⟨_, by rw [HE.out]; rfl, by rw [HE.out, HZ.out]; exact gotZ_yes (by rw [HO.out]; exact own_base hown (by omega)), hbw⟩
end Go.Proofs.YtoelekhkgknneaaDoor
