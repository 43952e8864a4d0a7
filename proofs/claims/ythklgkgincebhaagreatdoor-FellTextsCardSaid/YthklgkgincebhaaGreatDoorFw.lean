/- Fell: asked by the program, Stands of both. -/
import Derived.Test.YthklgkgincebhaaGreatDoorFe
import Derived.Test.YthklgkgincebhaaGreatDoorFu
import Derived.Test.YthklgkgincebhaaGreatDoorFv
set_option linter.unusedSimpArgs false
set_option linter.unusedVariables false
namespace Go.Proofs.YthklgkgincebhaaGreatDoor
open Go.RowKit

theorem p_asked1 (x : Sp) (w : World) : Calls Tryz.prog 41 #[spV x] w fun e w' => e = .returned (.bool (!isS x)) ∧ Below w.heap.size w w' := by
  cases h1 : isS x
  all_goals
    have Q := Lib.hid (p_isSpotV h1)
    clear h1
    go_enter Tryz.func41, Tryz.ntmps41
    go_wp2_with fail
    refine (Q.out _).mono ?_
    rintro e w1 ⟨rfl, hb1⟩
    go_wp2
    go_ret
    exact ⟨rfl, by (repeat' (first | assumption | exact below_refl _ | refine bl_alloc ?_ _ | refine Below.setCell ?_ ?_ _ | refine below_draw ?_ | refine below_drewN ?_ _ | refine below_tr ?_ (by assumption))) <;> (first | omega | (simp; done) | (simp; omega))⟩
set_option maxHeartbeats 2000000 in
theorem p_asked (A B : Option Addr) (l : List Pr) (s : List Sp) (c d : Nat) (w : World) (hl : l.length ≤ 100000) (hs : s.length ≤ 100000) (hR : Rd Pr.cs 3 w A l) (hS : Rd Sp.cs 2 w B s) :
    Calls Tryz.prog 25 #[.slice A l.length c, .slice B s.length d] w fun e w' => e = .returned (.int .i64 (askE l s)) ∧ Below w.heap.size w w' := by
  have HV := Lib.hid (p_Valid A l c w hl hR)
  have HC := Lib.hid (fun (W : World) (hb : Below w.heap.size w W) => c_containsS B s d (fun x => !isS x) 41 #[] W hs (hS.on hb) (enters_of Tryz.func41 (by kernel_rfl) rfl) (fun W x _ _ => p_asked1 x W))
  simp only [any_nisS] at HC
  cases hv : vP l
  · have HE := Lib.hid (askE_one (s := s) hv)
    rw [hv] at HV
    clear hv HC
    go_enter Tryz.func25, Tryz.ntmps25
    go_wp2_with fail
    refine HV.out.mono ?_
    rintro e w1 ⟨rfl, hb1⟩
    go_wp2
    go_ret
    exact ⟨ret_int HE.out.symm, hb1⟩
  · rw [hv] at HV
    cases h2 : s.all isS
    · have HE := Lib.hid (askE_seven hv h2)
      rw [h2] at HC
      clear hv h2
      go_enter Tryz.func25, Tryz.ntmps25
      go_wp2_with fail
      refine HV.out.mono ?_
      rintro e w1 ⟨rfl, hb1⟩
      go_wp2_with fail
      refine (HC.out _ hb1).mono ?_
      rintro e w2 ⟨rfl, hb2⟩
      go_wp2
      go_ret
      exact ⟨ret_int HE.out.symm, below_tr hb1 hb2⟩
    · have HE := Lib.hid (askE_ok hv h2)
      rw [h2] at HC
      clear hv h2
      go_enter Tryz.func25, Tryz.ntmps25
      go_wp2_with fail
      refine HV.out.mono ?_
      rintro e w1 ⟨rfl, hb1⟩
      go_wp2_with fail
      refine (HC.out _ hb1).mono ?_
      rintro e w2 ⟨rfl, hb2⟩
      go_wp2
      go_ret
      exact ⟨ret_int HE.out.symm, below_tr hb1 hb2⟩
theorem okP_of {l : List Pr} (h : vP l = true) {i : Nat} (hi : i < l.length) : okP l i = true := by
  unfold vP at h
  rw [Bool.and_eq_true, List.all_eq_true] at h
  exact h.1 i (by simpa using hi)
theorem vP_len {l : List Pr} (h : vP l = true) : l.length ≤ 24 := by unfold vP at h; rw [Bool.and_eq_true] at h; simpa using h.2
theorem vP_at {l : List Pr} (h : vP l = true) {i : Nat} {x : Pr} (hx : l[i]? = some x) : isS x.a = true ∧ ∀ j y, j < i → l[j]? = some y → y.a ≠ x.a := by
  have h1 := okP_of h (List.getElem?_eq_some_iff.1 hx).1
  unfold okP at h1
  rw [Bool.and_eq_true, prAt_of hx, List.all_eq_true] at h1
  refine ⟨h1.1, fun j y hj hy => ?_⟩
  have := h1.2 j (by simpa using hj)
  unfold frP at this
  rw [prAt_of hy, prAt_of hx] at this
  simpa using this
theorem vP_bd {l : List Pr} (h : vP l = true) : ∀ x ∈ spL l, Bd 10000 x := by
  intro x hx
  obtain ⟨p, hp, rfl⟩ := List.mem_map.1 hx
  obtain ⟨i, hi⟩ := List.getElem?_of_mem hp
  exact isS_bd (vP_at h hi).1
theorem vP_nodup {l : List Pr} (h : vP l = true) : (spL l).Nodup := by
  unfold List.Nodup
  rw [List.pairwise_iff_getElem]
  intro i j hi hj hij
  rw [spL_len] at hi hj
  have := (vP_at h (List.getElem?_eq_getElem hj)).2 i _ hij (List.getElem?_eq_getElem hi)
  simpa [spL] using this
/-- Stands: the answer and the error -/
def stE (l : List Pr) (s : Sp) : Int := askE l [s]
def stD (l : List Pr) (s : Sp) : Bool := if stE l s = 0 then heldB (spL l) s else false
theorem stE_z {l : List Pr} {s : Sp} (h : stE l s = 0) : vP l = true ∧ isS s = true := by
  have := askE_z h
  simpa using this
theorem stD_ok {l : List Pr} {s : Sp} (h : stE l s = 0) : stD l s = heldB (spL l) s := by unfold stD; rw [if_pos h]
theorem stD_no {l : List Pr} {s : Sp} (h : stE l s ≠ 0) : stD l s = false := by unfold stD; rw [if_neg h]
theorem p_askedOne (A : Option Addr) (l : List Pr) (s : Sp) (c b : Nat) (w : World) (hl : l.length ≤ 100000) (hR : Rd Pr.cs 3 w A l) (hS : Rd Sp.cs 2 w (some ⟨b, 0, none⟩) [s]) :
    Calls Tryz.prog 25 #[.slice A l.length c, .slice (some ⟨b, 0, none⟩) 1 1] w fun e w' => e = .returned (.int .i64 (stE l s)) ∧ Below w.heap.size w w' := p_asked A _ l [s] c 1 w hl (by simp) hR hS
theorem rd_one (w : World) (s : Sp) : Rd Sp.cs 2 (w.alloc (.cells (spA s) 32)) (some ⟨w.heap.size, 0, none⟩) [s] := by
  refine row_rd (cur := spA s) (Blk.new w 32 (spA s)) ?_
  intro k x hx r u hu
  have hk : k = 0 := by
    rcases k with _ | k
    · rfl
    · simp at hx
  subst hk
  simp at hx
  subst hx
  simpa [Sp.cs, spA] using hu
set_option maxHeartbeats 4000000 in
set_option maxRecDepth 20000 in
theorem p_Stands (A : Option Addr) (l : List Pr) (c : Nat) (s : Sp) (w : World) (hl : l.length ≤ 100000) (h12 : vP l = true → l.length ≤ 24) (hR : Rd Pr.cs 3 w A l) :
    Calls Tryz.prog 11 #[.slice A l.length c, spV s] w fun e w' => e = .returned (.tuple #[.bool (stD l s), .int .i64 (stE l s)]) ∧ Below w.heap.size w w' := by
  have x0 := Blk.new w 32 (spA s)
  have B0 := bl_alloc (below_refl w) (.cells (spA s) 32)
  have z0 : (w.alloc (.cells (spA s) 32)).heap.size = w.heap.size + 1 := by simp
  have HA := Lib.hid (fun (W : World) (hb : Below w.heap.size w W) (b : Nat) (hS : Rd Sp.cs 2 W (some ⟨b, 0, none⟩) [s]) => p_askedOne A l s c b W hl (hR.on hb) hS)
  have HO := Lib.hid (rd_one (w.alloc (.cells (spA s) 32)) s)
  rw [z0] at HO
  have B1 := bl_alloc B0 (.cells (spA s) 32)
  have x1 := x0.alloc (.cells (spA s) 32)
  by_cases he : stE l s = 0
  · have HD := Lib.hid (stD_ok he)
    have HS := Lib.hid (fun (W : World) (A : Option Addr) (c : Nat) (hR : Rd Sp.cs 2 W A (spL l)) => (let h := stE_z he; p_stands A (spL l) c s W (by rw [spL_len]; exact h12 h.1) (vP_bd h.1) (vP_nodup h.1) (isS_bd h.2) hR))
    have HP := Lib.hid (fun (W : World) (hb : Below w.heap.size w W) => p_spots A l c W hl (hR.on hb))
    have HE := Lib.hid he
    rw [he] at HA
    obtain ⟨R, hRR⟩ : ∃ R : Bool, R = heldB (spL l) s := ⟨_, rfl⟩
    rw [← hRR] at HS HD
    clear he hRR
    go_enter Tryz.func11, Tryz.ntmps11
    go_wp2_with fail
    refine (HA.out _ B1 _ HO.out).mono ?_
    rintro e w1 ⟨rfl, hb1⟩
    have B2 := below_tr B1 hb1
    have x2 := x1.below hb1 x1.lt
    have e0 := x2.cell 0
    have e1 := x2.cell 1
    simp only [List.getElem?_toArray, List.getElem?_cons_zero, List.getElem?_cons_succ] at e0 e1
    have zx := x2.lt
    clear B0 B1 x0 x1 hb1 HA HO z0
    go_wp2_with fail
    go_region_held3 (fun w' => (∀ b o, b < w1.heap.size → w'.cell? ⟨b, o, none⟩ = w1.cell? ⟨b, o, none⟩) ∧ (∀ b o, b < w1.heap.size → w'.frozen? ⟨b, o, none⟩ = w1.frozen? ⟨b, o, none⟩) ∧ Below w1.heap.size w1 w') ((first | assumption | (refine kp_of ?_; (repeat' (first | assumption | exact below_refl _ | refine bl_alloc ?_ _ | refine Below.setCell ?_ ?_ _ | refine below_draw ?_ | refine below_drewN ?_ _ | refine below_tr ?_ (by assumption))) <;> (first | omega | (simp; done) | (simp; omega))))) ((first | (go_at_call 27; ((with_reducible refine (HP.out _ (by (repeat' (first | assumption | exact below_refl _ | refine bl_alloc ?_ _ | refine Below.setCell ?_ ?_ _ | refine below_draw ?_ | refine below_drewN ?_ _ | refine below_tr ?_ (by assumption))) <;> (first | omega | (simp; done) | (simp; omega)))).mono ?_); rintro e w3 ⟨v3, rfl, ho3, hb3⟩; obtain ⟨A3, c3, rfl, hR3⟩ := own_rd Sp.cs_len ho3; obtain ⟨hc3, hf3⟩ := bcell hb3; have hz3 := hb3.size; (try simp [sz_drew, sz_drewN] at hz3); (try simp only [sz_drew, sz_drewN] at hc3 hf3))) | (go_at_call 26; ((with_reducible refine (HS.out _ _ _ hR3).mono ?_); rintro e w4 ⟨rfl, hb4⟩; obtain ⟨hc4, hf4⟩ := bcell hb4; have hz4 := hb4.size; (try simp [sz_drew, sz_drewN] at hz4); (try simp only [sz_drew, sz_drewN] at hc4 hf4)))))
    go_wp2
    go_ret2
    exact ⟨by rw [HD.out, HE.out]; rfl, below_tr B2 (by (repeat' (first | assumption | exact below_refl _ | refine bl_alloc ?_ _ | refine Below.setCell ?_ ?_ _ | refine below_draw ?_ | refine below_drewN ?_ _ | refine below_tr ?_ (by assumption))) <;> (first | omega | (simp; done) | (simp; omega)))⟩
  · have HD := Lib.hid (stD_no he)
    have hg := he
    obtain ⟨E, hE⟩ : ∃ E : Int, E = stE l s := ⟨_, rfl⟩
    rw [← hE] at HA hg ⊢
    clear he hE
    go_enter Tryz.func11, Tryz.ntmps11
    go_wp2_with fail
    refine (HA.out _ B1 _ HO.out).mono ?_
    rintro e w1 ⟨rfl, hb1⟩
    go_wp2
    go_ret2
    exact ⟨by rw [HD.out]; rfl, below_tr B1 hb1⟩
end Go.Proofs.YthklgkgincebhaaGreatDoor
