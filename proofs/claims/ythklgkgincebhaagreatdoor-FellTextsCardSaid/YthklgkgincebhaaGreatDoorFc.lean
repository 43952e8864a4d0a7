/- Fell: zones: ValidZone, things, asked of spots, by both. -/
import Derived.Test.YthklgkgincebhaaGreatDoorFb0
set_option linter.unusedSimpArgs false
set_option linter.unusedVariables false
namespace Go.Proofs.YthklgkgincebhaaGreatDoor
open Go.RowKit

theorem rdS {w : World} {A : Option Addr} {l : List Sp} (h : Rd Sp.cs 2 w A l) {k : Nat} (hk : k < l.length) :
    ∃ x b off, l[k]? = some x ∧ A = some ⟨b, off, none⟩ ∧ b < w.heap.size ∧ w.cell? ⟨b, off + k * 2, none⟩ = some (.int .i64 x.x) ∧ w.cell? ⟨b, off + k * 2 + 1, none⟩ = some (.int .i64 x.y) := by
  obtain ⟨x, hx⟩ := get_lt hk
  obtain ⟨b, off, e, hb, hc⟩ := h.get hx
  exact ⟨x, b, off, hx, e, hb, hc 0 _ rfl, hc 1 _ rfl⟩
theorem c_indexS (A : Option Addr) (l : List (Sp)) (c : Nat) (p : Sp → Bool) (f : FuncId) (cap : Array Value) (w : World) (hl : l.length ≤ 100000) (hR : Rd Sp.cs 2 w A l)
    (he : ∀ args W, (callFunc f args).run Tryz.prog W = .ok (.enter f args) W)
    (hf : ∀ W x, Below w.heap.size w W → x ∈ l → Calls Tryz.prog f (#[spV x] ++ cap) W fun e W' => e = .returned (.bool (p x)) ∧ Below W.heap.size W W') :
    Calls Tryz.prog 47 #[.slice A l.length c, .func (.func f) #[] cap] w fun e w' => e = .returned (.int .i64 (idxOf p l 0)) ∧ Below w.heap.size w w' := by
  have HF := Lib.hid hf
  clear hf
  go_enter Tryz.func47, Tryz.ntmps47
  go_wp2
  go_loopw [8] (fun i wr => ∃ k : Nat, k ≤ l.length ∧ i = .int .i64 k ∧ Below w.heap.size w wr ∧ Hid (idxOf p l 0 = idxOf p (l.drop k) k)) (fun i _ => l.length - (intOf i).toNat)
  case atStart => exact ⟨0, by omega, rfl, Below.refl _ _, rfl⟩
  case round =>
    obtain ⟨k, hk, rfl, hB, HI⟩ := hrel
    by_cases hlt : k < l.length
    · obtain ⟨x, b, off, hx, rfl, hb, c0, c1⟩ := rdS (hR.on hB) hlt
      have HD := Lib.hid (idxOf_drop p l k x hx)
      have hm := List.mem_of_getElem? hx
      have HC := Lib.hid (HF.out wr x hB hm)
      clear hx hm
      cases hp : p x
      all_goals
        have HP := Lib.hid hp
        clear hp
        go_wp2_with fail
        refine HC.out.mono ?_
        rintro e w1 ⟨rfl, hb1⟩
        rw [HP.out]
        go_wp2
      · go_roundw
        case rel => exact ⟨k + 1, by omega, by go_num, hB.trans (hb1.mono hB.size), by rw [HI.out, HD.out, HP.out]; rfl⟩
        case measure => simp [intOf]; omega
      · go_ret
        exact ⟨ret_int (by rw [HI.out, HD.out, HP.out]; rfl), hB.trans (hb1.mono hB.size)⟩
    · go_wp2
      go_ret
      exact ⟨ret_int (by rw [HI.out, List.drop_of_length_le (by omega)]; rfl), hB⟩

theorem c_containsS (A : Option Addr) (l : List (Sp)) (c : Nat) (p : Sp → Bool) (f : FuncId) (cap : Array Value) (w : World) (hl : l.length ≤ 100000) (hR : Rd Sp.cs 2 w A l)
    (he : ∀ args W, (callFunc f args).run Tryz.prog W = .ok (.enter f args) W)
    (hf : ∀ W x, Below w.heap.size w W → x ∈ l → Calls Tryz.prog f (#[spV x] ++ cap) W fun e W' => e = .returned (.bool (p x)) ∧ Below W.heap.size W W') :
    Calls Tryz.prog 40 #[.slice A l.length c, .func (.func f) #[] cap] w fun e w' => e = .returned (.bool (l.any p)) ∧ Below w.heap.size w w' := by
  have HC := Lib.hid (c_indexS A l c p f cap w hl hR he hf)
  have HA := Lib.hid (idxOf_nonneg p l 0)
  clear he hf hR
  go_enter Tryz.func40, Tryz.ntmps40
  go_wp2_with (go_at_call 47; refine HC.out.mono ?_; rintro e w' ⟨rfl, hb⟩)
  go_ret
  exact ⟨ret_bool (by rw [Bool.eq_iff_iff, ← HA.out]; simp), hb⟩

theorem p_sized (r d : Int) (w : World) : Calls Tryz.prog 50 #[.int .i64 r, .int .i64 d] w fun e w' => e = .returned (.bool (wn r 1 20000 && wn d 0 1000)) ∧ w = w' := by
  cases h1 : wn r 1 20000
  · go_enter Tryz.func50, Tryz.ntmps50
    go_wp2_with (go_at_call 51; ((with_reducible refine (p_withinV h1 _).mono ?_); rintro e w' ⟨rfl, rfl⟩))
    go_ret
    exact ⟨ret_bool rfl, rfl⟩
  cases h2 : wn d 0 1000
  all_goals
    go_enter Tryz.func50, Tryz.ntmps50
    go_wp2_with (first | (go_at_call 51; ((with_reducible refine (p_withinV h1 _).mono ?_); rintro e w' ⟨rfl, rfl⟩)) | (go_at_call 51; ((with_reducible refine (p_withinV h2 _).mono ?_); rintro e w' ⟨rfl, rfl⟩)))
    go_ret
    exact ⟨ret_bool rfl, rfl⟩
theorem p_sizedV {r d : Int} {b : Bool} (h : (wn r 1 20000 && wn d 0 1000) = b) (w : World) : Calls Tryz.prog 50 #[.int .i64 r, .int .i64 d] w fun e w' => e = .returned (.bool b) ∧ w = w' := h ▸ p_sized r d w
def vZn (z : Zn) : Bool := isS z.f && (isS z.t && (decide (¬ (z.f.x = z.t.x ∧ z.f.y = z.t.y)) && (wn z.r 1 20000 && wn z.w 0 1000)))
theorem vzn {z : Zn} (h : vZn z = true) : isS z.f = true ∧ isS z.t = true ∧ z.f ≠ z.t ∧ 1 ≤ z.r ∧ z.r ≤ 20000 ∧ 0 ≤ z.w ∧ z.w ≤ 1000 := by
  unfold vZn at h
  simp only [Bool.and_eq_true, decide_eq_true_eq, wn_iff] at h
  exact ⟨h.1, h.2.1, fun e => h.2.2.1 ⟨by rw [e], by rw [e]⟩, h.2.2.2.1.1, h.2.2.2.1.2, h.2.2.2.2.1, h.2.2.2.2.2⟩
set_option maxHeartbeats 2000000 in
theorem p_ValidZone (z : Zn) (w : World) : Calls Tryz.prog 30 #[znV z] w fun e w' => e = .returned (.bool (vZn z)) ∧ Below w.heap.size w w' := by
  obtain ⟨⟨a, b⟩, ⟨c, d⟩, r, q⟩ := z
  have HB := Lib.hid (show vZn ⟨⟨a, b⟩, ⟨c, d⟩, r, q⟩ = (isS ⟨a, b⟩ && (isS ⟨c, d⟩ && (decide (¬ (a = c ∧ b = d)) && (wn r 1 20000 && wn q 0 1000)))) from rfl)
  dsimp only [znV]
  generalize vZn ⟨⟨a, b⟩, ⟨c, d⟩, r, q⟩ = V at *
  cases h1 : isS ⟨a, b⟩
  · have Q1 := Lib.hid (p_isSpotV h1)
    have HE := Lib.hid (show V = false by rw [HB.out, h1]; rfl)
    clear h1 HB
    go_enter Tryz.func30, Tryz.ntmps30
    go_wp2_with fail
    refine (Q1.out _).mono ?_
    rintro e w1 ⟨rfl, hb1⟩
    go_wp2
    go_ret
    exact ⟨ret_bool HE.out.symm, by (repeat' (first | assumption | exact below_refl _ | refine bl_alloc ?_ _ | refine Below.setCell ?_ ?_ _ | refine below_draw ?_ | refine below_drewN ?_ _ | refine below_tr ?_ (by assumption))) <;> (first | omega | (simp; done) | (simp; omega))⟩
  have Q1 := Lib.hid (p_isSpotV h1)
  cases h2 : isS ⟨c, d⟩
  · have Q2 := Lib.hid (p_isSpotV h2)
    have HE := Lib.hid (show V = false by rw [HB.out, h1, h2]; rfl)
    clear h1 h2 HB
    go_enter Tryz.func30, Tryz.ntmps30
    go_wp2_with fail
    refine (Q1.out _).mono ?_
    rintro e w1 ⟨rfl, hb1⟩
    obtain ⟨hc1, hf1⟩ := bcell hb1
    have z1 : w.heap.size < w1.heap.size := by have := hb1.size; simp at this; omega
    go_wp2_with fail
    refine (Q2.out _).mono ?_
    rintro e w2 ⟨rfl, hb2⟩
    go_wp2
    go_ret
    exact ⟨ret_bool HE.out.symm, by (repeat' (first | assumption | exact below_refl _ | refine bl_alloc ?_ _ | refine Below.setCell ?_ ?_ _ | refine below_draw ?_ | refine below_drewN ?_ _ | refine below_tr ?_ (by assumption))) <;> (first | omega | (simp; done) | (simp; omega))⟩
  have Q2 := Lib.hid (p_isSpotV h2)
  rcases (by by_cases x : a = c <;> by_cases y : b = d <;> simp [x, y] : (a = c ∧ b = d) ∨ (a ≠ c) ∨ (a = c ∧ b ≠ d)) with ⟨rfl, rfl⟩ | h3 | ⟨rfl, h3⟩
  · have HE := Lib.hid (show V = false by rw [HB.out]; simp)
    clear h1 h2 HB
    go_enter Tryz.func30, Tryz.ntmps30
    go_wp2_with fail
    refine (Q1.out _).mono ?_
    rintro e w1 ⟨rfl, hb1⟩
    obtain ⟨hc1, hf1⟩ := bcell hb1
    have z1 : w.heap.size < w1.heap.size := by have := hb1.size; simp at this; omega
    go_wp2_with fail
    refine (Q2.out _).mono ?_
    rintro e w2 ⟨rfl, hb2⟩
    obtain ⟨hc2, hf2⟩ := bcell hb2
    have z2 : w.heap.size < w2.heap.size := by have := hb2.size; omega
    go_wp2
    go_ret
    exact ⟨ret_bool HE.out.symm, by (repeat' (first | assumption | exact below_refl _ | refine bl_alloc ?_ _ | refine Below.setCell ?_ ?_ _ | refine below_draw ?_ | refine below_drewN ?_ _ | refine below_tr ?_ (by assumption))) <;> (first | omega | (simp; done) | (simp; omega))⟩
  all_goals
    cases h4 : wn r 1 20000 <;> cases h5 : wn q 0 1000
    all_goals
      have HE := Lib.hid (show V = (wn r 1 20000 && wn q 0 1000) by rw [HB.out, h1, h2]; simp [h3])
      rw [h4, h5] at HE
      have QS := Lib.hid (p_sizedV (show (wn r 1 20000 && wn q 0 1000) = _ by rw [h4, h5]))
      clear h1 h2 HB h4 h5
      go_enter Tryz.func30, Tryz.ntmps30
      go_wp2_with fail
      refine (Q1.out _).mono ?_
      rintro e w1 ⟨rfl, hb1⟩
      obtain ⟨hc1, hf1⟩ := bcell hb1
      have z1 : w.heap.size < w1.heap.size := by have := hb1.size; simp at this; omega
      go_wp2_with fail
      refine (Q2.out _).mono ?_
      rintro e w2 ⟨rfl, hb2⟩
      obtain ⟨hc2, hf2⟩ := bcell hb2
      have z2 : w.heap.size < w2.heap.size := by have := hb2.size; omega
      go_wp2_with (go_at_call 50; ((with_reducible refine (QS.out _).mono ?_); rintro e w' ⟨rfl, rfl⟩))
      go_ret
      exact ⟨ret_bool HE.out.symm, by (repeat' (first | assumption | exact below_refl _ | refine bl_alloc ?_ _ | refine Below.setCell ?_ ?_ _ | refine below_draw ?_ | refine below_drewN ?_ _ | refine below_tr ?_ (by assumption))) <;> (first | omega | (simp; done) | (simp; omega))⟩
end Go.Proofs.YthklgkgincebhaaGreatDoor
