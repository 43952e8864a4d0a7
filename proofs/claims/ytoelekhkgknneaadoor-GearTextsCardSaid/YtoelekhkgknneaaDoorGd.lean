/- Gear: ContainsFunc at items; Valid. -/
import Derived.Test.YtoelekhkgknneaaDoorGc
set_option linter.unusedSimpArgs false
set_option linter.unusedVariables false
namespace Go.Proofs.YtoelekhkgknneaaDoor
open Go.RowKit Go.Maps

theorem p_isDay (n : Int) (w : World) : Calls Tryd.prog 77 #[.int .i64 n] w fun e w' => e = .returned (.bool (wn n 0 100000)) ∧ w = w' := by
  go_enter Tryd.func77, Tryd.ntmps77
  go_wp2_with (go_at_call 72; ((with_reducible refine (p_within n 0 100000 _).mono ?_); rintro e w' ⟨rfl, rfl⟩))
  go_ret
  exact ⟨rfl, rfl⟩
theorem p_isDayV {n : Int} {b : Bool} (h : wn n 0 100000 = b) (w : World) : Calls Tryd.prog 77 #[.int .i64 n] w fun e w' => e = .returned (.bool b) ∧ w = w' := h ▸ p_isDay n w
set_option maxHeartbeats 1000000 in
set_option maxRecDepth 20000 in
theorem p_Valid1 (x : It) (w : World) (iw : IW x) :
    Calls Tryd.prog 75 #[itV x] w fun e w' => e = .returned (.bool (!sndI x)) ∧ Below w.heap.size w w' := by
  have HN := Lib.hid (fun (v : Bool) (h : nmB x.nm = v) W => calls_bool h (p_isName x.nm W iw.m))
  have HBt := Lib.hid (fun (v : Bool) (h : nmB x.bt = v) W => calls_bool h (p_isName x.bt W iw.b))
  clear iw
  rcases (by cases nmB x.nm <;> cases nmB x.bt <;> cases wn x.ld 1 1000000 <;> cases wn x.du 0 100000 <;> simp : nmB x.nm = false ∨ (nmB x.nm = true ∧ wn x.ld 1 1000000 = false) ∨ (nmB x.nm = true ∧ wn x.ld 1 1000000 = true ∧ wn x.du 0 100000 = false) ∨ (nmB x.nm = true ∧ wn x.ld 1 1000000 = true ∧ wn x.du 0 100000 = true ∧ nmB x.bt = false) ∨ (nmB x.nm = true ∧ wn x.ld 1 1000000 = true ∧ wn x.du 0 100000 = true ∧ nmB x.bt = true)) with h1 | ⟨h1, h2⟩ | ⟨h1, h2, h3⟩ | ⟨h1, h2, h3, h4⟩ | ⟨h1, h2, h3, h4⟩
  · have HE := Lib.hid (show (!sndI x) = true by unfold sndI; simp [h1])
    have Q1 := Lib.hid (HN.out _ h1)
    clear HN HBt h1
    go_enter Tryd.func75, Tryd.ntmps75
    go_wp2_with (go_at_call 76; ((with_reducible refine (Q1.out _).mono ?_); rintro e w' ⟨rfl, rfl⟩))
    go_ret
    exact ⟨ret_bool (by rw [HE.out]), by (repeat' (first | assumption | exact below_refl _ | refine bl_alloc ?_ _ | refine Below.setCell ?_ ?_ _ | refine below_draw ?_ | refine below_drewN ?_ _ | refine below_tr ?_ (by assumption))) <;> (first | omega | (simp; done) | (simp; omega))⟩
  · have HE := Lib.hid (show (!sndI x) = true by unfold sndI; simp [h2])
    have Q1 := Lib.hid (HN.out _ h1)
    have Q2 := Lib.hid (p_withinV h2)
    clear HN HBt h1 h2
    go_enter Tryd.func75, Tryd.ntmps75
    go_wp2_with (first | (go_at_call 76; ((with_reducible refine (Q1.out _).mono ?_); rintro e w' ⟨rfl, rfl⟩)) | (go_at_call 72; ((with_reducible refine (Q2.out _).mono ?_); rintro e w' ⟨rfl, rfl⟩)))
    go_ret
    exact ⟨ret_bool (by rw [HE.out]), by (repeat' (first | assumption | exact below_refl _ | refine bl_alloc ?_ _ | refine Below.setCell ?_ ?_ _ | refine below_draw ?_ | refine below_drewN ?_ _ | refine below_tr ?_ (by assumption))) <;> (first | omega | (simp; done) | (simp; omega))⟩
  · have HE := Lib.hid (show (!sndI x) = true by unfold sndI; simp [h3])
    have Q1 := Lib.hid (HN.out _ h1)
    have Q2 := Lib.hid (p_withinV h2)
    have Q3 := Lib.hid (p_isDayV h3)
    clear HN HBt h1 h2 h3
    go_enter Tryd.func75, Tryd.ntmps75
    go_wp2_with (first | (go_at_call 76; ((with_reducible refine (Q1.out _).mono ?_); rintro e w' ⟨rfl, rfl⟩)) | (go_at_call 72; ((with_reducible refine (Q2.out _).mono ?_); rintro e w' ⟨rfl, rfl⟩)) | (go_at_call 77; ((with_reducible refine (Q3.out _).mono ?_); rintro e w' ⟨rfl, rfl⟩)))
    go_ret
    exact ⟨ret_bool (by rw [HE.out]), by (repeat' (first | assumption | exact below_refl _ | refine bl_alloc ?_ _ | refine Below.setCell ?_ ?_ _ | refine below_draw ?_ | refine below_drewN ?_ _ | refine below_tr ?_ (by assumption))) <;> (first | omega | (simp; done) | (simp; omega))⟩
  all_goals
    have HE := Lib.hid (show (!sndI x) = !nmB x.bt by unfold sndI; simp [h1, h2, h3])
    rw [h4] at HE
    have Q1 := Lib.hid (HN.out _ h1)
    have Q2 := Lib.hid (p_withinV h2)
    have Q3 := Lib.hid (p_isDayV h3)
    have Q4 := Lib.hid (HBt.out _ h4)
    clear HN HBt h1 h2 h3 h4
    go_enter Tryd.func75, Tryd.ntmps75
    go_wp2_with (first | (go_at_call 76; ((with_reducible refine (Q1.out _).mono ?_); rintro e w' ⟨rfl, rfl⟩)) | (go_at_call 72; ((with_reducible refine (Q2.out _).mono ?_); rintro e w' ⟨rfl, rfl⟩)) | (go_at_call 77; ((with_reducible refine (Q3.out _).mono ?_); rintro e w' ⟨rfl, rfl⟩)) | (go_at_call 76; ((with_reducible refine (Q4.out _).mono ?_); rintro e w' ⟨rfl, rfl⟩)))
    go_ret
    exact ⟨ret_bool (by rw [HE.out]; rfl), by (repeat' (first | assumption | exact below_refl _ | refine bl_alloc ?_ _ | refine Below.setCell ?_ ?_ _ | refine below_draw ?_ | refine below_drewN ?_ _ | refine below_tr ?_ (by assumption))) <;> (first | omega | (simp; done) | (simp; omega))⟩
theorem c_indexI (A : Option Addr) (l : List (It)) (c : Nat) (p : It → Bool) (f : FuncId) (cap : Array Value) (w : World) (hl : l.length ≤ 100000) (hR : Rd It.cs 4 w A l)
    (he : ∀ args W, (callFunc f args).run Tryd.prog W = .ok (.enter f args) W)
    (hf : ∀ W x, Below w.heap.size w W → x ∈ l → Calls Tryd.prog f (#[itV x] ++ cap) W fun e W' => e = .returned (.bool (p x)) ∧ Below W.heap.size W W') :
    Calls Tryd.prog 115 #[.slice A l.length c, .func (.func f) #[] cap] w fun e w' => e = .returned (.int .i64 (idxOf p l 0)) ∧ Below w.heap.size w w' := by
  have HF := Lib.hid hf
  clear hf
  go_enter Tryd.func115, Tryd.ntmps115
  go_wp2
  go_loopw [8] (fun i wr => ∃ k : Nat, k ≤ l.length ∧ i = .int .i64 k ∧ Below w.heap.size w wr ∧ Hid (idxOf p l 0 = idxOf p (l.drop k) k)) (fun i _ => l.length - (intOf i).toNat)
  case atStart => exact ⟨0, by omega, rfl, Below.refl _ _, rfl⟩
  case round =>
    obtain ⟨k, hk, rfl, hB, HI⟩ := hrel
    by_cases hlt : k < l.length
    · obtain ⟨x, b, off, hx, rfl, hb, c0, c1, c2, c3⟩ := rdI (hR.on hB) hlt
      have HD := Lib.hid (idxOf_drop p l k x hx)
      have hm := List.mem_of_getElem? hx
      have HC := Lib.hid (HF.out wr x hB hm)
      clear hx hm
      cases hp : p x
      all_goals
        have HP := Lib.hid hp
        clear hp
        go_wp2_with fail
        refine HC.out.mono ?_
        rintro e w1 ⟨rfl, hb1⟩
        rw [HP.out]
        go_wp2
      · go_roundw
        case rel => exact ⟨k + 1, by omega, by go_num, hB.trans (hb1.mono hB.size), by rw [HI.out, HD.out, HP.out]; rfl⟩
        case measure => simp [intOf]; omega
      · go_ret
        exact ⟨ret_int (by rw [HI.out, HD.out, HP.out]; rfl), hB.trans (hb1.mono hB.size)⟩
    · go_wp2
      go_ret
      exact ⟨ret_int (by rw [HI.out, List.drop_of_length_le (by omega)]; rfl), hB⟩

theorem c_containsI (A : Option Addr) (l : List (It)) (c : Nat) (p : It → Bool) (f : FuncId) (cap : Array Value) (w : World) (hl : l.length ≤ 100000) (hR : Rd It.cs 4 w A l)
    (he : ∀ args W, (callFunc f args).run Tryd.prog W = .ok (.enter f args) W)
    (hf : ∀ W x, Below w.heap.size w W → x ∈ l → Calls Tryd.prog f (#[itV x] ++ cap) W fun e W' => e = .returned (.bool (p x)) ∧ Below W.heap.size W W') :
    Calls Tryd.prog 74 #[.slice A l.length c, .func (.func f) #[] cap] w fun e w' => e = .returned (.bool (l.any p)) ∧ Below w.heap.size w w' := by
  have HC := Lib.hid (c_indexI A l c p f cap w hl hR he hf)
  have HA := Lib.hid (idxOf_nonneg p l 0)
  clear he hf hR
  go_enter Tryd.func74, Tryd.ntmps74
  go_wp2_with (go_at_call 115; refine HC.out.mono ?_; rintro e w' ⟨rfl, hb⟩)
  go_ret
  exact ⟨ret_bool (by rw [Bool.eq_iff_iff, ← HA.out]; simp), hb⟩

theorem any_nsnd (g : List It) : (g.any fun x => !sndI x) = !g.all sndI := by induction g <;> simp_all
set_option maxHeartbeats 1000000 in
set_option maxRecDepth 20000 in
theorem p_Valid (A : Option Addr) (g : List It) (c : Nat) (w : World) (hl : g.length ≤ 100000) (hR : Rd It.cs 4 w A g) (hW : ∀ x ∈ g, IW x) :
    Calls Tryd.prog 38 #[.slice A g.length c] w fun e w' => e = .returned (.bool (vldG g)) ∧ Below w.heap.size w w' := by
  have HC := Lib.hid (c_containsI A g c (fun x => !sndI x) 75 #[] w hl hR (fun _ _ => rfl) (fun W x _ hx => p_Valid1 x W (hW x hx)))
  rw [any_nsnd] at HC
  have HM := Lib.hid (fun W (h : Below w.heap.size w W) => p_byMark A g c W hl (hR.on h) hW)
  rw [vldG_is]
  clear hR hW
  have HS := Lib.hid (size_dst g)
  cases hs : g.all sndI <;> rw [hs] at HC
  · go_enter Tryd.func38, Tryd.ntmps38
    go_wp2_with (go_at_call 74; refine HC.out.mono ?_; rintro e w' ⟨rfl, hb⟩)
    all_goals
      go_ret
      exact ⟨ret_bool (by first | rfl | (rw [Bool.false_and, Bool.and_false]) | simp), hb⟩
  · go_enter Tryd.func38, Tryd.ntmps38
    go_wp2_with (first
      | (go_at_call 74; refine HC.out.mono ?_; rintro e w' ⟨rfl, hb⟩)
      | (go_at_call 78; refine (HM.out _ hb).mono ?_; rintro e w2 ⟨rfl, hown, hb2⟩; have hlen := hown.len und_map 3))
    all_goals go_ret
    · exact ⟨ret_bool (by rw [HS.out]; simp; intro _; omega), hb.trans (hb2.mono hb.size)⟩
    · exact ⟨ret_bool (by simp; intro; omega), hb⟩
end Go.Proofs.YtoelekhkgknneaaDoor
