/- Fell: beyond and direction of the reference. -/
import Derived.Test.YtkeojokbpjdhpaaGreatDoorFwa
import Derived.Deep.DeepCutAuto
import Derived.Outline
set_option linter.unusedSimpArgs false
set_option linter.unusedVariables false
namespace Go.Proofs.YtkeojokbpjdhpaaGreatDoor
open Go.RowKit

def byK (l : List Sp) (v s : Sp) (k : Nat) : Bool := (l.take k).all fun q => decide (vdot v (vec q s) ≤ 0)
theorem byK_step {l : List Sp} {v s x : Sp} {k : Nat} (hx : l[k]? = some x) (h : byK l v s k = true) (h1 : vdot v (vec x s) ≤ 0) : byK l v s (k + 1) = true := by
  unfold byK at *; rw [List.take_add_one, hx, List.all_append, h]; simp [h1]
theorem byK_all {l : List Sp} {v s : Sp} (h : byK l v s l.length = true) : byB l v s = true := by unfold byK at h; rwa [List.take_length] at h
theorem byB_no {l : List Sp} {v s x : Sp} {k : Nat} (hx : l[k]? = some x) (h1 : ¬ vdot v (vec x s) ≤ 0) : byB l v s = false := by
  unfold byB; rw [List.all_eq_false]; exact ⟨x, List.mem_of_getElem? hx, by simpa using h1⟩
set_option maxHeartbeats 4000000 in
theorem r_beyond (A : Option Addr) (l : List Sp) (c : Nat) (v s : Sp) (w : World) (hl : l.length ≤ 1000) (hbd : ∀ x ∈ l, Bd 10000 x) (hv : Bd 20000 v) (hs : Bd 10000 s) (hR : Rd Sp.cs 2 w A l) :
    Calls Tryz.prog 83 #[.slice A l.length c, spV v, spV s] w fun e w' => e = .returned (.bool (byB l v s)) ∧ Below w.heap.size w w' := by
  have HBD := Lib.hid hbd
  have HS := Lib.hid hs
  have HV := Lib.hid hv
  obtain ⟨W1, hW1⟩ : ∃ W1, W1 = (w.alloc (.cells (spA v) 24)).alloc (.cells (spA s) 24) := ⟨_, rfl⟩
  have x0 : Blk W1 w.heap.size 24 (spA v) := by rw [hW1]; exact (Blk.new w 24 (spA v)).alloc (.cells (spA s) 24)
  have y0 : Blk W1 (w.heap.size + 1) 24 (spA s) := by
    have := Blk.new (w.alloc (.cells (spA v) 24)) 24 (spA s)
    rw [World.size_alloc] at this
    rw [hW1]; exact this
  have B0 : Below w.heap.size w W1 := by rw [hW1]; exact bl_alloc (bl_alloc (below_refl w) (.cells (spA v) 24)) (.cells (spA s) 24)
  have HB := Lib.hid (show byB l v s = byB l v s from rfl)
  obtain ⟨R, hRR⟩ : ∃ R, R = byB l v s := ⟨_, rfl⟩
  have HY := Lib.hid (fun (h : byK l v s l.length = true) => (hRR.trans (byB_iff.2 (byB_iff.1 (byK_all h))) : R = true))
  have HN := Lib.hid (fun k x (hx : l[k]? = some x) (h1 : ¬ vdot v (vec x s) ≤ 0) => (hRR.trans (byB_no hx h1) : R = false))
  rw [← hRR]
  clear hbd hs hv hRR HB
  go_enter Tryz.func83, Tryz.ntmps83
  go_wp2_with fail
  rw [show ((w.alloc (.cells #[.int .i64 v.x, .int .i64 v.y] 24)).alloc (.cells #[.int .i64 s.x, .int .i64 s.y] 24)) = W1 from hW1.symm]
  clear hW1
  go_loopw [7] (fun i wr => ∃ k : Nat, k ≤ l.length ∧ i = .int .i64 k ∧ Below w.heap.size w wr ∧ Blk wr w.heap.size 24 (spA v) ∧ Blk wr (w.heap.size + 1) 24 (spA s) ∧ Hid (byK l v s k = true)) (fun i _ => l.length - (intOf i).toNat)
  case atStart => exact ⟨0, by omega, rfl, B0, x0, y0, Lib.hid rfl⟩
  case round =>
    clear B0 x0 y0
    obtain ⟨k, hk, rfl, hbw, xb, yb, HI⟩ := hrel
    have k0 : (0 : Int) ≤ (k : Int) := Int.natCast_nonneg _
    by_cases hlt : k < l.length
    · have k1 : (k : Int) < (l.length : Int) := by omega
      obtain ⟨x, b, off, hx, rfl, hb, c0, c1⟩ := rdS (hR.on hbw) hlt
      have bx := HBD.out x (List.mem_of_getElem? hx)
      have bu : Bd 20000 (vec x s) := vec_bd (m := 10000) (n := 10000) bx HS.out
      have HM := Lib.hid (fun W => r_minus x s W (bx.mono (by omega)) (HS.out.mono (by omega)))
      have HD := Lib.hid (fun W => r_Dot v (vec x s) W (HV.out.mono (by omega)) (bu.mono (by omega)))
      have HST := Lib.hid (fun h => byK_step hx HI.out h)
      have HNO := Lib.hid (HN.out k x hx)
      have p0 := xb.cell 0
      have p1 := xb.cell 1
      have q0 := yb.cell 0
      have q1 := yb.cell 1
      simp only [List.getElem?_toArray, List.getElem?_cons_zero, List.getElem?_cons_succ] at p0 p1 q0 q1
      have zx := xb.lt
      have zy := yb.lt
      clear hx bx bu HI
      generalize vec x s = u at *
      generalize vdot v u = D at *
      rename World => wk
      by_cases hD : D ≤ 0
      · have d1 : decide (0 < D) = false := decide_eq_false (by omega)
        have HK := Lib.hid (HST.out hD)
        clear HST HNO
        go_wp2_with fail
        go_region_held3 (fun w' => (∀ b o, b < wk.heap.size → w'.cell? ⟨b, o, none⟩ = wk.cell? ⟨b, o, none⟩) ∧ (∀ b o, b < wk.heap.size → w'.frozen? ⟨b, o, none⟩ = wk.frozen? ⟨b, o, none⟩) ∧ Below wk.heap.size wk w') ((first | assumption | (refine kp_of ?_; (repeat' (first | assumption | exact below_refl _ | refine bl_alloc ?_ _ | refine Below.setCell ?_ ?_ _ | refine below_draw ?_ | refine below_drewN ?_ _ | refine below_tr ?_ (by assumption))) <;> (first | omega | (simp; done) | (simp; omega))))) ((first | (go_at_call 72; ((with_reducible refine (HM.out _).mono ?_); rintro e w3 ⟨rfl, hb3⟩; obtain ⟨hc3, hf3⟩ := bcell hb3; have hz3 := hb3.size; (try simp [sz_drew, sz_drewN] at hz3); (try simp only [sz_drew, sz_drewN] at hc3 hf3))) | (go_at_call 73; ((with_reducible refine (HD.out _).mono ?_); rintro e w4 ⟨rfl, hb4⟩; obtain ⟨hc4, hf4⟩ := bcell hb4; have hz4 := hb4.size; (try simp [sz_drew, sz_drewN] at hz4); (try simp only [sz_drew, sz_drewN] at hc4 hf4)))))
        go_wp2
        go_roundw
        case rel => exact ⟨k + 1, by omega, by go_num, below_tr hbw (by (repeat' (first | assumption | exact below_refl _ | refine bl_alloc ?_ _ | refine Below.setCell ?_ ?_ _ | refine below_draw ?_ | refine below_drewN ?_ _ | refine below_tr ?_ (by assumption))) <;> (first | omega | (simp; done) | (simp; omega))), xb.below (by (repeat' (first | assumption | exact below_refl _ | refine bl_alloc ?_ _ | refine Below.setCell ?_ ?_ _ | refine below_draw ?_ | refine below_drewN ?_ _ | refine below_tr ?_ (by assumption))) <;> (first | omega | (simp; done) | (simp; omega))) xb.lt, yb.below (by (repeat' (first | assumption | exact below_refl _ | refine bl_alloc ?_ _ | refine Below.setCell ?_ ?_ _ | refine below_draw ?_ | refine below_drewN ?_ _ | refine below_tr ?_ (by assumption))) <;> (first | omega | (simp; done) | (simp; omega))) yb.lt, HK.out⟩
        case measure => simp [intOf]; omega
      · have d1 : decide (0 < D) = true := decide_eq_true (by omega)
        have HK := Lib.hid (HNO.out (by omega))
        clear HST HNO
        go_wp2_with fail
        go_region_held3 (fun w' => (∀ b o, b < wk.heap.size → w'.cell? ⟨b, o, none⟩ = wk.cell? ⟨b, o, none⟩) ∧ (∀ b o, b < wk.heap.size → w'.frozen? ⟨b, o, none⟩ = wk.frozen? ⟨b, o, none⟩) ∧ Below wk.heap.size wk w') ((first | assumption | (refine kp_of ?_; (repeat' (first | assumption | exact below_refl _ | refine bl_alloc ?_ _ | refine Below.setCell ?_ ?_ _ | refine below_draw ?_ | refine below_drewN ?_ _ | refine below_tr ?_ (by assumption))) <;> (first | omega | (simp; done) | (simp; omega))))) ((first | (go_at_call 72; ((with_reducible refine (HM.out _).mono ?_); rintro e w3 ⟨rfl, hb3⟩; obtain ⟨hc3, hf3⟩ := bcell hb3; have hz3 := hb3.size; (try simp [sz_drew, sz_drewN] at hz3); (try simp only [sz_drew, sz_drewN] at hc3 hf3))) | (go_at_call 73; ((with_reducible refine (HD.out _).mono ?_); rintro e w4 ⟨rfl, hb4⟩; obtain ⟨hc4, hf4⟩ := bcell hb4; have hz4 := hb4.size; (try simp [sz_drew, sz_drewN] at hz4); (try simp only [sz_drew, sz_drewN] at hc4 hf4)))))
        go_wp2
        go_ret
        exact ⟨ret_bool HK.out.symm, below_tr hbw (by (repeat' (first | assumption | exact below_refl _ | refine bl_alloc ?_ _ | refine Below.setCell ?_ ?_ _ | refine below_draw ?_ | refine below_drewN ?_ _ | refine below_tr ?_ (by assumption))) <;> (first | omega | (simp; done) | (simp; omega)))⟩
    · obtain rfl : k = l.length := by omega
      have HK := Lib.hid (HY.out HI.out)
      go_wp2
      go_ret
      exact ⟨ret_bool HK.out.symm, hbw⟩
/-- a vector in a box -/
def Pt (w : World) (g : Nat) (v : Sp) : Prop := w.cell? ⟨g, 0, none⟩ = some (.int .i64 v.x) ∧ w.cell? ⟨g, 1, none⟩ = some (.int .i64 v.y) ∧ g < w.heap.size
theorem Pt.below {w w' : World} {g : Nat} {v : Sp} (h : Pt w g v) (hb : Below w.heap.size w w') : Pt w' g v := by
  obtain ⟨h1, h2, h3⟩ := h
  exact ⟨by rw [(bcell hb).1 _ _ h3]; exact h1, by rw [(bcell hb).1 _ _ h3]; exact h2, Nat.lt_of_lt_of_le h3 hb.size⟩
theorem Pt.drew {w : World} {g : Nat} {v : Sp} (h : Pt w g v) : Pt w.drew g v := h
theorem Pt.of {w : World} {g : Nat} {v : Sp} (h : Blk w g 24 (spA v)) : Pt w g v := by
  have h0 := h.cell 0
  have h1 := h.cell 1
  simp only [List.getElem?_toArray, List.getElem?_cons_zero, List.getElem?_cons_succ] at h0 h1
  exact ⟨h0, h1, h.lt⟩
theorem Pt.set {w : World} {g b i : Nat} {u : Value} {v : Sp} (h : Pt w g v) (hg : g ≠ b) : Pt (w.setCell ⟨b, i, none⟩ u) g v := by
  obtain ⟨h1, h2, h3⟩ := h
  exact ⟨by rw [World.cell?_setCell_far _ _ _ _ (show b ≠ g from fun e => hg e.symm)]; exact h1, by rw [World.cell?_setCell_far _ _ _ _ (show b ≠ g from fun e => hg e.symm)]; exact h2, by rw [World.size_setCell]; exact h3⟩
set_option maxHeartbeats 8000000 in
set_option maxRecDepth 20000 in
theorem r_direction (A : Option Addr) (l : List Sp) (c : Nat) (s : Sp) (w : World) (hl : l.length ≤ 1000) (hne : l ≠ []) (hbd : ∀ x ∈ l, Bd 10000 x) (hnd : l.Nodup) (hs : Bd 10000 s) (hw : ¬ Held l s) (hR : Rd Sp.cs 2 w A l) :
    Calls Tryz.prog 75 #[.slice A l.length c, spV s] w fun e w' => e = .returned (spV (dirZ l s)) ∧ Below w.heap.size w w' := by
  have HBD := Lib.hid hbd
  have HS := Lib.hid hs
  obtain ⟨W1, hW1⟩ : ∃ W1, W1 = (w.alloc (.cells (spA s) 24)).alloc (.cells #[.int .i64 0, .int .i64 0] 24) := ⟨_, rfl⟩
  have x0 : Blk W1 w.heap.size 24 (spA s) := by rw [hW1]; exact (Blk.new w 24 (spA s)).alloc (.cells #[.int .i64 0, .int .i64 0] 24)
  have y0 : Blk W1 (w.heap.size + 1) 24 #[.int .i64 0, .int .i64 0] := by
    have := Blk.new (w.alloc (.cells (spA s) 24)) 24 #[.int .i64 0, .int .i64 0]
    rw [World.size_alloc] at this
    rw [hW1]; exact this
  have B0 : Below w.heap.size w W1 := by rw [hW1]; exact bl_alloc (bl_alloc (below_refl w) (.cells (spA s) 24)) (.cells #[.int .i64 0, .int .i64 0] 24)
  have HZ := dirZ_dir hbd hnd hne hw
  obtain ⟨R, hRR⟩ : ∃ R, R = dirZ l s := ⟨_, rfl⟩
  rw [← hRR] at HZ ⊢
  have HCN := Lib.hid (fun i x (hx : l[i]? = some x) (h : cnB l s x = true) => (show Nz (vec s x) ∧ shZ (vec s x) = R from (by
    have := hit_corner hw (List.mem_of_getElem? hx) h
    exact ⟨this.1, dirP_uniq this.2 HZ⟩)))
  have HSD := Lib.hid (fun i k x y (hx : l[i]? = some x) (hy : l[k]? = some y) (h : sdB l s x y = true) => (show Nz (vS x y s) ∧ shZ (vS x y s) = R from (by
    have := hit_side hw (List.mem_of_getElem? hx) (List.mem_of_getElem? hy) h
    exact ⟨this.1, dirP_uniq this.2 HZ⟩)))
  have HEX := Lib.hid (hit_ex hbd hnd hne hw)
  clear hbd hnd hne hw hs HZ hRR
  go_enter Tryz.func75, Tryz.ntmps75
  go_wp2_with fail
  rw [show ((w.alloc (.cells #[.int .i64 s.x, .int .i64 s.y] 24)).alloc (.cells #[.int .i64 0, .int .i64 0] 24)) = W1 from hW1.symm]
  clear hW1
  go_loopw [5] (fun i wr => ∃ k : Nat, k ≤ l.length ∧ i = .int .i64 k ∧ Below w.heap.size w wr ∧ Blk wr w.heap.size 24 (spA s) ∧ Blk wr (w.heap.size + 1) 24 #[.int .i64 0, .int .i64 0] ∧ Hid (∀ i, i < k → cnB l s (gl l i) = false ∧ ∀ j, j < i → sdB l s (gl l i) (gl l j) = false)) (fun i _ => l.length - (intOf i).toNat)
  case atStart => exact ⟨0, by omega, rfl, B0, x0, y0, Lib.hid (fun i hi => absurd hi (by omega))⟩
  case round =>
    clear B0 x0 y0
    obtain ⟨k, hk, rfl, hbw, xb, yb, HI⟩ := hrel
    have k0 : (0 : Int) ≤ (k : Int) := Int.natCast_nonneg _
    by_cases hlt : k < l.length
    · have k1 : (k : Int) < (l.length : Int) := by omega
      obtain ⟨x, b, off, hx, rfl, hb, c0, c1⟩ := rdS (hR.on hbw) hlt
      have bx := HBD.out x (List.mem_of_getElem? hx)
      have bu : Bd 20000 (vec s x) := vec_bd (m := 10000) (n := 10000) HS.out bx
      have HM := Lib.hid (fun W => r_minus s x W (HS.out.mono (by omega)) (bx.mono (by omega)))
      have HBY := Lib.hid (fun (W : World) (hW : Below w.heap.size w W) => r_beyond (some ⟨b, off, none⟩) l c (vec s x) x W hl HBD.out bu bx (hR.on hW))
      have HX := Lib.hid hx
      have p0 := xb.cell 0
      have p1 := xb.cell 1
      simp only [List.getElem?_toArray, List.getElem?_cons_zero, List.getElem?_cons_succ] at p0 p1
      have zx := xb.lt
      have HVV := Lib.hid (show vec s x = vec s x from rfl)
      obtain ⟨V, hV⟩ : ∃ V, V = vec s x := ⟨_, rfl⟩
      rw [← hV] at HM HBY bu
      have HV := Lib.hid hV
      clear hx hV HVV
      rename World => wk
      go_wp2_with fail
      go_cut [6] (fun s6 wx => ∃ gm : Nat, s6 = .pointer (some ⟨gm, 0, none⟩) ∧ Pt wx gm V ∧ Below wk.heap.size wk wx)
      case first =>
        go_region_held3 (fun w' => (∀ b o, b < wk.heap.size → w'.cell? ⟨b, o, none⟩ = wk.cell? ⟨b, o, none⟩) ∧ (∀ b o, b < wk.heap.size → w'.frozen? ⟨b, o, none⟩ = wk.frozen? ⟨b, o, none⟩) ∧ Below wk.heap.size wk w') ((first | assumption | (refine kp_of ?_; (repeat' (first | assumption | exact below_refl _ | refine bl_alloc ?_ _ | refine Below.setCell ?_ ?_ _ | refine below_draw ?_ | refine below_drewN ?_ _ | refine below_tr ?_ (by assumption))) <;> (first | omega | (simp; done) | (simp; omega))))) ((first | (go_at_call 72; ((with_reducible refine (HM.out _).mono ?_); rintro e w3 ⟨rfl, hb3⟩; obtain ⟨hc3, hf3⟩ := bcell hb3; have hz3 := hb3.size; (try simp [sz_drew, sz_drewN] at hz3); (try simp only [sz_drew, sz_drewN] at hc3 hf3); (try (refine (fun (y3_0 : wk.heap.size < w3.heap.size) => ?_) ?_; rotate_left; omega)); (try (refine (fun (v3_0 : wk.heap.size ≤ w3.heap.size) => ?_) ?_; rotate_left; omega)); (try (refine (fun (y3_1 : wk.heap.size + 1 < w3.heap.size) => ?_) ?_; rotate_left; omega)); (try (refine (fun (v3_1 : wk.heap.size + 1 ≤ w3.heap.size) => ?_) ?_; rotate_left; omega))))))
        all_goals go_wp2
        all_goals go_meet
        all_goals (have L2 : ∀ n : Nat, n < n + 1 + 1 := fun n => by omega)
        all_goals exact ⟨_, rfl, ⟨by (first | (go_simp; done) | (go_simp; refine World.cell?_setCell_same (u := .int .i64 0) _ _ _ ?_; go_simp)), by (first | (go_simp; done) | (go_simp; refine World.cell?_setCell_same (u := .int .i64 0) _ _ _ ?_; go_simp)), by (simp [World.setCell] <;> omega)⟩, by (repeat' (first | assumption | exact below_refl _ | refine bl_alloc ?_ _ | refine Below.setCell ?_ ?_ _ | refine below_draw ?_ | refine below_drewN ?_ _ | refine below_tr ?_ (by assumption))) <;> (first | omega | (simp; done) | (simp; omega))⟩
      case rest =>
        obtain ⟨gm, rfl, hPt, hbx⟩ := hcut
        obtain ⟨wx, hwx⟩ : ∃ wx : World, wx = wc := ⟨wc, rfl⟩
        rw [← hwx] at hPt hbx ⊢
        clear hwx
        have BX := below_tr hbw hbx
        have x6 := xb.below hbx xb.lt
        have y6 := yb.below hbx yb.lt
        obtain ⟨e0, e1, el⟩ := hPt
        replace c0 := ((bcell hbx).1 _ _ hb).trans c0
        replace c1 := ((bcell hbx).1 _ _ hb).trans c1
        replace hb := Nat.lt_of_lt_of_le hb hbx.size
        clear p0 p1 zx HM xb yb hbw hbx
        go_wp2_with fail
        obtain ⟨B, hB⟩ : ∃ B, B = byB l V x := ⟨_, rfl⟩
        rw [← hB] at HBY
        cases B
        rotate_left
        · have HC := Lib.hid (HCN.out k x HX.out (show cnB l s x = true by unfold cnB; rw [← HV.out]; exact hB.symm))
          have HSH := Lib.hid (fun W => r_short V W (bu.mono (by omega)) (by rw [HV.out]; exact HC.out.1))
          have HE := Lib.hid (show shZ V = R by rw [HV.out]; exact HC.out.2)
          rw [HE.out] at HSH
          have r0 := y6.cell 0
          have r1 := y6.cell 1
          have q0 := y6.frozen 0
          have q1 := y6.frozen 1
          simp only [List.getElem?_toArray, List.getElem?_cons_zero, List.getElem?_cons_succ] at r0 r1
          have ly := y6.lt
          clear HC hB HI
          go_region_held3 (fun w' => (∀ b o, b < wx.heap.size → w'.cell? ⟨b, o, none⟩ = wx.cell? ⟨b, o, none⟩) ∧ (∀ b o, b < wx.heap.size → w'.frozen? ⟨b, o, none⟩ = wx.frozen? ⟨b, o, none⟩) ∧ Below wx.heap.size wx w') ((first | assumption | (refine kp_of ?_; (repeat' (first | assumption | exact below_refl _ | refine bl_alloc ?_ _ | refine Below.setCell ?_ ?_ _ | refine below_draw ?_ | refine below_drewN ?_ _ | refine below_tr ?_ (by assumption))) <;> (first | omega | (simp; done) | (simp; omega))))) ((first | (go_at_call 83; ((with_reducible refine (HBY.out _ (by (repeat' (first | assumption | exact below_refl _ | refine bl_alloc ?_ _ | refine Below.setCell ?_ ?_ _ | refine below_draw ?_ | refine below_drewN ?_ _ | refine below_tr ?_ (by assumption))) <;> (first | omega | (simp; done) | (simp; omega)))).mono ?_); rintro e w3 ⟨rfl, hb3⟩; obtain ⟨hc3, hf3⟩ := bcell hb3; have hz3 := hb3.size; (try simp [sz_drew, sz_drewN] at hz3); (try simp only [sz_drew, sz_drewN] at hc3 hf3)))))
          go_wp2_with fail
          refine (HSH.out _).mono ?_
          rintro e w10 ⟨rfl, hb10⟩
          have B10 : Below wx.heap.size wx w10 := by (repeat' (first | assumption | exact below_refl _ | refine bl_alloc ?_ _ | refine Below.setCell ?_ ?_ _ | refine below_draw ?_ | refine below_drewN ?_ _ | refine below_tr ?_ (by assumption))) <;> (first | omega | (simp; done) | (simp; omega))
          have y10 := y6.below B10 ly
          have t0 := y10.cell 0
          have t1 := y10.cell 1
          have u0 := y10.frozen 0
          have u1 := y10.frozen 1
          simp only [List.getElem?_toArray, List.getElem?_cons_zero, List.getElem?_cons_succ] at t0 t1
          have ly10 := y10.lt
          have BT := below_tr BX B10
          clear r0 r1 q0 q1
          go_wp2
          refine bodyPost_ret (v := spV R) (by simp [results, Tryz.results75, go_sem, *]) rfl ⟨rfl, ?_⟩
          (repeat' (first | assumption | exact below_refl _ | refine bl_alloc ?_ _ | refine Below.setCell ?_ ?_ _ | refine below_draw ?_ | refine below_drewN ?_ _ | refine below_tr ?_ (by assumption))) <;> (first | omega | (simp; done) | (simp; omega))
        · have HC := Lib.hid (show cnB l s x = false by unfold cnB; rw [← HV.out]; exact hB.symm)
          have HGX := Lib.hid (gl_of HX.out)
          have HNX := Lib.hid (fun (h : ∀ m, m < k → sdB l s (gl l k) (gl l m) = false) => (show ∀ i, i < k + 1 → cnB l s (gl l i) = false ∧ ∀ j, j < i → sdB l s (gl l i) (gl l j) = false from (by
            intro i hi
            by_cases e : i = k
            · subst e; exact ⟨by rw [HGX.out]; exact HC.out, h⟩
            · exact HI.out i (by omega))))
          clear hB HI
          go_region_held3 (fun w' => (∀ b o, b < wx.heap.size → w'.cell? ⟨b, o, none⟩ = wx.cell? ⟨b, o, none⟩) ∧ (∀ b o, b < wx.heap.size → w'.frozen? ⟨b, o, none⟩ = wx.frozen? ⟨b, o, none⟩) ∧ Below wx.heap.size wx w') ((first | assumption | (refine kp_of ?_; (repeat' (first | assumption | exact below_refl _ | refine bl_alloc ?_ _ | refine Below.setCell ?_ ?_ _ | refine below_draw ?_ | refine below_drewN ?_ _ | refine below_tr ?_ (by assumption))) <;> (first | omega | (simp; done) | (simp; omega))))) ((first | (go_at_call 83; ((with_reducible refine (HBY.out _ (by (repeat' (first | assumption | exact below_refl _ | refine bl_alloc ?_ _ | refine Below.setCell ?_ ?_ _ | refine below_draw ?_ | refine below_drewN ?_ _ | refine below_tr ?_ (by assumption))) <;> (first | omega | (simp; done) | (simp; omega)))).mono ?_); rintro e w3 ⟨rfl, hb3⟩; obtain ⟨hc3, hf3⟩ := bcell hb3; have hz3 := hb3.size; (try simp [sz_drew, sz_drewN] at hz3); (try simp only [sz_drew, sz_drewN] at hc3 hf3)))))
          go_wp2_with fail
          have B3 : Below wx.heap.size wx w3 := by (repeat' (first | assumption | exact below_refl _ | refine bl_alloc ?_ _ | refine Below.setCell ?_ ?_ _ | refine below_draw ?_ | refine below_drewN ?_ _ | refine below_tr ?_ (by assumption))) <;> (first | omega | (simp; done) | (simp; omega))
          have hbw3 := below_tr BX B3
          have xb3 := x6.below B3 x6.lt
          have yb3 := y6.below B3 y6.lt
          clear BX x6 y6 e0 e1 el c0 c1 hb hb3 hc3 hf3 hz3 B3 HBY HC bu HV
          go_loopw [7] (fun m wr => ∃ j : Nat, j ≤ k ∧ m = .int .i64 j ∧ Below w.heap.size w wr ∧ Blk wr w.heap.size 24 (spA s) ∧ Blk wr (w.heap.size + 1) 24 #[.int .i64 0, .int .i64 0] ∧ Hid (∀ m, m < j → sdB l s (gl l k) (gl l m) = false)) (fun m _ => k - (intOf m).toNat)
          case atStart => exact ⟨0, by omega, rfl, hbw3, xb3, yb3, Lib.hid (fun m hm => absurd hm (by omega))⟩
          case round =>
            clear hbw3 xb3 yb3
            obtain ⟨j, hj, rfl, hbw, xb, yb, HI⟩ := hrel
            have j0 : (0 : Int) ≤ (j : Int) := Int.natCast_nonneg _
            by_cases hjk : j < k
            · have j1 : (j : Int) < (k : Int) := by omega
              have j2 : (j : Int) < (l.length : Int) := by omega
              obtain ⟨x2, b2, off2, ha2, e2, hb2, c0, c1⟩ := rdS (hR.on hbw) hlt
              cases e2
              obtain rfl : x2 = x := by rw [← HGX.out]; exact (gl_of ha2).symm
              obtain ⟨y, b3, off3, hy, e3, hb3, d0, d1⟩ := rdS (hR.on hbw) (show j < l.length by omega)
              cases e3
              have bw := HBD.out y (List.mem_of_getElem? hy)
              have bv : Bd 20000 (vec y x2) := vec_bd (m := 10000) (n := 10000) bw bx
              have bu : Bd 20000 (vec s x2) := vec_bd (m := 10000) (n := 10000) HS.out bx
              have HL1 := Lib.hid (fun W => r_minus y x2 W (bw.mono (by omega)) (bx.mono (by omega)))
              have HL2 := Lib.hid (fun W => r_minus s x2 W (HS.out.mono (by omega)) (bx.mono (by omega)))
              have HYES := Lib.hid (HSD.out k j x2 y HX.out hy)
              have HGY := Lib.hid (gl_of hy)
              have HNO := Lib.hid (fun (h : sdB l s x2 y = false) => (show ∀ m, m < j + 1 → sdB l s (gl l k) (gl l m) = false from (by
                intro m hm
                by_cases e : m = j
                · subst e; rw [HGX.out, HGY.out]; exact h
                · exact HI.out m (by omega))))
              have HSB := Lib.hid (sdB_iff (l := l) (w := s) (p := x2) (r := y))
              have hV1 : vdot ⟨(vec y x2).y, -(vec y x2).x⟩ (vec s x2) < 0 → vS x2 y s = ⟨-(vec y x2).y, (vec y x2).x⟩ := fun h => by unfold vS; exact if_pos h
              have hV2 : ¬ vdot ⟨(vec y x2).y, -(vec y x2).x⟩ (vec s x2) < 0 → vS x2 y s = ⟨(vec y x2).y, -(vec y x2).x⟩ := fun h => by unfold vS; exact if_neg h
              have hT := vdot_dt x2 y s
              have hQ := vdot_dqs x2 y
              have HDN := Lib.hid (fun W => r_Dot ⟨(vec y x2).y, -(vec y x2).x⟩ (vec s x2) W (by unfold Bd at *; dsimp only; omega) (bu.mono (by omega)))
              have HD1 := Lib.hid (fun W => r_Dot (vec y x2) (vec s x2) W (bv.mono (by omega)) (bu.mono (by omega)))
              have HD2 := Lib.hid (fun W => r_Dot (vec y x2) (vec y x2) W (bv.mono (by omega)) (bv.mono (by omega)))
              have bn : Bd 20000 (vS x2 y s) := by
                by_cases h : vdot ⟨(vec y x2).y, -(vec y x2).x⟩ (vec s x2) < 0
                · rw [hV1 h]; unfold Bd at *; dsimp only; omega
                · rw [hV2 h]; unfold Bd at *; dsimp only; omega
              have HBY := Lib.hid (fun (W : World) (hW : Below w.heap.size w W) => r_beyond (some ⟨b, off, none⟩) l c (vS x2 y s) x2 W hl HBD.out bn bx (hR.on hW))
              rw [hT] at HD1
              rw [hQ] at HD2
              have hw1 : IntKind.i64.wrap (-(vec y x2).x) = -(vec y x2).x := fits_wrap (by unfold Bd at bv; omega)
              have hw2 : IntKind.i64.wrap (-(vec y x2).y) = -(vec y x2).y := fits_wrap (by unfold Bd at bv; omega)
              have hw3 : IntKind.i64.wrap (- -(vec y x2).x) = (vec y x2).x := by rw [Int.neg_neg]; exact fits_wrap (by unfold Bd at bv; omega)
              have hw4 : IntKind.i64.wrap (vec y x2).x = (vec y x2).x := fits_wrap (by unfold Bd at bv; omega)
              generalize byB l (vS x2 y s) x2 = BY at *
              generalize vS x2 y s = n at *
              generalize dt x2 y s = T at *
              generalize dq y x2 x2 = Q at *
              generalize hC : vdot ⟨(vec y x2).y, -(vec y x2).x⟩ (vec s x2) = C at *
              clear hC hT hQ ha2 hy bw HGY HI
              generalize vec y x2 = v at *
              generalize vec s x2 = p at *
              have p0 := xb.cell 0
              have p1 := xb.cell 1
              simp only [List.getElem?_toArray, List.getElem?_cons_zero, List.getElem?_cons_succ] at p0 p1
              have zx := xb.lt
              rename World => wj
              go_wp2_with fail
              go_cut [8, 9] (fun s7 s8 wx => ∃ gm hm : Nat, s7 = .pointer (some ⟨gm, 0, none⟩) ∧ s8 = .pointer (some ⟨hm, 0, none⟩) ∧ Pt wx gm v ∧ Pt wx hm p ∧ Below wj.heap.size wj wx)
              case first =>
                go_region_held3 (fun w' => (∀ b o, b < wj.heap.size → w'.cell? ⟨b, o, none⟩ = wj.cell? ⟨b, o, none⟩) ∧ (∀ b o, b < wj.heap.size → w'.frozen? ⟨b, o, none⟩ = wj.frozen? ⟨b, o, none⟩) ∧ Below wj.heap.size wj w') ((first | assumption | (refine kp_of ?_; (repeat' (first | assumption | exact below_refl _ | refine bl_alloc ?_ _ | refine Below.setCell ?_ ?_ _ | refine below_draw ?_ | refine below_drewN ?_ _ | refine below_tr ?_ (by assumption))) <;> (first | omega | (simp; done) | (simp; omega))))) ((first | (go_at_call 72; ((with_reducible refine (HL1.out _).mono ?_); rintro e w3 ⟨rfl, hb3⟩; obtain ⟨hc3, hf3⟩ := bcell hb3; have hz3 := hb3.size; (try simp [sz_drew, sz_drewN] at hz3); (try simp only [sz_drew, sz_drewN] at hc3 hf3); (try (refine (fun (y3_0 : wj.heap.size < w3.heap.size) => ?_) ?_; rotate_left; omega)); (try (refine (fun (v3_0 : wj.heap.size ≤ w3.heap.size) => ?_) ?_; rotate_left; omega)); (try (refine (fun (y3_1 : wj.heap.size + 1 < w3.heap.size) => ?_) ?_; rotate_left; omega)); (try (refine (fun (v3_1 : wj.heap.size + 1 ≤ w3.heap.size) => ?_) ?_; rotate_left; omega)))) | (go_at_call 72; ((with_reducible refine (HL2.out _).mono ?_); rintro e w4 ⟨rfl, hb4⟩; obtain ⟨hc4, hf4⟩ := bcell hb4; have hz4 := hb4.size; (try simp [sz_drew, sz_drewN] at hz4); (try simp only [sz_drew, sz_drewN] at hc4 hf4); (try (refine (fun (y4_0 : wj.heap.size < w4.heap.size) => ?_) ?_; rotate_left; omega)); (try (refine (fun (v4_0 : wj.heap.size ≤ w4.heap.size) => ?_) ?_; rotate_left; omega)); (try (refine (fun (y4_1 : wj.heap.size + 1 < w4.heap.size) => ?_) ?_; rotate_left; omega)); (try (refine (fun (v4_1 : wj.heap.size + 1 ≤ w4.heap.size) => ?_) ?_; rotate_left; omega)); (try (refine (fun (y4_2 : w3.heap.size < w4.heap.size) => ?_) ?_; rotate_left; omega)); (try (refine (fun (v4_2 : w3.heap.size ≤ w4.heap.size) => ?_) ?_; rotate_left; omega)); (try (refine (fun (y4_3 : w3.heap.size + 1 < w4.heap.size) => ?_) ?_; rotate_left; omega)); (try (refine (fun (v4_3 : w3.heap.size + 1 ≤ w4.heap.size) => ?_) ?_; rotate_left; omega))))))
                all_goals go_wp2
                all_goals go_meet
                all_goals (have L2 : ∀ n : Nat, n < n + 1 + 1 := fun n => by omega)
                all_goals exact ⟨_, _, rfl, rfl, ⟨by (first | (go_simp; done) | (go_simp; refine World.cell?_setCell_same (u := .int .i64 0) _ _ _ ?_; go_simp)), by (first | (go_simp; done) | (go_simp; refine World.cell?_setCell_same (u := .int .i64 0) _ _ _ ?_; go_simp)), by (simp [World.setCell] <;> omega)⟩, ⟨by (first | (go_simp; done) | (go_simp; refine World.cell?_setCell_same (u := .int .i64 0) _ _ _ ?_; go_simp)), by (first | (go_simp; done) | (go_simp; refine World.cell?_setCell_same (u := .int .i64 0) _ _ _ ?_; go_simp)), by (simp [World.setCell] <;> omega)⟩, by (repeat' (first | assumption | exact below_refl _ | refine bl_alloc ?_ _ | refine Below.setCell ?_ ?_ _ | refine below_draw ?_ | refine below_drewN ?_ _ | refine below_tr ?_ (by assumption))) <;> (first | omega | (simp; done) | (simp; omega))⟩
              case rest =>
                obtain ⟨gm, hm, rfl, rfl, hP1, hP2, hbx⟩ := hcut
                obtain ⟨wx, hwx⟩ : ∃ wx : World, wx = wc := ⟨wc, rfl⟩
                rw [← hwx] at hP1 hP2 hbx ⊢
                clear hwx
                have BX := below_tr hbw hbx
                have x6 := xb.below hbx xb.lt
                have y6 := yb.below hbx yb.lt
                replace c0 := ((bcell hbx).1 _ _ hb2).trans c0
                replace c1 := ((bcell hbx).1 _ _ hb2).trans c1
                replace hb2 := Nat.lt_of_lt_of_le hb2 hbx.size
                clear p0 p1 zx HL1 HL2 xb yb hbw hbx d0 d1 hb3
                obtain ⟨e0, e1, el⟩ := hP1
                obtain ⟨f0, f1, fl'⟩ := hP2
                have n0 := Blk.new wx 24 #[.int .i64 v.y, .int .i64 (-v.x)]
                have yl := y6.lt
                go_upto_if 62 with (go_at_call 73; ((with_reducible refine (HDN.out _).mono ?_); rintro e w5 ⟨rfl, hb5⟩; obtain ⟨hc5, hf5⟩ := bcell hb5; have hz5 := hb5.size; (try simp [sz_drew, sz_drewN] at hz5); (try simp only [sz_drew, sz_drewN] at hc5 hf5)))
                have B5 : Below wx.heap.size wx w5 := by (repeat' (first | assumption | exact below_refl _ | refine bl_alloc ?_ _ | refine Below.setCell ?_ ?_ _ | refine below_draw ?_ | refine below_drewN ?_ _ | refine below_tr ?_ (by assumption))) <;> (first | omega | (simp; done) | (simp; omega))
                have n5 := n0.below hb5 n0.lt
                have BW := below_tr BX B5
                have x7 := x6.below B5 x6.lt
                have y7 := y6.below B5 y6.lt
                have e0 := ((bcell B5).1 _ _ el).trans e0
                have e1 := ((bcell B5).1 _ _ el).trans e1
                have f0 := ((bcell B5).1 _ _ fl').trans f0
                have f1 := ((bcell B5).1 _ _ fl').trans f1
                have c0 := ((bcell B5).1 _ _ hb2).trans c0
                have c1 := ((bcell B5).1 _ _ hb2).trans c1
                have g0 := n5.cell 0
                have g1 := n5.cell 1
                have h0 := n5.frozen 0
                have h1 := n5.frozen 1
                simp only [List.getElem?_toArray, List.getElem?_cons_zero, List.getElem?_cons_succ] at g0 g1
                have gl' := n5.lt
                have el5 := Nat.lt_of_lt_of_le el B5.size
                have fl5 := Nat.lt_of_lt_of_le fl' B5.size
                have hl5 := Nat.lt_of_lt_of_le hb2 B5.size
                clear BX x6 y6 n0 hb5 hc5 hf5 hz5 HDN
                generalize wx.heap.size = gv at *
                clear B5
                have q1 : w.heap.size ≠ gv := by omega
                have q2 : w.heap.size + 1 ≠ gv := by omega
                have q3 : gm ≠ gv := by omega
                have q4 : hm ≠ gv := by omega
                have q5 : b ≠ gv := by omega
                have q6 : w.heap.size ≤ gv := by omega
                go_cut [10] (fun s10 wy => s10 = .pointer (some ⟨gv, 0, none⟩) ∧ Pt wy gv n ∧ Pt wy gm v ∧ Pt wy hm p ∧ Blk wy w.heap.size 24 (spA s) ∧ Blk wy (w.heap.size + 1) 24 #[.int .i64 0, .int .i64 0] ∧ wy.cell? ⟨b, off + k * 2, none⟩ = some (.int .i64 x2.x) ∧ wy.cell? ⟨b, off + k * 2 + 1, none⟩ = some (.int .i64 x2.y) ∧ b < wy.heap.size ∧ Below w.heap.size w wy)
                case first =>
                  by_cases hC : C < 0
                  · have dC : decide (C < 0) = true := decide_eq_true hC
                    have hn := hV1 hC
                    clear HBY HYES HNO HSB hV1 hV2 bn
                    subst hn
                    go_wp2
                    go_meet
                    refine ⟨rfl, ⟨by (first | (go_simp; done) | (go_simp; refine World.cell?_setCell_same (u := .int .i64 0) _ _ _ ?_; go_simp)), by (first | (go_simp; done) | (go_simp; refine World.cell?_setCell_same (u := .int .i64 0) _ _ _ ?_; go_simp)), by (simp [World.setCell] <;> omega)⟩, Pt.set (Pt.set ⟨e0, e1, el5⟩ q3) q3, Pt.set (Pt.set ⟨f0, f1, fl5⟩ q4) q4, by ((repeat' (first | exact x7 | refine Blk.far ?_ ?_ _ | refine Blk.drewN ?_ _ | refine Blk.drew ?_ | refine Blk.alloc ?_ _)) <;> (first | assumption | omega | (simp; omega))), by ((repeat' (first | exact y7 | refine Blk.far ?_ ?_ _ | refine Blk.drewN ?_ _ | refine Blk.drew ?_ | refine Blk.alloc ?_ _)) <;> (first | assumption | omega | (simp; omega))), ?_, ?_, by (simp [World.setCell] <;> omega), by (repeat' (first | assumption | exact below_refl _ | refine bl_alloc ?_ _ | refine Below.setCell ?_ ?_ _ | refine below_draw ?_ | refine below_drewN ?_ _ | refine below_tr ?_ (by assumption))) <;> (first | omega | (simp; done) | (simp; omega))⟩
                    · rw [World.cell?_setCell_far _ _ _ _ (Ne.symm q5), World.cell?_setCell_far _ _ _ _ (Ne.symm q5)]; exact c0
                    · rw [World.cell?_setCell_far _ _ _ _ (Ne.symm q5), World.cell?_setCell_far _ _ _ _ (Ne.symm q5)]; exact c1
                  · have dC : decide (C < 0) = false := decide_eq_false hC
                    have hn := hV2 (by omega)
                    clear HBY HYES HNO HSB hV1 hV2 bn
                    subst hn
                    go_wp2
                    go_meet
                    exact ⟨rfl, ⟨g0, g1, gl'⟩, ⟨e0, e1, el5⟩, ⟨f0, f1, fl5⟩, x7, y7, c0, c1, hl5, BW⟩
                case rest =>
                  clear e0 e1 f0 f1 c0 c1 g0 g1 h0 h1 gl' el5 fl5 hl5 x7 y7 BW n5 el fl' hb2 q1 q2 q3 q4 q5 q6 hV1 hV2 hw1 hw2 hw3 hw4 yl
                  obtain ⟨rfl, ⟨g0, g1, gl'⟩, ⟨e0, e1, el⟩, ⟨f0, f1, fl'⟩, x6, y6, c0, c1, hb2, BX⟩ := hcut
                  obtain ⟨wy, hwy⟩ : ∃ wy : World, wy = wc := ⟨wc, rfl⟩
                  rw [← hwy] at g0 g1 gl' e0 e1 el f0 f1 fl' x6 y6 c0 c1 hb2 BX ⊢
                  clear hwy
                  go_wp2_with (go_at_call 73; ((with_reducible refine (HD1.out _).mono ?_); rintro e w6 ⟨rfl, hb6⟩; obtain ⟨hc6, hf6⟩ := bcell hb6; have hz6 := hb6.size; (try simp [sz_drew, sz_drewN] at hz6); (try simp only [sz_drew, sz_drewN] at hc6 hf6)))
                  have B6 : Below wy.heap.size wy w6 := by (repeat' (first | assumption | exact below_refl _ | refine bl_alloc ?_ _ | refine Below.setCell ?_ ?_ _ | refine below_draw ?_ | refine below_drewN ?_ _ | refine below_tr ?_ (by assumption))) <;> (first | omega | (simp; done) | (simp; omega))
                  have BW := below_tr BX B6
                  have x7 := x6.below B6 x6.lt
                  have y7 := y6.below B6 y6.lt
                  replace e0 := ((bcell B6).1 _ _ el).trans e0
                  replace e1 := ((bcell B6).1 _ _ el).trans e1
                  replace g0 := ((bcell B6).1 _ _ gl').trans g0
                  replace g1 := ((bcell B6).1 _ _ gl').trans g1
                  replace c0 := ((bcell B6).1 _ _ hb2).trans c0
                  replace c1 := ((bcell B6).1 _ _ hb2).trans c1
                  replace el := Nat.lt_of_lt_of_le el B6.size
                  replace gl' := Nat.lt_of_lt_of_le gl' B6.size
                  replace hb2 := Nat.lt_of_lt_of_le hb2 B6.size
                  clear f0 f1 fl' x6 y6 BX hb6 hc6 hf6 hz6 HD1 B6
                  by_cases hT : 0 < T
                  · have dT : decide (0 < T) = true := decide_eq_true hT
                    by_cases hQ : T < Q
                    · have dQ : decide (T < Q) = true := decide_eq_true hQ
                      cases BY
                      · have HI2 := Lib.hid (HNO.out (by rw [Bool.eq_false_iff]; intro h; have := (HSB.out.1 h).2.2; cases this))
                        clear HNO HYES HSB
                        go_region_held3 (fun w' => (∀ b o, b < w6.heap.size → w'.cell? ⟨b, o, none⟩ = w6.cell? ⟨b, o, none⟩) ∧ (∀ b o, b < w6.heap.size → w'.frozen? ⟨b, o, none⟩ = w6.frozen? ⟨b, o, none⟩) ∧ Below w6.heap.size w6 w') ((first | assumption | (refine kp_of ?_; (repeat' (first | assumption | exact below_refl _ | refine bl_alloc ?_ _ | refine Below.setCell ?_ ?_ _ | refine below_draw ?_ | refine below_drewN ?_ _ | refine below_tr ?_ (by assumption))) <;> (first | omega | (simp; done) | (simp; omega))))) ((first | (go_at_call 73; ((with_reducible refine (HD2.out _).mono ?_); rintro e w8 ⟨rfl, hb8⟩; obtain ⟨hc8, hf8⟩ := bcell hb8; have hz8 := hb8.size; (try simp [sz_drew, sz_drewN] at hz8); (try simp only [sz_drew, sz_drewN] at hc8 hf8))) | (go_at_call 83; ((with_reducible refine (HBY.out _ (by (repeat' (first | assumption | exact below_refl _ | refine bl_alloc ?_ _ | refine Below.setCell ?_ ?_ _ | refine below_draw ?_ | refine below_drewN ?_ _ | refine below_tr ?_ (by assumption))) <;> (first | omega | (simp; done) | (simp; omega)))).mono ?_); rintro e w9 ⟨rfl, hb9⟩; obtain ⟨hc9, hf9⟩ := bcell hb9; have hz9 := hb9.size; (try simp [sz_drew, sz_drewN] at hz9); (try simp only [sz_drew, sz_drewN] at hc9 hf9)))))
                        all_goals go_wp2
                        all_goals (
                          go_roundw
                          case rel => exact ⟨j + 1, by omega, by go_num, below_tr BW (by (repeat' (first | assumption | exact below_refl _ | refine bl_alloc ?_ _ | refine Below.setCell ?_ ?_ _ | refine below_draw ?_ | refine below_drewN ?_ _ | refine below_tr ?_ (by assumption))) <;> (first | omega | (simp; done) | (simp; omega))), x7.below (by (repeat' (first | assumption | exact below_refl _ | refine bl_alloc ?_ _ | refine Below.setCell ?_ ?_ _ | refine below_draw ?_ | refine below_drewN ?_ _ | refine below_tr ?_ (by assumption))) <;> (first | omega | (simp; done) | (simp; omega))) x7.lt, y7.below (by (repeat' (first | assumption | exact below_refl _ | refine bl_alloc ?_ _ | refine Below.setCell ?_ ?_ _ | refine below_draw ?_ | refine below_drewN ?_ _ | refine below_tr ?_ (by assumption))) <;> (first | omega | (simp; done) | (simp; omega))) y7.lt, HI2.out⟩
                          case measure => simp [intOf]; omega)
                      · have HQ := Lib.hid (HYES.out (HSB.out.2 ⟨hT, hQ, rfl⟩))
                        have HSH := Lib.hid (fun W => r_short n W (bn.mono (by omega)) HQ.out.1)
                        rw [HQ.out.2] at HSH
                        clear HNO HYES HSB HQ
                        have r0 := y7.cell 0
                        have r1 := y7.cell 1
                        have q0 := y7.frozen 0
                        have q1 := y7.frozen 1
                        simp only [List.getElem?_toArray, List.getElem?_cons_zero, List.getElem?_cons_succ] at r0 r1
                        have ly := y7.lt
                        go_region_held3 (fun w' => (∀ b o, b < w6.heap.size → w'.cell? ⟨b, o, none⟩ = w6.cell? ⟨b, o, none⟩) ∧ (∀ b o, b < w6.heap.size → w'.frozen? ⟨b, o, none⟩ = w6.frozen? ⟨b, o, none⟩) ∧ Below w6.heap.size w6 w') ((first | assumption | (refine kp_of ?_; (repeat' (first | assumption | exact below_refl _ | refine bl_alloc ?_ _ | refine Below.setCell ?_ ?_ _ | refine below_draw ?_ | refine below_drewN ?_ _ | refine below_tr ?_ (by assumption))) <;> (first | omega | (simp; done) | (simp; omega))))) ((first | (go_at_call 73; ((with_reducible refine (HD2.out _).mono ?_); rintro e w8 ⟨rfl, hb8⟩; obtain ⟨hc8, hf8⟩ := bcell hb8; have hz8 := hb8.size; (try simp [sz_drew, sz_drewN] at hz8); (try simp only [sz_drew, sz_drewN] at hc8 hf8))) | (go_at_call 83; ((with_reducible refine (HBY.out _ (by (repeat' (first | assumption | exact below_refl _ | refine bl_alloc ?_ _ | refine Below.setCell ?_ ?_ _ | refine below_draw ?_ | refine below_drewN ?_ _ | refine below_tr ?_ (by assumption))) <;> (first | omega | (simp; done) | (simp; omega)))).mono ?_); rintro e w9 ⟨rfl, hb9⟩; obtain ⟨hc9, hf9⟩ := bcell hb9; have hz9 := hb9.size; (try simp [sz_drew, sz_drewN] at hz9); (try simp only [sz_drew, sz_drewN] at hc9 hf9)))))
                        all_goals
                          go_wp2_with fail
                          refine (HSH.out _).mono ?_
                          rintro e w10 ⟨rfl, hb10⟩
                          have B10 : Below w6.heap.size w6 w10 := by (repeat' (first | assumption | exact below_refl _ | refine bl_alloc ?_ _ | refine Below.setCell ?_ ?_ _ | refine below_draw ?_ | refine below_drewN ?_ _ | refine below_tr ?_ (by assumption))) <;> (first | omega | (simp; done) | (simp; omega))
                          have y10 := y7.below B10 ly
                          have t0 := y10.cell 0
                          have t1 := y10.cell 1
                          have u0 := y10.frozen 0
                          have u1 := y10.frozen 1
                          simp only [List.getElem?_toArray, List.getElem?_cons_zero, List.getElem?_cons_succ] at t0 t1
                          have ly10 := y10.lt
                          have BT := below_tr BW B10
                          clear r0 r1 q0 q1
                          go_wp2
                          refine bodyPost_ret (v := spV R) (by simp [results, Tryz.results75, go_sem, *]) rfl ⟨rfl, ?_⟩
                          (repeat' (first | assumption | exact below_refl _ | refine bl_alloc ?_ _ | refine Below.setCell ?_ ?_ _ | refine below_draw ?_ | refine below_drewN ?_ _ | refine below_tr ?_ (by assumption))) <;> (first | omega | (simp; done) | (simp; omega))
                    · have dQ : decide (T < Q) = false := decide_eq_false hQ
                      have HI2 := Lib.hid (HNO.out (by rw [Bool.eq_false_iff]; intro h; exact hQ (HSB.out.1 h).2.1))
                      clear HNO HYES HSB
                      refine wp_region_noPanic ?_
                      refine wp_region_held_drew (S := (fun w' => (∀ b o, b < w6.heap.size → w'.cell? ⟨b, o, none⟩ = w6.cell? ⟨b, o, none⟩) ∧ (∀ b o, b < w6.heap.size → w'.frozen? ⟨b, o, none⟩ = w6.frozen? ⟨b, o, none⟩) ∧ Below w6.heap.size w6 w')) (by kernel_rfl) (kq_draw kq_refl) (fun hS0 => ?_)
                      refine wpAnyH_take (i := 0) (oi := { dst := some 73, op := _, type := _, pos := _, after := _, guard := none }) (v := ?gv1) rfl (by kernel_rfl) (by kernel_rfl) (by kernel_rfl) (fun _ _ _ h => h) (Or.inl ⟨by rfl, ?gy1⟩) (by assumption) ?_
                      case gy1 => (intro w' hSw; go_simp; try with_reducible rfl)
                      try simp only [Act.put, List.setIfInBounds_toArray, List.set_cons_zero, List.set_cons_succ]
                      refine wpAnyH_take (i := 1) (oi := { dst := some 74, op := _, type := _, pos := _, after := _, guard := none }) (v := ?gv2) rfl (by kernel_rfl) (by kernel_rfl) (by kernel_rfl) (fun _ _ _ h => h) (Or.inl ⟨by rfl, ?gy2⟩) (by assumption) ?_
                      case gy2 => (intro w' hSw; go_simp; try with_reducible rfl)
                      try simp only [Act.put, List.setIfInBounds_toArray, List.set_cons_zero, List.set_cons_succ]
                      refine wpAnyH_take (i := 2) (oi := { dst := some 75, op := _, type := _, pos := _, after := _, guard := none }) (v := ?gv3) rfl (by kernel_rfl) (by kernel_rfl) (by kernel_rfl) (fun _ _ _ h => h) (Or.inl ⟨by rfl, ?gy3⟩) (by assumption) ?_
                      case gy3 => (intro w' hSw; go_simp; try with_reducible rfl)
                      try simp only [Act.put, List.setIfInBounds_toArray, List.set_cons_zero, List.set_cons_succ]
                      refine wpAnyH_take (i := 3) (oi := { dst := some 76, op := _, type := _, pos := _, after := _, guard := some (2, true) }) (v := ?gv4) rfl (by kernel_rfl) (by kernel_rfl) (by kernel_rfl) (fun _ _ _ h => h) (Or.inl ⟨by rfl, ?gy4⟩) (by assumption) ?_
                      case gy4 => (intro w' hSw; go_simp; try with_reducible rfl)
                      try simp only [Act.put, List.setIfInBounds_toArray, List.set_cons_zero, List.set_cons_succ]
                      refine wpAnyH_take (i := 4) (oi := { dst := some 77, op := _, type := _, pos := _, after := _, guard := some (2, true) }) (v := ?gv5) rfl (by kernel_rfl) (by kernel_rfl) (by kernel_rfl) (fun _ _ _ h => h) (Or.inl ⟨by rfl, ?gy5⟩) (by assumption) ?_
                      case gy5 => (intro w' hSw; go_simp; try with_reducible rfl)
                      try simp only [Act.put, List.setIfInBounds_toArray, List.set_cons_zero, List.set_cons_succ]
                      refine wpAnyH_take (i := 5) (oi := { dst := some 78, op := _, type := _, pos := _, after := _, guard := some (2, true) }) (v := ?gv6) rfl (by kernel_rfl) (by kernel_rfl) (by kernel_rfl) (fun _ _ _ h => h) (Or.inl ⟨by rfl, ?gy6⟩) (by assumption) ?_
                      case gy6 => (intro w' hSw; go_simp; try with_reducible rfl)
                      try simp only [Act.put, List.setIfInBounds_toArray, List.set_cons_zero, List.set_cons_succ]
                      refine wpAnyH_ready (rs := [6]) (by kernel_rfl) (by simp) ?_
                      refine AllReadyH.cons rfl (fun K hK => ?_) AllReadyH.nil
                      go_simp
                      (go_at_call 73; ((with_reducible refine (HD2.out _).mono ?_); rintro e w8 ⟨rfl, hb8⟩; obtain ⟨hc8, hf8⟩ := bcell hb8; have hz8 := hb8.size; (try simp [sz_drew, sz_drewN] at hz8); (try simp only [sz_drew, sz_drewN] at hc8 hf8)))
                      refine hK.out _ _ (by ((show Kq w6 _); (repeat' (first | assumption | exact kq_refl | refine kq_draw ?_ | refine kq_drewN ?_ | refine kq_alloc ?_ | refine kq_set ?_ ?_ | refine kq_step ?_ (by assumption))); (all_goals (first | omega | (simp; omega))))) (fun hS1 => ?_)
                      clear hK K
                      try simp only [Act.put, List.setIfInBounds_toArray, List.set_cons_zero, List.set_cons_succ]
                      refine wpAnyH_take (i := 7) (oi := { dst := some 80, op := _, type := _, pos := _, after := _, guard := some (2, true) }) (v := ?gv7) rfl (by kernel_rfl) (by kernel_rfl) (by kernel_rfl) (fun _ _ _ h => h) (Or.inl ⟨by rfl, ?gy7⟩) (by assumption) ?_
                      case gy7 => (intro w' hSw; go_simp; try with_reducible rfl)
                      try simp only [Act.put, List.setIfInBounds_toArray, List.set_cons_zero, List.set_cons_succ]
                      refine wpAnyH_take (i := 8) (oi := { dst := some 81, op := _, type := _, pos := _, after := _, guard := none }) (v := ?gv8) rfl (by kernel_rfl) (by kernel_rfl) (by kernel_rfl) (fun _ _ _ h => h) (Or.inl ⟨by rfl, ?gy8⟩) (by assumption) ?_
                      case gy8 => (intro w' hSw; go_simp; try with_reducible rfl)
                      try simp only [Act.put, List.setIfInBounds_toArray, List.set_cons_zero, List.set_cons_succ]
                      refine wpAnyH_take (i := 9) (oi := { dst := some 82, op := _, type := _, pos := _, after := _, guard := none }) (v := ?gv9) rfl (by kernel_rfl) (by kernel_rfl) (by kernel_rfl) (fun _ _ _ h => h) (Or.inl ⟨by rfl, ?gy9⟩) (by assumption) ?_
                      case gy9 => (intro w' hSw; go_simp; try with_reducible rfl)
                      try simp only [Act.put, List.setIfInBounds_toArray, List.set_cons_zero, List.set_cons_succ]
                      refine wpAnyH_take (i := 10) (oi := { dst := some 83, op := _, type := _, pos := _, after := _, guard := some (9, true) }) (v := undef) rfl (by kernel_rfl) (by kernel_rfl) (by kernel_rfl) (fun _ _ _ h => h) (Or.inr ⟨by rfl, rfl⟩) (by assumption) ?_
                      try simp only [Act.put, List.setIfInBounds_toArray, List.set_cons_zero, List.set_cons_succ]
                      refine wpAnyH_take (i := 11) (oi := { dst := some 84, op := _, type := _, pos := _, after := _, guard := some (9, true) }) (v := undef) rfl (by kernel_rfl) (by kernel_rfl) (by kernel_rfl) (fun _ _ _ h => h) (Or.inr ⟨by rfl, rfl⟩) (by assumption) ?_
                      try simp only [Act.put, List.setIfInBounds_toArray, List.set_cons_zero, List.set_cons_succ]
                      refine wpAnyH_take (i := 12) (oi := { dst := some 85, op := _, type := _, pos := _, after := _, guard := some (9, true) }) (v := undef) rfl (by kernel_rfl) (by kernel_rfl) (by kernel_rfl) (fun _ _ _ h => h) (Or.inr ⟨by rfl, rfl⟩) (by assumption) ?_
                      try simp only [Act.put, List.setIfInBounds_toArray, List.set_cons_zero, List.set_cons_succ]
                      refine wpAnyH_take (i := 13) (oi := { dst := some 86, op := _, type := _, pos := _, after := _, guard := some (9, true) }) (v := undef) rfl (by kernel_rfl) (by kernel_rfl) (by kernel_rfl) (fun _ _ _ h => h) (Or.inr ⟨by rfl, rfl⟩) (by assumption) ?_
                      try simp only [Act.put, List.setIfInBounds_toArray, List.set_cons_zero, List.set_cons_succ]
                      refine wpAnyH_take (i := 14) (oi := { dst := some 87, op := _, type := _, pos := _, after := _, guard := some (9, true) }) (v := undef) rfl (by kernel_rfl) (by kernel_rfl) (by kernel_rfl) (fun _ _ _ h => h) (Or.inr ⟨by rfl, rfl⟩) (by assumption) ?_
                      try simp only [Act.put, List.setIfInBounds_toArray, List.set_cons_zero, List.set_cons_succ]
                      refine wpAnyH_take (i := 15) (oi := { dst := some 88, op := _, type := _, pos := _, after := _, guard := some (9, true) }) (v := undef) rfl (by kernel_rfl) (by kernel_rfl) (by kernel_rfl) (fun _ _ _ h => h) (Or.inr ⟨by rfl, rfl⟩) (by assumption) ?_
                      try simp only [Act.put, List.setIfInBounds_toArray, List.set_cons_zero, List.set_cons_succ]
                      refine wpAnyH_take (i := 16) (oi := { dst := some 89, op := _, type := _, pos := _, after := _, guard := some (9, true) }) (v := undef) rfl (by kernel_rfl) (by kernel_rfl) (by kernel_rfl) (fun _ _ _ h => h) (Or.inr ⟨by rfl, rfl⟩) (by assumption) ?_
                      try simp only [Act.put, List.setIfInBounds_toArray, List.set_cons_zero, List.set_cons_succ]
                      refine wpAnyH_take (i := 17) (oi := { dst := some 90, op := _, type := _, pos := _, after := _, guard := none }) (v := ?gv10) rfl (by kernel_rfl) (by kernel_rfl) (by kernel_rfl) (fun _ _ _ h => h) (Or.inl ⟨by rfl, ?gy10⟩) (by assumption) ?_
                      case gy10 => (intro w' hSw; go_simp; try with_reducible rfl)
                      try simp only [Act.put, List.setIfInBounds_toArray, List.set_cons_zero, List.set_cons_succ]
                      refine wpAnyH_done (by kernel_rfl) (NoPanic.normal ?_) _
                      go_wp2
                      go_roundw
                      case rel => exact ⟨j + 1, by omega, by go_num, below_tr BW (by (repeat' (first | assumption | exact below_refl _ | refine bl_alloc ?_ _ | refine Below.setCell ?_ ?_ _ | refine below_draw ?_ | refine below_drewN ?_ _ | refine below_tr ?_ (by assumption))) <;> (first | omega | (simp; done) | (simp; omega))), x7.below (by (repeat' (first | assumption | exact below_refl _ | refine bl_alloc ?_ _ | refine Below.setCell ?_ ?_ _ | refine below_draw ?_ | refine below_drewN ?_ _ | refine below_tr ?_ (by assumption))) <;> (first | omega | (simp; done) | (simp; omega))) x7.lt, y7.below (by (repeat' (first | assumption | exact below_refl _ | refine bl_alloc ?_ _ | refine Below.setCell ?_ ?_ _ | refine below_draw ?_ | refine below_drewN ?_ _ | refine below_tr ?_ (by assumption))) <;> (first | omega | (simp; done) | (simp; omega))) y7.lt, HI2.out⟩
                      case measure => simp [intOf]; omega
                  · have dT : decide (0 < T) = false := decide_eq_false hT
                    have HI2 := Lib.hid (HNO.out (by rw [Bool.eq_false_iff]; intro h; exact hT (HSB.out.1 h).1))
                    clear HNO HYES HSB
                    refine wp_region_noPanic ?_
                    refine wp_region_held_drew (S := (fun w' => (∀ b o, b < w6.heap.size → w'.cell? ⟨b, o, none⟩ = w6.cell? ⟨b, o, none⟩) ∧ (∀ b o, b < w6.heap.size → w'.frozen? ⟨b, o, none⟩ = w6.frozen? ⟨b, o, none⟩) ∧ Below w6.heap.size w6 w')) (by kernel_rfl) (kq_draw kq_refl) (fun hS0 => ?_)
                    refine wpAnyH_take (i := 0) (oi := { dst := some 73, op := _, type := _, pos := _, after := _, guard := none }) (v := ?gv11) rfl (by kernel_rfl) (by kernel_rfl) (by kernel_rfl) (fun _ _ _ h => h) (Or.inl ⟨by rfl, ?gy11⟩) (by assumption) ?_
                    case gy11 => (intro w' hSw; go_simp; try with_reducible rfl)
                    try simp only [Act.put, List.setIfInBounds_toArray, List.set_cons_zero, List.set_cons_succ]
                    refine wpAnyH_take (i := 1) (oi := { dst := some 74, op := _, type := _, pos := _, after := _, guard := none }) (v := ?gv12) rfl (by kernel_rfl) (by kernel_rfl) (by kernel_rfl) (fun _ _ _ h => h) (Or.inl ⟨by rfl, ?gy12⟩) (by assumption) ?_
                    case gy12 => (intro w' hSw; go_simp; try with_reducible rfl)
                    try simp only [Act.put, List.setIfInBounds_toArray, List.set_cons_zero, List.set_cons_succ]
                    refine wpAnyH_take (i := 2) (oi := { dst := some 75, op := _, type := _, pos := _, after := _, guard := none }) (v := ?gv13) rfl (by kernel_rfl) (by kernel_rfl) (by kernel_rfl) (fun _ _ _ h => h) (Or.inl ⟨by rfl, ?gy13⟩) (by assumption) ?_
                    case gy13 => (intro w' hSw; go_simp; try with_reducible rfl)
                    try simp only [Act.put, List.setIfInBounds_toArray, List.set_cons_zero, List.set_cons_succ]
                    refine wpAnyH_take (i := 3) (oi := { dst := some 76, op := _, type := _, pos := _, after := _, guard := some (2, true) }) (v := undef) rfl (by kernel_rfl) (by kernel_rfl) (by kernel_rfl) (fun _ _ _ h => h) (Or.inr ⟨by rfl, rfl⟩) (by assumption) ?_
                    try simp only [Act.put, List.setIfInBounds_toArray, List.set_cons_zero, List.set_cons_succ]
                    refine wpAnyH_take (i := 4) (oi := { dst := some 77, op := _, type := _, pos := _, after := _, guard := some (2, true) }) (v := undef) rfl (by kernel_rfl) (by kernel_rfl) (by kernel_rfl) (fun _ _ _ h => h) (Or.inr ⟨by rfl, rfl⟩) (by assumption) ?_
                    try simp only [Act.put, List.setIfInBounds_toArray, List.set_cons_zero, List.set_cons_succ]
                    refine wpAnyH_take (i := 5) (oi := { dst := some 78, op := _, type := _, pos := _, after := _, guard := some (2, true) }) (v := undef) rfl (by kernel_rfl) (by kernel_rfl) (by kernel_rfl) (fun _ _ _ h => h) (Or.inr ⟨by rfl, rfl⟩) (by assumption) ?_
                    try simp only [Act.put, List.setIfInBounds_toArray, List.set_cons_zero, List.set_cons_succ]
                    refine wpAnyH_take (i := 6) (oi := { dst := some 79, op := _, type := _, pos := _, after := _, guard := some (2, true) }) (v := undef) rfl (by kernel_rfl) (by kernel_rfl) (by kernel_rfl) (fun _ _ _ h => h) (Or.inr ⟨by rfl, rfl⟩) (by assumption) ?_
                    try simp only [Act.put, List.setIfInBounds_toArray, List.set_cons_zero, List.set_cons_succ]
                    refine wpAnyH_take (i := 7) (oi := { dst := some 80, op := _, type := _, pos := _, after := _, guard := some (2, true) }) (v := undef) rfl (by kernel_rfl) (by kernel_rfl) (by kernel_rfl) (fun _ _ _ h => h) (Or.inr ⟨by rfl, rfl⟩) (by assumption) ?_
                    try simp only [Act.put, List.setIfInBounds_toArray, List.set_cons_zero, List.set_cons_succ]
                    refine wpAnyH_take (i := 8) (oi := { dst := some 81, op := _, type := _, pos := _, after := _, guard := none }) (v := ?gv14) rfl (by kernel_rfl) (by kernel_rfl) (by kernel_rfl) (fun _ _ _ h => h) (Or.inl ⟨by rfl, ?gy14⟩) (by assumption) ?_
                    case gy14 => (intro w' hSw; go_simp; try with_reducible rfl)
                    try simp only [Act.put, List.setIfInBounds_toArray, List.set_cons_zero, List.set_cons_succ]
                    refine wpAnyH_take (i := 9) (oi := { dst := some 82, op := _, type := _, pos := _, after := _, guard := none }) (v := ?gv15) rfl (by kernel_rfl) (by kernel_rfl) (by kernel_rfl) (fun _ _ _ h => h) (Or.inl ⟨by rfl, ?gy15⟩) (by assumption) ?_
                    case gy15 => (intro w' hSw; go_simp; try with_reducible rfl)
                    try simp only [Act.put, List.setIfInBounds_toArray, List.set_cons_zero, List.set_cons_succ]
                    refine wpAnyH_take (i := 10) (oi := { dst := some 83, op := _, type := _, pos := _, after := _, guard := some (9, true) }) (v := undef) rfl (by kernel_rfl) (by kernel_rfl) (by kernel_rfl) (fun _ _ _ h => h) (Or.inr ⟨by rfl, rfl⟩) (by assumption) ?_
                    try simp only [Act.put, List.setIfInBounds_toArray, List.set_cons_zero, List.set_cons_succ]
                    refine wpAnyH_take (i := 11) (oi := { dst := some 84, op := _, type := _, pos := _, after := _, guard := some (9, true) }) (v := undef) rfl (by kernel_rfl) (by kernel_rfl) (by kernel_rfl) (fun _ _ _ h => h) (Or.inr ⟨by rfl, rfl⟩) (by assumption) ?_
                    try simp only [Act.put, List.setIfInBounds_toArray, List.set_cons_zero, List.set_cons_succ]
                    refine wpAnyH_take (i := 12) (oi := { dst := some 85, op := _, type := _, pos := _, after := _, guard := some (9, true) }) (v := undef) rfl (by kernel_rfl) (by kernel_rfl) (by kernel_rfl) (fun _ _ _ h => h) (Or.inr ⟨by rfl, rfl⟩) (by assumption) ?_
                    try simp only [Act.put, List.setIfInBounds_toArray, List.set_cons_zero, List.set_cons_succ]
                    refine wpAnyH_take (i := 13) (oi := { dst := some 86, op := _, type := _, pos := _, after := _, guard := some (9, true) }) (v := undef) rfl (by kernel_rfl) (by kernel_rfl) (by kernel_rfl) (fun _ _ _ h => h) (Or.inr ⟨by rfl, rfl⟩) (by assumption) ?_
                    try simp only [Act.put, List.setIfInBounds_toArray, List.set_cons_zero, List.set_cons_succ]
                    refine wpAnyH_take (i := 14) (oi := { dst := some 87, op := _, type := _, pos := _, after := _, guard := some (9, true) }) (v := undef) rfl (by kernel_rfl) (by kernel_rfl) (by kernel_rfl) (fun _ _ _ h => h) (Or.inr ⟨by rfl, rfl⟩) (by assumption) ?_
                    try simp only [Act.put, List.setIfInBounds_toArray, List.set_cons_zero, List.set_cons_succ]
                    refine wpAnyH_take (i := 15) (oi := { dst := some 88, op := _, type := _, pos := _, after := _, guard := some (9, true) }) (v := undef) rfl (by kernel_rfl) (by kernel_rfl) (by kernel_rfl) (fun _ _ _ h => h) (Or.inr ⟨by rfl, rfl⟩) (by assumption) ?_
                    try simp only [Act.put, List.setIfInBounds_toArray, List.set_cons_zero, List.set_cons_succ]
                    refine wpAnyH_take (i := 16) (oi := { dst := some 89, op := _, type := _, pos := _, after := _, guard := some (9, true) }) (v := undef) rfl (by kernel_rfl) (by kernel_rfl) (by kernel_rfl) (fun _ _ _ h => h) (Or.inr ⟨by rfl, rfl⟩) (by assumption) ?_
                    try simp only [Act.put, List.setIfInBounds_toArray, List.set_cons_zero, List.set_cons_succ]
                    refine wpAnyH_take (i := 17) (oi := { dst := some 90, op := _, type := _, pos := _, after := _, guard := none }) (v := ?gv16) rfl (by kernel_rfl) (by kernel_rfl) (by kernel_rfl) (fun _ _ _ h => h) (Or.inl ⟨by rfl, ?gy16⟩) (by assumption) ?_
                    case gy16 => (intro w' hSw; go_simp; try with_reducible rfl)
                    try simp only [Act.put, List.setIfInBounds_toArray, List.set_cons_zero, List.set_cons_succ]
                    refine wpAnyH_done (by kernel_rfl) (NoPanic.normal ?_) _
                    go_wp2
                    go_roundw
                    case rel => exact ⟨j + 1, by omega, by go_num, below_tr BW (by (repeat' (first | assumption | exact below_refl _ | refine bl_alloc ?_ _ | refine Below.setCell ?_ ?_ _ | refine below_draw ?_ | refine below_drewN ?_ _ | refine below_tr ?_ (by assumption))) <;> (first | omega | (simp; done) | (simp; omega))), x7.below (by (repeat' (first | assumption | exact below_refl _ | refine bl_alloc ?_ _ | refine Below.setCell ?_ ?_ _ | refine below_draw ?_ | refine below_drewN ?_ _ | refine below_tr ?_ (by assumption))) <;> (first | omega | (simp; done) | (simp; omega))) x7.lt, y7.below (by (repeat' (first | assumption | exact below_refl _ | refine bl_alloc ?_ _ | refine Below.setCell ?_ ?_ _ | refine below_draw ?_ | refine below_drewN ?_ _ | refine below_tr ?_ (by assumption))) <;> (first | omega | (simp; done) | (simp; omega))) y7.lt, HI2.out⟩
                    case measure => simp [intOf]; omega
            · obtain rfl : j = k := by omega
              have HK2 := Lib.hid (HNX.out HI.out)
              go_wp2
              go_roundw
              case rel => exact ⟨j + 1, by omega, by go_num, hbw, xb, yb, HK2.out⟩
              case measure => simp [intOf]; omega
    · exfalso
      obtain rfl : k = l.length := by omega
      exact HEX.out (fun i hi => (HI.out i hi).1) (fun i hi j hj => (HI.out i hi).2 j hj)
end Go.Proofs.YtkeojokbpjdhpaaGreatDoor
