/- Wind cards: bound of the program. -/
import Derived.Test.YtkigdjfagcnejaaDoorEd
import Derived.Deep.WholeRow
set_option linter.unusedSimpArgs false
set_option linter.unusedVariables false
namespace Go.Proofs.YtkigdjfagcnejaaDoor
open Go.RowKit

/-- an array of numbers -/
def aC (L : List Int) : Array Value := (L.map (Value.int .i64)).toArray
theorem aC_size (L : List Int) : (aC L).size = L.length := by simp [aC]
theorem aC_set (L : List Int) (k : Nat) (x : Int) : (aC L).setIfInBounds k (.int .i64 x) = aC (L.set k x) := by
  unfold aC
  rw [List.setIfInBounds_toArray, List.map_set]
theorem aC_get {L : List Int} {k : Nat} {x : Int} (h : L[k]? = some x) : (aC L)[k]? = some (.int .i64 x) := by
  unfold aC
  rw [List.getElem?_toArray, List.getElem?_map, h]; rfl
theorem aC_zero : Tryd.zeroCells108 = aC (List.replicate 241 0) := by kernel_rfl
theorem aC_one (L : List Int) : (aC L).all (·.oneCell') = true := by
  unfold aC
  simp
  intro x _
  rfl
theorem blk_at {w : World} {g : Nat} {t : TypeId} {L : List Int} (h : Blk w g t (aC L)) {k : Nat} {x : Int} (hx : L[k]? = some x) : w.cell? ⟨g, k, none⟩ = some (.int .i64 x) := by
  rw [h.cell]; exact aC_get hx
theorem blk_put {w : World} {g : Nat} {t : TypeId} {L : List Int} (h : Blk w g t (aC L)) (k : Nat) (x : Int) : Blk (w.setCell ⟨g, k, none⟩ (.int .i64 x)) g t (aC (L.set k x)) := by
  have := h.set_ k (.int .i64 x)
  rwa [aC_set] at this
theorem info_counts : ∃ i : TypeInfo, Tryd.prog.info? 108 = some i ∧ i.size = 241 := by
  have h : (Tryd.prog.info? 108).map (·.size) = some 241 := by kernel_rfl
  cases hq : Tryd.prog.info? 108 with
  | none => simp [hq] at h
  | some i => exact ⟨i, rfl, by simpa [hq] using h⟩
theorem run_load_counts {w : World} {g : Nat} {L : List Int} (h : Blk w g 108 (aC L)) (hl : L.length = 241) : (loadVar 108 ⟨g, 0, none⟩).run Tryd.prog w = .ok (.agg (aC L)) w := by
  obtain ⟨i, h1, h2⟩ := info_counts
  exact run_loadVar_row w g 108 108 (aC L) (0, 0) (.array 241 3) h Tryd.underlying108 rfl (by rw [h1, aC_size, hl]; simp [h2])
theorem run_index_counts {L : List Int} {s : Nat} {n : Int} (hs : L[s]? = some n) (hl : s < 241) (W : World) : (Instr.index 108 (.agg (aC L)) (.int .i64 (s : Nat))).run Tryd.prog W = .ok (.int .i64 n) W := by
  have h1 := aC_get hs
  have s0 : (0 : Int) ≤ (s : Int) := Int.natCast_nonneg _
  have s1 : (s : Int) < 241 := by omega
  simp [Instr.index, go_sem, s0, s1, part, h1]
  intro h; omega
theorem run_store_row {w : World} {g : Nat} {t : TypeId} {L N : List Int} (h : Blk w g t (aC L)) (hl : L.length = N.length) : (storeCells ⟨g, 0, none⟩ (aC N).toList 0).run Tryd.prog w = .ok () (w.setRow g (aC N)) := by
  have := run_storeCells_from (P := Tryd.prog) g t (aC N).toList 0 (aC L) w h (by rw [Array.length_toList, aC_size, aC_size]; omega) (fun v hv => (Array.all_eq_true_iff_forall_mem.1 (aC_one N)) v (by simpa using hv))
  simpa using this
theorem putV_cases {b : Bool} {v n : Int} : (v < 0 → putV b v n = n) ∧ (0 ≤ v → bt b n v = true → putV b v n = n) ∧ (0 ≤ v → bt b n v = false → putV b v n = v) := by
  refine ⟨fun h => ?_, fun h1 h2 => ?_, fun h1 h2 => ?_⟩
  · unfold putV; rw [if_pos (.inl h)]
  · unfold putV; rw [if_pos (.inr h2)]
  · unfold putV; rw [if_neg (by rintro (h | h); omega; rw [h2] at h; cases h)]
set_option maxHeartbeats 2000000 in
set_option maxRecDepth 20000 in
theorem p_put (b : Bool) (f : FuncId) (g h : Nat) (N : List Int) (s : Nat) (n v : Int) (w : World) (hN : N.length = 241) (hs : N[s]? = some v) (hg : Blk w g 108 (aC N)) (hh : Blk w h 95 #[.func (.func f) #[] #[]])
    (he : ∀ args W, (callFunc f args).run Tryd.prog W = .ok (.enter f args) W)
    (hf : ∀ W x y, Calls Tryd.prog f #[.int .i64 x, .int .i64 y] W fun e W' => e = .returned (.bool (bt b x y)) ∧ W = W') :
    Calls Tryd.prog 88 #[.int .i64 (s : Nat), .int .i64 n, .pointer (some ⟨g, 0, none⟩), .pointer (some ⟨h, 0, none⟩)] w fun e w' => e = .returned noResult ∧ Blk w' g 108 (aC (N.set s (putV b v n))) ∧ Stp (fun x => x = g) w w' := by
  have hs2 := (List.getElem?_eq_some_iff.1 hs).1
  have s0 : (0 : Int) ≤ (s : Int) := Int.natCast_nonneg _
  have s1 : (s : Int) < 241 := by omega
  have c0 := blk_at hg hs
  have f0 := hg.frozen s
  have c1 := hh.cell 0
  simp only [List.getElem?_toArray, List.getElem?_cons_zero] at c1
  have HP := Lib.hid (putV_cases (b := b) (v := v) (n := n))
  have HPUT := Lib.hid (fun W (k : Blk W g 108 (aC N)) (x : Int) => blk_put k s x)
  have HSAME := Lib.hid (show N.set s v = N by
    apply List.ext_getElem?
    intro i
    rw [List.getElem?_set]
    split
    · rename_i e; subst e; first | exact hs.symm | (rw [if_pos hs2]; exact hs.symm)
    · rfl)
  have HG := Lib.hid hg
  have HF := Lib.hid hf
  have z1 := hg.lt
  clear hs hg hh hf
  by_cases hv : v < 0
  · have HV := Lib.hid (HP.out.1 hv)
    have hd : decide (v < 0) = true := decide_eq_true hv
    go_enter Tryd.func88, Tryd.ntmps88
    go_wp2_with fail
    go_quiet (fail)
    have HQ := Lib.hid (HG.out.drewN nq)
    have HQS := Lib.hid ((Stp.refl (fun x => x = g) w).drewN nq)
    go_wp2
    go_end0
    exact ⟨rfl, by rw [HV.out]; exact HPUT.out _ HQ.out n, by simpa using HQS.out.setCell (p := ⟨g, s, none⟩) (.inl rfl) (.int .i64 n)⟩
  · cases hb : bt b n v
    · have HV := Lib.hid (HP.out.2.2 (by omega) hb)
      have hd : decide (v < 0) = false := decide_eq_false (by omega)
      have HF2 := Lib.hid (fun W => hb ▸ HF.out W n v)
      clear hb
      go_enter Tryd.func88, Tryd.ntmps88
      go_wp2_with fail
      go_quiet (with_reducible exact quiet_left (HF2.out _))
      have HQ := Lib.hid (HG.out.drewN nq)
      have HQS := Lib.hid ((Stp.refl (fun x => x = g) w).drewN nq)
      go_wp2
      go_end0
      exact ⟨rfl, by rw [HV.out, HSAME.out]; exact HQ.out, HQS.out⟩
    · have HV := Lib.hid (HP.out.2.1 (by omega) hb)
      have hd : decide (v < 0) = false := decide_eq_false (by omega)
      have HF2 := Lib.hid (fun W => hb ▸ HF.out W n v)
      clear hb
      go_enter Tryd.func88, Tryd.ntmps88
      go_wp2_with fail
      go_quiet (with_reducible exact quiet_left (HF2.out _))
      have HQ := Lib.hid (HG.out.drewN nq)
      have HQS := Lib.hid ((Stp.refl (fun x => x = g) w).drewN nq)
      go_wp2
      go_end0
      exact ⟨rfl, by rw [HV.out]; exact HPUT.out _ HQ.out n, by simpa using HQS.out.setCell (p := ⟨g, s, none⟩) (.inl rfl) (.int .i64 n)⟩
/-- -1 put into k of n places -/
def iL (n k : Nat) : List Int := List.replicate k (-1) ++ List.replicate (n - k) 0
theorem iL_zero (n : Nat) : iL n 0 = List.replicate n 0 := by simp [iL]
theorem iL_all (n : Nat) : iL n n = List.replicate n (-1) := by simp [iL]
theorem iL_len {n k : Nat} (h : k ≤ n) : (iL n k).length = n := by simp [iL]; omega
theorem iL_step {n k : Nat} (h : k < n) : (iL n k).set k (-1) = iL n (k + 1) := by
  unfold iL
  rw [List.set_append_right _ _ (by simp), List.length_replicate, Nat.sub_self, show n - k = (n - (k + 1)) + 1 by omega, List.replicate_succ, List.set_cons_zero, List.replicate_succ', List.append_assoc]
  rfl
theorem iL_at {n k : Nat} (h : k < n) : (iL n k)[k]? = some 0 := by
  unfold iL
  rw [List.getElem?_append_right (by simp), List.length_replicate, Nat.sub_self, List.getElem?_replicate, if_pos (by omega)]
theorem iL_first {n : Nat} : (List.replicate (n + 1) (-1 : Int)).set 0 0 = 0 :: List.replicate n (-1) := by rw [List.replicate_succ, List.set_cons_zero]
theorem p_putT (b : Bool) (f : FuncId) (g h : Nat) (N : List Int) (T : Nat) (hT : T < 241) (t m : Int) (ht : t = (T : Int)) (w : World) (hN : N.length = 241) (hg : Blk w g 108 (aC N)) (hh : Blk w h 95 #[.func (.func f) #[] #[]])
    (he : ∀ args W, (callFunc f args).run Tryd.prog W = .ok (.enter f args) W)
    (hf : ∀ W x y, Calls Tryd.prog f #[.int .i64 x, .int .i64 y] W fun e W' => e = .returned (.bool (bt b x y)) ∧ W = W') :
    Calls Tryd.prog 88 #[.int .i64 t, .int .i64 m, .pointer (some ⟨g, 0, none⟩), .pointer (some ⟨h, 0, none⟩)] w fun e w' => e = .returned noResult ∧ Blk w' g 108 (aC (N.set T (putV b (N.getD T (-1)) m))) ∧ Stp (fun x => x = g) w w' := by
  subst ht
  obtain ⟨v, hv⟩ := get_lt (show T < N.length by omega)
  have := p_put b f g h N T m v w hN hv hg hh he hf
  rwa [show N.getD T (-1) = v by rw [List.getD_eq_getElem?_getD, hv]; rfl]
theorem vk_bd {b : Bool} {r : Ru} {l L : List Int} {k s : Nat} {n : Int} (hv : vRu r = true) (h : VK b r l k L) (hs : L[s]? = some n) : L.getD s (-1) = n ∧ -1 ≤ n ∧ n ≤ k ∧ (0 ≤ n → (s : Int) ≤ r.c) := by
  have hg : L.getD s (-1) = n := by rw [List.getD_eq_getElem?_getD, hs]; rfl
  refine ⟨hg, ?_⟩
  have := h s (List.getElem?_eq_some_iff.1 hs).1
  rw [hg] at this
  rcases this with ⟨h1, _⟩ | ⟨h1, h2, _⟩
  · omega
  · have := rch_bd hv h2; omega
theorem tS_cases {r : Ru} (hv : vRu r = true) {s : Nat} {g : Int} (hg : 0 ≤ g) (hs : (s : Int) ≤ r.c) :
    (s = 0 → g < r.s → tS r s g = 0 ∧ iS r s g = 1) ∧ (s = 0 → r.s ≤ g → tS r s g = 1 ∧ iS r s g = 0) ∧ (0 < s → r.g ≤ g → tS r s g = 1 ∧ iS r s g = 0) ∧ (0 < s → g < r.g → (s : Int) = r.c → tS r s g = 0 ∧ iS r s g = 0) ∧ (0 < s → g < r.g → (s : Int) < r.c → tS r s g = s + 1 ∧ iS r s g = 0) := by
  have := vru hv
  refine ⟨fun h1 h2 => ?_, fun h1 h2 => ?_, fun h1 h2 => ?_, fun h1 h2 h3 => ?_, fun h1 h2 h3 => ?_⟩
  · obtain ⟨a, c⟩ := nx_b (r := r) (st := (s : Int) - 1) (g := g) (by omega) (by omega)
    unfold tS iS; rw [a, c]; exact ⟨by simp, rfl⟩
  · obtain ⟨a, c⟩ := nx_a (r := r) (st := (s : Int) - 1) (g := g) (by omega) (by omega)
    unfold tS iS; rw [a, c]; exact ⟨by simp, rfl⟩
  · obtain ⟨a, c⟩ := nx_c (r := r) (st := (s : Int) - 1) (g := g) (by omega)
    rw [if_pos (Or.inr h2)] at a
    unfold tS iS; rw [a, c]; exact ⟨by simp, rfl⟩
  · obtain ⟨a, c⟩ := nx_c (r := r) (st := (s : Int) - 1) (g := g) (by omega)
    rw [if_neg (by omega), if_pos (by omega)] at a
    unfold tS iS; rw [a, c]; exact ⟨by simp, rfl⟩
  · obtain ⟨a, c⟩ := nx_c (r := r) (st := (s : Int) - 1) (g := g) (by omega)
    rw [if_neg (by omega), if_neg (by omega)] at a
    unfold tS iS; rw [a, c]; exact ⟨by omega, rfl⟩
theorem below_row {B : Nat} {w W : World} (h : Below B w W) {g : Nat} (hg : B ≤ g) (cs : Array Value) : Below B w (W.setRow g cs) := ⟨h.os, h.tape, h.output, by rw [setRow_size]; exact h.size, fun b hb => (setRow_other W g b cs (by omega)).trans (h.block b hb)⟩
theorem blk_row {w : World} {g : Nat} {t : TypeId} {c c' : Array Value} (h : Blk w g t c) : Blk (w.setRow g c') g t c' := setRow_heap w g c c' t (0, 0) h
theorem blk_row_far {w : World} {g k : Nat} {t : TypeId} {c c' : Array Value} (h : Blk w k t c) (hne : k ≠ g) : Blk (w.setRow g c') k t c := (setRow_other w g k c' hne).trans h
set_option maxHeartbeats 8000000 in
set_option maxRecDepth 20000 in
theorem p_bound (b : Bool) (A : Option Addr) (r : Ru) (l : List Int) (c : Nat) (f : FuncId) (w : World) (hv : vRu r = true) (hgu : vGu l = true) (hR : Rd zC 1 w A l)
    (he : ∀ args W, (callFunc f args).run Tryd.prog W = .ok (.enter f args) W)
    (hf : ∀ W x y, Calls Tryd.prog f #[.int .i64 x, .int .i64 y] W fun e W' => e = .returned (.bool (bt b x y)) ∧ W = W') :
    Calls Tryd.prog 77 #[ruV r, .slice A l.length c, .func (.func f) #[] #[]] w fun e w' => ∃ v : Int, e = .returned (.int .i64 v) ∧ Bst b (AllR r l) v ∧ Below w.heap.size w w' := by
  have HF := Lib.hid hf
  have HV := Lib.hid (vru hv)
  have HRU := Lib.hid hv
  have HGU := Lib.hid (vgu hgu).2
  have HIS := Lib.hid (fun k (h : k < 241) => iL_step h)
  have HIA := Lib.hid (fun k (h : k < 241) => iL_at h)
  have hl := (vgu hgu).1
  have HCP := Lib.hid (fun x (h : x < 0) => cov_p hv h)
  have HCO := Lib.hid (fun x (h : 0 ≤ x) => cov_one r h)
  have HVS := Lib.hid (fun k L N gs => vk_step (b := b) (l := l) (k := k) (L := L) (N := N) (gs := gs) hv)
  have HUA := Lib.hid (fun o => up_all (b := b) (l := l) (n := 241) (o := o) hv)
  clear hf hgu
  go_enter Tryd.func77, Tryd.ntmps77
  go_wp2_with fail
  have x0 := (Blk.new w 23 #[.int .i64 r.s, .int .i64 r.g, .int .i64 r.c])
  have B0 := bl_alloc (below_refl w) (.cells #[.int .i64 r.s, .int .i64 r.g, .int .i64 r.c] 23)
  have s0 := World.size_alloc w (.cells #[.int .i64 r.s, .int .i64 r.g, .int .i64 r.c] 23)
  generalize w.alloc (.cells #[.int .i64 r.s, .int .i64 r.g, .int .i64 r.c] 23) = W0 at *
  have y0 := (Blk.new W0 95 #[.func (.func f) #[] #[]])
  have B1 := bl_alloc B0 (.cells #[.func (.func f) #[] #[]] 95)
  have x1 := x0.alloc (.cells #[.func (.func f) #[] #[]] 95)
  have s1 := World.size_alloc W0 (.cells #[.func (.func f) #[] #[]] 95)
  generalize W0.alloc (.cells #[.func (.func f) #[] #[]] 95) = W1 at *
  have z2 := (Blk.new W1 108 Tryd.zeroCells108)
  have B2 := bl_alloc B1 (.cells Tryd.zeroCells108 108)
  have x2 := x1.alloc (.cells Tryd.zeroCells108 108)
  have y2 := y0.alloc (.cells Tryd.zeroCells108 108)
  generalize W1.alloc (.cells Tryd.zeroCells108 108) = W2 at *
  rw [aC_zero, ← iL_zero] at z2
  have e0 : W0.heap.size = w.heap.size + 1 := s0
  have e1 : W1.heap.size = w.heap.size + 1 + 1 := by omega
  rw [e0] at y2
  rw [e1] at z2
  clear x0 x1 y0 B0 B1 s0 s1 e0 e1
  go_loopw [22] (fun i wr => ∃ k : Nat, k ≤ 241 ∧ i = .int .i64 k ∧ Below w.heap.size w wr ∧ Blk wr w.heap.size 23 #[.int .i64 r.s, .int .i64 r.g, .int .i64 r.c] ∧ Blk wr (w.heap.size + 1) 95 #[.func (.func f) #[] #[]] ∧ Blk wr (w.heap.size + 1 + 1) 108 (aC (iL 241 k))) (fun i _ => 241 - (intOf i).toNat)
  case atStart => exact ⟨0, by omega, rfl, B2, x2, y2, z2⟩
  case round =>
    clear B2 x2 y2 z2
    obtain ⟨k, hk, rfl, hbw, xr, yr, zr⟩ := hrel
    have k0 : (0 : Int) ≤ (k : Int) := Int.natCast_nonneg _
    by_cases hlt : k < 241
    · have k1 : (k : Int) < 241 := by omega
      have c0 := blk_at zr (HIA.out k hlt)
      have f0 := zr.frozen k
      have HZ := Lib.hid (blk_put zr k (-1))
      have HX := Lib.hid (xr.far (p := ⟨w.heap.size + 1 + 1, k, none⟩) (by show w.heap.size ≠ w.heap.size + 1 + 1; omega) (.int .i64 (-1)))
      have HY := Lib.hid (yr.far (p := ⟨w.heap.size + 1 + 1, k, none⟩) (by show w.heap.size + 1 ≠ w.heap.size + 1 + 1; omega) (.int .i64 (-1)))
      have HB := Lib.hid (hbw.setCell (p := ⟨w.heap.size + 1 + 1, k, none⟩) (by show w.heap.size ≤ w.heap.size + 1 + 1; omega) (.int .i64 (-1)))
      have zl := zr.lt
      clear zr xr yr
      go_wp2
      go_roundw
      case rel => exact ⟨k + 1, by omega, by go_num, by simpa using HB.out, by simpa using HX.out, by simpa using HY.out, by rw [← HIS.out k hlt]; simpa using HZ.out⟩
      case measure => simp [intOf]; omega
    · have hk9 : k = 241 := by omega
      rw [hk9, iL_all] at zr
      obtain ⟨K, hK⟩ : ∃ K : Int, K = (k : Int) := ⟨_, rfl⟩
      have hK2 : ¬ K < 241 := by omega
      rw [← hK]
      clear hK hk9 hlt hk k0
      have c0 := blk_at zr (show (List.replicate 241 (-1 : Int))[0]? = some (-1) by rfl)
      have f0 := zr.frozen 0
      have HZ := Lib.hid (blk_put zr 0 0)
      have HX := Lib.hid (xr.far (p := ⟨w.heap.size + 1 + 1, 0, none⟩) (by show w.heap.size ≠ w.heap.size + 1 + 1; omega) (.int .i64 0))
      have HY := Lib.hid (yr.far (p := ⟨w.heap.size + 1 + 1, 0, none⟩) (by show w.heap.size + 1 ≠ w.heap.size + 1 + 1; omega) (.int .i64 0))
      have HB := Lib.hid (hbw.setCell (p := ⟨w.heap.size + 1 + 1, 0, none⟩) (by show w.heap.size ≤ w.heap.size + 1 + 1; omega) (.int .i64 0))
      have zl := zr.lt
      clear zr xr yr
      go_wp2_with fail
      generalize hWA : wr.setCell ⟨w.heap.size + 1 + 1, 0, none⟩ (.int .i64 0) = WA
      have HX2 := HX.out
      have HY2 := HY.out
      have HZ2 := HZ.out
      have HB2 := HB.out
      rw [hWA] at HX2 HY2 HZ2 HB2
      rw [iL_first] at HZ2
      clear HX HY HZ HB c0 f0 hbw hWA zl
      go_loopw [31] (fun i wq => ∃ k : Nat, k ≤ l.length ∧ i = .int .i64 k ∧ Below w.heap.size w wq ∧ Blk wq w.heap.size 23 #[.int .i64 r.s, .int .i64 r.g, .int .i64 r.c] ∧ Blk wq (w.heap.size + 1) 95 #[.func (.func f) #[] #[]] ∧ ∃ L : List Int, L.length = 241 ∧ VK b r l k L ∧ Blk wq (w.heap.size + 1 + 1) 108 (aC L)) (fun i _ => l.length - (intOf i).toNat)
      case atStart => exact ⟨0, by omega, rfl, HB2, HX2, HY2, _, by simp, vk_zero b r l 240, HZ2⟩
      case round =>
        clear HB2 HX2 HY2 HZ2
        rename World => wq
        obtain ⟨k, hk, rfl, hbq, xq, yq, L, hL, hVK, zq⟩ := hrel
        have HVK := Lib.hid hVK
        clear hVK
        have k0 : (0 : Int) ≤ (k : Int) := Int.natCast_nonneg _
        by_cases hlt : k < l.length
        · have k1 : (k : Int) < (l.length : Int) := by omega
          obtain ⟨g, gb, go, hg, rfl, hgb, c0⟩ := rd_int (hR.on hbq) hlt
          obtain ⟨g0, g1⟩ := HGU.out k g hg
          have HGD := Lib.hid (getD_of hg)
          have hq := hbq.size
          have G0 := Blk.new wq 108 Tryd.zeroCells108
          have B3 := bl_alloc hbq (.cells Tryd.zeroCells108 108)
          have x3 := xq.alloc (.cells Tryd.zeroCells108 108)
          have y3 := yq.alloc (.cells Tryd.zeroCells108 108)
          have z3 := zq.alloc (.cells Tryd.zeroCells108 108)
          have hG : w.heap.size + 1 + 1 < wq.heap.size := zq.lt
          have HSZ := Lib.hid (show (Tryd.prog.info? 108).map (·.size) = some (aC L).size by rw [aC_size, hL]; kernel_rfl)
          clear hg
          go_wp2_with fail
          generalize wq.alloc (.cells Tryd.zeroCells108 108) = W3 at *
          rw [aC_zero, ← iL_zero] at G0
          generalize wq.heap.size = G at *
          clear xq yq zq hbq c0 hgb hq
          go_loopw [35] (fun i wz => ∃ j : Nat, j ≤ 241 ∧ i = .int .i64 j ∧ Below w.heap.size w wz ∧ Blk wz w.heap.size 23 #[.int .i64 r.s, .int .i64 r.g, .int .i64 r.c] ∧ Blk wz (w.heap.size + 1) 95 #[.func (.func f) #[] #[]] ∧ Blk wz (w.heap.size + 1 + 1) 108 (aC L) ∧ Blk wz G 108 (aC (iL 241 j))) (fun i _ => 241 - (intOf i).toNat)
          case atStart => exact ⟨0, by omega, rfl, B3, x3, y3, z3, G0⟩
          case round =>
            clear B3 x3 y3 z3 G0
            rename World => wz
            obtain ⟨j, hj, rfl, hbz, xz, yz, zz, gz⟩ := hrel
            have j0 : (0 : Int) ≤ (j : Int) := Int.natCast_nonneg _
            by_cases hj2 : j < 241
            · have j1 : (j : Int) < 241 := by omega
              have c0 := blk_at gz (HIA.out j hj2)
              have f0 := gz.frozen j
              have HG := Lib.hid (blk_put gz j (-1))
              have HX := Lib.hid (xz.far (p := ⟨G, j, none⟩) (by show w.heap.size ≠ G; omega) (.int .i64 (-1)))
              have HY := Lib.hid (yz.far (p := ⟨G, j, none⟩) (by show w.heap.size + 1 ≠ G; omega) (.int .i64 (-1)))
              have HZ := Lib.hid (zz.far (p := ⟨G, j, none⟩) (by show w.heap.size + 1 + 1 ≠ G; omega) (.int .i64 (-1)))
              have HB := Lib.hid (hbz.setCell (p := ⟨G, j, none⟩) (by show w.heap.size ≤ G; omega) (.int .i64 (-1)))
              have zl := gz.lt
              clear xz yz zz gz
              go_wp2
              go_roundw
              case rel => exact ⟨j + 1, by omega, by go_num, by simpa using HB.out, by simpa using HX.out, by simpa using HY.out, by simpa using HZ.out, by rw [← HIS.out j hj2]; simpa using HG.out⟩
              case measure => simp [intOf]; omega
            · have hj9 : j = 241 := by omega
              rw [hj9, iL_all] at gz
              obtain ⟨J, hJ⟩ : ∃ J : Int, J = (j : Int) := ⟨_, rfl⟩
              have hJ2 : ¬ J < 241 := by omega
              rw [← hJ]
              clear hJ hj9 hj2 hj j0
              have q0 := xz.cell 0
              simp only [List.getElem?_toArray, List.getElem?_cons_zero] at q0
              have zx := xz.lt
              have hw1 : IntKind.i64.wrap (r.s - 1) = r.s - 1 := fits_wrap (by have := HV.out; omega)
              have HC1 := Lib.hid (fun (h : g < 0) => show Cov r (l.getD k 0) [0, r.s - 1, 200] by rw [HGD.out]; exact HCP.out g h)
              have HC2 := Lib.hid (fun (h : 0 ≤ g) => show Cov r (l.getD k 0) [g] by rw [HGD.out]; exact HCO.out g h)
              go_upto_if 45 with fail
              go_cut [14] (fun s wx => ∃ (gb2 : Nat) (gs : List Int), s = .slice (some ⟨gb2, 0, none⟩) gs.length gs.length ∧ wz.heap.size ≤ gb2 ∧ Blk wx gb2 3 (aC gs) ∧ Hid (Cov r (l.getD k 0) gs) ∧ gs.length ≤ 3 ∧ Below wz.heap.size wz wx)
              case first =>
                by_cases hg : g = -1
                · have C := Lib.hid (HC1.out (by omega))
                  have hg2 : (g == -1) = true := by simpa using hg
                  have K := (Blk.new (wz.alloc (.cells #[.int .i64 g] 3)) 3 #[.int .i64 0, .int .i64 (r.s - 1), .int .i64 200])
                  rw [World.size_alloc] at K
                  have K2 : Blk ((wz.alloc (.cells #[.int .i64 g] 3)).alloc (.cells #[.int .i64 0, .int .i64 (r.s - 1), .int .i64 200] 3)) (wz.heap.size + 1) 3 (aC [0, r.s - 1, 200]) := K
                  have KB := bl_alloc (bl_alloc (below_refl wz) (.cells #[.int .i64 g] 3)) (.cells #[.int .i64 0, .int .i64 (r.s - 1), .int .i64 200] 3)
                  clear hg HC1 HC2
                  go_wp2
                  go_meet
                  case rel => exact ⟨_, [0, r.s - 1, 200], rfl, Nat.le_succ _, K2, C, by simp, KB⟩
                · have C := Lib.hid (HC2.out (by omega))
                  have hg2 : (g == -1) = false := by simpa using hg
                  have K := (Blk.new wz 3 (aC [g]))
                  have KB := (bl_alloc (below_refl wz) (.cells (aC [g]) 3))
                  clear hg HC1 HC2
                  go_wp2
                  go_meet
                  case rel => exact ⟨_, [g], rfl, Nat.le_refl _, K, C, by simp, KB⟩
              case rest =>
                obtain ⟨gb2, gs, rfl, hg2, kg, HC, hgl, hbx⟩ := hcut
                have B5 := below_tr hbz hbx
                have x5 := xz.below hbx xz.lt
                have y5 := yz.below hbx yz.lt
                have z5 := zz.below hbx zz.lt
                have G5 := gz.below hbx gz.lt
                have hGg : G < gb2 := by have := gz.lt; omega
                clear hbz xz yz zz gz hbx q0 hw1 HC1 HC2 zx
                go_wp2_with fail
                refine wp_load_row 108 (.tmp 7) rfl (w.heap.size + 1 + 1) rfl 108 (aC L) (0, 0) (.array 241 3) z5 Tryd.underlying108 rfl HSZ.out ?_
                go_wp2_with fail
                go_loopw [51] (fun i wz => ∃ (s : Nat) (N : List Int), s ≤ 241 ∧ i = .int .i64 s ∧ N.length = 241 ∧ Hid (NV b r L (prs s gs) N) ∧ Below w.heap.size w wz ∧ Blk wz w.heap.size 23 #[.int .i64 r.s, .int .i64 r.g, .int .i64 r.c] ∧ Blk wz (w.heap.size + 1) 95 #[.func (.func f) #[] #[]] ∧ Blk wz (w.heap.size + 1 + 1) 108 (aC L) ∧ Blk wz G 108 (aC N) ∧ Blk wz gb2 3 (aC gs)) (fun i _ => 241 - (intOf i).toNat)
                case atStart => exact ⟨0, _, by omega, rfl, by simp, Lib.hid (nv_nil b r L 241), B5, x5, y5, z5, G5, kg⟩
                case round =>
                  clear B5 x5 y5 z5 G5 kg
                  rename World => wy
                  obtain ⟨s, N, hs, rfl, hNl, HNV, hby, xy, yy, zy, gy, ky⟩ := hrel
                  have s0 : (0 : Int) ≤ (s : Int) := Int.natCast_nonneg _
                  by_cases hs2 : s < 241
                  · have s1 : (s : Int) < 241 := by omega
                    obtain ⟨n, hn⟩ := get_lt (show s < L.length by omega)
                    have HIX := run_index_counts hn hs2
                    obtain ⟨hls, n0, n1, n2⟩ := vk_bd HRU.out HVK.out hn
                    have hw1 : IntKind.i64.wrap (n + 1) = n + 1 := fits_wrap (by omega)
                    have hw2 : IntKind.i64.wrap ((s : Int) + 1) = (s : Int) + 1 := fits_wrap (by omega)
                    clear hn
                    go_wp2_with fail
                    go_loopw [57] (fun i wz => ∃ (j : Nat) (N : List Int), j ≤ gs.length ∧ i = .int .i64 j ∧ N.length = 241 ∧ Hid (NV b r L (prs s gs ++ (gs.take j).map fun g => (s, g)) N) ∧ Below w.heap.size w wz ∧ Blk wz w.heap.size 23 #[.int .i64 r.s, .int .i64 r.g, .int .i64 r.c] ∧ Blk wz (w.heap.size + 1) 95 #[.func (.func f) #[] #[]] ∧ Blk wz (w.heap.size + 1 + 1) 108 (aC L) ∧ Blk wz G 108 (aC N) ∧ Blk wz gb2 3 (aC gs)) (fun i _ => gs.length - (intOf i).toNat)
                    case atStart => exact ⟨0, N, by omega, rfl, hNl, by simpa using HNV, hby, xy, yy, zy, gy, ky⟩
                    case round =>
                      clear hNl HNV hby xy yy zy gy ky N
                      rename World => wy
                      obtain ⟨j, N, hj, rfl, hNl, HNV, hby, xy, yy, zy, gy, ky⟩ := hrel
                      have j0 : (0 : Int) ≤ (j : Int) := Int.natCast_nonneg _
                      by_cases hj2 : j < gs.length
                      · have j1 : (j : Int) < (gs.length : Int) := by omega
                        obtain ⟨g2, hg2x⟩ := get_lt hj2
                        have c0 := blk_at ky hg2x
                        have hg0 : 0 ≤ g2 := by
                          have := HC.out.1 g2 (List.mem_of_getElem? hg2x)
                          rcases this with ⟨h1, h2⟩ | ⟨_, h2, _⟩ <;> omega
                        have htk : (gs.take (j + 1)).map (fun g => (s, g)) = (gs.take j).map (fun g => (s, g)) ++ [(s, g2)] := by rw [List.take_add_one, hg2x]; simp
                        have q0 := xy.cell 0
                        have q1 := xy.cell 1
                        have q2 := xy.cell 2
                        simp only [List.getElem?_toArray, List.getElem?_cons_zero, List.getElem?_cons_succ] at q0 q1 q2
                        have zx := xy.lt
                        have hG2 : w.heap.size + 1 + 1 < G := hG
                        clear hg2x
                        by_cases hn0 : n < 0
                        · have HN2 := Lib.hid (show NV b r L (prs s gs ++ (gs.take (j + 1)).map fun g => (s, g)) N by
                            rw [htk, ← List.append_assoc]
                            exact nv_skip HNV.out (by omega) g2)
                          clear htk
                          go_wp2
                          go_roundw
                          case rel => exact ⟨j + 1, N, by omega, by go_num, hNl, HN2, hby, xy, yy, zy, gy, ky⟩
                          case measure => simp [intOf]; omega
                        · have hsc := n2 (by omega)
                          obtain ⟨t1, t2, t3, t4, t5⟩ := tS_cases HRU.out hg0 hsc
                          have hT : tS r s g2 < 241 := by have := (tS_le HRU.out hsc g2).1; have := HV.out; omega
                          by_cases hs0 : s = 0
                          · have hs9 : ((s : Int) == 0) = true := by simp; omega
                            have T1 := t1 hs0
                            have T2 := t2 hs0
                            clear t1 t2 t3 t4 t5 hs0
                            by_cases hgs : g2 < r.s
                            · obtain ⟨hT2, hI2⟩ := T1 hgs
                              have HC2 := Lib.hid (p_putT b f G (w.heap.size + 1) N (tS r s g2) hT 0 (n + 1) (by rw [hT2]; omega) wy hNl gy yy he HF.out)
                              have HN2 := Lib.hid (show NV b r L (prs s gs ++ (gs.take (j + 1)).map fun g => (s, g)) (N.set (tS r s g2) (putV b (N.getD (tS r s g2) (-1)) (n + 1))) by
                                have := nv_put HNV.out (s := s) (by omega) g2
                                rw [hls, hI2] at this
                                rw [htk, ← List.append_assoc]
                                first | exact this | simpa using this)
                              have hNl2 : (N.set (tS r s g2) (putV b (N.getD (tS r s g2) (-1)) (n + 1))).length = 241 := by rw [List.length_set]; exact hNl
                              generalize N.set (tS r s g2) (putV b (N.getD (tS r s g2) (-1)) (n + 1)) = N2 at *
                              clear gy
                              go_wp2_with fail
                              refine HC2.out.mono ?_
                              rintro e wp ⟨rfl, gp, hst⟩
                              have Bp := hby.trans (hst.toBelow hby.size (fun b hb e => by have : b = G := e; omega))
                              have xp := hst.blk xy (by omega)
                              have yp := hst.blk yy (by omega)
                              have zp := hst.blk zy (by omega)
                              have kp := hst.blk ky (by omega)
                              clear hst HC2
                              go_wp2
                              go_roundw
                              case rel => exact ⟨j + 1, N2, by omega, by go_num, hNl2, HN2, Bp, xp, yp, zp, gp, kp⟩
                              case measure => simp [intOf]; omega
                            · obtain ⟨hT2, hI2⟩ := T2 (by omega)
                              have HC2 := Lib.hid (p_putT b f G (w.heap.size + 1) N (tS r s g2) hT 1 n (by rw [hT2]; omega) wy hNl gy yy he HF.out)
                              have HN2 := Lib.hid (show NV b r L (prs s gs ++ (gs.take (j + 1)).map fun g => (s, g)) (N.set (tS r s g2) (putV b (N.getD (tS r s g2) (-1)) (n))) by
                                have := nv_put HNV.out (s := s) (by omega) g2
                                rw [hls, hI2] at this
                                rw [htk, ← List.append_assoc]
                                first | exact this | simpa using this)
                              have hNl2 : (N.set (tS r s g2) (putV b (N.getD (tS r s g2) (-1)) (n))).length = 241 := by rw [List.length_set]; exact hNl
                              generalize N.set (tS r s g2) (putV b (N.getD (tS r s g2) (-1)) (n)) = N2 at *
                              clear gy
                              go_wp2_with fail
                              refine HC2.out.mono ?_
                              rintro e wp ⟨rfl, gp, hst⟩
                              have Bp := hby.trans (hst.toBelow hby.size (fun b hb e => by have : b = G := e; omega))
                              have xp := hst.blk xy (by omega)
                              have yp := hst.blk yy (by omega)
                              have zp := hst.blk zy (by omega)
                              have kp := hst.blk ky (by omega)
                              clear hst HC2
                              go_wp2
                              go_roundw
                              case rel => exact ⟨j + 1, N2, by omega, by go_num, hNl2, HN2, Bp, xp, yp, zp, gp, kp⟩
                              case measure => simp [intOf]; omega
                          · have hs9 : ((s : Int) == 0) = false := by simp; omega
                            by_cases hgg : r.g ≤ g2
                            · obtain ⟨hT2, hI2⟩ := t3 (by omega) hgg
                              have HC2 := Lib.hid (p_putT b f G (w.heap.size + 1) N (tS r s g2) hT 1 n (by rw [hT2]; omega) wy hNl gy yy he HF.out)
                              have HN2 := Lib.hid (show NV b r L (prs s gs ++ (gs.take (j + 1)).map fun g => (s, g)) (N.set (tS r s g2) (putV b (N.getD (tS r s g2) (-1)) (n))) by
                                have := nv_put HNV.out (s := s) (by omega) g2
                                rw [hls, hI2] at this
                                rw [htk, ← List.append_assoc]
                                first | exact this | simpa using this)
                              have hNl2 : (N.set (tS r s g2) (putV b (N.getD (tS r s g2) (-1)) (n))).length = 241 := by rw [List.length_set]; exact hNl
                              generalize N.set (tS r s g2) (putV b (N.getD (tS r s g2) (-1)) (n)) = N2 at *
                              clear gy
                              go_wp2_with fail
                              refine HC2.out.mono ?_
                              rintro e wp ⟨rfl, gp, hst⟩
                              have Bp := hby.trans (hst.toBelow hby.size (fun b hb e => by have : b = G := e; omega))
                              have xp := hst.blk xy (by omega)
                              have yp := hst.blk yy (by omega)
                              have zp := hst.blk zy (by omega)
                              have kp := hst.blk ky (by omega)
                              clear hst HC2
                              go_wp2
                              go_roundw
                              case rel => exact ⟨j + 1, N2, by omega, by go_num, hNl2, HN2, Bp, xp, yp, zp, gp, kp⟩
                              case measure => simp [intOf]; omega
                            · by_cases hsr : (s : Int) = r.c
                              · obtain ⟨hT2, hI2⟩ := t4 (by omega) (by omega) hsr
                                rw [← hsr] at q2
                                clear hsr t1 t2 t3 t4 t5
                                have HC2 := Lib.hid (p_putT b f G (w.heap.size + 1) N (tS r s g2) hT 0 n (by rw [hT2]; omega) wy hNl gy yy he HF.out)
                                have HN2 := Lib.hid (show NV b r L (prs s gs ++ (gs.take (j + 1)).map fun g => (s, g)) (N.set (tS r s g2) (putV b (N.getD (tS r s g2) (-1)) (n))) by
                                  have := nv_put HNV.out (s := s) (by omega) g2
                                  rw [hls, hI2] at this
                                  rw [htk, ← List.append_assoc]
                                  first | exact this | simpa using this)
                                have hNl2 : (N.set (tS r s g2) (putV b (N.getD (tS r s g2) (-1)) (n))).length = 241 := by rw [List.length_set]; exact hNl
                                generalize N.set (tS r s g2) (putV b (N.getD (tS r s g2) (-1)) (n)) = N2 at *
                                clear gy
                                go_wp2_with fail
                                refine HC2.out.mono ?_
                                rintro e wp ⟨rfl, gp, hst⟩
                                have Bp := hby.trans (hst.toBelow hby.size (fun b hb e => by have : b = G := e; omega))
                                have xp := hst.blk xy (by omega)
                                have yp := hst.blk yy (by omega)
                                have zp := hst.blk zy (by omega)
                                have kp := hst.blk ky (by omega)
                                clear hst HC2
                                go_wp2
                                go_roundw
                                case rel => exact ⟨j + 1, N2, by omega, by go_num, hNl2, HN2, Bp, xp, yp, zp, gp, kp⟩
                                case measure => simp [intOf]; omega
                              · have hs8 : ((s : Int) == r.c) = false := by simpa using hsr
                                obtain ⟨hT2, hI2⟩ := t5 (by omega) (by omega) (by omega)
                                have HC2 := Lib.hid (p_putT b f G (w.heap.size + 1) N (tS r s g2) hT ((s : Int) + 1) n (by rw [hT2]; omega) wy hNl gy yy he HF.out)
                                have HN2 := Lib.hid (show NV b r L (prs s gs ++ (gs.take (j + 1)).map fun g => (s, g)) (N.set (tS r s g2) (putV b (N.getD (tS r s g2) (-1)) (n))) by
                                  have := nv_put HNV.out (s := s) (by omega) g2
                                  rw [hls, hI2] at this
                                  rw [htk, ← List.append_assoc]
                                  first | exact this | simpa using this)
                                have hNl2 : (N.set (tS r s g2) (putV b (N.getD (tS r s g2) (-1)) (n))).length = 241 := by rw [List.length_set]; exact hNl
                                generalize N.set (tS r s g2) (putV b (N.getD (tS r s g2) (-1)) (n)) = N2 at *
                                clear gy
                                go_wp2_with fail
                                refine HC2.out.mono ?_
                                rintro e wp ⟨rfl, gp, hst⟩
                                have Bp := hby.trans (hst.toBelow hby.size (fun b hb e => by have : b = G := e; omega))
                                have xp := hst.blk xy (by omega)
                                have yp := hst.blk yy (by omega)
                                have zp := hst.blk zy (by omega)
                                have kp := hst.blk ky (by omega)
                                clear hst HC2
                                go_wp2
                                go_roundw
                                case rel => exact ⟨j + 1, N2, by omega, by go_num, hNl2, HN2, Bp, xp, yp, zp, gp, kp⟩
                                case measure => simp [intOf]; omega
                      · obtain rfl : j = gs.length := by omega
                        have HN2 := Lib.hid (show NV b r L (prs (s + 1) gs) N by
                          rw [prs_succ]
                          have := HNV.out
                          rwa [List.take_length] at this)
                        clear HNV
                        go_wp2
                        go_roundw
                        case rel => exact ⟨s + 1, N, by omega, by go_num, hNl, HN2, hby, xy, yy, zy, gy, ky⟩
                        case measure => simp [intOf]; omega
                  · have hs9 : s = 241 := by omega
                    have HN2 := Lib.hid (HVS.out k L N gs HVK.out (by have := HV.out; omega) HC.out (by rw [hL]; have := HNV.out; rwa [hs9] at this))
                    obtain ⟨S, hS⟩ : ∃ S : Int, S = (s : Int) := ⟨_, rfl⟩
                    have hS2 : ¬ S < 241 := by omega
                    rw [← hS]
                    clear hS hs9 hs2 hs s0 HNV
                    have HSN := Lib.hid (show (Tryd.prog.info? 108).map (·.size) = some (aC N).size by rw [aC_size, hNl]; kernel_rfl)
                    have hG2 : w.heap.size + 1 + 1 < G := hG
                    go_wp2_with fail
                    refine wp_load_row 108 (.tmp 11) rfl G rfl 108 (aC N) (0, 0) (.array 241 3) gy Tryd.underlying108 rfl HSN.out ?_
                    have hsz : (aC N).size = 241 := by rw [aC_size, hNl]
                    have hsc := run_store_row zy (show L.length = N.length by omega)
                    have HB := Lib.hid (below_row hby (show w.heap.size ≤ w.heap.size + 1 + 1 by omega) (aC N))
                    have HX := Lib.hid (blk_row_far (c' := aC N) xy (show w.heap.size ≠ w.heap.size + 1 + 1 by omega))
                    have HY := Lib.hid (blk_row_far (c' := aC N) yy (show w.heap.size + 1 ≠ w.heap.size + 1 + 1 by omega))
                    have HZ := Lib.hid (blk_row (c' := aC N) zy)
                    go_wp2_with fail
                    go_roundw
                    case rel => exact ⟨k + 1, by omega, by go_num, HB.out, HX.out, HY.out, N, hNl, HN2.out, HZ.out⟩
                    case measure => simp [intOf]; omega
        · obtain rfl : k = l.length := by omega
          have HSZ := Lib.hid (show (Tryd.prog.info? 108).map (·.size) = some (aC L).size by rw [aC_size, hL]; kernel_rfl)
          go_wp2_with fail
          refine wp_load_row 108 (.tmp 7) rfl (w.heap.size + 1 + 1) rfl 108 (aC L) (0, 0) (.array 241 3) zq Tryd.underlying108 rfl HSZ.out ?_
          go_wp2_with fail
          go_loopw [19, 107] (fun s19 i wz => ∃ (s : Nat) (o : Int), s ≤ 241 ∧ i = .int .i64 s ∧ s19 = .int .i64 o ∧ Hid (Bst b (UpR r l s) o) ∧ Below w.heap.size w wz ∧ Blk wz (w.heap.size + 1) 95 #[.func (.func f) #[] #[]]) (fun _ i _ => 241 - (intOf i).toNat)
          case atStart => exact ⟨0, -1, by omega, rfl, rfl, Lib.hid (up_zero b r l), hbq, yq⟩
          case round =>
            clear hbq xq yq zq
            rename World => wz
            obtain ⟨s, o, hs, rfl, rfl, HO, hbz, yz⟩ := hrel
            have s0 : (0 : Int) ≤ (s : Int) := Int.natCast_nonneg _
            by_cases hs2 : s < 241
            · have s1 : (s : Int) < 241 := by omega
              obtain ⟨n, hn⟩ := get_lt (show s < L.length by omega)
              have HIX := run_index_counts hn hs2
              obtain ⟨hls, n0, n1, n2⟩ := vk_bd HRU.out HVK.out hn
              have HUS := Lib.hid (up_step HO.out HVK.out (show s < L.length by omega))
              rw [hls] at HUS
              have HPV := Lib.hid (putV_cases (b := b) (v := o) (n := n))
              have HC := Lib.hid (fun W => HF.out W n o)
              have y0 := yz.cell 0
              simp only [List.getElem?_toArray, List.getElem?_cons_zero] at y0
              clear hn hls n2
              by_cases hn0 : n < 0
              · have HO2 := Lib.hid (show Bst b (UpR r l (s + 1)) o by have := HUS.out; rwa [if_neg (by omega)] at this)
                have hd : decide (0 ≤ n) = false := decide_eq_false (by omega)
                go_wp2
                go_roundw
                case rel => exact ⟨s + 1, o, by omega, by go_num, rfl, HO2, hbz, yz⟩
                case measure => simp [intOf]; omega
              · have HO2 := Lib.hid (show Bst b (UpR r l (s + 1)) (putV b o n) by have := HUS.out; rwa [if_pos (by omega)] at this)
                by_cases ho : o < 0
                · have e := Lib.hid (HPV.out.1 ho)
                  have hd : decide (o < 0) = true := decide_eq_true ho
                  go_wp2
                  go_roundw
                  case rel => exact ⟨s + 1, n, by omega, by go_num, rfl, by rw [e.out] at HO2; exact HO2, hbz, yz⟩
                  case measure => simp [intOf]; omega
                · have hd : decide (o < 0) = false := decide_eq_false (by omega)
                  cases hb : bt b n o
                  · have e := Lib.hid (HPV.out.2.2 (by omega) hb)
                    rw [hb] at HC
                    clear hb
                    go_wp2_with fail
                    refine (HC.out _).mono ?_
                    rintro e' w' ⟨rfl, rfl⟩
                    go_wp2
                    go_roundw
                    case rel => exact ⟨s + 1, o, by omega, by go_num, rfl, by rw [e.out] at HO2; exact HO2, hbz, yz⟩
                    case measure => simp [intOf]; omega
                  · have e := Lib.hid (HPV.out.2.1 (by omega) hb)
                    rw [hb] at HC
                    clear hb
                    go_wp2_with fail
                    refine (HC.out _).mono ?_
                    rintro e' w' ⟨rfl, rfl⟩
                    go_wp2
                    go_roundw
                    case rel => exact ⟨s + 1, n, by omega, by go_num, rfl, by rw [e.out] at HO2; exact HO2, hbz, yz⟩
                    case measure => simp [intOf]; omega
            · obtain rfl : s = 241 := by omega
              have HO2 := Lib.hid (HUA.out o (by have := HV.out; omega) HO.out)
              go_wp2
              go_ret
              exact ⟨o, rfl, HO2.out, hbz⟩
end Go.Proofs.YtkigdjfagcnejaaDoor
