/- Fell: Hull of the reference. -/
import Derived.Test.YtkeojokbpjdhpaaFwg
import Derived.Test.YtkeojokbpjdhpaaFm1
import Derived.Laws.StructEq
set_option linter.unusedSimpArgs false
set_option linter.unusedVariables false
namespace Go.Proofs.Ytkeojokbpjdhpaa
open Go.RowKit

def RHul (l : List Pr) (s : List Sp) (w : World) (e : Ending) (w' : World) : Prop :=
  ∃ v, e = .returned (.tuple #[v, .int .i64 0]) ∧ OwnP w.heap.size w' v (hul s) ∧ Below w.heap.size w w'
theorem spC_all (l : List Sp) : ∀ u ∈ fl Sp.cs l, u.oneCell' = true := fun u hu => by
  unfold fl at hu
  obtain ⟨x, _, hx⟩ := List.mem_flatMap.1 hu
  exact spC_one x u hx
theorem mem_oth2 {l : List Sp} {k : Nat} {x : Sp} (h : x ∈ l.take k ++ l.drop (k + 1)) : x ∈ l := by
  rcases List.mem_append.1 h with h | h
  · exact List.mem_of_mem_take h
  · exact List.mem_of_mem_drop h
theorem own_len {base n : Nat} {W : World} {v : Value} {l : List Sp} (h : W.ownsRow base 24 2 v n (fl Sp.cs l)) (e : l.length = n) : OwnP base W v l := by subst e; exact h
theorem fl_one (x : Sp) : fl Sp.cs [x] = Sp.cs x := by simp [fl]
theorem own_first (w : World) (x : Sp) : (w.alloc (.cells (spA x) 24)).ownsRow w.heap.size 24 2 (.slice (some ⟨w.heap.size, 0, none⟩) 1 1) 1 (fl Sp.cs [x]) :=
  ⟨by rw [fl_one]; rfl, .inr ⟨w.heap.size, 1, spA x, rfl, Nat.le_refl _, (Blk.new w 24 (spA x) : _), Nat.le_refl _, by unfold maxLen; omega, rfl, by rw [fl_one]; rfl⟩⟩
def vlen : Value → Nat
  | .slice _ n _ => n
  | _ => 0
def bnx (l : List Sp) (last x : Sp) (j : Nat) : Bool := decide (x ≠ last) && (l.take j).all fun y => decide (0 ≤ cr last x y)
theorem bnx_zero (l : List Sp) (last x : Sp) : bnx l last x 0 = decide (x ≠ last) := by unfold bnx; simp
theorem bnx_all (l : List Sp) (last x : Sp) : bnx l last x l.length = follows l last x := by unfold bnx follows; rw [List.take_length]
theorem bnx_step {l : List Sp} {last x y : Sp} {j : Nat} (hy : l[j]? = some y) : bnx l last x (j + 1) = (bnx l last x j && decide (0 ≤ cr last x y)) := by
  unfold bnx; rw [List.take_add_one, hy, List.all_append, ← Bool.and_assoc]; simp
theorem low_start {l : List Sp} {f : Sp} (h : l[0]? = some f) : LowP l 0 f := ⟨List.mem_of_getElem? h, fun j hj => absurd hj (by omega)⟩
theorem low_keep {l : List Sp} {k : Nat} {f x : Sp} (h : LowP l k f) (hx : l[k]? = some x) (hb : ∀ y ∈ l, Bd 10000 y) (hn : lowI x f = false) : LowP l (k + 1) f := by
  refine ⟨h.1, fun j hj => ?_⟩
  by_cases e : j = k
  · subst e; rw [gl_of hx]
    have : ¬ lam 1 100000 x < lam 1 100000 f := fun q => by rw [(lowI_iff (hb x (List.mem_of_getElem? hx)) (hb f h.1)).2 q] at hn; cases hn
    omega
  · exact h.2 j (by omega)
theorem low_new {l : List Sp} {k : Nat} {f x : Sp} (h : LowP l k f) (hx : l[k]? = some x) (hb : ∀ y ∈ l, Bd 10000 y) (hn : lowI x f = true) : LowP l (k + 1) x := by
  have := (lowI_iff (hb x (List.mem_of_getElem? hx)) (hb f h.1)).1 hn
  refine ⟨List.mem_of_getElem? hx, fun j hj => ?_⟩
  by_cases e : j = k
  · subst e; rw [gl_of hx]; exact Int.le_refl _
  · have := h.2 j (by omega); omega
set_option maxHeartbeats 4000000 in
set_option maxRecDepth 20000 in
theorem r_Hull (A : Option Addr) (l : List Pr) (s : List Sp) (c : Nat) (w : World) (hv : vP l = true) (hp : s.Perm (spL l)) (ha : Asc s) (hR : Rd Pr.cs 3 w A l) :
    Calls Try.prog 12 #[.slice A l.length c] w (RHul l s w) := by
  have hl24 : l.length ≤ 24 := vP_len hv
  have HV := Lib.hid (r_Valid A l c w (by omega) hR)
  rw [hv] at HV
  have HP := Lib.hid (fun (W : World) (hb : Below w.heap.size w W) => r_spots A l c W (by omega) (hR.on hb))
  have hnd := vP_nodup hv
  have hbd := vP_bd hv
  have hLL := spL_len l
  generalize spL l = L at *
  clear hv hR
  have hL24 : L.length ≤ 24 := by omega
  clear hLL hl24
  obtain ⟨i0, hi, hi1, hi2, hi3⟩ := info_spot
  have HML := mem_leftK hp ha hnd
  have HLL := Lib.hid (leftK_hul hp ha hnd)
  have HMH := Lib.hid (show ∀ x, x ∈ hul s → x ∈ leftK L L.length from fun x hx => (HML x).2 hx)
  have HBF := Lib.hid (show ∀ x ∈ leftK L L.length, Bd 10000 x from fun x hx => hbd x ((leftK_sub L).mem hx))
  have HLOW := Lib.hid (fun f (h : LowP (leftK L L.length) (leftK L L.length).length f) => low_first ha HML h)
  have HNXT := Lib.hid (fun (n : Nat) last x (h1 : n + 1 < (hul s).length) (hx : x ∈ leftK L L.length) (hlast : (hul s)[n]? = some last) => next_iff (m := n + 1) ha HML (by omega) h1 hx (by simpa using hlast))
  unfold RHul
  clear HML
  have HBD := Lib.hid hbd
  clear hp ha hnd hbd
  generalize hul s = H at *
  go_enter Try.func12, Try.ntmps12
  go_wp2_with fail
  refine HV.out.mono ?_
  rintro e w1 ⟨rfl, hb1⟩
  go_wp2_with fail
  refine (HP.out _ hb1).mono ?_
  rintro e w2 ⟨v2, rfl, ho2, hb2⟩
  have B2 := below_tr hb1 hb2
  obtain ⟨A2, c2, rfl, hR2, hlc, hcm⟩ := own_rdc Sp.cs_len ho2
  clear ho2 hb1 hb2 HV HP
  go_wp2_with fail
  have HF := Lib.hid (show ∀ k, k ≤ L.length → (leftK L k).length ≤ 24 from fun k hk => Nat.le_trans (leftK_len L k) (by omega))
  go_loopw [5, 6, 7] (fun v i _ wr => ∃ k : Nat, k ≤ L.length ∧ i = .int .i64 k ∧ Below w2.heap.size w2 wr ∧ wr.ownsRow w2.heap.size 24 2 v (leftK L k).length (fl Sp.cs (leftK L k))) (fun _ i _ _ => L.length - (intOf i).toNat)
  case atStart => exact ⟨0, by omega, rfl, below_refl _, World.ownsRow_nil w2 _ _ _⟩
  case round =>
    obtain ⟨k, hk, rfl, hbw, hown⟩ := hrel
    obtain ⟨ad, cp, rfl⟩ := own_slice hown
    have kk0 : (0 : Int) ≤ (k : Int) := Int.natCast_nonneg _
    have hws := hbw.size
    by_cases hlt : k < L.length
    · have kk1 : (k : Int) < (L.length : Int) := by omega
      obtain ⟨x, b, off, hx, rfl, hb, c0, c1⟩ := rdS (hR2.on hbw) hlt
      have hkc : (k : Int) ≤ (c2 : Int) := by omega
      have hw1 : IntKind.i64.wrap ((k : Int) + 1) = (k : Int) + 1 := fits_wrap (by omega)
      have hlc' : (L.length : Int) ≤ (c2 : Int) := by omega
      have hk1c : (k : Int) + 1 ≤ (L.length : Int) := by omega
      have hk10 : (0 : Int) ≤ (k : Int) + 1 := by omega
      have hkt : ((k : Int) + 1).toNat = k + 1 := by omega
      have hkl : k + 1 ≤ L.length := by omega
      have HDR := Lib.hid (fun (W : World) (hb : Below w2.heap.size w2 W) => rd_fl Sp.cs_len (rd_dropA (hR2.on hb) (k + 1)))
      have HTK := Lib.hid (fun (W : World) (hb : Below w2.heap.size w2 W) => rd_fl Sp.cs_len (rd_takeA (hR2.on hb) k))
      rename World => wr
      have HOL : (L.take k ++ L.drop (k + 1)).length = k + (L.length - (k + 1)) := by rw [List.length_append, List.length_take, List.length_drop]; omega
      have HFL : ([] ++ fl Sp.cs (L.take k) ++ fl Sp.cs (L.drop (k + 1))) = fl Sp.cs (L.take k ++ L.drop (k + 1)) := by simp [fl]
      have HLF := Lib.hid (show lfI L k = !heldB (L.take k ++ L.drop (k + 1)) x by unfold lfI; rw [gl_of hx])
      have HBO := Lib.hid (show ∀ y ∈ L.take k ++ L.drop (k + 1), Bd 10000 y from fun y hy => HBD.out y (mem_oth2 hy))
      have HBX := Lib.hid (HBD.out x (List.mem_of_getElem? hx))
      have HYS := Lib.hid (fun (h : lfI L k = true) => (show leftK L (k + 1) = leftK L k ++ [x] by rw [leftK_yes h, gl_of hx]))
      have HNS := Lib.hid (fun (h : lfI L k = false) => leftK_no h)
      have HK24 := HF.out k hk
      clear hx
      obtain ⟨O, hO⟩ : ∃ O, O = L.take k ++ L.drop (k + 1) := ⟨_, rfl⟩
      rw [← hO] at HOL HFL HLF HBO
      clear hO
      go_upto_region 8 with fail
      go_cut [7] (fun s7 wx => ∃ a4 c4, s7 = .slice a4 O.length c4 ∧ Rd Sp.cs 2 wx a4 O ∧ Below wr.heap.size wr wx)
      case first =>
        by_cases hck : c2 = k + 1
        · subst hck
          have hkc' : (k : Int) ≤ (k : Int) + 1 := by omega
          have HNIL := Lib.hid (show L.drop (k + 1) = [] from List.drop_eq_nil_of_le (by omega))
          refine wp_region_noPanic ?_
          refine wp_region_held_drew (S := (fun w' => (∀ b o, b < wr.heap.size → w'.cell? ⟨b, o, none⟩ = wr.cell? ⟨b, o, none⟩) ∧ (∀ b o, b < wr.heap.size → w'.frozen? ⟨b, o, none⟩ = wr.frozen? ⟨b, o, none⟩) ∧ Below wr.heap.size wr w')) (by kernel_rfl) (kq_draw kq_refl) (fun hS0 => ?_)
          refine wpAnyH_take (i := 1) (oi := { dst := some 27, op := _, type := _, pos := _, after := _, guard := none }) (v := ?gv1) rfl (by kernel_rfl) (by kernel_rfl) (by kernel_rfl) (fun _ _ _ h => h) (Or.inl ⟨by rfl, ?gy1⟩) (by assumption) ?_
          case gy1 => (intro w' hSw; go_simp; try with_reducible rfl)
          try simp only [Act.put, List.setIfInBounds_toArray, List.set_cons_zero, List.set_cons_succ]
          refine wpAnyH_take (i := 2) (oi := { dst := some 28, op := _, type := _, pos := _, after := _, guard := none }) (v := ?gv2) rfl (by kernel_rfl) (by kernel_rfl) (by kernel_rfl) (fun _ _ _ h => h) (Or.inl ⟨by rfl, ?gy2⟩) (by assumption) ?_
          case gy2 => (intro w' hSw; go_simp; try with_reducible rfl)
          try simp only [Act.put, List.setIfInBounds_toArray, List.set_cons_zero, List.set_cons_succ]
          refine wpAnyH_take (i := 3) (oi := { dst := some 29, op := _, type := _, pos := _, after := _, guard := none }) (v := ?gv3) rfl (by kernel_rfl) (by kernel_rfl) (by kernel_rfl) (fun _ _ _ h => h) (Or.inl ⟨by rfl, ?gy3⟩) (by assumption) ?_
          case gy3 => (intro w' hSw; go_simp; try with_reducible rfl)
          try simp only [Act.put, List.setIfInBounds_toArray, List.set_cons_zero, List.set_cons_succ]
          refine wpAnyH_take (i := 5) (oi := { dst := some 31, op := _, type := _, pos := _, after := _, guard := none }) (v := ?gv4) rfl (by kernel_rfl) (by kernel_rfl) (by kernel_rfl) (fun _ _ _ h => h) (Or.inl ⟨by rfl, ?gy4⟩) (by assumption) ?_
          case gy4 => (intro w' hSw; go_simp; try with_reducible rfl)
          try simp only [Act.put, List.setIfInBounds_toArray, List.set_cons_zero, List.set_cons_succ]
          refine wpAnyH_take (i := 6) (oi := { dst := some 32, op := _, type := _, pos := _, after := _, guard := none }) (v := ?gv5) rfl (by kernel_rfl) (by kernel_rfl) (by kernel_rfl) (fun _ _ _ h => h) (Or.inl ⟨by rfl, ?gy5⟩) (by assumption) ?_
          case gy5 => (intro w' hSw; go_simp; try with_reducible rfl)
          try simp only [Act.put, List.setIfInBounds_toArray, List.set_cons_zero, List.set_cons_succ]
          refine wpAnyH_take (i := 7) (oi := { dst := some 33, op := _, type := _, pos := _, after := _, guard := none }) (v := ?gv6) rfl (by kernel_rfl) (by kernel_rfl) (by kernel_rfl) (fun _ _ _ h => h) (Or.inl ⟨by rfl, ?gy6⟩) (by assumption) ?_
          case gy6 => (intro w' hSw; go_simp; try with_reducible rfl)
          try simp only [Act.put, List.setIfInBounds_toArray, List.set_cons_zero, List.set_cons_succ]
          refine wpAnyH_take (i := 8) (oi := { dst := some 34, op := _, type := _, pos := _, after := _, guard := none }) (v := ?gv7) rfl (by kernel_rfl) (by kernel_rfl) (by kernel_rfl) (fun _ _ _ h => h) (Or.inl ⟨by rfl, ?gy7⟩) (by assumption) ?_
          case gy7 => (intro w' hSw; go_simp; try with_reducible rfl)
          try simp only [Act.put, List.setIfInBounds_toArray, List.set_cons_zero, List.set_cons_succ]
          refine wpAnyH_ready (rs := [0]) (by kernel_rfl) (by simp) ?_
          refine AllReadyH.cons rfl (fun K hK => ?_) AllReadyH.nil
          go_simp
          refine hK.out _ _ (by ((show Kq wr _); (repeat' (first | assumption | exact kq_refl | refine kq_draw ?_ | refine kq_drewN ?_ | refine kq_alloc ?_ | refine kq_set ?_ ?_ | refine kq_step ?_ (by assumption))); (all_goals (first | omega | (simp; omega))))) (fun hS1 => ?_)
          clear hK K
          try simp only [Act.put, List.setIfInBounds_toArray, List.set_cons_zero, List.set_cons_succ]
          refine wpAnyH_ready (rs := [4]) (by kernel_rfl) (by simp) ?_
          refine AllReadyH.cons rfl (fun K hK => ?_) AllReadyH.nil
          ((refine step_append_at (by rfl) _ _ _ (by rfl) wr.heap.size 24 i0 _ 2 16 Try.underlying31 hi hi1 hi2 hi3 rfl (by omega) (.slice (some ⟨wr.heap.size, 0, none⟩) 0 0) 0 [] (by rfl) (by first | exact own_drew (own_none wr _ 2) | exact own_none wr _ 2 | exact own_none wr.drew _ 2) ⟨b, off, none⟩ k (k + 1) (fl Sp.cs (L.take k)) (by rfl) (by rw [fl_length Sp.cs_len, List.length_take]; omega) (HTK.out _ (by (repeat' (first | assumption | exact below_refl _ | refine bl_alloc ?_ _ | refine Below.setCell ?_ ?_ _ | refine below_draw ?_ | refine below_drewN ?_ _ | refine below_tr ?_ (by assumption))) <;> (first | omega | (simp; done) | (simp; omega)))) (spC_all _) (by unfold maxLen; omega) (by omega) (by first | (simp; done) | (simp; omega)) ?_); intro v3 w3 hown3 hgrow3; obtain ⟨a3, c3, rfl⟩ := own_slice hown3; have hk3 : Below wr.heap.size wr w3 := (bl_grown (by (repeat' (first | assumption | exact below_refl _ | refine bl_alloc ?_ _ | refine Below.setCell ?_ ?_ _ | refine below_draw ?_ | refine below_drewN ?_ _ | refine below_tr ?_ (by assumption))) <;> (first | omega | (simp; done) | (simp; omega))) hgrow3 (fun r hr => Nat.le_of_eq (ob_eq hr)) (by first | (simp; done) | (simp; omega))); have hq3 := kq_of hk3)
          refine hK.out _ _ (by ((show Kq wr _); (repeat' (first | assumption | exact kq_refl | refine kq_draw ?_ | refine kq_drewN ?_ | refine kq_alloc ?_ | refine kq_set ?_ ?_ | refine kq_step ?_ (by assumption))); (all_goals (first | omega | (simp; omega))))) (fun hS2 => ?_)
          clear hK K
          try simp only [Act.put, List.setIfInBounds_toArray, List.set_cons_zero, List.set_cons_succ]
          refine wpAnyH_ready (rs := [9]) (by kernel_rfl) (by simp) ?_
          refine AllReadyH.cons rfl (fun K hK => ?_) AllReadyH.nil
          ((refine step_append_at (by rfl) _ _ _ (by rfl) wr.heap.size 24 i0 _ 2 16 Try.underlying31 hi hi1 hi2 hi3 rfl (by omega) _ _ _ (by rfl) hown3 ⟨b, off, none⟩ 0 0 (fl Sp.cs (L.drop (k + 1))) (by rfl) (by rw [fl_length Sp.cs_len, List.length_drop]; omega) (fun j u hu => by rw [HNIL.out] at hu; simp [fl] at hu) (spC_all _) (by unfold maxLen; omega) (by omega) hk3.size ?_); intro v4 w4 hown4 hgrow4; obtain ⟨a4, c4, rfl⟩ := own_slice hown4; have hk4 : Below wr.heap.size wr w4 := (bl_grown hk3 hgrow4 (fun r hr => (own_ge hown3 r hr).1) hk3.size); have hq4 := kq_of hk4)
          refine hK.out _ _ (by ((show Kq wr _); (repeat' (first | assumption | exact kq_refl | refine kq_draw ?_ | refine kq_drewN ?_ | refine kq_alloc ?_ | refine kq_set ?_ ?_ | refine kq_step ?_ (by assumption))); (all_goals (first | omega | (simp; omega))))) (fun hS3 => ?_)
          clear hK K
          try simp only [Act.put, List.setIfInBounds_toArray, List.set_cons_zero, List.set_cons_succ]
          refine wpAnyH_take (i := 10) (oi := { dst := some 7, op := _, type := _, pos := _, after := _, guard := none }) (v := ?gv8) rfl (by kernel_rfl) (by kernel_rfl) (by kernel_rfl) (fun _ _ _ h => h) (Or.inl ⟨by rfl, ?gy8⟩) (by assumption) ?_
          case gy8 => (intro w' hSw; go_simp; try with_reducible rfl)
          try simp only [Act.put, List.setIfInBounds_toArray, List.set_cons_zero, List.set_cons_succ]
          refine wpAnyH_done (by kernel_rfl) (NoPanic.normal ?_) _
          have hlen : 0 + k + 0 = O.length := by omega
          rw [HFL, hlen] at hown4
          simp only [Act.put, List.getElem_toArray, List.getElem_cons_zero, List.getElem_cons_succ, List.setIfInBounds_toArray, List.set_cons_zero, List.set_cons_succ]
          go_wp2
          go_meet
          exact ⟨a4, c4, congrArg (fun n => Value.slice a4 n c4) (by omega), own_rd' Sp.cs_len hown4, hk4⟩
        · have hcd : ¬ c2 = k + 1 := hck
          refine wp_region_noPanic ?_
          refine wp_region_held_drew (S := (fun w' => (∀ b o, b < wr.heap.size → w'.cell? ⟨b, o, none⟩ = wr.cell? ⟨b, o, none⟩) ∧ (∀ b o, b < wr.heap.size → w'.frozen? ⟨b, o, none⟩ = wr.frozen? ⟨b, o, none⟩) ∧ Below wr.heap.size wr w')) (by kernel_rfl) (kq_draw kq_refl) (fun hS0 => ?_)
          refine wpAnyH_take (i := 1) (oi := { dst := some 27, op := _, type := _, pos := _, after := _, guard := none }) (v := ?gv9) rfl (by kernel_rfl) (by kernel_rfl) (by kernel_rfl) (fun _ _ _ h => h) (Or.inl ⟨by rfl, ?gy9⟩) (by assumption) ?_
          case gy9 => (intro w' hSw; go_simp; try with_reducible rfl)
          try simp only [Act.put, List.setIfInBounds_toArray, List.set_cons_zero, List.set_cons_succ]
          refine wpAnyH_take (i := 2) (oi := { dst := some 28, op := _, type := _, pos := _, after := _, guard := none }) (v := ?gv10) rfl (by kernel_rfl) (by kernel_rfl) (by kernel_rfl) (fun _ _ _ h => h) (Or.inl ⟨by rfl, ?gy10⟩) (by assumption) ?_
          case gy10 => (intro w' hSw; go_simp; try with_reducible rfl)
          try simp only [Act.put, List.setIfInBounds_toArray, List.set_cons_zero, List.set_cons_succ]
          refine wpAnyH_take (i := 3) (oi := { dst := some 29, op := _, type := _, pos := _, after := _, guard := none }) (v := ?gv11) rfl (by kernel_rfl) (by kernel_rfl) (by kernel_rfl) (fun _ _ _ h => h) (Or.inl ⟨by rfl, ?gy11⟩) (by assumption) ?_
          case gy11 => (intro w' hSw; go_simp; try with_reducible rfl)
          try simp only [Act.put, List.setIfInBounds_toArray, List.set_cons_zero, List.set_cons_succ]
          refine wpAnyH_take (i := 5) (oi := { dst := some 31, op := _, type := _, pos := _, after := _, guard := none }) (v := ?gv12) rfl (by kernel_rfl) (by kernel_rfl) (by kernel_rfl) (fun _ _ _ h => h) (Or.inl ⟨by rfl, ?gy12⟩) (by assumption) ?_
          case gy12 => (intro w' hSw; go_simp; try with_reducible rfl)
          try simp only [Act.put, List.setIfInBounds_toArray, List.set_cons_zero, List.set_cons_succ]
          refine wpAnyH_take (i := 6) (oi := { dst := some 32, op := _, type := _, pos := _, after := _, guard := none }) (v := ?gv13) rfl (by kernel_rfl) (by kernel_rfl) (by kernel_rfl) (fun _ _ _ h => h) (Or.inl ⟨by rfl, ?gy13⟩) (by assumption) ?_
          case gy13 => (intro w' hSw; go_simp; try with_reducible rfl)
          try simp only [Act.put, List.setIfInBounds_toArray, List.set_cons_zero, List.set_cons_succ]
          refine wpAnyH_take (i := 7) (oi := { dst := some 33, op := _, type := _, pos := _, after := _, guard := none }) (v := ?gv14) rfl (by kernel_rfl) (by kernel_rfl) (by kernel_rfl) (fun _ _ _ h => h) (Or.inl ⟨by rfl, ?gy14⟩) (by assumption) ?_
          case gy14 => (intro w' hSw; go_simp; try with_reducible rfl)
          try simp only [Act.put, List.setIfInBounds_toArray, List.set_cons_zero, List.set_cons_succ]
          refine wpAnyH_take (i := 8) (oi := { dst := some 34, op := _, type := _, pos := _, after := _, guard := none }) (v := ?gv15) rfl (by kernel_rfl) (by kernel_rfl) (by kernel_rfl) (fun _ _ _ h => h) (Or.inl ⟨by rfl, ?gy15⟩) (by assumption) ?_
          case gy15 => (intro w' hSw; go_simp; try with_reducible rfl)
          try simp only [Act.put, List.setIfInBounds_toArray, List.set_cons_zero, List.set_cons_succ]
          refine wpAnyH_ready (rs := [0]) (by kernel_rfl) (by simp) ?_
          refine AllReadyH.cons rfl (fun K hK => ?_) AllReadyH.nil
          go_simp
          refine hK.out _ _ (by ((show Kq wr _); (repeat' (first | assumption | exact kq_refl | refine kq_draw ?_ | refine kq_drewN ?_ | refine kq_alloc ?_ | refine kq_set ?_ ?_ | refine kq_step ?_ (by assumption))); (all_goals (first | omega | (simp; omega))))) (fun hS1 => ?_)
          clear hK K
          try simp only [Act.put, List.setIfInBounds_toArray, List.set_cons_zero, List.set_cons_succ]
          refine wpAnyH_ready (rs := [4]) (by kernel_rfl) (by simp) ?_
          refine AllReadyH.cons rfl (fun K hK => ?_) AllReadyH.nil
          ((refine step_append_at (by rfl) _ _ _ (by rfl) wr.heap.size 24 i0 _ 2 16 Try.underlying31 hi hi1 hi2 hi3 rfl (by omega) (.slice (some ⟨wr.heap.size, 0, none⟩) 0 0) 0 [] (by rfl) (by first | exact own_drew (own_none wr _ 2) | exact own_none wr _ 2 | exact own_none wr.drew _ 2) ⟨b, off, none⟩ k (c2) (fl Sp.cs (L.take k)) (by rfl) (by rw [fl_length Sp.cs_len, List.length_take]; omega) (HTK.out _ (by (repeat' (first | assumption | exact below_refl _ | refine bl_alloc ?_ _ | refine Below.setCell ?_ ?_ _ | refine below_draw ?_ | refine below_drewN ?_ _ | refine below_tr ?_ (by assumption))) <;> (first | omega | (simp; done) | (simp; omega)))) (spC_all _) (by unfold maxLen; omega) (by omega) (by first | (simp; done) | (simp; omega)) ?_); intro v3 w3 hown3 hgrow3; obtain ⟨a3, c3, rfl⟩ := own_slice hown3; have hk3 : Below wr.heap.size wr w3 := (bl_grown (by (repeat' (first | assumption | exact below_refl _ | refine bl_alloc ?_ _ | refine Below.setCell ?_ ?_ _ | refine below_draw ?_ | refine below_drewN ?_ _ | refine below_tr ?_ (by assumption))) <;> (first | omega | (simp; done) | (simp; omega))) hgrow3 (fun r hr => Nat.le_of_eq (ob_eq hr)) (by first | (simp; done) | (simp; omega))); have hq3 := kq_of hk3)
          refine hK.out _ _ (by ((show Kq wr _); (repeat' (first | assumption | exact kq_refl | refine kq_draw ?_ | refine kq_drewN ?_ | refine kq_alloc ?_ | refine kq_set ?_ ?_ | refine kq_step ?_ (by assumption))); (all_goals (first | omega | (simp; omega))))) (fun hS2 => ?_)
          clear hK K
          try simp only [Act.put, List.setIfInBounds_toArray, List.set_cons_zero, List.set_cons_succ]
          refine wpAnyH_ready (rs := [9]) (by kernel_rfl) (by simp) ?_
          refine AllReadyH.cons rfl (fun K hK => ?_) AllReadyH.nil
          ((refine step_append_at (by rfl) _ _ _ (by rfl) wr.heap.size 24 i0 _ 2 16 Try.underlying31 hi hi1 hi2 hi3 rfl (by omega) _ _ _ (by rfl) hown3 ⟨b, off + (k + 1) * 2, none⟩ (L.length - (k + 1)) (c2 - (k + 1)) (fl Sp.cs (L.drop (k + 1))) (by rfl) (by rw [fl_length Sp.cs_len, List.length_drop]) (HDR.out w3 (below_tr hbw hk3)) (spC_all _) (by unfold maxLen; omega) (by omega) hk3.size ?_); intro v4 w4 hown4 hgrow4; obtain ⟨a4, c4, rfl⟩ := own_slice hown4; have hk4 : Below wr.heap.size wr w4 := (bl_grown hk3 hgrow4 (fun r hr => (own_ge hown3 r hr).1) hk3.size); have hq4 := kq_of hk4)
          refine hK.out _ _ (by ((show Kq wr _); (repeat' (first | assumption | exact kq_refl | refine kq_draw ?_ | refine kq_drewN ?_ | refine kq_alloc ?_ | refine kq_set ?_ ?_ | refine kq_step ?_ (by assumption))); (all_goals (first | omega | (simp; omega))))) (fun hS3 => ?_)
          clear hK K
          try simp only [Act.put, List.setIfInBounds_toArray, List.set_cons_zero, List.set_cons_succ]
          refine wpAnyH_take (i := 10) (oi := { dst := some 7, op := _, type := _, pos := _, after := _, guard := none }) (v := ?gv16) rfl (by kernel_rfl) (by kernel_rfl) (by kernel_rfl) (fun _ _ _ h => h) (Or.inl ⟨by rfl, ?gy16⟩) (by assumption) ?_
          case gy16 => (intro w' hSw; go_simp; try with_reducible rfl)
          try simp only [Act.put, List.setIfInBounds_toArray, List.set_cons_zero, List.set_cons_succ]
          refine wpAnyH_done (by kernel_rfl) (NoPanic.normal ?_) _
          have hlen : 0 + k + (L.length - (k + 1)) = O.length := by omega
          rw [HFL, hlen] at hown4
          simp only [Act.put, List.getElem_toArray, List.getElem_cons_zero, List.getElem_cons_succ, List.setIfInBounds_toArray, List.set_cons_zero, List.set_cons_succ]
          go_wp2
          go_meet
          exact ⟨a4, c4, congrArg (fun n => Value.slice a4 n c4) (by omega), own_rd' Sp.cs_len hown4, hk4⟩
      case rest =>
        obtain ⟨a4, c4, rfl, hR4, hbx⟩ := hcut
        obtain ⟨wx, hwx⟩ : ∃ wx : World, wx = wc := ⟨wc, rfl⟩
        rw [← hwx] at hR4 hbx ⊢
        clear hwx
        have HH := Lib.hid (r_held a4 O c4 x wx (by omega) HBO.out HBX.out hR4)
        have BX := below_tr hbw hbx
        have c0 := ((bcell hbx).1 _ _ hb).trans c0
        have c1 := ((bcell hbx).1 _ _ hb).trans c1
        have hb := Nat.lt_of_lt_of_le hb hbx.size
        have ox := own_on hown hbx
        clear HFL HOL HBO HBX hR4 hbw hbx hown
        cases hh : heldB O x
        · rw [hh] at HH
          have HS := Lib.hid (HYS.out (by rw [HLF.out, hh]; rfl))
          clear hh HLF HYS HNS
          go_wp2_with fail
          refine HH.out.mono ?_
          rintro e w5 ⟨rfl, hb5⟩
          have BY := below_tr BX hb5
          have c0 := ((bcell hb5).1 _ _ hb).trans c0
          have c1 := ((bcell hb5).1 _ _ hb).trans c1
          have hb := Nat.lt_of_lt_of_le hb hb5.size
          have oy := own_on ox hb5
          have hys := BY.size
          go_wp2_with (at_builtin; refine wpList_append_own _ rfl _ _ 31 rfl w2.heap.size 24 i0 (.agg #[.int .i64 0, .int .i64 0]) 2 16 (by kernel_rfl) hi hi1 hi2 hi3 rfl (by omega) _ _ _ rfl (oy.alloc _) ⟨w5.heap.size, 0, none⟩ 1 1 (Sp.cs x) rfl rfl (cells_new w5 (Sp.cs x) 24) (spC_one x) (by unfold maxLen; omega) (by omega) (by simp; omega) ?_; intro v' w9 hown9 hgrow _)
          go_roundw
          case rel => exact ⟨k + 1, by omega, by go_num, bl_app BY oy hgrow (Nat.le_refl _) BY.size, by rw [HS.out, fl_snoc, List.length_append]; exact hown9⟩
          case measure => simp [intOf]; omega
        · rw [hh] at HH
          have HS := Lib.hid (HNS.out (by rw [HLF.out, hh]; rfl))
          clear hh HLF HYS HNS
          go_wp2_with fail
          refine HH.out.mono ?_
          rintro e w5 ⟨rfl, hb5⟩
          have BY := below_tr BX hb5
          have oy := own_on ox hb5
          go_wp2
          go_roundw
          case rel => exact ⟨k + 1, by omega, by go_num, BY, by rw [HS.out]; exact oy⟩
          case measure => simp [intOf]; omega
    · obtain rfl : k = L.length := by omega
      have hF24 := HF.out _ (Nat.le_refl _)
      have BW := below_tr B2 hbw
      clear HF HBD hR2 hlc hcm hws hlt hL24 hk B2
      generalize leftK L L.length = LF at *
      obtain ⟨AL, cL, e, hRL, _, _⟩ := own_rdc Sp.cs_len hown
      cases e
      clear hbw hown
      rename World => wl
      by_cases h0 : LF.length = 0
      · have hq : ((LF.length : Int) == 0) = true := by simpa using h0
        have hq2 : (LF.length : Int) = 0 := by omega
        have hH : H = [] := List.eq_nil_of_length_eq_zero (by have := HLL.out; omega)
        subst hH
        go_wp2
        go_ret2
        exact ⟨_, rfl, (World.ownsRow_nil wl _ _ _ : OwnP _ wl _ []), BW⟩
      · have hq : ((LF.length : Int) == 0) = false := by simpa using h0
        have hq2 : ¬ (LF.length : Int) = 0 := by omega
        have hp0 : (0 : Int) < (LF.length : Int) := by omega
        obtain ⟨f, b, off, hf, rfl, hb, c0, c1⟩ := rdS hRL (show 0 < LF.length by omega)
        have HL0 := Lib.hid (low_start hf)
        have R1 := hRL.on (below_alloc wl (.cells (spA f) 24))
        have z1 := Blk.new wl 24 (spA f)
        have BW1 := bl_alloc BW (.cells (spA f) 24)
        simp only [Nat.zero_mul, Nat.add_zero] at c0 c1
        clear hf R1
        go_wp2_with fail
        clear c0 c1 hb
        go_loopw [9] (fun i wr => ∃ k f, k ≤ LF.length ∧ i = .int .i64 (k : Nat) ∧ Below wl.heap.size wl wr ∧ Blk wr wl.heap.size 24 (spA f) ∧ Hid (LowP LF k f)) (fun i _ => LF.length - (intOf i).toNat)
        case atStart => exact ⟨0, f, by omega, rfl, bl_alloc (below_refl wl) _, z1, HL0.out⟩
        case round =>
          clear z1 BW1 HL0
          obtain ⟨k, f, hk, rfl, hbw, zb, HL⟩ := hrel
          have kk0 : (0 : Int) ≤ (k : Int) := Int.natCast_nonneg _
          by_cases hlt : k < LF.length
          · have kk1 : (k : Int) < (LF.length : Int) := by omega
            obtain ⟨x, b2, off2, hx, e2, hb, c0, c1⟩ := rdS (hRL.on hbw) hlt
            cases e2
            have p0 := zb.cell 0
            have p1 := zb.cell 1
            have q0 := zb.frozen 0
            have q1 := zb.frozen 1
            simp only [List.getElem?_toArray, List.getElem?_cons_zero, List.getElem?_cons_succ] at p0 p1
            have lz := zb.lt
            have HNW := Lib.hid (fun h => low_new HL.out hx HBF.out h)
            have HKP := Lib.hid (fun h => low_keep HL.out hx HBF.out h)
            clear hx HL
            by_cases h1 : x.y < f.y
            · have d1 : decide (x.y < f.y) = true := decide_eq_true h1
              have HN := Lib.hid (HNW.out (by unfold lowI; simp [h1]))
              clear HNW HKP
              go_wp2_with fail
              go_quiet (fail)
              go_wp2
              go_roundw
              case rel => exact ⟨k + 1, x, by omega, by go_num, by (repeat' (first | assumption | exact below_refl _ | refine bl_alloc ?_ _ | refine Below.setCell ?_ ?_ _ | refine below_draw ?_ | refine below_drewN ?_ _ | refine below_tr ?_ (by assumption))) <;> (first | omega | (simp; done) | (simp; omega)), by first | exact blk_set2 _ _ zb | exact blk_set2 _ _ (zb.drewN _) | exact blk_set2 _ _ zb.drew | (show Blk _ _ _ #[.int .i64 x.x, .int .i64 x.y]; rw [h2]; exact blk_set2 _ _ (zb.drewN _)), HN.out⟩
              case measure => simp [intOf]; omega
            · have d1 : decide (x.y < f.y) = false := decide_eq_false h1
              by_cases h2 : x.y = f.y
              · have d2 : (x.y == f.y) = true := by simpa using h2
                have d2' : decide (x.y = f.y) = true := decide_eq_true h2
                by_cases h3 : x.x < f.x
                · have d3 : decide (x.x < f.x) = true := decide_eq_true h3
                  have HN := Lib.hid (HNW.out (by unfold lowI; simp [h2, h3]))
                  clear HNW HKP
                  go_wp2_with fail
                  go_quiet (fail)
                  go_wp2
                  go_roundw
                  case rel => exact ⟨k + 1, x, by omega, by go_num, by (repeat' (first | assumption | exact below_refl _ | refine bl_alloc ?_ _ | refine Below.setCell ?_ ?_ _ | refine below_draw ?_ | refine below_drewN ?_ _ | refine below_tr ?_ (by assumption))) <;> (first | omega | (simp; done) | (simp; omega)), by first | exact blk_set2 _ _ zb | exact blk_set2 _ _ (zb.drewN _) | exact blk_set2 _ _ zb.drew | (show Blk _ _ _ #[.int .i64 x.x, .int .i64 x.y]; rw [h2]; exact blk_set2 _ _ (zb.drewN _)), HN.out⟩
                  case measure => simp [intOf]; omega
                · have d3 : decide (x.x < f.x) = false := decide_eq_false h3
                  have HN := Lib.hid (HKP.out (by unfold lowI; simp [h2]; omega))
                  clear HNW HKP
                  go_wp2_with fail
                  go_quiet (fail)
                  go_wp2
                  go_roundw
                  case rel => exact ⟨k + 1, f, by omega, by go_num, by (repeat' (first | assumption | exact below_refl _ | refine bl_alloc ?_ _ | refine Below.setCell ?_ ?_ _ | refine below_draw ?_ | refine below_drewN ?_ _ | refine below_tr ?_ (by assumption))) <;> (first | omega | (simp; done) | (simp; omega)), by first | exact zb | exact zb.drewN _ | exact zb.drew, HN.out⟩
                  case measure => simp [intOf]; omega
              · have d2 : (x.y == f.y) = false := by simpa using h2
                have d2' : decide (x.y = f.y) = false := decide_eq_false h2
                have HN := Lib.hid (HKP.out (by unfold lowI; simp [h2]; omega))
                clear HNW HKP
                go_wp2_with fail
                go_quiet (fail)
                go_wp2
                go_roundw
                case rel => exact ⟨k + 1, f, by omega, by go_num, by (repeat' (first | assumption | exact below_refl _ | refine bl_alloc ?_ _ | refine Below.setCell ?_ ?_ _ | refine below_draw ?_ | refine below_drewN ?_ _ | refine below_tr ?_ (by assumption))) <;> (first | omega | (simp; done) | (simp; omega)), by first | exact zb | exact zb.drewN _ | exact zb.drew, HN.out⟩
                case measure => simp [intOf]; omega
          · obtain rfl : k = LF.length := by omega
            have HF0 := Lib.hid (HLOW.out f HL.out (by have := HLL.out; omega))
            have hRw := hRL.on hbw
            have BWr := below_tr BW hbw
            have p0 := zb.cell 0
            have p1 := zb.cell 1
            simp only [List.getElem?_toArray, List.getElem?_cons_zero, List.getElem?_cons_succ] at p0 p1
            have lz := zb.lt
            clear HL HLOW hRL hk hlt kk0
            rename World => wr
            have of := own_first wr f
            have Bf := bl_alloc (below_refl wr) (.cells (spA f) 24)
            go_wp2_with fail
            clear p0 p1 lz zb hbw BW
            go_loopw [10] (fun v wz => ∃ n : Nat, n < H.length ∧ Below wr.heap.size wr wz ∧ wz.ownsRow wr.heap.size 24 2 v (n + 1) (fl Sp.cs (H.take (n + 1)))) (fun v _ => H.length - vlen v)
            case atStart => exact ⟨0, by have := HLL.out; omega, Bf, by rw [show H.take (0 + 1) = [f] by rw [List.take_add_one, HF0.out]; rfl]; exact of⟩
            case round =>
              clear Bf of HF0
              obtain ⟨n, hn, hbw, hown⟩ := hrel
              have n0 : (0 : Int) ≤ (n : Int) := Int.natCast_nonneg _
              have hT : (H.take (n + 1)).length = n + 1 := by rw [List.length_take]; omega
              have hown2 := own_len hown hT
              obtain ⟨ao, co, e, hRo, _, _⟩ := own_rdc Sp.cs_len hown2
              rw [hT] at e
              subst e
              obtain ⟨x, b3, off3, hx, rfl, hb3, c0, c1⟩ := rdS hRo (show n < (H.take (n + 1)).length by omega)
              have hx' : H[n]? = some x := by rw [List.getElem?_take] at hx; simpa using hx
              have hwn : IntKind.i64.wrap (n : Int) = n := fits_wrap (by have := HLL.out; omega)
              have hwn2 : IntKind.i64.wrap ((n : Int) + 1 - 1) = n := by rw [Int.add_sub_cancel]; exact hwn
              rename World => wz
              by_cases hlt : n + 1 < LF.length
              · have nn1 : (n : Int) + 1 < (LF.length : Int) := by omega
                clear hRo hown2
                have zL := Blk.new wz 24 (spA x)
                have B8 := bl_alloc hbw (.cells (spA x) 24)
                have o8 := own_on hown (bl_alloc (below_refl wz) (.cells (spA x) 24))
                have R8 := hRw.on B8
                have bx := HBF.out x (HMH.out x (List.mem_of_getElem? hx'))
                have HNX := Lib.hid (fun y (hy : y ∈ LF) => HNXT.out n x y (by have := HLL.out; omega) hy hx')
                have HHX := Lib.hid hx'
                go_wp2_with fail
                have BQ := below_refl (wz.alloc (.cells (spA x) 24))
                rw [show wz.alloc (.cells #[.int .i64 x.x, .int .i64 x.y] 24) = wz.alloc (.cells (spA x) 24) from rfl]
                generalize wz.alloc (.cells (spA x) 24) = W8 at *
                generalize wz.heap.size = gq at *
                clear c0 c1 hb3 hx hx' hbw hown
                go_loopw [10, 12] (fun v i wq => ∃ k : Nat, k ≤ LF.length ∧ v = .slice (some ⟨b3, off3, none⟩) (n + 1) co ∧ i = .int .i64 k ∧ Below W8.heap.size W8 wq ∧ Hid (∀ j, j < k → follows LF x (gl LF j) = false)) (fun _ i _ => LF.length - (intOf i).toNat)
                case atStart => exact ⟨0, by omega, rfl, rfl, BQ, Lib.hid (fun j hj => absurd hj (by omega))⟩
                case round =>
                  clear BQ
                  obtain ⟨k, hk, rfl, rfl, hbq, HI⟩ := hrel
                  have kk0 : (0 : Int) ≤ (k : Int) := Int.natCast_nonneg _
                  by_cases hkl : k < LF.length
                  · have kk1 : (k : Int) < (LF.length : Int) := by omega
                    obtain ⟨y, b4, off4, hy, e4, hb4, c0, c1⟩ := rdS (R8.on hbq) hkl
                    cases e4
                    have zq := zL.below hbq zL.lt
                    have p0 := zq.cell 0
                    have p1 := zq.cell 1
                    simp only [List.getElem?_toArray, List.getElem?_cons_zero, List.getElem?_cons_succ] at p0 p1
                    have lz := zq.lt
                    have by' := HBF.out y (List.mem_of_getElem? hy)
                    have HFY := Lib.hid (HNX.out y (List.mem_of_getElem? hy))
                    have HGY := Lib.hid (gl_of hy)
                    have HMY := Lib.hid hy
                    clear hy
                    rename World => wq
                    go_upto_region 25 with fail
                    go_cut [13] (fun s13 wx => s13 = .bool (bnx LF x y 0) ∧ Below wq.heap.size wq wx)
                    case first =>
                      rcases (by by_cases x1 : y.x = x.x <;> by_cases x2 : y.y = x.y <;> simp [x1, x2] : (y.x = x.x ∧ y.y = x.y) ∨ (y.x ≠ x.x) ∨ (y.x = x.x ∧ y.y ≠ x.y)) with ⟨e1, e2⟩ | h3 | ⟨e1, h3⟩
                      · obtain rfl : y = x := Sp.ext' e1 e2
                        go_region
                        go_wp2
                        go_meet
                        exact ⟨by rw [bnx_zero]; simp, by (repeat' (first | assumption | exact below_refl _ | refine bl_alloc ?_ _ | refine Below.setCell ?_ ?_ _ | refine below_draw ?_ | refine below_drewN ?_ _ | refine below_tr ?_ (by assumption))) <;> (first | omega | (simp; done) | (simp; omega))⟩
                      · have hn : y ≠ x := fun e => h3 (by rw [e])
                        go_region
                        go_wp2
                        go_meet
                        exact ⟨by rw [bnx_zero]; simp [hn], by (repeat' (first | assumption | exact below_refl _ | refine bl_alloc ?_ _ | refine Below.setCell ?_ ?_ _ | refine below_draw ?_ | refine below_drewN ?_ _ | refine below_tr ?_ (by assumption))) <;> (first | omega | (simp; done) | (simp; omega))⟩
                      · have hn : y ≠ x := fun e => h3 (by rw [e])
                        go_region
                        go_wp2
                        go_meet
                        exact ⟨by rw [bnx_zero]; simp [hn], by (repeat' (first | assumption | exact below_refl _ | refine bl_alloc ?_ _ | refine Below.setCell ?_ ?_ _ | refine below_draw ?_ | refine below_drewN ?_ _ | refine below_tr ?_ (by assumption))) <;> (first | omega | (simp; done) | (simp; omega))⟩
                    case rest =>
                      obtain ⟨rfl, hbx⟩ := hcut
                      obtain ⟨wx, hwx⟩ : ∃ wx : World, wx = wc := ⟨wc, rfl⟩
                      rw [← hwx] at hbx ⊢
                      clear hwx
                      have hb9 := below_tr hbq hbx
                      clear p0 p1 lz zq c0 c1 hb4 hbq hbx
                      go_wp2_with fail
                      go_loopw [13, 14] (fun v j wp => ∃ m : Nat, m ≤ LF.length ∧ v = .bool (bnx LF x y m) ∧ j = .int .i64 m ∧ Below W8.heap.size W8 wp) (fun _ j _ => LF.length - (intOf j).toNat)
                      case atStart => exact ⟨0, by omega, rfl, rfl, hb9⟩
                      case round =>
                        clear hb9
                        obtain ⟨m, hm, rfl, rfl, hbp⟩ := hrel
                        have m0 : (0 : Int) ≤ (m : Int) := Int.natCast_nonneg _
                        by_cases hml : m < LF.length
                        · have m1 : (m : Int) < (LF.length : Int) := by omega
                          obtain ⟨y2, b5, off5, hy2, e5, hb5, c0, c1⟩ := rdS (R8.on hbp) hkl
                          cases e5
                          obtain rfl : y2 = y := by have := hy2.symm.trans HMY.out; exact Option.some.inj this
                          obtain ⟨z, b6, off6, hz, e6, hb6, d0, d1⟩ := rdS (R8.on hbp) hml
                          cases e6
                          have bz := HBF.out z (List.mem_of_getElem? hz)
                          have zp := zL.below hbp zL.lt
                          have p0 := zp.cell 0
                          have p1 := zp.cell 1
                          simp only [List.getElem?_toArray, List.getElem?_cons_zero, List.getElem?_cons_succ] at p0 p1
                          have lz := zp.lt
                          have HSP := Lib.hid (bnx_step (last := x) (x := y2) hz)
                          have bv : Bd 20000 (vec y2 x) := vec_bd (m := 10000) (n := 10000) by' bx
                          have bu : Bd 20000 (vec z x) := vec_bd (m := 10000) (n := 10000) bz bx
                          have HL1 := Lib.hid (fun W => r_minus y2 x W (by'.mono (by omega)) (bx.mono (by omega)))
                          have HL2 := Lib.hid (fun W => r_minus z x W (bz.mono (by omega)) (bx.mono (by omega)))
                          have HC := Lib.hid (fun W => r_cross (vec y2 x) (vec z x) W (bv.mono (by omega)) (bu.mono (by omega)))
                          rw [vcr_crR] at HC
                          generalize vec y2 x = V at *
                          generalize vec z x = U at *
                          generalize cr x y2 z = C at *
                          rename World => wp
                          have hN1 : ((m + 1 : Nat) : Int) = (m : Int) + 1 := by omega
                          clear hy2 hz bz bv bu
                          cases hbn : bnx LF x y2 m
                          · rw [hbn] at HSP
                            have HS2 := Lib.hid (show bnx LF x y2 (m + 1) = false by rw [HSP.out]; rfl)
                            clear HSP
                            go_wp2_with fail
                            refine wp_region_noPanic ?_
                            refine wp_region_held_drew (S := (fun w' => (∀ b o, b < wp.heap.size → w'.cell? ⟨b, o, none⟩ = wp.cell? ⟨b, o, none⟩) ∧ (∀ b o, b < wp.heap.size → w'.frozen? ⟨b, o, none⟩ = wp.frozen? ⟨b, o, none⟩) ∧ Below wp.heap.size wp w')) (by kernel_rfl) (kq_draw kq_refl) (fun hS0 => ?_)
                            refine wpAnyH_take (i := 0) (oi := { dst := some 125, op := _, type := _, pos := _, after := _, guard := none }) (v := ?gv17) rfl (by kernel_rfl) (by kernel_rfl) (by kernel_rfl) (fun _ _ _ h => h) (Or.inl ⟨by rfl, ?gy17⟩) (by assumption) ?_
                            case gy17 => (intro w' hSw; go_simp; try with_reducible rfl)
                            try simp only [Act.put, List.setIfInBounds_toArray, List.set_cons_zero, List.set_cons_succ]
                            refine wpAnyH_take (i := 1) (oi := { dst := some 126, op := _, type := _, pos := _, after := _, guard := none }) (v := ?gv18) rfl (by kernel_rfl) (by kernel_rfl) (by kernel_rfl) (fun _ _ _ h => h) (Or.inl ⟨by rfl, ?gy18⟩) (by assumption) ?_
                            case gy18 => (intro w' hSw; go_simp; try with_reducible rfl)
                            try simp only [Act.put, List.setIfInBounds_toArray, List.set_cons_zero, List.set_cons_succ]
                            refine wpAnyH_take (i := 2) (oi := { dst := some 127, op := _, type := _, pos := _, after := _, guard := some (1, true) }) (v := undef) rfl (by kernel_rfl) (by kernel_rfl) (by kernel_rfl) (fun _ _ _ h => h) (Or.inr ⟨by rfl, rfl⟩) (by assumption) ?_
                            try simp only [Act.put, List.setIfInBounds_toArray, List.set_cons_zero, List.set_cons_succ]
                            refine wpAnyH_take (i := 3) (oi := { dst := some 128, op := _, type := _, pos := _, after := _, guard := some (1, true) }) (v := undef) rfl (by kernel_rfl) (by kernel_rfl) (by kernel_rfl) (fun _ _ _ h => h) (Or.inr ⟨by rfl, rfl⟩) (by assumption) ?_
                            try simp only [Act.put, List.setIfInBounds_toArray, List.set_cons_zero, List.set_cons_succ]
                            refine wpAnyH_take (i := 4) (oi := { dst := some 129, op := _, type := _, pos := _, after := _, guard := some (1, true) }) (v := undef) rfl (by kernel_rfl) (by kernel_rfl) (by kernel_rfl) (fun _ _ _ h => h) (Or.inr ⟨by rfl, rfl⟩) (by assumption) ?_
                            try simp only [Act.put, List.setIfInBounds_toArray, List.set_cons_zero, List.set_cons_succ]
                            refine wpAnyH_take (i := 5) (oi := { dst := some 130, op := _, type := _, pos := _, after := _, guard := some (1, true) }) (v := undef) rfl (by kernel_rfl) (by kernel_rfl) (by kernel_rfl) (fun _ _ _ h => h) (Or.inr ⟨by rfl, rfl⟩) (by assumption) ?_
                            try simp only [Act.put, List.setIfInBounds_toArray, List.set_cons_zero, List.set_cons_succ]
                            refine wpAnyH_take (i := 6) (oi := { dst := some 131, op := _, type := _, pos := _, after := _, guard := some (1, true) }) (v := undef) rfl (by kernel_rfl) (by kernel_rfl) (by kernel_rfl) (fun _ _ _ h => h) (Or.inr ⟨by rfl, rfl⟩) (by assumption) ?_
                            try simp only [Act.put, List.setIfInBounds_toArray, List.set_cons_zero, List.set_cons_succ]
                            refine wpAnyH_take (i := 7) (oi := { dst := some 132, op := _, type := _, pos := _, after := _, guard := some (1, true) }) (v := undef) rfl (by kernel_rfl) (by kernel_rfl) (by kernel_rfl) (fun _ _ _ h => h) (Or.inr ⟨by rfl, rfl⟩) (by assumption) ?_
                            try simp only [Act.put, List.setIfInBounds_toArray, List.set_cons_zero, List.set_cons_succ]
                            refine wpAnyH_take (i := 8) (oi := { dst := some 133, op := _, type := _, pos := _, after := _, guard := some (1, true) }) (v := undef) rfl (by kernel_rfl) (by kernel_rfl) (by kernel_rfl) (fun _ _ _ h => h) (Or.inr ⟨by rfl, rfl⟩) (by assumption) ?_
                            try simp only [Act.put, List.setIfInBounds_toArray, List.set_cons_zero, List.set_cons_succ]
                            refine wpAnyH_take (i := 9) (oi := { dst := some 134, op := _, type := _, pos := _, after := _, guard := some (1, true) }) (v := undef) rfl (by kernel_rfl) (by kernel_rfl) (by kernel_rfl) (fun _ _ _ h => h) (Or.inr ⟨by rfl, rfl⟩) (by assumption) ?_
                            try simp only [Act.put, List.setIfInBounds_toArray, List.set_cons_zero, List.set_cons_succ]
                            refine wpAnyH_take (i := 10) (oi := { dst := some 135, op := _, type := _, pos := _, after := _, guard := some (1, true) }) (v := undef) rfl (by kernel_rfl) (by kernel_rfl) (by kernel_rfl) (fun _ _ _ h => h) (Or.inr ⟨by rfl, rfl⟩) (by assumption) ?_
                            try simp only [Act.put, List.setIfInBounds_toArray, List.set_cons_zero, List.set_cons_succ]
                            refine wpAnyH_take (i := 11) (oi := { dst := some 136, op := _, type := _, pos := _, after := _, guard := some (1, true) }) (v := undef) rfl (by kernel_rfl) (by kernel_rfl) (by kernel_rfl) (fun _ _ _ h => h) (Or.inr ⟨by rfl, rfl⟩) (by assumption) ?_
                            try simp only [Act.put, List.setIfInBounds_toArray, List.set_cons_zero, List.set_cons_succ]
                            refine wpAnyH_take (i := 12) (oi := { dst := some 137, op := _, type := _, pos := _, after := _, guard := some (1, true) }) (v := undef) rfl (by kernel_rfl) (by kernel_rfl) (by kernel_rfl) (fun _ _ _ h => h) (Or.inr ⟨by rfl, rfl⟩) (by assumption) ?_
                            try simp only [Act.put, List.setIfInBounds_toArray, List.set_cons_zero, List.set_cons_succ]
                            refine wpAnyH_take (i := 13) (oi := { dst := some 138, op := _, type := _, pos := _, after := _, guard := some (1, true) }) (v := undef) rfl (by kernel_rfl) (by kernel_rfl) (by kernel_rfl) (fun _ _ _ h => h) (Or.inr ⟨by rfl, rfl⟩) (by assumption) ?_
                            try simp only [Act.put, List.setIfInBounds_toArray, List.set_cons_zero, List.set_cons_succ]
                            refine wpAnyH_take (i := 14) (oi := { dst := some 139, op := _, type := _, pos := _, after := _, guard := some (1, true) }) (v := undef) rfl (by kernel_rfl) (by kernel_rfl) (by kernel_rfl) (fun _ _ _ h => h) (Or.inr ⟨by rfl, rfl⟩) (by assumption) ?_
                            try simp only [Act.put, List.setIfInBounds_toArray, List.set_cons_zero, List.set_cons_succ]
                            refine wpAnyH_take (i := 15) (oi := { dst := some 140, op := _, type := _, pos := _, after := _, guard := some (1, true) }) (v := undef) rfl (by kernel_rfl) (by kernel_rfl) (by kernel_rfl) (fun _ _ _ h => h) (Or.inr ⟨by rfl, rfl⟩) (by assumption) ?_
                            try simp only [Act.put, List.setIfInBounds_toArray, List.set_cons_zero, List.set_cons_succ]
                            refine wpAnyH_take (i := 16) (oi := { dst := some 141, op := _, type := _, pos := _, after := _, guard := none }) (v := ?gv19) rfl (by kernel_rfl) (by kernel_rfl) (by kernel_rfl) (fun _ _ _ h => h) (Or.inl ⟨by rfl, ?gy19⟩) (by assumption) ?_
                            case gy19 => (intro w' hSw; go_simp; try with_reducible rfl)
                            try simp only [Act.put, List.setIfInBounds_toArray, List.set_cons_zero, List.set_cons_succ]
                            refine wpAnyH_take (i := 17) (oi := { dst := some 13, op := _, type := _, pos := _, after := _, guard := none }) (v := ?gv20) rfl (by kernel_rfl) (by kernel_rfl) (by kernel_rfl) (fun _ _ _ h => h) (Or.inl ⟨by rfl, ?gy20⟩) (by assumption) ?_
                            case gy20 => (intro w' hSw; go_simp; try with_reducible rfl)
                            try simp only [Act.put, List.setIfInBounds_toArray, List.set_cons_zero, List.set_cons_succ]
                            refine wpAnyH_done (by kernel_rfl) (NoPanic.normal ?_) _
                            go_wp2
                            go_roundw
                            case rel => exact ⟨m + 1, by omega, by rw [HS2.out], by go_num, by (repeat' (first | assumption | exact below_refl _ | refine bl_alloc ?_ _ | refine Below.setCell ?_ ?_ _ | refine below_draw ?_ | refine below_drewN ?_ _ | refine below_tr ?_ (by assumption))) <;> (first | omega | (simp; done) | (simp; omega))⟩
                            case measure => simp [intOf]; omega
                          · rw [hbn] at HSP
                            by_cases hC : 0 ≤ C
                            · have dC : decide (0 ≤ C) = true := decide_eq_true hC
                              have HS2 := Lib.hid (show bnx LF x y2 (m + 1) = true by rw [HSP.out, dC]; rfl)
                              clear HSP
                              go_wp2_with fail
                              go_region_held3 (fun w' => (∀ b o, b < wp.heap.size → w'.cell? ⟨b, o, none⟩ = wp.cell? ⟨b, o, none⟩) ∧ (∀ b o, b < wp.heap.size → w'.frozen? ⟨b, o, none⟩ = wp.frozen? ⟨b, o, none⟩) ∧ Below wp.heap.size wp w') ((first | assumption | (refine kp_of ?_; (repeat' (first | assumption | exact below_refl _ | refine bl_alloc ?_ _ | refine Below.setCell ?_ ?_ _ | refine below_draw ?_ | refine below_drewN ?_ _ | refine below_tr ?_ (by assumption))) <;> (first | omega | (simp; done) | (simp; omega))))) ((first | (go_at_call 40; ((with_reducible refine (HL1.out _).mono ?_); rintro e w3 ⟨rfl, hb3⟩; obtain ⟨hc3, hf3⟩ := bcell hb3; have hz3 := hb3.size; (try simp [sz_drew, sz_drewN] at hz3); (try simp only [sz_drew, sz_drewN] at hc3 hf3))) | (go_at_call 40; ((with_reducible refine (HL2.out _).mono ?_); rintro e w4 ⟨rfl, hb4⟩; obtain ⟨hc4, hf4⟩ := bcell hb4; have hz4 := hb4.size; (try simp [sz_drew, sz_drewN] at hz4); (try simp only [sz_drew, sz_drewN] at hc4 hf4))) | (go_at_call 39; ((with_reducible refine (HC.out _).mono ?_); rintro e w5 ⟨rfl, hb5⟩; obtain ⟨hc5, hf5⟩ := bcell hb5; have hz5 := hb5.size; (try simp [sz_drew, sz_drewN] at hz5); (try simp only [sz_drew, sz_drewN] at hc5 hf5)))))
                              all_goals go_wp2
                              all_goals (
                                go_roundw
                                case rel => exact ⟨m + 1, by omega, by rw [HS2.out], by go_num, below_tr hbp (by (repeat' (first | assumption | exact below_refl _ | refine bl_alloc ?_ _ | refine Below.setCell ?_ ?_ _ | refine below_draw ?_ | refine below_drewN ?_ _ | refine below_tr ?_ (by assumption))) <;> (first | omega | (simp; done) | (simp; omega)))⟩
                                case measure => simp [intOf]; omega)
                            · have dC : decide (0 ≤ C) = false := decide_eq_false hC
                              have HS2 := Lib.hid (show bnx LF x y2 (m + 1) = false by rw [HSP.out, dC]; rfl)
                              clear HSP
                              go_wp2_with fail
                              go_region_held3 (fun w' => (∀ b o, b < wp.heap.size → w'.cell? ⟨b, o, none⟩ = wp.cell? ⟨b, o, none⟩) ∧ (∀ b o, b < wp.heap.size → w'.frozen? ⟨b, o, none⟩ = wp.frozen? ⟨b, o, none⟩) ∧ Below wp.heap.size wp w') ((first | assumption | (refine kp_of ?_; (repeat' (first | assumption | exact below_refl _ | refine bl_alloc ?_ _ | refine Below.setCell ?_ ?_ _ | refine below_draw ?_ | refine below_drewN ?_ _ | refine below_tr ?_ (by assumption))) <;> (first | omega | (simp; done) | (simp; omega))))) ((first | (go_at_call 40; ((with_reducible refine (HL1.out _).mono ?_); rintro e w3 ⟨rfl, hb3⟩; obtain ⟨hc3, hf3⟩ := bcell hb3; have hz3 := hb3.size; (try simp [sz_drew, sz_drewN] at hz3); (try simp only [sz_drew, sz_drewN] at hc3 hf3))) | (go_at_call 40; ((with_reducible refine (HL2.out _).mono ?_); rintro e w4 ⟨rfl, hb4⟩; obtain ⟨hc4, hf4⟩ := bcell hb4; have hz4 := hb4.size; (try simp [sz_drew, sz_drewN] at hz4); (try simp only [sz_drew, sz_drewN] at hc4 hf4))) | (go_at_call 39; ((with_reducible refine (HC.out _).mono ?_); rintro e w5 ⟨rfl, hb5⟩; obtain ⟨hc5, hf5⟩ := bcell hb5; have hz5 := hb5.size; (try simp [sz_drew, sz_drewN] at hz5); (try simp only [sz_drew, sz_drewN] at hc5 hf5)))))
                              all_goals go_wp2
                              all_goals (
                                go_roundw
                                case rel => exact ⟨m + 1, by omega, by rw [HS2.out], by go_num, below_tr hbp (by (repeat' (first | assumption | exact below_refl _ | refine bl_alloc ?_ _ | refine Below.setCell ?_ ?_ _ | refine below_draw ?_ | refine below_drewN ?_ _ | refine below_tr ?_ (by assumption))) <;> (first | omega | (simp; done) | (simp; omega)))⟩
                                case measure => simp [intOf]; omega)
                        · obtain rfl : m = LF.length := by omega
                          have hfe := bnx_all LF x y
                          cases hfo : follows LF x y
                          · rw [hfo] at hfe
                            rw [hfe]
                            have HI2 := Lib.hid (show ∀ j, j < k + 1 → follows LF x (gl LF j) = false from (by
                              intro j hj
                              by_cases e : j = k
                              · subst e; rw [HGY.out]; exact hfo
                              · exact HI.out j (by omega)))
                            go_wp2
                            go_roundw
                            case rel => exact ⟨k + 1, by omega, rfl, by go_num, hbp, HI2.out⟩
                            case measure => simp [intOf]; omega
                          · rw [hfo] at hfe
                            rw [hfe]
                            have HTK := Lib.hid (show H.take (n + 1 + 1) = H.take (n + 1) ++ [y] by rw [List.take_add_one, HFY.out.1 hfo]; rfl)
                            have hn2 : n + 1 < H.length := by have := HLL.out; omega
                            obtain ⟨y2, b5, off5, hy2, e5, hb5, c0, c1⟩ := rdS (R8.on hbp) hkl
                            cases e5
                            obtain rfl : y2 = y := by have := hy2.symm.trans HMY.out; exact Option.some.inj this
                            have op := own_on o8 hbp
                            have BP := below_tr B8 hbp
                            have hps := BP.size
                            have hH24 : H.length ≤ 24 := by have := HLL.out; omega
                            clear hy2 HFY HI HGY HMY
                            rename World => wp
                            go_wp2_with (at_builtin; refine wpList_append_own _ rfl _ _ 31 rfl wr.heap.size 24 i0 (.agg #[.int .i64 0, .int .i64 0]) 2 16 (by kernel_rfl) hi hi1 hi2 hi3 rfl (by omega) _ _ _ rfl (op.alloc _) ⟨wp.heap.size, 0, none⟩ 1 1 (Sp.cs y2) rfl rfl (cells_new wp (Sp.cs y2) 24) (spC_one y2) (by unfold maxLen; omega) (by omega) (by simp; omega) ?_; intro v' w9 hown9 hgrow _; obtain ⟨a9, c9, rfl⟩ := own_slice hown9)
                            go_roundw
                            case rel => exact ⟨n + 1, hn2, bl_app BP op hgrow (Nat.le_refl _) BP.size, by rw [HTK.out, fl_snoc]; exact hown9⟩
                            case measure => simp [vlen]; omega
                  · exfalso
                    obtain rfl : k = LF.length := by omega
                    obtain ⟨z, hz⟩ := get_lt (show n + 1 < H.length by have := HLL.out; omega)
                    have hzl := HMH.out z (List.mem_of_getElem? hz)
                    obtain ⟨i, hi, ei⟩ := List.getElem_of_mem hzl
                    have h1 := HI.out i hi
                    rw [gl_of (by rw [List.getElem?_eq_getElem hi, ei])] at h1
                    rw [(HNX.out z hzl).2 hz] at h1
                    cases h1
              · have hn1 : n + 1 = H.length := by have := HLL.out; omega
                have nn1 : ¬ (n : Int) + 1 < (LF.length : Int) := by omega
                rw [hn1, List.take_length] at hown
                go_wp2
                go_ret2
                exact ⟨_, rfl, own_base hown BWr.size, below_tr BWr hbw⟩
end Go.Proofs.Ytkeojokbpjdhpaa
