/- Fell: FellMore. -/
import Derived.Test.YtkeojokbpjdhpaaFaw
import Derived.Maps.AppendAt
set_option linter.unusedSimpArgs false
set_option linter.unusedVariables false
namespace Go.Proofs.Ytkeojokbpjdhpaa
open Go.RowKit

theorem vP_iff {l : List Pr} : vP l = true ↔ (∀ x ∈ l, isS x.a = true) ∧ (spL l).Nodup ∧ l.length ≤ 24 := by
  constructor
  · intro h
    refine ⟨fun x hx => ?_, vP_nodup h, vP_len h⟩
    obtain ⟨i, hi⟩ := List.getElem?_of_mem hx
    exact (vP_at h hi).1
  · rintro ⟨h1, h2, h3⟩
    rw [vP_yes, decide_eq_true h3]
    rw [List.all_eq_true]
    intro i hi
    have hi' : i < l.length := by simpa using hi
    obtain ⟨x, hx⟩ := get_lt hi'
    refine okP_yes (by rw [prAt_of hx]; exact h1 x (List.mem_of_getElem? hx)) ?_
    rw [List.all_eq_true]
    intro j hj
    have hji : j < i := by simpa using hj
    obtain ⟨y, hy⟩ := get_lt (show j < l.length by omega)
    unfold frP
    rw [prAt_of hy, prAt_of hx, decide_eq_true_eq]
    unfold List.Nodup at h2
    rw [List.pairwise_iff_getElem] at h2
    have := h2 j i (by rw [spL_len]; omega) (by rw [spL_len]; omega) hji
    have e1 := (List.getElem?_eq_some_iff.1 hy).2
    have e2 := (List.getElem?_eq_some_iff.1 hx).2
    simpa [spL, e1, e2] using this
theorem vP_sub {l m : List Pr} (h : m.Sublist l) (hv : vP l = true) : vP m = true := by
  rw [vP_iff] at hv ⊢
  exact ⟨fun x hx => hv.1 x (h.mem hx), (h.map Pr.a).nodup hv.2.1, Nat.le_trans h.length_le hv.2.2⟩
theorem stE_sub {l m : List Pr} {s : Sp} (h : m.Sublist l) (he : stE l s = 0) : stE m s = 0 := by
  obtain ⟨hv, hs⟩ := stE_z he
  exact askE_ok (vP_sub h hv) (by simp [hs])
theorem stD_sub {l m : List Pr} {s : Sp} (h : m.Sublist l) (he : stE l s = 0) (hd : stD m s = true) : stD l s = true := by
  have hm := stE_sub h he
  rw [stD_ok hm, heldB_iff] at hd
  rw [stD_ok he, heldB_iff]
  exact hd.mono fun x hx => (h.map Pr.a).mem hx
def lsP (l : List Pr) (k : Nat) : List Pr := l.take k ++ l.drop (k + 1)
theorem lsP_sub (l : List Pr) (k : Nat) : (lsP l k).Sublist l := by
  unfold lsP; rw [← List.eraseIdx_eq_take_drop_succ]; exact List.eraseIdx_sublist l k
theorem lsP_len {l : List Pr} {k : Nat} (h : k < l.length) : (lsP l k).length = k + (l.length - (k + 1)) := by
  unfold lsP; rw [List.length_append, List.length_take, List.length_drop]; omega
theorem info_prop : ∃ i : TypeInfo, Try.prog.info? 36 = some i ∧ i.zero = some (.agg #[.int .i64 0, .int .i64 0, .bool false]) ∧ i.size = 3 ∧ i.bytes = 24 := info_parts (by kernel_rfl)
theorem prC_one (l : List Pr) : ∀ u ∈ fl Pr.cs l, u.oneCell' = true := fun u hu => by
  unfold fl at hu
  obtain ⟨x, _, hx⟩ := List.mem_flatMap.1 hu
  simp only [Pr.cs, List.mem_cons, List.not_mem_nil, or_false] at hx
  rcases hx with rfl | rfl | rfl <;> rfl
def manyB (n : Nat) : Bool := (decide (12 < n) && decide (n ≤ 24)) || decide (30 < n)
theorem p_many (A : Option Addr) (n c : Nat) (w : World) (hn : n ≤ maxLen) :
    Calls Try.prog 9 #[.slice A n c] w fun e w' => e = .returned (.bool (manyB n)) ∧ w = w' := by
  unfold maxLen at hn
  rcases (by omega : n ≤ 12 ∨ (12 < n ∧ n ≤ 24) ∨ (24 < n ∧ n ≤ 30) ∨ 30 < n) with h | ⟨h, h'⟩ | ⟨h, h'⟩ | h
  · have h1 : ¬ 12 < (n : Int) := by omega
    have h2 : ¬ 30 < (n : Int) := by omega
    have d1 : decide (12 < (n : Int)) = false := decide_eq_false h1
    have d2 : decide (30 < (n : Int)) = false := decide_eq_false h2
    go_enter Try.func9, Try.ntmps9
    go_wp2
    go_ret
    exact ⟨ret_bool (by unfold manyB; simp; omega), rfl⟩
  · have h1 : 12 < (n : Int) := by omega
    have h2 : (n : Int) ≤ 24 := by omega
    have d1 : decide (12 < (n : Int)) = true := decide_eq_true h1
    have d2 : decide ((n : Int) ≤ 24) = true := decide_eq_true h2
    go_enter Try.func9, Try.ntmps9
    go_wp2
    go_ret
    exact ⟨ret_bool (by unfold manyB; simp; omega), rfl⟩
  · have h1 : 12 < (n : Int) := by omega
    have h2 : ¬ (n : Int) ≤ 24 := by omega
    have h3 : ¬ 30 < (n : Int) := by omega
    have d1 : decide (12 < (n : Int)) = true := decide_eq_true h1
    have d2 : decide ((n : Int) ≤ 24) = false := decide_eq_false h2
    have d3 : decide (30 < (n : Int)) = false := decide_eq_false h3
    go_enter Try.func9, Try.ntmps9
    go_wp2
    go_ret
    exact ⟨ret_bool (by unfold manyB; simp; omega), rfl⟩
  · have h1 : 12 < (n : Int) := by omega
    have h2 : ¬ (n : Int) ≤ 24 := by omega
    have h3 : 30 < (n : Int) := by omega
    have d1 : decide (12 < (n : Int)) = true := decide_eq_true h1
    have d2 : decide ((n : Int) ≤ 24) = false := decide_eq_false h2
    have d3 : decide (30 < (n : Int)) = true := decide_eq_true h3
    go_enter Try.func9, Try.ntmps9
    go_wp2
    go_ret
    exact ⟨ret_bool (by unfold manyB; simp; omega), rfl⟩
section
variable {P : Program}
theorem step_append_at {ops : Array Oper} {o : Oper} {a : Act} {w : World} {K : Act → World → Prop} {Q : Exit → Act → World → Prop} {E : Prop} (hgd : o.guard = none) (s x : Operand) (t : TypeId)
    (ho : o.op = .call { callee := .builtin .append, args := #[s, x], argTypes := #[t, t] })
    (base : Nat) (e : TypeId) (i : TypeInfo) (z : Value) (size bytes : Nat) (ht : P.underlying t = some (.slice e)) (hi : P.info? e = some i) (hz : i.zero = some z)
    (hsize : i.size = size) (hby : i.bytes = bytes) (hzs : z.cells.size = size) (hsz : 0 < size)
    (v : Value) (n : Nat) (xs : List Value) (hs : a.eval s = v) (hown : w.ownsRow base e size v n xs)
    (ad : Addr) (m c : Nat) (news : List Value) (hx : a.eval x = .slice (some ad) m c) (hl : news.length = m * size) (hnews : ∀ j u, news[j]? = some u → w.cell? (ad.add j) = some u) (h1 : ∀ u ∈ news, u.oneCell' = true)
    (h63 : n + m ≤ maxLen) (hbytes : (n + m) * bytes ≤ 140737488355328) (hbase : base ≤ w.heap.size)
    (h : ∀ v' w', w'.ownsRow base e size v' (n + m) (xs ++ news) → w.grownBy w' v.ownBlock → K (a.put o.dst v') w') :
    if Region.wanted o (yielded ops a.tmps) = true then Oper.wp P o a w K Q else E := by
  have hw : Region.wanted o (yielded ops a.tmps) = true := by simp [Region.wanted, hgd]
  rw [if_pos hw]
  obtain ⟨v', w', hr, h2, h3, _, _⟩ := Go.run_append_own_at (P := P) w base t o.type e i z size bytes ht hi hz hsize hby hzs hsz v n xs hown ad m c news hl hnews h1 h63 hbytes hbase
  unfold Oper.wp execOp
  simp only [ho, resolve, invoke, builtin, Sem.run_bind, Sem.run_pure, Result.andThen_ok, List.map_toArray, List.map_cons, List.map_nil, hs, hx, hr]
  exact h v' w' h2 h3
end
set_option maxHeartbeats 1500000 in
set_option maxRecDepth 20000 in
theorem l_FellMore (A : Option Addr) (l : List Pr) (c : Nat) (s : Sp) (i : Int) (w : World) (hl : l.length ≤ maxLen) (hc : l.length ≤ c) (hcm : c ≤ maxLen) (hR : Rd Pr.cs 3 w A l) (i0 : -9223372036854775808 ≤ i) (i1 : i ≤ 9223372036854775807) :
    Calls Try.prog 3 #[.slice A l.length c, spV s, .int .i64 i] w fun e w' => e = .returned (.bool true) ∧ Below w.heap.size w w' := by
  have x0 := Blk.new w 24 (spA s)
  have B0 := bl_alloc (below_refl w) (.cells (spA s) 24)
  have HAW := Lib.hid l_awake
  have HM := Lib.hid (fun W => p_many A l.length c W hl)
  unfold maxLen at hl hcm
  cases hm : manyB l.length
  rotate_left
  · rw [hm] at HM
    go_enter Try.func3, Try.ntmps3
    go_wp2_with fail
    refine (HAW.out _).mono ?_
    rintro e w1 ⟨rfl, hb1⟩
    go_wp2_with (go_at_call 9; ((with_reducible refine (HM.out _).mono ?_); rintro e w' ⟨rfl, rfl⟩))
    go_ret
    exact ⟨rfl, below_tr B0 hb1⟩
  rw [hm] at HM
  have h30 : l.length ≤ 30 := by unfold manyB at hm; simp at hm; omega
  clear hm
  by_cases hi0 : i < 0
  · have d1 : decide (i < 0) = true := decide_eq_true hi0
    go_enter Try.func3, Try.ntmps3
    go_wp2_with fail
    refine (HAW.out _).mono ?_
    rintro e w1 ⟨rfl, hb1⟩
    go_wp2_with (go_at_call 9; ((with_reducible refine (HM.out _).mono ?_); rintro e w' ⟨rfl, rfl⟩))
    go_ret
    exact ⟨rfl, below_tr B0 hb1⟩
  by_cases hi1 : (l.length : Int) ≤ i
  · have d1 : decide (i < 0) = false := decide_eq_false hi0
    have d2 : decide ((l.length : Int) ≤ i) = true := decide_eq_true hi1
    go_enter Try.func3, Try.ntmps3
    go_wp2_with fail
    refine (HAW.out _).mono ?_
    rintro e w1 ⟨rfl, hb1⟩
    go_wp2_with (go_at_call 9; ((with_reducible refine (HM.out _).mono ?_); rintro e w' ⟨rfl, rfl⟩))
    go_ret
    exact ⟨rfl, below_tr B0 hb1⟩
  obtain ⟨k, rfl⟩ := Int.eq_ofNat_of_zero_le (show 0 ≤ i by omega)
  have hk : k < l.length := by omega
  have kk0 : (0 : Int) ≤ (k : Int) := Int.natCast_nonneg _
  have kk1 : (k : Int) < (l.length : Int) := by omega
  have d1 : decide ((k : Int) < 0) = false := decide_eq_false hi0
  have d2 : decide ((l.length : Int) ≤ (k : Int)) = false := decide_eq_false hi1
  obtain ⟨b, off, rfl, hbl, _⟩ := hR (by intro e; rw [e] at hk; simp at hk)
  have hkc : (k : Int) ≤ (c : Int) := by omega
  have hw1 : IntKind.i64.wrap ((k : Int) + 1) = (k : Int) + 1 := fits_wrap (by omega)
  have hlc : (l.length : Int) ≤ (c : Int) := by omega
  clear hi0 hi1 i0 i1
  go_enter Try.func3, Try.ntmps3
  go_wp2_with fail
  refine (HAW.out _).mono ?_
  rintro e w1 ⟨rfl, hb1⟩
  go_wp2_with (go_at_call 9; ((with_reducible refine (HM.out _).mono ?_); rintro e w' ⟨rfl, rfl⟩))
  have B1 := below_tr B0 hb1
  have x1 := x0.below hb1 x0.lt
  clear x0 B0 hb1 HAW HM
  obtain ⟨i9, hi, hi1, hi2, hi3⟩ := info_prop
  have hk1c : (k : Int) + 1 ≤ (l.length : Int) := by omega
  have hk10 : (0 : Int) ≤ (k : Int) + 1 := by omega
  have hkt : ((k : Int) + 1).toNat = k + 1 := by omega
  have hkl : k + 1 ≤ l.length := by omega
  have HDR := Lib.hid (fun (W : World) (hb : Below w.heap.size w W) => rd_fl Pr.cs_len (rd_dropA (hR.on hb) (k + 1)))
  by_cases hck : c = k + 1
  · subst hck
    have hkc' : (k : Int) ≤ (k : Int) + 1 := by omega
    have HNIL := Lib.hid (show l.drop (k + 1) = [] from List.drop_eq_nil_of_le (by omega))
    refine wp_region_noPanic ?_
    refine wp_region_held_drew (S := (fun w' => (∀ b o, b < w1.heap.size → w'.cell? ⟨b, o, none⟩ = w1.cell? ⟨b, o, none⟩) ∧ (∀ b o, b < w1.heap.size → w'.frozen? ⟨b, o, none⟩ = w1.frozen? ⟨b, o, none⟩) ∧ Below w1.heap.size w1 w')) (by kernel_rfl) (kq_draw kq_refl) (fun hS0 => ?_)
    refine wpAnyH_take (i := 1) (oi := { dst := some 27, op := _, type := _, pos := _, after := _, guard := none }) (v := ?gv1) rfl (by kernel_rfl) (by kernel_rfl) (by kernel_rfl) (fun _ _ _ h => h) (Or.inl ⟨by rfl, ?gy1⟩) (by assumption) ?_
    case gy1 => (intro w' hSw; go_simp; try with_reducible rfl)
    try simp only [Act.put, List.setIfInBounds_toArray, List.set_cons_zero, List.set_cons_succ]
    refine wpAnyH_take (i := 2) (oi := { dst := some 28, op := _, type := _, pos := _, after := _, guard := none }) (v := ?gv2) rfl (by kernel_rfl) (by kernel_rfl) (by kernel_rfl) (fun _ _ _ h => h) (Or.inl ⟨by rfl, ?gy2⟩) (by assumption) ?_
    case gy2 => (intro w' hSw; go_simp; try with_reducible rfl)
    try simp only [Act.put, List.setIfInBounds_toArray, List.set_cons_zero, List.set_cons_succ]
    refine wpAnyH_take (i := 3) (oi := { dst := some 29, op := _, type := _, pos := _, after := _, guard := none }) (v := ?gv3) rfl (by kernel_rfl) (by kernel_rfl) (by kernel_rfl) (fun _ _ _ h => h) (Or.inl ⟨by rfl, ?gy3⟩) (by assumption) ?_
    case gy3 => (intro w' hSw; go_simp; try with_reducible rfl)
    try simp only [Act.put, List.setIfInBounds_toArray, List.set_cons_zero, List.set_cons_succ]
    refine wpAnyH_take (i := 5) (oi := { dst := some 31, op := _, type := _, pos := _, after := _, guard := none }) (v := ?gv4) rfl (by kernel_rfl) (by kernel_rfl) (by kernel_rfl) (fun _ _ _ h => h) (Or.inl ⟨by rfl, ?gy4⟩) (by assumption) ?_
    case gy4 => (intro w' hSw; go_simp; try with_reducible rfl)
    try simp only [Act.put, List.setIfInBounds_toArray, List.set_cons_zero, List.set_cons_succ]
    refine wpAnyH_take (i := 6) (oi := { dst := some 32, op := _, type := _, pos := _, after := _, guard := none }) (v := ?gv5) rfl (by kernel_rfl) (by kernel_rfl) (by kernel_rfl) (fun _ _ _ h => h) (Or.inl ⟨by rfl, ?gy5⟩) (by assumption) ?_
    case gy5 => (intro w' hSw; go_simp; try with_reducible rfl)
    try simp only [Act.put, List.setIfInBounds_toArray, List.set_cons_zero, List.set_cons_succ]
    refine wpAnyH_take (i := 7) (oi := { dst := some 33, op := _, type := _, pos := _, after := _, guard := none }) (v := ?gv6) rfl (by kernel_rfl) (by kernel_rfl) (by kernel_rfl) (fun _ _ _ h => h) (Or.inl ⟨by rfl, ?gy6⟩) (by assumption) ?_
    case gy6 => (intro w' hSw; go_simp; try with_reducible rfl)
    try simp only [Act.put, List.setIfInBounds_toArray, List.set_cons_zero, List.set_cons_succ]
    refine wpAnyH_take (i := 8) (oi := { dst := some 34, op := _, type := _, pos := _, after := _, guard := none }) (v := ?gv7) rfl (by kernel_rfl) (by kernel_rfl) (by kernel_rfl) (fun _ _ _ h => h) (Or.inl ⟨by rfl, ?gy7⟩) (by assumption) ?_
    case gy7 => (intro w' hSw; go_simp; try with_reducible rfl)
    try simp only [Act.put, List.setIfInBounds_toArray, List.set_cons_zero, List.set_cons_succ]
    refine wpAnyH_ready (rs := [0]) (by kernel_rfl) (by simp) ?_
    refine AllReadyH.cons rfl (fun K hK => ?_) AllReadyH.nil
    go_simp
    refine hK.out _ _ (by ((show Kq w1 _); (repeat' (first | assumption | exact kq_refl | refine kq_draw ?_ | refine kq_drewN ?_ | refine kq_alloc ?_ | refine kq_set ?_ ?_ | refine kq_step ?_ (by assumption))); (all_goals (first | omega | (simp; omega))))) (fun hS1 => ?_)
    clear hK K
    try simp only [Act.put, List.setIfInBounds_toArray, List.set_cons_zero, List.set_cons_succ]
    refine wpAnyH_ready (rs := [4]) (by kernel_rfl) (by simp) ?_
    refine AllReadyH.cons rfl (fun K hK => ?_) AllReadyH.nil
    ((refine step_append_at (by rfl) _ _ _ (by rfl) w1.heap.size 36 i9 _ 3 24 Try.underlying22 hi hi1 hi2 hi3 rfl (by omega) (.slice (some ⟨w1.heap.size, 0, none⟩) 0 0) 0 [] (by rfl) (by first | exact own_drew (own_none w1 _ 3) | exact own_none w1 _ 3 | exact own_none w1.drew _ 3) ⟨b, off, none⟩ k (k + 1) (fl Pr.cs (l.take k)) (by rfl) (by rw [fl_length Pr.cs_len, List.length_take]; omega) (rd_fl Pr.cs_len (rd_takeA (hR.on (by (repeat' (first | assumption | exact below_refl _ | refine bl_alloc ?_ _ | refine Below.setCell ?_ ?_ _ | refine below_draw ?_ | refine below_drewN ?_ _ | refine below_tr ?_ (by assumption))) <;> (first | omega | (simp; done) | (simp; omega)))) k)) (prC_one _) (by unfold maxLen; omega) (by omega) (by first | (simp; done) | (simp; omega)) ?_); intro v3 w3 hown3 hgrow3; obtain ⟨a3, c3, rfl⟩ := own_slice hown3; have hk3 : Below w1.heap.size w1 w3 := (bl_grown (by (repeat' (first | assumption | exact below_refl _ | refine bl_alloc ?_ _ | refine Below.setCell ?_ ?_ _ | refine below_draw ?_ | refine below_drewN ?_ _ | refine below_tr ?_ (by assumption))) <;> (first | omega | (simp; done) | (simp; omega))) hgrow3 (fun r hr => Nat.le_of_eq (ob_eq hr)) (by first | (simp; done) | (simp; omega))); have hq3 := kq_of hk3)
    refine hK.out _ _ (by ((show Kq w1 _); (repeat' (first | assumption | exact kq_refl | refine kq_draw ?_ | refine kq_drewN ?_ | refine kq_alloc ?_ | refine kq_set ?_ ?_ | refine kq_step ?_ (by assumption))); (all_goals (first | omega | (simp; omega))))) (fun hS2 => ?_)
    clear hK K
    try simp only [Act.put, List.setIfInBounds_toArray, List.set_cons_zero, List.set_cons_succ]
    refine wpAnyH_ready (rs := [9]) (by kernel_rfl) (by simp) ?_
    refine AllReadyH.cons rfl (fun K hK => ?_) AllReadyH.nil
    ((refine step_append_at (by rfl) _ _ _ (by rfl) w1.heap.size 36 i9 _ 3 24 Try.underlying22 hi hi1 hi2 hi3 rfl (by omega) _ _ _ (by rfl) hown3 ⟨b, off, none⟩ 0 0 (fl Pr.cs (l.drop (k + 1))) (by rfl) (by rw [fl_length Pr.cs_len, List.length_drop]; omega) (fun j u hu => by rw [HNIL.out] at hu; simp [fl] at hu) (prC_one _) (by unfold maxLen; omega) (by omega) hk3.size ?_); intro v4 w4 hown4 hgrow4; obtain ⟨a4, c4, rfl⟩ := own_slice hown4; have hk4 : Below w1.heap.size w1 w4 := (bl_grown hk3 hgrow4 (fun r hr => (own_ge hown3 r hr).1) hk3.size); have hq4 := kq_of hk4)
    refine hK.out _ _ (by ((show Kq w1 _); (repeat' (first | assumption | exact kq_refl | refine kq_draw ?_ | refine kq_drewN ?_ | refine kq_alloc ?_ | refine kq_set ?_ ?_ | refine kq_step ?_ (by assumption))); (all_goals (first | omega | (simp; omega))))) (fun hS3 => ?_)
    clear hK K
    try simp only [Act.put, List.setIfInBounds_toArray, List.set_cons_zero, List.set_cons_succ]
    refine wpAnyH_take (i := 10) (oi := { dst := some 7, op := _, type := _, pos := _, after := _, guard := none }) (v := ?gv8) rfl (by kernel_rfl) (by kernel_rfl) (by kernel_rfl) (fun _ _ _ h => h) (Or.inl ⟨by rfl, ?gy8⟩) (by assumption) ?_
    case gy8 => (intro w' hSw; go_simp; try with_reducible rfl)
    try simp only [Act.put, List.setIfInBounds_toArray, List.set_cons_zero, List.set_cons_succ]
    refine wpAnyH_done (by kernel_rfl) (NoPanic.normal ?_) _
    have hlen : 0 + k + 0 = (lsP l k).length := by rw [lsP_len hk]; omega
    have hlk : (lsP l k).length = k := by rw [lsP_len hk]; omega
    have hfl : ([] ++ fl Pr.cs (l.take k) ++ fl Pr.cs (l.drop (k + 1))) = fl Pr.cs (lsP l k) := by simp [lsP, fl]
    rw [hfl, hlen] at hown4
    have B4 := below_tr B1 hk4
    have x4 := x1.below hk4 x1.lt
    have hR4 := own_rd' Pr.cs_len hown4
    have HS1 := Lib.hid (fun W (hb : Below w.heap.size w W) => p_Stands (some ⟨b, off, none⟩) l (k + 1) s W (by omega) vP_len (hR.on hb))
    have HS2 := Lib.hid (fun W (hb : Below w4.heap.size w4 W) => p_Stands a4 (lsP l k) c4 s W (by have := lsP_len hk; omega) vP_len (hR4.on hb))
    have HREL : stE l s ≠ 0 ∨ (stE l s = 0 ∧ stE (lsP l k) s = 0 ∧ stD l s = true) ∨ (stE l s = 0 ∧ stE (lsP l k) s = 0 ∧ stD l s = false ∧ stD (lsP l k) s = false) := by
      by_cases h : stE l s = 0
      · right
        have h2 := stE_sub (lsP_sub l k) h
        cases h3 : stD l s
        · right
          refine ⟨h, h2, rfl, ?_⟩
          cases h4 : stD (lsP l k) s
          · rfl
          · rw [stD_sub (lsP_sub l k) h h4] at h3; cases h3
        · left; exact ⟨h, h2, rfl⟩
      · exact .inl h
    have p0 := x4.cell 0
    have p1 := x4.cell 1
    simp only [List.getElem?_toArray, List.getElem?_cons_zero, List.getElem?_cons_succ] at p0 p1
    have lx := x4.lt
    rw [hlk] at HS2
    generalize lsP l k = m at *
    generalize stE l s = E1 at *
    generalize stD l s = D1 at *
    generalize stE m s = E2 at *
    generalize stD m s = D2 at *
    clear hown4 hgrow4 hown3 hgrow3 hk3 hk4 hq3 hq4 B1 x1 hlen hlk hfl HDR hw1 hkt hk10 hk1c
    go_wp2_with fail
    with_reducible refine (HS1.out _ (by (repeat' (first | assumption | exact below_refl _ | refine bl_alloc ?_ _ | refine Below.setCell ?_ ?_ _ | refine below_draw ?_ | refine below_drewN ?_ _ | refine below_tr ?_ (by assumption))) <;> (first | omega | (simp; done) | (simp; omega)))).mono ?_
    rintro e w5 ⟨rfl, hb5⟩
    have B5 : Below w4.heap.size w4 w5 := by (repeat' (first | assumption | exact below_refl _ | refine bl_alloc ?_ _ | refine Below.setCell ?_ ?_ _ | refine below_draw ?_ | refine below_drewN ?_ _ | refine below_tr ?_ (by assumption))) <;> (first | omega | (simp; done) | (simp; omega))
    have x5 := x4.below B5 x4.lt
    have q0 := x5.cell 0
    have q1 := x5.cell 1
    simp only [List.getElem?_toArray, List.getElem?_cons_zero, List.getElem?_cons_succ] at q0 q1
    go_wp2_with fail
    with_reducible refine (HS2.out _ B5).mono ?_
    rintro e w6 ⟨rfl, hb6⟩
    have B6 := below_tr (below_tr B4 B5) hb6
    clear p0 p1 q0 q1 x4 x5 lx HS1 HS2
    rcases HREL with h | ⟨rfl, rfl, rfl⟩ | ⟨rfl, rfl, rfl, rfl⟩
    · have t1 : (E1 == 0) = false := by simpa using h
      go_wp2
      all_goals go_ret
      all_goals exact ⟨by first | rfl | simp [t1] | simp [h], B6⟩
    · go_wp2
      go_ret
      exact ⟨rfl, B6⟩
    · go_wp2
      go_ret
      exact ⟨rfl, B6⟩
  · have hcd : ¬ c = k + 1 := hck
    refine wp_region_noPanic ?_
    refine wp_region_held_drew (S := (fun w' => (∀ b o, b < w1.heap.size → w'.cell? ⟨b, o, none⟩ = w1.cell? ⟨b, o, none⟩) ∧ (∀ b o, b < w1.heap.size → w'.frozen? ⟨b, o, none⟩ = w1.frozen? ⟨b, o, none⟩) ∧ Below w1.heap.size w1 w')) (by kernel_rfl) (kq_draw kq_refl) (fun hS0 => ?_)
    refine wpAnyH_take (i := 1) (oi := { dst := some 27, op := _, type := _, pos := _, after := _, guard := none }) (v := ?gv9) rfl (by kernel_rfl) (by kernel_rfl) (by kernel_rfl) (fun _ _ _ h => h) (Or.inl ⟨by rfl, ?gy9⟩) (by assumption) ?_
    case gy9 => (intro w' hSw; go_simp; try with_reducible rfl)
    try simp only [Act.put, List.setIfInBounds_toArray, List.set_cons_zero, List.set_cons_succ]
    refine wpAnyH_take (i := 2) (oi := { dst := some 28, op := _, type := _, pos := _, after := _, guard := none }) (v := ?gv10) rfl (by kernel_rfl) (by kernel_rfl) (by kernel_rfl) (fun _ _ _ h => h) (Or.inl ⟨by rfl, ?gy10⟩) (by assumption) ?_
    case gy10 => (intro w' hSw; go_simp; try with_reducible rfl)
    try simp only [Act.put, List.setIfInBounds_toArray, List.set_cons_zero, List.set_cons_succ]
    refine wpAnyH_take (i := 3) (oi := { dst := some 29, op := _, type := _, pos := _, after := _, guard := none }) (v := ?gv11) rfl (by kernel_rfl) (by kernel_rfl) (by kernel_rfl) (fun _ _ _ h => h) (Or.inl ⟨by rfl, ?gy11⟩) (by assumption) ?_
    case gy11 => (intro w' hSw; go_simp; try with_reducible rfl)
    try simp only [Act.put, List.setIfInBounds_toArray, List.set_cons_zero, List.set_cons_succ]
    refine wpAnyH_take (i := 5) (oi := { dst := some 31, op := _, type := _, pos := _, after := _, guard := none }) (v := ?gv12) rfl (by kernel_rfl) (by kernel_rfl) (by kernel_rfl) (fun _ _ _ h => h) (Or.inl ⟨by rfl, ?gy12⟩) (by assumption) ?_
    case gy12 => (intro w' hSw; go_simp; try with_reducible rfl)
    try simp only [Act.put, List.setIfInBounds_toArray, List.set_cons_zero, List.set_cons_succ]
    refine wpAnyH_take (i := 6) (oi := { dst := some 32, op := _, type := _, pos := _, after := _, guard := none }) (v := ?gv13) rfl (by kernel_rfl) (by kernel_rfl) (by kernel_rfl) (fun _ _ _ h => h) (Or.inl ⟨by rfl, ?gy13⟩) (by assumption) ?_
    case gy13 => (intro w' hSw; go_simp; try with_reducible rfl)
    try simp only [Act.put, List.setIfInBounds_toArray, List.set_cons_zero, List.set_cons_succ]
    refine wpAnyH_take (i := 7) (oi := { dst := some 33, op := _, type := _, pos := _, after := _, guard := none }) (v := ?gv14) rfl (by kernel_rfl) (by kernel_rfl) (by kernel_rfl) (fun _ _ _ h => h) (Or.inl ⟨by rfl, ?gy14⟩) (by assumption) ?_
    case gy14 => (intro w' hSw; go_simp; try with_reducible rfl)
    try simp only [Act.put, List.setIfInBounds_toArray, List.set_cons_zero, List.set_cons_succ]
    refine wpAnyH_take (i := 8) (oi := { dst := some 34, op := _, type := _, pos := _, after := _, guard := none }) (v := ?gv15) rfl (by kernel_rfl) (by kernel_rfl) (by kernel_rfl) (fun _ _ _ h => h) (Or.inl ⟨by rfl, ?gy15⟩) (by assumption) ?_
    case gy15 => (intro w' hSw; go_simp; try with_reducible rfl)
    try simp only [Act.put, List.setIfInBounds_toArray, List.set_cons_zero, List.set_cons_succ]
    refine wpAnyH_ready (rs := [0]) (by kernel_rfl) (by simp) ?_
    refine AllReadyH.cons rfl (fun K hK => ?_) AllReadyH.nil
    go_simp
    refine hK.out _ _ (by ((show Kq w1 _); (repeat' (first | assumption | exact kq_refl | refine kq_draw ?_ | refine kq_drewN ?_ | refine kq_alloc ?_ | refine kq_set ?_ ?_ | refine kq_step ?_ (by assumption))); (all_goals (first | omega | (simp; omega))))) (fun hS1 => ?_)
    clear hK K
    try simp only [Act.put, List.setIfInBounds_toArray, List.set_cons_zero, List.set_cons_succ]
    refine wpAnyH_ready (rs := [4]) (by kernel_rfl) (by simp) ?_
    refine AllReadyH.cons rfl (fun K hK => ?_) AllReadyH.nil
    ((refine step_append_at (by rfl) _ _ _ (by rfl) w1.heap.size 36 i9 _ 3 24 Try.underlying22 hi hi1 hi2 hi3 rfl (by omega) (.slice (some ⟨w1.heap.size, 0, none⟩) 0 0) 0 [] (by rfl) (by first | exact own_drew (own_none w1 _ 3) | exact own_none w1 _ 3 | exact own_none w1.drew _ 3) ⟨b, off, none⟩ k c (fl Pr.cs (l.take k)) (by rfl) (by rw [fl_length Pr.cs_len, List.length_take]; omega) (rd_fl Pr.cs_len (rd_takeA (hR.on (by (repeat' (first | assumption | exact below_refl _ | refine bl_alloc ?_ _ | refine Below.setCell ?_ ?_ _ | refine below_draw ?_ | refine below_drewN ?_ _ | refine below_tr ?_ (by assumption))) <;> (first | omega | (simp; done) | (simp; omega)))) k)) (prC_one _) (by unfold maxLen; omega) (by omega) (by first | (simp; done) | (simp; omega)) ?_); intro v3 w3 hown3 hgrow3; obtain ⟨a3, c3, rfl⟩ := own_slice hown3; have hk3 : Below w1.heap.size w1 w3 := (bl_grown (by (repeat' (first | assumption | exact below_refl _ | refine bl_alloc ?_ _ | refine Below.setCell ?_ ?_ _ | refine below_draw ?_ | refine below_drewN ?_ _ | refine below_tr ?_ (by assumption))) <;> (first | omega | (simp; done) | (simp; omega))) hgrow3 (fun r hr => Nat.le_of_eq (ob_eq hr)) (by first | (simp; done) | (simp; omega))); have hq3 := kq_of hk3)
    refine hK.out _ _ (by ((show Kq w1 _); (repeat' (first | assumption | exact kq_refl | refine kq_draw ?_ | refine kq_drewN ?_ | refine kq_alloc ?_ | refine kq_set ?_ ?_ | refine kq_step ?_ (by assumption))); (all_goals (first | omega | (simp; omega))))) (fun hS2 => ?_)
    clear hK K
    try simp only [Act.put, List.setIfInBounds_toArray, List.set_cons_zero, List.set_cons_succ]
    refine wpAnyH_ready (rs := [9]) (by kernel_rfl) (by simp) ?_
    refine AllReadyH.cons rfl (fun K hK => ?_) AllReadyH.nil
    ((refine step_append_at (by rfl) _ _ _ (by rfl) w1.heap.size 36 i9 _ 3 24 Try.underlying22 hi hi1 hi2 hi3 rfl (by omega) _ _ _ (by rfl) hown3 ⟨b, off + (k + 1) * 3, none⟩ (l.length - (k + 1)) (c - (k + 1)) (fl Pr.cs (l.drop (k + 1))) (by rfl) (by rw [fl_length Pr.cs_len, List.length_drop]) (HDR.out w3 (below_tr B1 hk3)) (prC_one _) (by unfold maxLen; omega) (by omega) hk3.size ?_); intro v4 w4 hown4 hgrow4; obtain ⟨a4, c4, rfl⟩ := own_slice hown4; have hk4 : Below w1.heap.size w1 w4 := (bl_grown hk3 hgrow4 (fun r hr => (own_ge hown3 r hr).1) hk3.size); have hq4 := kq_of hk4)
    refine hK.out _ _ (by ((show Kq w1 _); (repeat' (first | assumption | exact kq_refl | refine kq_draw ?_ | refine kq_drewN ?_ | refine kq_alloc ?_ | refine kq_set ?_ ?_ | refine kq_step ?_ (by assumption))); (all_goals (first | omega | (simp; omega))))) (fun hS3 => ?_)
    clear hK K
    try simp only [Act.put, List.setIfInBounds_toArray, List.set_cons_zero, List.set_cons_succ]
    refine wpAnyH_take (i := 10) (oi := { dst := some 7, op := _, type := _, pos := _, after := _, guard := none }) (v := ?gv16) rfl (by kernel_rfl) (by kernel_rfl) (by kernel_rfl) (fun _ _ _ h => h) (Or.inl ⟨by rfl, ?gy16⟩) (by assumption) ?_
    case gy16 => (intro w' hSw; go_simp; try with_reducible rfl)
    try simp only [Act.put, List.setIfInBounds_toArray, List.set_cons_zero, List.set_cons_succ]
    refine wpAnyH_done (by kernel_rfl) (NoPanic.normal ?_) _
    have hlen : 0 + k + (l.length - (k + 1)) = (lsP l k).length := by rw [lsP_len hk]; omega
    have hfl : ([] ++ fl Pr.cs (l.take k) ++ fl Pr.cs (l.drop (k + 1))) = fl Pr.cs (lsP l k) := by simp [lsP, fl]
    rw [hfl, hlen] at hown4
    have B4 := below_tr B1 hk4
    have x4 := x1.below hk4 x1.lt
    have hR4 := own_rd' Pr.cs_len hown4
    have HS1 := Lib.hid (fun W (hb : Below w.heap.size w W) => p_Stands (some ⟨b, off, none⟩) l c s W (by omega) vP_len (hR.on hb))
    have HS2 := Lib.hid (fun W (hb : Below w4.heap.size w4 W) => p_Stands a4 (lsP l k) c4 s W (by have := lsP_len hk; omega) vP_len (hR4.on hb))
    have HREL : stE l s ≠ 0 ∨ (stE l s = 0 ∧ stE (lsP l k) s = 0 ∧ stD l s = true) ∨ (stE l s = 0 ∧ stE (lsP l k) s = 0 ∧ stD l s = false ∧ stD (lsP l k) s = false) := by
      by_cases h : stE l s = 0
      · right
        have h2 := stE_sub (lsP_sub l k) h
        cases h3 : stD l s
        · right
          refine ⟨h, h2, rfl, ?_⟩
          cases h4 : stD (lsP l k) s
          · rfl
          · rw [stD_sub (lsP_sub l k) h h4] at h3; cases h3
        · left; exact ⟨h, h2, rfl⟩
      · exact .inl h
    have p0 := x4.cell 0
    have p1 := x4.cell 1
    simp only [List.getElem?_toArray, List.getElem?_cons_zero, List.getElem?_cons_succ] at p0 p1
    have lx := x4.lt
    have hlen2 : k + (l.length - (k + 1)) = (lsP l k).length := by rw [lsP_len hk]
    (try rw [hlen])
    (try rw [hlen2])
    generalize lsP l k = m at *
    generalize stE l s = E1 at *
    generalize stD l s = D1 at *
    generalize stE m s = E2 at *
    generalize stD m s = D2 at *
    clear hown4 hgrow4 hown3 hgrow3 hk3 hk4 hq3 hq4 B1 x1 hlen hlen2 hfl HDR hw1 hkt hk10 hk1c
    go_wp2_with fail
    with_reducible refine (HS1.out _ (by (repeat' (first | assumption | exact below_refl _ | refine bl_alloc ?_ _ | refine Below.setCell ?_ ?_ _ | refine below_draw ?_ | refine below_drewN ?_ _ | refine below_tr ?_ (by assumption))) <;> (first | omega | (simp; done) | (simp; omega)))).mono ?_
    rintro e w5 ⟨rfl, hb5⟩
    have B5 : Below w4.heap.size w4 w5 := by (repeat' (first | assumption | exact below_refl _ | refine bl_alloc ?_ _ | refine Below.setCell ?_ ?_ _ | refine below_draw ?_ | refine below_drewN ?_ _ | refine below_tr ?_ (by assumption))) <;> (first | omega | (simp; done) | (simp; omega))
    have x5 := x4.below B5 x4.lt
    have q0 := x5.cell 0
    have q1 := x5.cell 1
    simp only [List.getElem?_toArray, List.getElem?_cons_zero, List.getElem?_cons_succ] at q0 q1
    go_wp2_with fail
    with_reducible refine (HS2.out _ B5).mono ?_
    rintro e w6 ⟨rfl, hb6⟩
    have B6 := below_tr (below_tr B4 B5) hb6
    clear p0 p1 q0 q1 x4 x5 lx HS1 HS2
    rcases HREL with h | ⟨rfl, rfl, rfl⟩ | ⟨rfl, rfl, rfl, rfl⟩
    · have t1 : (E1 == 0) = false := by simpa using h
      go_wp2
      all_goals go_ret
      all_goals exact ⟨by first | rfl | simp [t1] | simp [h], B6⟩
    · go_wp2
      go_ret
      exact ⟨rfl, B6⟩
    · go_wp2
      go_ret
      exact ⟨rfl, B6⟩
end Go.Proofs.Ytkeojokbpjdhpaa
