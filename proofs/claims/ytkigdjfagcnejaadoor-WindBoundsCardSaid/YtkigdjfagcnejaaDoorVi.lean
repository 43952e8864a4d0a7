/- Wind: Kept by the program. -/
import Derived.Test.YtkigdjfagcnejaaDoorVh
set_option linter.unusedSimpArgs false
set_option linter.unusedVariables false
namespace Go.Proofs.YtkigdjfagcnejaaDoor
open Go.RowKit

theorem c_indexCa (A : Option Addr) (l : List (Ca)) (c : Nat) (p : Ca → Bool) (f : FuncId) (cap : Array Value) (w : World) (hl : l.length ≤ 100000) (hR : Rd Ca.cs 4 w A l)
    (he : ∀ args W, (callFunc f args).run Tryd.prog W = .ok (.enter f args) W)
    (hf : ∀ W x, Below w.heap.size w W → x ∈ l → Calls Tryd.prog f (#[caV x] ++ cap) W fun e W' => e = .returned (.bool (p x)) ∧ Below W.heap.size W W') :
    Calls Tryd.prog 57 #[.slice A l.length c, .func (.func f) #[] cap] w fun e w' => e = .returned (.int .i64 (idxOf p l 0)) ∧ Below w.heap.size w w' := by
  have HF := Lib.hid hf
  clear hf
  go_enter Tryd.func57, Tryd.ntmps57
  go_wp2
  go_loopw [8] (fun i wr => ∃ k : Nat, k ≤ l.length ∧ i = .int .i64 k ∧ Below w.heap.size w wr ∧ Hid (idxOf p l 0 = idxOf p (l.drop k) k)) (fun i _ => l.length - (intOf i).toNat)
  case atStart => exact ⟨0, by omega, rfl, Below.refl _ _, rfl⟩
  case round =>
    obtain ⟨k, hk, rfl, hB, HI⟩ := hrel
    by_cases hlt : k < l.length
    · obtain ⟨x, b, off, hx, rfl, hb, c0, c1, c2, c3⟩ := rdCa (hR.on hB) hlt
      have HD := Lib.hid (idxOf_drop p l k x hx)
      have hm := List.mem_of_getElem? hx
      have HC := Lib.hid (HF.out wr x hB hm)
      clear hx hm
      cases hp : p x
      all_goals
        have HP := Lib.hid hp
        clear hp
        go_wp2_with fail
        refine HC.out.mono ?_
        rintro e w1 ⟨rfl, hb1⟩
        rw [HP.out]
        go_wp2
      · go_roundw
        case rel => exact ⟨k + 1, by omega, by go_num, hB.trans (hb1.mono hB.size), by rw [HI.out, HD.out, HP.out]; rfl⟩
        case measure => simp [intOf]; omega
      · go_ret
        exact ⟨ret_int (by rw [HI.out, HD.out, HP.out]; rfl), hB.trans (hb1.mono hB.size)⟩
    · go_wp2
      go_ret
      exact ⟨ret_int (by rw [HI.out, List.drop_of_length_le (by omega)]; rfl), hB⟩


theorem ca_sorted {c : List Ca} (h : vCa c = true) : ∀ (b a : Nat), a < b → b < c.length → (caAt c a).t ≤ (caAt c b).f
  | 0, a, hab, _ => by omega
  | b + 1, a, hab, hb => by
    have h1 := okC_iff.1 ((vca h).2 (b + 1) hb)
    have h2 : (caAt c b).t ≤ (caAt c (b + 1)).f := by have := h1.2.2.2.2.2; simpa using this
    by_cases hab2 : a = b
    · subst hab2; exact h2
    · have h3 := ca_sorted h b a (by omega) (by omega)
      have h4 := okC_iff.1 ((vca h).2 b (by omega))
      omega
theorem idx_none {α : Type} {p : α → Bool} {l : List α} (h : ∀ x ∈ l, p x = false) : ∀ k, idxOf p l k = -1 := by
  induction l with
  | nil => intro k; rfl
  | cons x l ih =>
    intro k
    unfold idxOf
    rw [if_neg (by rw [h x (List.mem_cons_self ..)]; simp)]
    exact ih (fun y hy => h y (List.mem_cons_of_mem _ hy)) (k + 1)
theorem idx_at {α : Type} {p : α → Bool} : ∀ (l : List α) (i k : Nat) (x : α), l[i]? = some x → p x = true → (∀ (j : Nat) (y : α), j < i → l[j]? = some y → p y = false) → idxOf p l k = ((k + i : Nat) : Int)
  | [], i, k, x, hx, _, _ => by simp at hx
  | z :: l, 0, k, x, hx, hp, _ => by cases hx; unfold idxOf; rw [if_pos hp]; simp
  | z :: l, i + 1, k, x, hx, hp, h => by
    unfold idxOf
    rw [if_neg (by rw [h 0 z (by omega) rfl]; simp), idx_at l i (k + 1) x hx hp (fun j y hj hy => h (j + 1) y (by omega) hy)]
    congr 1; omega
def inC (t : Int) (x : Ca) : Bool := wn t x.f (x.t - 1)
theorem ix_some {c : List Ca} (h : vCa c = true) {t : Int} {x : Ca} (hc : ctO c t = some x) : idxOf (inC t) c 0 = (kF c t : Nat) ∧ c[kF c t]? = some x := by
  unfold ctO at hc
  split at hc
  · rename_i y hy
    split at hc
    · rename_i hf
      cases hc
      refine ⟨?_, hy⟩
      have := idx_at (p := inC t) c (kF c t) 0 x hy (wn_iff.2 ⟨hf, by have := kF_at hy; omega⟩) (fun j z hj hz => by
        have := kF_lt hj hz
        unfold inC
        cases hw : wn t z.f (z.t - 1) with
        | false => rfl
        | true => have := wn_iff.1 hw; omega)
      simpa using this
    · cases hc
  · cases hc
theorem ix_none {c : List Ca} (h : vCa c = true) {t : Int} (hc : ctO c t = none) : idxOf (inC t) c 0 = -1 := by
  refine idx_none (fun z hz => ?_) 0
  unfold inC
  cases hw : wn t z.f (z.t - 1) with
  | false => rfl
  | true =>
    exfalso
    obtain ⟨w1, w2⟩ := wn_iff.1 hw
    obtain ⟨i, hi⟩ := List.getElem?_of_mem hz
    have hil := (List.getElem?_eq_some_iff.1 hi).1
    have hk : kF c t ≤ i := by
      rcases Nat.lt_or_ge i (kF c t) with h1 | h1
      · have := kF_lt h1 hi; omega
      · exact h1
    obtain ⟨y, hy⟩ := get_lt (show kF c t < c.length by omega)
    unfold ctO at hc
    rw [hy] at hc
    have hkt := kF_at hy
    have hf : y.f ≤ t := by
      rcases Nat.eq_or_lt_of_le hk with e | h1
      · rw [e, hi] at hy; cases hy; exact w1
      · have := ca_sorted h i (kF c t) h1 hil
        rw [caAt_of hy, caAt_of hi] at this
        omega
    simp [hf] at hc
/-- whether a forecast has not kept a reading -/
def kpP (c : List Ca) (l : List Int) (t : Nat) : Bool := match ctO c (t : Int) with | some x => decide (l.getD t 0 ≠ -1) && !wn (l.getD t 0) x.lo x.hi | none => false
def kpE (c : List Ca) (l : List Int) : Int := if (vCa c && vGu l) = true then 0 else 1
def kpZ (c : List Ca) (l : List Int) : List Int := if kpE c l = 0 then fZ (kpP c l) l.length else []
theorem p_Kept1 (x : Ca) (t : Int) (b : Nat) (w : World) (hx : -1000000 ≤ x.t ∧ x.t ≤ 1000000) (hb : b < w.heap.size) (hc : w.cell? ⟨b, 0, none⟩ = some (.int .i64 t)) :
    Calls Tryd.prog 58 #[caV x, .pointer (some ⟨b, 0, none⟩)] w fun e w' => e = .returned (.bool (inC t x)) ∧ Below w.heap.size w w' := by
  obtain ⟨h1, h2⟩ := hx
  go_enter Tryd.func58, Tryd.ntmps58
  go_wp2_with (go_at_call 55; ((with_reducible refine (p_within _ _ _ _).mono ?_); rintro e w' ⟨rfl, rfl⟩))
  go_ret
  exact ⟨rfl, by (repeat' (first | assumption | exact below_refl _ | refine bl_alloc ?_ _ | refine Below.setCell ?_ ?_ _ | refine below_draw ?_ | refine below_drewN ?_ _ | refine below_tr ?_ (by assumption))) <;> (first | omega | (simp; done) | (simp; omega))⟩
set_option maxHeartbeats 4000000 in
set_option maxRecDepth 20000 in
theorem p_Kept (A B : Option Addr) (cs : List Ca) (l : List Int) (c d : Nat) (w : World) (hcl : cs.length ≤ 100000) (hl : l.length ≤ 100000) (hR : Rd Ca.cs 4 w A cs) (hS : Rd zC 1 w B l) :
    Calls Tryd.prog 16 #[.slice A cs.length c, .slice B l.length d] w fun e w' => ∃ v, e = .returned (.tuple #[v, .int .i64 (kpE cs l)]) ∧ GotW w' v (kpZ cs l) ∧ Below w.heap.size w w' := by
  have H1 := Lib.hid (fun b (h : vCa cs = b) => p_ValidCastsV (c := c) h hcl hR)
  have H2 := Lib.hid (fun b (h : vGu l = b) W (hb : Below w.heap.size w W) => p_ValidGustsV (c := d) h hl (hS.on hb))
  cases h1 : vCa cs
  · have HE := Lib.hid (show kpE cs l = 1 by unfold kpE; rw [h1]; rfl)
    have HZ := Lib.hid (show kpZ cs l = [] by unfold kpZ; rw [HE.out]; rfl)
    go_enter Tryd.func16, Tryd.ntmps16
    go_wp2_with (go_at_call 21; ((with_reducible refine (H1.out _ h1).mono ?_); rintro e w1 ⟨rfl, hb1⟩; obtain ⟨hc1, hf1⟩ := bcell hb1; have hz1 := hb1.size; (try simp [sz_drew, sz_drewN] at hz1); (try simp only [sz_drew, sz_drewN] at hc1 hf1)))
    go_ret2
    exact ⟨_, by rw [HE.out]; rfl, by rw [HZ.out]; exact gotW_nil _, hb1⟩
  cases h2 : vGu l
  · have HE := Lib.hid (show kpE cs l = 1 by unfold kpE; rw [h1, h2]; rfl)
    have HZ := Lib.hid (show kpZ cs l = [] by unfold kpZ; rw [HE.out]; rfl)
    go_enter Tryd.func16, Tryd.ntmps16
    go_wp2_with (first | (go_at_call 21; ((with_reducible refine (H1.out _ h1).mono ?_); rintro e w1 ⟨rfl, hb1⟩; obtain ⟨hc1, hf1⟩ := bcell hb1; have hz1 := hb1.size; (try simp [sz_drew, sz_drewN] at hz1); (try simp only [sz_drew, sz_drewN] at hc1 hf1))) | (go_at_call 29; ((with_reducible refine (H2.out _ h2 _ hb1).mono ?_); rintro e w2 ⟨rfl, hb2⟩; obtain ⟨hc2, hf2⟩ := bcell hb2; have hz2 := hb2.size; (try simp [sz_drew, sz_drewN] at hz2); (try simp only [sz_drew, sz_drewN] at hc2 hf2))))
    go_ret2
    exact ⟨_, by rw [HE.out]; rfl, by rw [HZ.out]; exact gotW_nil _, below_tr hb1 hb2⟩
  have HE := Lib.hid (show kpE cs l = 0 by unfold kpE; rw [h1, h2]; rfl)
  have HZ := Lib.hid (show kpZ cs l = fZ (kpP cs l) l.length by unfold kpZ; rw [if_pos HE.out])
  have HN := Lib.hid (fun k h => fN_no (p := kpP cs l) (k := k) h)
  have HY := Lib.hid (fun k h => fN_yes (p := kpP cs l) (k := k) h)
  have HLn := Lib.hid (fun k => fN_len (kpP cs l) k)
  have HIS := Lib.hid (fun t x h => ix_some h1 (t := t) (x := x) h)
  have HIN := Lib.hid (fun t h => ix_none h1 (t := t) h)
  have HGU := Lib.hid (vgu h2).2
  have HBX := Lib.hid (show ∀ x ∈ cs, -1000000 ≤ x.t ∧ x.t ≤ 1000000 from fun x hx => by
    obtain ⟨i, hi⟩ := List.getElem?_of_mem hx
    have := okC_iff.1 ((vca h1).2 i (List.getElem?_eq_some_iff.1 hi).1)
    rw [caAt_of hi] at this
    omega)
  obtain ⟨i0, hi, hi1, hi2, hi3⟩ := info_int2
  go_enter Tryd.func16, Tryd.ntmps16
  go_wp2_with (first | (go_at_call 21; ((with_reducible refine (H1.out _ h1).mono ?_); rintro e w1 ⟨rfl, hb1⟩; obtain ⟨hc1, hf1⟩ := bcell hb1; have hz1 := hb1.size; (try simp [sz_drew, sz_drewN] at hz1); (try simp only [sz_drew, sz_drewN] at hc1 hf1))) | ((go_at_call 29; ((with_reducible refine (H2.out _ h2 _ hb1).mono ?_); rintro e w2 ⟨rfl, hb2⟩; obtain ⟨hc2, hf2⟩ := bcell hb2; have hz2 := hb2.size; (try simp [sz_drew, sz_drewN] at hz2); (try simp only [sz_drew, sz_drewN] at hc2 hf2))); have B2 := below_tr hb1 hb2))
  have B2s := B2.size
  go_loopw [6, 20] (fun v i wr => ∃ k : Nat, k ≤ l.length ∧ i = .int .i64 k ∧ Below w.heap.size w wr ∧ Below w2.heap.size w2 wr ∧ wr.ownsRow w2.heap.size 3 1 v (fN (kpP cs l) k).length (fl nC (fN (kpP cs l) k))) (fun _ i _ => l.length - (intOf i).toNat)
  case atStart => exact ⟨0, by omega, rfl, B2, below_refl _, World.ownsRow_nil w2 _ _ _⟩
  case round =>
    clear hb1 hb2 hc1 hf1 hz1 hc2 hf2 hz2 B2
    obtain ⟨k, hk, rfl, hbw, hbv, hown⟩ := hrel
    obtain ⟨ad, cp, rfl⟩ := own_slice hown
    have hlen := HLn.out k
    have hbvs := hbv.size
    by_cases hlt : k < l.length
    · have k0 : (0 : Int) ≤ (k : Int) := Int.natCast_nonneg _
      have k1 : (k : Int) < (l.length : Int) := by omega
      obtain ⟨g, gb, go, hg, rfl, hgb, c0⟩ := rd_int (hS.on hbw) hlt
      obtain ⟨g0, g1⟩ := HGU.out k g hg
      have hgd : l.getD k 0 = g := getD_of hg
      have x0 := Blk.new wr 3 #[.int .i64 (k : Nat)]
      have bA := bl_alloc hbw (.cells #[.int .i64 (k : Nat)] 3)
      have vA := bl_alloc hbv (.cells #[.int .i64 (k : Nat)] 3)
      have oA := own_on hown (below_alloc wr (.cells #[.int .i64 (k : Nat)] 3))
      have HC := Lib.hid (c_indexCa A cs c (inC (k : Int)) 58 #[.pointer (some ⟨wr.heap.size, 0, none⟩)] (wr.alloc (.cells #[.int .i64 (k : Nat)] 3)) hcl (hR.on bA) (enters_of Tryd.func58 (by kernel_rfl) rfl) (fun V x hV hx => p_Kept1 x (k : Int) wr.heap.size V (HBX.out x hx) (x0.below hV x0.lt).lt ((x0.below hV x0.lt).cell 0)))
      clear hg
      cases hct : ctO cs (k : Int) with
      | none =>
        have hp : kpP cs l k = false := by unfold kpP; rw [hct]
        have HST := Lib.hid (HN.out k hp)
        rw [HIN.out _ hct] at HC
        clear hp hct
        go_wp2_with fail
        refine HC.out.mono ?_
        rintro e w3 ⟨rfl, hb3⟩
        go_wp2
        go_quiet (fail)
        go_wp2
        go_roundw
        case rel => exact ⟨k + 1, by omega, by go_num, below_drewN (below_tr bA hb3) _, below_drewN (below_tr vA hb3) _, by rw [HST.out]; exact own_on (own_on oA hb3) (below_drewN (below_refl _) _)⟩
        case measure => simp [intOf]; omega
      | some x =>
        obtain ⟨hix, hxx⟩ := HIS.out _ _ hct
        have hp : kpP cs l k = (decide (g ≠ -1) && !wn g x.lo x.hi) := by unfold kpP; rw [hct, hgd]
        rw [hix] at HC
        obtain ⟨x', cb, co, hx', hA', hcb, _⟩ := rdCa hR (List.getElem?_eq_some_iff.1 hxx).1
        have HCC := Lib.hid (fun W (h : Below w.heap.size w W) => show W.cell? ⟨cb, co + kF cs (k : Int) * 4 + 2, none⟩ = some (.int .i64 x.lo) ∧ W.cell? ⟨cb, co + kF cs (k : Int) * 4 + 3, none⟩ = some (.int .i64 x.hi) by
          obtain ⟨x2, cb2, co2, hx2, hA2, _, _, _, e2, e3⟩ := rdCa (hR.on h) (List.getElem?_eq_some_iff.1 hxx).1
          rw [hA'] at hA2; cases hA2
          rw [hxx] at hx2; cases hx2
          exact ⟨e2, e3⟩)
        have j1 : ((kF cs (k : Int) : Nat) : Int) < (cs.length : Int) := by have := (List.getElem?_eq_some_iff.1 hxx).1; omega
        subst hA'
        generalize kF cs (k : Int) = j at *
        have j0 : (0 : Int) ≤ (j : Int) := Int.natCast_nonneg _
        clear hct hix hxx hx'
        by_cases hg1 : g = -1
        · have HST := Lib.hid (HN.out k (by rw [hp, decide_eq_false (by omega)]; rfl))
          clear hp
          go_wp2_with fail
          refine HC.out.mono ?_
          rintro e w3 ⟨rfl, hb3⟩
          obtain ⟨e2, e3⟩ := HCC.out _ (below_tr bA hb3)
          go_wp2
          go_quiet (fail)
          go_wp2
          go_roundw
          case rel => exact ⟨k + 1, by omega, by go_num, below_drewN (below_tr bA hb3) _, below_drewN (below_tr vA hb3) _, by rw [HST.out]; exact own_on (own_on oA hb3) (below_drewN (below_refl _) _)⟩
          case measure => simp [intOf]; omega
        · cases hw : wn g x.lo x.hi
          · have HST := Lib.hid (HY.out k (by rw [hp, decide_eq_true hg1, hw]; rfl))
            clear hp
            go_wp2_with fail
            refine HC.out.mono ?_
            rintro e w3 ⟨rfl, hb3⟩
            obtain ⟨e2, e3⟩ := HCC.out _ (below_tr bA hb3)
            have e4 : w3.cell? ⟨wr.heap.size, 0, none⟩ = some (.int .i64 (k : Nat)) := (x0.below hb3 x0.lt).cell 0
            go_wp2
            go_quiet ((go_at_call 55; with_reducible exact quiet_left (p_withinV hw _)))
            have b3 := below_drewN (below_tr bA hb3) nq
            have v3 := below_drewN (below_tr vA hb3) nq
            have o3 := own_on (own_on oA hb3) (below_drewN (below_refl _) nq)
            have e5 : (w3.drewN nq).cell? ⟨wr.heap.size, 0, none⟩ = some (.int .i64 (k : Nat)) := e4
            generalize w3.drewN nq = W3 at *
            go_wp2_with (at_builtin; refine wpList_append_own _ rfl _ _ 24 rfl w2.heap.size 3 i0 (.int .i64 0) 1 8 (by kernel_rfl) hi hi1 hi2 hi3 rfl (by omega) _ _ _ rfl (o3.alloc _) ⟨W3.heap.size, 0, none⟩ 1 1 [.int .i64 k] rfl rfl (cells_new W3 [.int .i64 k] 3) (fun u hu => by simp at hu; subst hu; rfl) (by unfold maxLen; omega) (by omega) (by simp; have := v3.size; omega) ?_; intro v' w9 hown9 hgrow _)
            go_roundw
            case rel => exact ⟨k + 1, by omega, by go_num, bl_app b3 o3 hgrow B2s b3.size, bl_app v3 o3 hgrow (Nat.le_refl _) v3.size, by rw [HST.out, fl_snoc, List.length_append]; exact hown9⟩
            case measure => simp [intOf]; omega
          · have HST := Lib.hid (HN.out k (by rw [hp, hw]; simp))
            clear hp
            go_wp2_with fail
            refine HC.out.mono ?_
            rintro e w3 ⟨rfl, hb3⟩
            obtain ⟨e2, e3⟩ := HCC.out _ (below_tr bA hb3)
            go_wp2
            go_quiet ((go_at_call 55; with_reducible exact quiet_left (p_withinV hw _)))
            go_wp2
            go_roundw
            case rel => exact ⟨k + 1, by omega, by go_num, below_drewN (below_tr bA hb3) _, below_drewN (below_tr vA hb3) _, by rw [HST.out]; exact own_on (own_on oA hb3) (below_drewN (below_refl _) _)⟩
            case measure => simp [intOf]; omega
    · obtain rfl : k = l.length := by omega
      have hown2 := own_base hown B2s
      go_wp2
      go_ret2
      exact ⟨_, by rw [HE.out]; rfl, by rw [HZ.out]; exact got_fN hown2, hbw⟩
end Go.Proofs.YtkigdjfagcnejaaDoor
