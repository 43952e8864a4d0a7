/- Gear: loaded by both; borne by the reference. -/
import Derived.Test.YtijlglanpgcdiaaGo
import Derived.Laws.OwnMore
set_option linter.unusedSimpArgs false
set_option linter.unusedVariables false
namespace Go.Proofs.Ytijlglanpgcdiaa
open Go.RowKit Go.Maps

theorem c_indexZ (A : Option Addr) (l : List (Int)) (c : Nat) (p : Int → Bool) (f : FuncId) (cap : Array Value) (w : World) (hl : l.length ≤ 100000) (hR : Rd zC 1 w A l)
    (he : ∀ args W, (callFunc f args).run Try.prog W = .ok (.enter f args) W)
    (hf : ∀ W x, Below w.heap.size w W → x ∈ l → Calls Try.prog f (#[.int .i64 x] ++ cap) W fun e W' => e = .returned (.bool (p x)) ∧ Below W.heap.size W W') :
    Calls Try.prog 93 #[.slice A l.length c, .func (.func f) #[] cap] w fun e w' => e = .returned (.int .i64 (idxOf p l 0)) ∧ Below w.heap.size w w' := by
  have HF := Lib.hid hf
  clear hf
  go_enter Try.func93, Try.ntmps93
  go_wp2
  go_loopw [8] (fun i wr => ∃ k : Nat, k ≤ l.length ∧ i = .int .i64 k ∧ Below w.heap.size w wr ∧ Hid (idxOf p l 0 = idxOf p (l.drop k) k)) (fun i _ => l.length - (intOf i).toNat)
  case atStart => exact ⟨0, by omega, rfl, Below.refl _ _, rfl⟩
  case round =>
    obtain ⟨k, hk, rfl, hB, HI⟩ := hrel
    by_cases hlt : k < l.length
    · obtain ⟨x, b, off, hx, rfl, hb, c0⟩ := rd_int (hR.on hB) hlt
      have HD := Lib.hid (idxOf_drop p l k x hx)
      have hm := List.mem_of_getElem? hx
      have HC := Lib.hid (HF.out wr x hB hm)
      clear hx hm
      cases hp : p x
      all_goals
        have HP := Lib.hid hp
        clear hp
        go_wp2_with fail
        refine HC.out.mono ?_
        rintro e w1 ⟨rfl, hb1⟩
        rw [HP.out]
        go_wp2
      · go_roundw
        case rel => exact ⟨k + 1, by omega, by go_num, hB.trans (hb1.mono hB.size), by rw [HI.out, HD.out, HP.out]; rfl⟩
        case measure => simp [intOf]; omega
      · go_ret
        exact ⟨ret_int (by rw [HI.out, HD.out, HP.out]; rfl), hB.trans (hb1.mono hB.size)⟩
    · go_wp2
      go_ret
      exact ⟨ret_int (by rw [HI.out, List.drop_of_length_le (by omega)]; rfl), hB⟩

theorem c_containsZ (A : Option Addr) (l : List (Int)) (c : Nat) (p : Int → Bool) (f : FuncId) (cap : Array Value) (w : World) (hl : l.length ≤ 100000) (hR : Rd zC 1 w A l)
    (he : ∀ args W, (callFunc f args).run Try.prog W = .ok (.enter f args) W)
    (hf : ∀ W x, Below w.heap.size w W → x ∈ l → Calls Try.prog f (#[.int .i64 x] ++ cap) W fun e W' => e = .returned (.bool (p x)) ∧ Below W.heap.size W W') :
    Calls Try.prog 85 #[.slice A l.length c, .func (.func f) #[] cap] w fun e w' => e = .returned (.bool (l.any p)) ∧ Below w.heap.size w w' := by
  have HC := Lib.hid (c_indexZ A l c p f cap w hl hR he hf)
  have HA := Lib.hid (idxOf_nonneg p l 0)
  clear he hf hR
  go_enter Try.func85, Try.ntmps85
  go_wp2_with (go_at_call 93; refine HC.out.mono ?_; rintro e w' ⟨rfl, hb⟩)
  go_ret
  exact ⟨ret_bool (by rw [Bool.eq_iff_iff, ← HA.out]; simp), hb⟩

def okZ (n : Int) : Bool := wn n 0 1000000
def ldE (r : List Lk) (L : List Int) : Int := if L.length = (endN r r.length).length then (if L.all okZ = true then 0 else 7) else 9
theorem endZ_len2 (r : List Lk) : (endZ r).length = (endN r r.length).length := by unfold endZ; rw [List.length_map]
theorem p_loaded1 (n : Int) (w : World) : Calls Try.prog 86 #[.int .i64 n] w fun e w' => e = .returned (.bool (!okZ n)) ∧ Below w.heap.size w w' := by
  go_enter Try.func86, Try.ntmps86
  go_wp2_with (go_at_call 54; ((with_reducible refine (p_within n 0 1000000 _).mono ?_); rintro e w' ⟨rfl, rfl⟩))
  go_ret
  exact ⟨rfl, below_refl _⟩
theorem any_nok (L : List Int) : (L.any fun x => !okZ x) = !L.all okZ := by induction L <;> simp_all
set_option maxHeartbeats 1000000 in
set_option maxRecDepth 20000 in
theorem p_loaded (B C : Option Addr) (r : List Lk) (L : List Int) (d f : Nat) (w : World) (hn : r.length ≤ 100000) (hl : L.length ≤ 100000) (hS : Rd Lk.cs 2 w B r) (hL : Rd zC 1 w C L) :
    Calls Try.prog 65 #[.slice B r.length d, .slice C L.length f] w fun e w' => e = .returned (.int .i64 (ldE r L)) ∧ Below w.heap.size w w' := by
  have H1 := Lib.hid (p_endsZ B r d w hn hS)
  have H2 := Lib.hid (fun W (h : Below w.heap.size w W) => c_containsZ C L f (fun x => !okZ x) 86 #[] W hl (hL.on h) (fun _ _ => rfl) (fun V x _ _ => p_loaded1 x V))
  rw [any_nok] at H2
  have HEL := Lib.hid (endZ_len2 r)
  by_cases h1 : L.length = (endN r r.length).length
  rotate_left
  · have HE := Lib.hid (show ldE r L = 9 by unfold ldE; rw [if_neg h1])
    have h2 : ((L.length : Int) != ((endZ r).length : Int)) = true := by rw [HEL.out]; simp; omega
    generalize endZ r = E at *
    clear h1 hS hL
    go_enter Try.func65, Try.ntmps65
    go_wp2_with (go_at_call 60; ((with_reducible refine (H1.out).mono ?_); rintro e w1 ⟨v, rfl, hv, hb1⟩; obtain ⟨A1, c1, rfl, _⟩ := own_ints hv))
    go_ret
    exact ⟨ret_int (by rw [HE.out]), hb1⟩
  · have h2 : ((L.length : Int) != ((endZ r).length : Int)) = false := by rw [HEL.out]; simp; omega
    have HE := Lib.hid (show ldE r L = if L.all okZ = true then 0 else 7 by unfold ldE; rw [if_pos h1])
    generalize endZ r = E at *
    clear h1 hS hL
    cases h3 : L.all okZ <;> rw [h3] at H2 HE
    · go_enter Try.func65, Try.ntmps65
      go_wp2_with (first
        | (go_at_call 60; ((with_reducible refine (H1.out).mono ?_); rintro e w1 ⟨v, rfl, hv, hb1⟩; obtain ⟨A1, c1, rfl, _⟩ := own_ints hv))
        | (go_at_call 85; refine (H2.out _ hb1).mono ?_; rintro e w2 ⟨rfl, hb2⟩))
      go_ret
      exact ⟨ret_int (by rw [HE.out]; rfl), below_tr hb1 hb2⟩
    · go_enter Try.func65, Try.ntmps65
      go_wp2_with (first
        | (go_at_call 60; ((with_reducible refine (H1.out).mono ?_); rintro e w1 ⟨v, rfl, hv, hb1⟩; obtain ⟨A1, c1, rfl, _⟩ := own_ints hv))
        | (go_at_call 85; refine (H2.out _ hb1).mono ?_; rintro e w2 ⟨rfl, hb2⟩))
      go_ret
      exact ⟨ret_int (by rw [HE.out]; rfl), below_tr hb1 hb2⟩
set_option maxHeartbeats 1000000 in
set_option maxRecDepth 20000 in
theorem r_loaded (B C : Option Addr) (r : List Lk) (L : List Int) (d f : Nat) (w : World) (hn : r.length ≤ 100000) (hl : L.length ≤ 100000) (hS : Rd Lk.cs 2 w B r) (hL : Rd zC 1 w C L) :
    Calls Try.prog 67 #[.slice B r.length d, .slice C L.length f] w fun e w' => e = .returned (.int .i64 (ldE r L)) ∧ Below w.heap.size w w' := by
  have H1 := Lib.hid (r_endsZ B r d w hn hS)
  have HEL := Lib.hid (endZ_len2 r)
  by_cases h1 : L.length = (endN r r.length).length
  rotate_left
  · have HE := Lib.hid (show ldE r L = 9 by unfold ldE; rw [if_neg h1])
    have h2 : ((L.length : Int) != ((endZ r).length : Int)) = true := by rw [HEL.out]; simp; omega
    generalize endZ r = E at *
    clear h1 hS hL
    go_enter Try.func67, Try.ntmps67
    go_wp2_with (go_at_call 61; ((with_reducible refine (H1.out).mono ?_); rintro e w1 ⟨v, rfl, hv, hb1⟩; obtain ⟨A1, c1, rfl, _⟩ := own_ints hv))
    go_ret
    exact ⟨ret_int (by rw [HE.out]), hb1⟩
  · have h2 : ((L.length : Int) != ((endZ r).length : Int)) = false := by rw [HEL.out]; simp; omega
    have HE := Lib.hid (show ldE r L = if L.all okZ = true then 0 else 7 by unfold ldE; rw [if_pos h1])
    generalize endZ r = E at *
    clear h1 hS
    go_enter Try.func67, Try.ntmps67
    go_wp2_with (go_at_call 61; ((with_reducible refine (H1.out).mono ?_); rintro e w1 ⟨v, rfl, hv, hb1⟩; obtain ⟨A1, c1, rfl, _⟩ := own_ints hv))
    have hL1 := hL.on hb1
    go_loop [5] (fun i => ∃ k : Nat, k ≤ L.length ∧ i = .int .i64 k ∧ Hid ((L.take k).all okZ = true)) (fun i => L.length - (intOf i).toNat)
    case atStart => exact ⟨0, by omega, rfl, Lib.hid rfl⟩
    case round =>
      obtain ⟨k, hk, rfl, HI⟩ := hrel
      have k0 : (0 : Int) ≤ (k : Int) := Int.natCast_nonneg _
      by_cases hlt : k < L.length
      · have k1 : (k : Int) < (L.length : Int) := by omega
        obtain ⟨x, b, off, hx, rfl, hb, c0⟩ := rd_int hL1 hlt
        have HX := Lib.hid hx
        clear hx
        cases ho : wn x 0 1000000
        · have Q := Lib.hid (r_withinV ho)
          have HA := Lib.hid (show L.all okZ = false by rw [List.all_eq_false]; exact ⟨x, List.mem_of_getElem? HX.out, by unfold okZ; rw [ho]; simp⟩)
          clear ho
          go_wp2_with (go_at_call 57; ((with_reducible refine (Q.out _).mono ?_); rintro e w' ⟨rfl, rfl⟩))
          go_ret
          exact ⟨ret_int (by rw [HE.out, HA.out]; rfl), hb1⟩
        · have Q := Lib.hid (r_withinV ho)
          have HA := Lib.hid (show (L.take (k + 1)).all okZ = true by rw [List.take_add_one, HX.out, List.all_append, HI.out]; simp [okZ, ho])
          clear ho
          go_wp2_with (go_at_call 57; ((with_reducible refine (Q.out _).mono ?_); rintro e w' ⟨rfl, rfl⟩))
          go_round
          case rel => exact ⟨k + 1, by omega, by go_num, HA⟩
          case measure => simp [intOf]; omega
      · obtain rfl : k = L.length := by omega
        have HA := Lib.hid (show L.all okZ = true by have := HI.out; rwa [List.take_length] at this)
        go_wp2
        go_ret
        exact ⟨ret_int (by rw [HE.out, HA.out]; rfl), hb1⟩
/-- what has been laid on by the first k ends -/
def boS (r : List Lk) (L : List Int) (E : List Nat) : Nat → List Int
  | 0 => List.replicate r.length 0
  | k + 1 => subC (boS r L E k) (-(L.getD k 0)) (chn r ((E.getD k 0 : Nat) : Int))
def boZ (r : List Lk) (L : List Int) : List Int := boS r L (endN r r.length) (endN r r.length).length
/-- numbers from 0 to m -/
def Bm (m : Int) (l : List Int) : Prop := ∀ (i : Nat) (x : Int), l[i]? = some x → 0 ≤ x ∧ x ≤ m
theorem made_ints (n : Nat) : (madeCells (Value.int .i64 0).cells (n * 1)).toList = fl zC (List.replicate n 0) := by
  have : (Value.int .i64 0).cells = #[.int .i64 0] := rfl
  rw [this, Nat.mul_one, toList_madeCells_one]
  induction n with
  | zero => rfl
  | succ n ih => rw [List.replicate_succ, ih, List.replicate_succ]; rfl
theorem addC_bd {g : List It} {r : List Lk} (hv : VR g r) {N P : Int} (hN : 0 ≤ N) : ∀ (f : Nat) (j : Int) (M : List Int), j < r.length → (j + 1).toNat ≤ f → M.length = r.length → Bm (P + N) M → (∀ i ∈ chn r j, M.getD i 0 ≤ P) → Bm (P + N) (subC M (-N) (chn r j)) ∧ (subC M (-N) (chn r j)).length = r.length
  | 0, j, M, hj, hf, hl, hb, hn => by rw [chn_neg (by omega)]; exact ⟨hb, hl⟩
  | f + 1, j, M, hj, hf, hl, hb, hn => by
    by_cases hneg : j < 0
    · rw [chn_neg hneg]; exact ⟨hb, hl⟩
    · obtain ⟨m, rfl⟩ := Int.eq_ofNat_of_zero_le (show 0 ≤ j by omega)
      obtain ⟨z, hz⟩ := get_lt (show m < r.length by omega)
      obtain ⟨t, ht⟩ := get_lt (show m < M.length by omega)
      have hfz := hv.frs hz
      rw [chn_step hv hz] at hn ⊢
      have hmt := hn m (List.mem_cons_self ..)
      rw [getD_of ht] at hmt
      have h0 := hb m t ht
      have e : subC M (-N) (m :: chn r z.fr) = subC (M.set m (t + N)) (-N) (chn r z.fr) := by unfold subC; rw [List.foldl_cons, getD_of ht, Int.sub_neg]
      rw [e]
      refine addC_bd hv hN f z.fr _ (by omega) (by omega) (by rw [List.length_set]; exact hl) ?_ ?_
      · intro i x hx
        by_cases hi : m = i
        · subst hi
          rw [List.getElem?_set_self (List.getElem?_eq_some_iff.1 ht).1] at hx
          cases hx; omega
        · rw [List.getElem?_set_ne hi] at hx
          exact hb i x hx
      · intro i hi
        have hlt2 := chn_lt hv (m + 1) z.fr (by omega) (by omega) i hi
        rw [List.getD_eq_getElem?_getD, List.getElem?_set_ne (by omega), ← List.getD_eq_getElem?_getD]
        exact hn i (List.mem_cons_of_mem _ hi)
theorem bm_getD {m : Int} {l : List Int} (h : Bm m l) (hm : 0 ≤ m) (i : Nat) : l.getD i 0 ≤ m := by
  cases hx : l[i]? with
  | none => rw [List.getD_eq_getElem?_getD, hx]; simpa using hm
  | some x => rw [getD_of hx]; exact (h i x hx).2
theorem boS_bd {g : List It} {r : List Lk} (hv : VR g r) {L : List Int} (hL : L.all okZ = true) (hl : L.length = (endN r r.length).length) : ∀ k, k ≤ L.length → (boS r L (endN r r.length) k).length = r.length ∧ Bm (1000000 * k) (boS r L (endN r r.length) k) := by
  intro k
  induction k with
  | zero =>
    intro _
    refine ⟨List.length_replicate .., ?_⟩
    intro i x hx
    have := List.eq_of_mem_replicate (List.mem_of_getElem? hx)
    omega
  | succ k ih =>
    intro hk
    obtain ⟨h1, h2⟩ := ih (by omega)
    obtain ⟨n, hx⟩ := get_lt (show k < (endN r r.length).length by omega)
    obtain ⟨N, hN⟩ := get_lt (show k < L.length by omega)
    have hnr := endN_lt hx
    obtain ⟨N0, N1⟩ : 0 ≤ N ∧ N ≤ 1000000 := wn_iff.1 (List.all_eq_true.1 hL N (List.mem_of_getElem? hN))
    rw [boS, show (endN r r.length).getD k 0 = n by simp [List.getD_eq_getElem?_getD, hx], getD_of hN]
    obtain ⟨a, b⟩ := addC_bd hv (P := 1000000 * k) N0 (n + 1) n _ (by omega) (by omega) h1 (fun i x hx => by have := h2 i x hx; omega) (fun i _ => bm_getD h2 (by omega) i)
    exact ⟨b, fun i x hx => by have := a i x hx; omega⟩
set_option maxHeartbeats 4000000 in
set_option maxRecDepth 20000 in
theorem r_borne (B C : Option Addr) (g : List It) (r : List Lk) (L : List Int) (d f : Nat) (w : World) (hv : VR g r) (hok : L.all okZ = true) (hll : L.length = (endN r r.length).length) (hS : Rd Lk.cs 2 w B r) (hL : Rd zC 1 w C L) :
    Calls Try.prog 68 #[.slice B r.length d, .slice C L.length f] w fun e w' => ∃ A c, e = .returned (.slice (some A) r.length c) ∧ w.heap.size ≤ A.block ∧ Rd zC 1 w' (some A) (boZ r L) ∧ Below w.heap.size w w' := by
  have hn32 := hv.l1
  have hm0 := hv.l0
  have H4 := Lib.hid (fun W (h : Below w.heap.size w W) => r_ends B r d W (by omega) (hS.on h))
  have hep := end_pos hv
  have hel := endN_len r r.length
  have HEL := Lib.hid (fun k n => endN_lt (r := r) (k := k) (n := n))
  have HVV := Lib.hid hv
  have HBD := Lib.hid (boS_bd hv hok hll)
  have HZ := Lib.hid (show boZ r L = boS r L (endN r r.length) (endN r r.length).length from rfl)
  have HOK := Lib.hid (show ∀ (k : Nat) (x : Int), L[k]? = some x → 0 ≤ x ∧ x ≤ 1000000 from fun k x hx => wn_iff.1 (List.all_eq_true.1 hok x (List.mem_of_getElem? hx)))
  obtain ⟨i0, hi, hi1, hi2, hi3⟩ := info_int2
  have HMI := Lib.hid made_ints
  generalize boZ r L = Z at *
  generalize endN r r.length = E at *
  clear hv hok
  go_enter Try.func68, Try.ntmps68
  go_wp2_with (first
    | (at_make; refine wpList_make_full _ rfl _ _ 30 rfl w.heap.size 3 i0 (.int .i64 0) 1 (by kernel_rfl) hi hi1 hi2 _ _ _ _ r.length rfl rfl (by simp) (by simp) (by rw [hi3]; omega) (by unfold maxLen; omega) (Nat.le_refl _) ?_; intro w1 hown1 hgrow1; rw [HMI.out] at hown1; have B1 : Below w.heap.size w w1 := bl_grown (below_refl _) hgrow1 (fun r h => by cases h) (Nat.le_refl _); obtain ⟨gl, cl, e1, hgl, HL1⟩ := own_LI (l := List.replicate r.length 0) (by rw [List.length_replicate]; exact hown1) (by rw [List.length_replicate]; omega); have e2 : gl = w.heap.size := (by injection e1 with h1 h2 h3; injection h1 with h1; injection h1 with h1; exact h1.symm); subst e2)
    | (go_at_call 61; ((with_reducible refine (H4.out _ B1).mono ?_); rintro e w2 ⟨v, rfl, hv2, hb2⟩; obtain ⟨ge, ce, rfl, hge, HG2⟩ := own_LI (nz_own hv2) (by rw [List.length_map]; exact hep); have B2 := below_tr B1 hb2)))
  have HLn := Lib.hid (show w.heap.size ≠ ge by have := HL1.lt; omega)
  have B2s := hb2.size
  have gw2 : w.heap.size < w2.heap.size := by have := HL1.lt; omega
  have ge2 := HG2.lt
  have hLw := hL.on B2
  go_loopw [7] (fun i wr => ∃ k : Nat, k ≤ E.length ∧ i = .int .i64 k ∧ Below w.heap.size w wr ∧ LI wr ge (E.map fun n : Nat => (n : Int)) ∧ LI wr w.heap.size (boS r L E k)) (fun i _ => E.length - (intOf i).toNat)
  case atStart => exact ⟨0, by omega, rfl, B2, HG2, HL1.on hb2⟩
  case round =>
    clear hown1 hgrow1 hv2 hb2 B1 B2 HG2 HL1 hLw
    obtain ⟨k, hk, rfl, hbw, HG, HLL⟩ := hrel
    have HBB := Lib.hid (HBD.out k (by omega))
    by_cases hlt : k < E.length
    · have k0 : (0 : Int) ≤ (k : Int) := Int.natCast_nonneg _
      have k1 : (k : Int) < (E.length : Int) := by omega
      have k2 : (k : Int) < ((E.map fun n : Nat => (n : Int)).length : Int) := by rw [List.length_map]; exact k1
      have k3 : (k : Int) < (L.length : Int) := by omega
      obtain ⟨n, hx⟩ := get_lt hlt
      have hnr := HEL.out k n hx
      have hxx : (E.map fun n : Nat => (n : Int))[k]? = some (n : Int) := by rw [List.getElem?_map, hx]; rfl
      have q0 := HG.cell hxx
      obtain ⟨N, hN⟩ := get_lt (show k < L.length by omega)
      obtain ⟨N0, N1⟩ := HOK.out k N hN
      have HST := Lib.hid (show boS r L E (k + 1) = subC (boS r L E k) (-N) (chn r (n : Int)) by
        rw [boS, show E.getD k 0 = n by simp [List.getD_eq_getElem?_getD, hx], getD_of hN])
      have HNN := Lib.hid hN
      generalize boS r L E k = S at *
      clear hx hxx hN
      go_wp2
      go_loopw [8] (fun i wv => ∃ (j : Int) (M : List Int), -1 ≤ j ∧ j < r.length ∧ i = .int .i64 j ∧ Below w.heap.size w wv ∧ LI wv ge (E.map fun n : Nat => (n : Int)) ∧ LI wv w.heap.size M ∧ Hid (subC S (-N) (chn r (n : Int)) = subC M (-N) (chn r j) ∧ M.length = r.length ∧ Bm (1000000 * (k + 1)) M ∧ ∀ i ∈ chn r j, M.getD i 0 ≤ 1000000 * k)) (fun i _ => (intOf i + 1).toNat)
      case atStart =>
        refine ⟨n, S, by omega, by omega, rfl, hbw, HG, HLL, Lib.hid ⟨rfl, HBB.out.1, fun i x hx => ?_, fun i _ => ?_⟩⟩
        · have := HBB.out.2 i x hx; omega
        · cases hx : S[i]? with
          | none => rw [List.getD_eq_getElem?_getD, hx]; simp; omega
          | some x => rw [getD_of hx]; exact (HBB.out.2 i x hx).2
      case round =>
        clear hbw HG HLL q0
        obtain ⟨j, M, hj, hj', rfl, hbw, HG, HLL, HI⟩ := hrel
        by_cases hneg : j < 0
        · have HJ := Lib.hid (chn_neg (r := r) hneg)
          go_wp2
          go_roundw
          case rel => exact ⟨k + 1, by omega, by go_num, hbw, HG, by rw [HST.out, HI.out.1, HJ.out]; exact HLL⟩
          case measure => simp [intOf]; omega
        · obtain ⟨m, rfl⟩ := Int.eq_ofNat_of_zero_le (show 0 ≤ j by omega)
          obtain ⟨z, b', off', hz, rfl, hb', d0, d1⟩ := rdL (hS.on hbw) (show m < r.length by omega)
          obtain ⟨t, ht⟩ := get_lt (show m < M.length by have := HI.out.2.1; omega)
          obtain ⟨N', cb, co, hN', rfl, hcb, d4⟩ := rd_int (hL.on hbw) (show k < L.length by omega)
          obtain rfl : N = N' := by have := HNN.out; rw [hN'] at this; exact (Option.some.inj this).symm
          have d2 := HLL.cell ht
          have d3 := HLL.frozen m
          have hfz := HVV.out.frs hz
          obtain ⟨t0, t1⟩ : 0 ≤ t ∧ t ≤ 1000000 * k := by
            have h1 := (HI.out.2.2.1 m t ht).1
            have h2 := HI.out.2.2.2 m (by rw [chn_step HVV.out hz]; exact List.mem_cons_self ..)
            rw [getD_of ht] at h2
            exact ⟨h1, h2⟩
          have HN := Lib.hid (show subC M (-N) (chn r (m : Int)) = subC (M.set m (t + N)) (-N) (chn r z.fr) by
            rw [chn_step HVV.out hz]; unfold subC; rw [List.foldl_cons, getD_of ht, Int.sub_neg])
          have HN2 := Lib.hid (show Bm (1000000 * (k + 1)) (M.set m (t + N)) ∧ ∀ i ∈ chn r z.fr, (M.set m (t + N)).getD i 0 ≤ 1000000 * k by
            have hall := HI.out.2.2.2
            rw [chn_step HVV.out hz] at hall
            refine ⟨?_, ?_⟩
            · intro i x hx
              by_cases hi : m = i
              · subst hi
                rw [List.getElem?_set_self (List.getElem?_eq_some_iff.1 ht).1] at hx
                cases hx; omega
              · rw [List.getElem?_set_ne hi] at hx
                exact HI.out.2.2.1 i x hx
            · intro i hi
              have hlt2 := chn_lt HVV.out (m + 1) z.fr (by omega) (by omega) i hi
              rw [List.getD_eq_getElem?_getD, List.getElem?_set_ne (by omega), ← List.getD_eq_getElem?_getD]
              exact hall i (List.mem_cons_of_mem _ hi))
          have HT := Lib.hid ht
          have m1 : (m : Int) < (r.length : Int) := by omega
          have m0 : (0 : Int) ≤ (m : Int) := by omega
          have hk32 : k ≤ 32 := by omega
          have ht33 : t ≤ 32000000 := by omega
          have hne1 : b' ≠ w.heap.size := by obtain ⟨_, _, _, _, e0, hb0, _⟩ := rdL hS (show m < r.length by omega); cases e0; omega
          clear hz ht hN' t1
          go_wp2
          go_region
          all_goals go_wp2
          all_goals go_roundw
          all_goals first
            | exact ⟨z.fr, M.set m (t + N), by omega, by omega, rfl, below_draw (hbw.setCell (p := ⟨w.heap.size, m, none⟩) (Nat.le_refl _) _), (HG.far (fun e => HLn.out e.symm) _).drew, (HLL.set HT.out _).drew, Lib.hid ⟨by rw [HI.out.1, HN.out], by rw [List.length_set]; exact HI.out.2.1, HN2.out.1, HN2.out.2⟩⟩
            | (simp [intOf]; omega)
    · obtain rfl : k = E.length := by omega
      go_wp2
      go_ret
      exact ⟨⟨w.heap.size, 0, none⟩, _, rfl, Nat.le_refl _, by rw [HZ.out]; exact HLL.rd, hbw⟩
end Go.Proofs.Ytijlglanpgcdiaa
