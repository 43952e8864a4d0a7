/- Gear: Shares and Greatest of the reference; weighs. -/
import Derived.Test.YtijlglanpgcdiaaGza
set_option linter.unusedSimpArgs false
set_option linter.unusedVariables false
namespace Go.Proofs.Ytijlglanpgcdiaa
open Go.RowKit Go.Maps

/-- what is given so far, filled up with zeros -/
def padO (O : List Int) (n : Nat) : List Int := O ++ List.replicate (n - O.length) 0
theorem padO_len {O : List Int} {n : Nat} (h : O.length ≤ n) : (padO O n).length = n := by unfold padO; simp; omega
theorem padO_set {O : List Int} {n : Nat} (h : O.length < n) (y : Int) : (padO O n).set O.length y = padO (O ++ [y]) n := by
  unfold padO
  obtain ⟨m, hm⟩ : ∃ m, n - O.length = m + 1 := ⟨n - O.length - 1, by omega⟩
  rw [List.set_append_right _ _ (Nat.le_refl _), Nat.sub_self, hm, List.replicate_succ, List.set_cons_zero, List.append_assoc, List.length_append]
  rw [show n - (O.length + [y].length) = m by simp; omega]
  rfl
theorem padO_full {O : List Int} {n : Nat} (h : O.length = n) : padO O n = O := by unfold padO; rw [h, Nat.sub_self]; simp
theorem padO_get {O : List Int} (n : Nat) {j : Nat} (h : j < O.length) : (padO O n).getD j 0 = O.getD j 0 := by
  unfold padO
  rw [List.getD_eq_getElem?_getD, List.getElem?_append_left h, ← List.getD_eq_getElem?_getD]
theorem padO_out {O : List Int} (n : Nat) {j : Nat} (h : O.length ≤ j) : (padO O n).getD j 0 = 0 := by
  unfold padO
  rw [List.getD_eq_getElem?_getD, List.getElem?_append_right h, List.getElem?_replicate]
  split <;> rfl
theorem padO_bd {O : List Int} (h : Bd O) (n : Nat) : (padO O n).all okZ = true := by
  rw [List.all_eq_true]
  intro x hx
  unfold padO at hx
  rcases List.mem_append.1 hx with hx | hx
  · obtain ⟨k, hk⟩ := List.getElem?_of_mem hx
    exact wn_iff.2 (h k x hk)
  · have := List.eq_of_mem_replicate hx
    subst this; rfl
theorem pad_left {g : List It} {r : List Lk} (hv : VR g r) {k : Nat} (hk : k ≤ (endN r r.length).length) {i : Nat} (hi : i < r.length) :
    (ldL g r).getD i 0 - (boZ r (padO (shS r (ldL g r) (endN r r.length) k).2 (endN r r.length).length)).getD i 0 = (shS r (ldL g r) (endN r r.length) k).1.getD i 0 := by
  have hl := shS_len r (ldL g r) (endN r r.length) k
  have hb := (shS_bd hv k hk).2.2
  have hle := shS_left hv i k hk
  have hpl := padO_len (O := (shS r (ldL g r) (endN r r.length) k).2) (n := (endN r r.length).length) (by omega)
  have hld : ldE r (padO (shS r (ldL g r) (endN r r.length) k).2 (endN r r.length).length) = 0 := by
    unfold ldE; rw [if_pos hpl, if_pos (padO_bd hb _)]
  rw [boZ_at hv hld hi, hpl, bv_zeros i _ hk (fun j hj => padO_out _ (by omega)), bv_snoc (M := (shS r (ldL g r) (endN r r.length) k).2) i k (fun j hj => padO_get _ (by omega))]
  omega
theorem upZ_low' {g : List It} {r : List Lk} (hv : VR g r) {l : List Int} (hb : Bd l) {n : Nat} (hn : n < r.length) : upZ r l n = lowC l 1000000 (chn r (n : Int)) := by
  obtain ⟨x, hx⟩ := get_lt hn
  have h0 := hb.getD n
  have e : lowC l 1000000 (chn r (n : Int)) = lowC l (if l.getD n 0 < 1000000 then l.getD n 0 else 1000000) (chn r x.fr) := by
    rw [chn_step hv hx]; rfl
  rw [e]
  unfold upZ
  rw [lkAt_of hx]
  congr 1
  split <;> omega
theorem r_findQ (A : Option Addr) (g : List It) (c : Nat) (s : ByteArray) (w : World) (n : Nat) (hl : g.length ≤ 100000) (hR : Rd It.cs 4 w A g) :
    Calls Try.prog 50 #[.slice A g.length c, .string s] (w.drewN n) fun e w' => e = .returned (.int .i64 (fndI g s)) ∧ ∃ m, w' = w.drewN m :=
  Calls.quiet_of_same ((r_find A g c s _ hl (hR.on (below_drewN (below_refl _) n))).mono fun _ _ h => ⟨h.1, h.2.symm⟩)
set_option maxHeartbeats 4000000 in
set_option maxRecDepth 20000 in
theorem r_Shares (A B : Option Addr) (g : List It) (r : List Lk) (c d : Nat) (w : World) (hl : g.length ≤ 100000) (hn : r.length ≤ 100000) (hR : Rd It.cs 4 w A g) (hW : ∀ x ∈ g, IW x) (hS : Rd Lk.cs 2 w B r) (hV : ∀ x ∈ r, LW x) :
    Calls Try.prog 36 #[.slice A g.length c, .slice B r.length d] w fun e w' => ∃ v, e = .returned (.tuple #[v, .int .i64 (shE g r)]) ∧ GotW w' v (onE (shE g r) (shZ g r)) ∧ Below w.heap.size w w' := by
  have H1 := Lib.hid (fun b h => r_ValidRigV (c := c) (d := d) (b := b) h hl hn hR hW hS hV)
  cases h : (vldG g && vldR g r)
  · have HE := Lib.hid (show shE g r = 1 by unfold shE; rw [if_neg (by simp [h])])
    go_enter Try.func36, Try.ntmps36
    go_wp2_with (go_at_call 18; ((with_reducible refine (H1.out _ h).mono ?_); rintro e w1 ⟨rfl, hb1⟩; obtain ⟨hc1, hf1⟩ := bcell hb1; have hz1 := hb1.size; (try simp [sz_drew, sz_drewN] at hz1); (try simp only [sz_drew, sz_drewN] at hc1 hf1)))
    go_ret2
    exact ⟨_, by rw [HE.out]; rfl, by rw [HE.out]; exact gotW_nil _, by (repeat' (first | assumption | exact below_refl _ | refine bl_alloc ?_ _ | refine Below.setCell ?_ ?_ _ | refine below_draw ?_ | refine below_drewN ?_ _ | refine below_tr ?_ (by assumption))) <;> (first | omega | (simp; done) | (simp; omega))⟩
  have HE := Lib.hid (show shE g r = 0 by unfold shE; rw [if_pos h])
  have hv := vr_of h
  have hn32 := hv.l1
  have hm0 := hv.l0
  have H4 := Lib.hid (fun W (h : Below w.heap.size w W) => r_ends B r d W hn (hS.on h))
  have H5 := Lib.hid (fun W (h : Below w.heap.size w W) C f L (h1 : L.all okZ = true) (h2 : L.length = (endN r r.length).length) (h3 : Rd zC 1 W C L) => r_borne B C g r L d f W hv h1 h2 (hS.on h) h3)
  have HBL := Lib.hid (fun (L : List Int) (h1 : L.all okZ = true) (h2 : L.length = (endN r r.length).length) => boZ_len (g := g) (r := r) hv (L := L) (by unfold ldE; rw [if_pos h2, if_pos h1]))
  have HBM := Lib.hid (fun (L : List Int) (h1 : L.all okZ = true) (h2 : L.length = (endN r r.length).length) => bo_bm (g := g) (r := r) hv (L := L) (by unfold ldE; rw [if_pos h2, if_pos h1]))
  have HPL := Lib.hid (fun k hk i hi => pad_left (g := g) (r := r) hv (k := k) hk (i := i) hi)
  have HUL := Lib.hid (fun l hb n hn => upZ_low' (g := g) (r := r) hv (l := l) hb (n := n) hn)
  have HBS := Lib.hid (fun k hk => shS_bd (g := g) (r := r) hv k hk)
  have HVV := Lib.hid hv
  have hep := end_pos hv
  have hel := endN_len r r.length
  have HEL := Lib.hid (fun k n => endN_lt (r := r) (k := k) (n := n))
  have HSL := Lib.hid (fun k => shS_len r (ldL g r) (endN r r.length) k)
  obtain ⟨i0, hi, hi1, hi2, hi3⟩ := info_int2
  have HMI := Lib.hid made_ints
  have HZ := Lib.hid (show shZ g r = (shS r (ldL g r) (endN r r.length) (endN r r.length).length).2 from rfl)
  generalize shZ g r = Z at *
  generalize endN r r.length = E at *
  clear hv
  go_enter Try.func36, Try.ntmps36
  go_wp2_with (first
    | (go_at_call 18; ((with_reducible refine (H1.out _ h).mono ?_); rintro e w1 ⟨rfl, hb1⟩; obtain ⟨hc1, hf1⟩ := bcell hb1; have hz1 := hb1.size; (try simp [sz_drew, sz_drewN] at hz1); (try simp only [sz_drew, sz_drewN] at hc1 hf1)))
    | (go_at_call 61; ((with_reducible refine (H4.out _ hb1).mono ?_); rintro e w2 ⟨v, rfl, hv2, hb2⟩; obtain ⟨ge, ce, e0, hge, HG2⟩ := own_LI (nz_own hv2) (by rw [List.length_map]; exact hep); rw [List.length_map] at e0; subst e0; have B2 := below_tr hb1 hb2))
    | (at_make; refine wpList_make_full _ rfl _ _ 30 rfl w2.heap.size 3 i0 (.int .i64 0) 1 (by kernel_rfl) hi hi1 hi2 _ _ _ _ E.length rfl rfl (by simp) (by simp) (by rw [hi3]; omega) (by unfold maxLen; omega) (Nat.le_refl _) ?_; intro w3 hown3 hgrow3; rw [HMI.out] at hown3; have hb3 : Below w2.heap.size w2 w3 := bl_grown (below_refl _) hgrow3 (fun r h => by cases h) (Nat.le_refl _); obtain ⟨gl, cl, e1, hgl, HL3⟩ := own_LI (l := List.replicate E.length 0) (by rw [List.length_replicate]; exact hown3) (by rw [List.length_replicate]; omega); have e2 : gl = w2.heap.size := (by injection e1 with h1 h2 h3; injection h1 with h1; injection h1 with h1; exact h1.symm); subst e2; have B3 : Below w.heap.size w w3 := below_tr B2 hb3))
  have HLn := Lib.hid (show w2.heap.size ≠ ge by have := HG2.lt; omega)
  have hs1 := hb1.size
  have hs2 := hb2.size
  have hs3 := HL3.lt
  have hs4 := HG2.lt
  have HG3 := HG2.on hb3
  go_loopw [8] (fun i wr => ∃ k : Nat, k ≤ E.length ∧ i = .int .i64 k ∧ Below w.heap.size w wr ∧ w3.heap.size ≤ wr.heap.size ∧ LI wr ge (E.map fun n : Nat => (n : Int)) ∧ LI wr w2.heap.size (padO (shS r (ldL g r) E k).2 E.length)) (fun i _ => E.length - (intOf i).toNat)
  case atStart => exact ⟨0, by omega, rfl, B3, Nat.le_refl _, HG3, by
    show LI _ _ ([] ++ List.replicate (E.length - 0) 0)
    exact HL3⟩
  case round =>
    clear hv2 hb1 hb2 hb3 B2 B3 hc1 hf1 HL3 HG2 HG3 hown3 hgrow3
    obtain ⟨k, hk, rfl, hbw, hsz, HG, HLL⟩ := hrel
    have k0 : (0 : Int) ≤ (k : Int) := Int.natCast_nonneg _
    have HSLk := HSL.out k
    have hpl := padO_len (O := (shS r (ldL g r) E k).2) (n := E.length) (by omega)
    by_cases hlt : k < E.length
    · have k1 : (k : Int) < (E.length : Int) := by omega
      obtain ⟨n, hx⟩ := get_lt hlt
      have hnr := HEL.out k n hx
      have hxx : (E.map fun n : Nat => (n : Int))[k]? = some (n : Int) := by rw [List.getElem?_map, hx]; rfl
      have q0 := HG.cell hxx
      have hok := padO_bd (HBS.out k hk).2.2 E.length
      have HC := Lib.hid (H5.out wr hbw _ cl _ hok hpl HLL.rd)
      rw [hpl] at HC
      have HBZL := Lib.hid (HBL.out _ hok hpl)
      have HBZM := Lib.hid (HBM.out _ hok hpl)
      have HP := Lib.hid (fun i hi => HPL.out k hk i hi)
      have hSb := (HBS.out k hk).1
      have hSl := (HBS.out k hk).2.1
      have HLOW := Lib.hid (HUL.out _ hSb n hnr)
      have HSB := Lib.hid hSb
      have HSET := Lib.hid (show (padO (shS r (ldL g r) E k).2 E.length).set k (upZ r (shS r (ldL g r) E k).1 n) = padO (shS r (ldL g r) E (k + 1)).2 E.length by
        have h1 := padO_set (O := (shS r (ldL g r) E k).2) (n := E.length) (by omega) (upZ r (shS r (ldL g r) E k).1 n)
        rw [HSLk] at h1
        rw [h1, shS, show E.getD k 0 = n by simp [List.getD_eq_getElem?_getD, hx]])
      have hgg : ∃ t, (padO (shS r (ldL g r) E k).2 E.length)[k]? = some t := get_lt (by omega)
      generalize boZ r (padO (shS r (ldL g r) E k).2 E.length) = Y at *
      generalize padO (shS r (ldL g r) E k).2 E.length = P at *
      generalize (shS r (ldL g r) E k).1 = S at *
      generalize upZ r S n = N at *
      obtain ⟨t, ht⟩ := hgg
      have HT := Lib.hid ht
      have HXX := Lib.hid hx
      clear hx hxx hok hSb HSLk ht
      go_wp2_with (go_at_call 68; ((with_reducible refine (HC.out).mono ?_); rintro e w4 ⟨A4, c4, rfl, hge4, hr4, hb4⟩; have B4 : Below w.heap.size w w4 := below_tr hbw hb4; have HG4 := HG.on hb4; have HLL4 := HLL.on hb4; have hs4' := hb4.size; have q1 := HG4.cell (show (E.map fun n : Nat => (n : Int))[k]? = some (n : Int) by rw [List.getElem?_map, HXX.out]; rfl)))
      go_loopw [10, 11] (fun m i wv => ∃ (j s : Int), -1 ≤ j ∧ j < r.length ∧ i = .int .i64 j ∧ m = .int .i64 s ∧ Below w4.heap.size w4 wv ∧ Hid (N = lowC S s (chn r j))) (fun _ i _ => (intOf i + 1).toNat)
      case atStart => exact ⟨n, 1000000, by omega, by omega, rfl, rfl, below_refl _, HLOW⟩
      case round =>
        obtain ⟨j, s, hj, hj', rfl, rfl, hb5, HI⟩ := hrel
        have B5 := below_tr B4 hb5
        have HG5 := HG4.on hb5
        have HLL5 := HLL4.on hb5
        have hs5 := hb5.size
        clear q1 HG HLL HG4 HLL4
        by_cases hneg : j < 0
        · have HJ := Lib.hid (chn_neg (r := r) hneg)
          have q2 := HLL5.frozen k
          have q3 := HLL5.cell HT.out
          have hNs : N = s := by rw [HI.out, HJ.out]; rfl
          subst hNs
          go_wp2
          go_roundw
          case rel => exact ⟨k + 1, by omega, by go_num, B5.setCell (p := ⟨w2.heap.size, k, none⟩) (by show w.heap.size ≤ w2.heap.size; omega) _, by simp; omega, HG5.far (fun e => HLn.out e.symm) _, by rw [← HSET.out]; exact HLL5.set HT.out _⟩
          case measure => simp [intOf]; omega
        · obtain ⟨m, rfl⟩ := Int.eq_ofNat_of_zero_le (show 0 ≤ j by omega)
          have hmr : m < r.length := by omega
          obtain ⟨x, b, off, hx, rfl, hb, c0, c1⟩ := rdL (hS.on B5) hmr
          have hfz := HVV.out.frs hx
          obtain ⟨hy, _⟩ := HVV.out.it hx
          have f1 := HVV.out.fnd m x hx
          have f2 := (fnd_bd g x.nm).2
          have HF := Lib.hid (fun nn => r_findQ A g c x.nm _ nn hl (hR.on B5))
          have hll : (ldL g r)[m]? = some (itR g x).ld := by unfold ldL; rw [List.getElem?_map, hx]; rfl
          obtain ⟨y, yb, yo, hyy, e, hyb, e0⟩ := rd_int (hr4.on hb5) (show m < Y.length by have := HBZL.out; omega)
          cases e
          have hPm := HP.out m hmr
          rw [getD_of hll, getD_of hyy] at hPm
          have HST := Lib.hid (show lowC S s (chn r (m : Int)) = lowC S (if (itR g x).ld - y < s then (itR g x).ld - y else s) (chn r x.fr) by
            rw [chn_step HVV.out hx]; unfold lowC; rw [List.foldl_cons, hPm])
          have hyB := HBZM.out m y hyy
          have hldB := ldL_bd HVV.out hmr
          rw [getD_of hll] at hldB
          obtain ⟨v, hn'⟩ := Int.eq_ofNat_of_zero_le f1
          rw [hn'] at f2 hy HF
          obtain ⟨it, gb, goff, hz, hA, hgb, d0, d1, d2, d3⟩ := rdI (hR.on B5) (show v < g.length by omega)
          rw [show ((v : Nat) : Int).toNat = v by omega, hz] at hy
          cases hy
          have v0 : (0 : Int) ≤ (v : Int) := Int.natCast_nonneg _
          have v1 : (v : Int) < (g.length : Int) := by omega
          have m1 : (m : Int) < (r.length : Int) := by omega
          have m0 : (0 : Int) ≤ (m : Int) := by omega
          obtain ⟨y0, y1⟩ := hyB
          obtain ⟨l0, l1⟩ := hldB
          subst hA
          generalize (itR g x).ld = D at *
          clear hx hz hn' d0 d2 d3 hll hyy hPm
          by_cases hD : D - y < s
          · go_wp2
            go_quiet ((go_at_call 50; with_reducible exact HF.out _))
            go_wp2
            go_roundw
            case rel => exact ⟨x.fr, D - y, by omega, by omega, rfl, rfl, below_drewN hb5 _, Lib.hid (by rw [HI.out, HST.out, if_pos (by omega)])⟩
            case measure => simp [intOf]; omega
          · go_wp2
            go_quiet ((go_at_call 50; with_reducible exact HF.out _))
            go_wp2
            go_roundw
            case rel => exact ⟨x.fr, s, by omega, by omega, rfl, rfl, below_drewN hb5 _, Lib.hid (by rw [HI.out, HST.out, if_neg (by omega)])⟩
            case measure => simp [intOf]; omega
    · obtain rfl : k = E.length := by omega
      go_wp2
      go_ret2
      exact ⟨.slice (some ⟨w2.heap.size, 0, none⟩) E.length cl, by rw [HE.out]; rfl, by rw [HE.out, HZ.out]; exact ⟨_, _, by rw [show onE 0 (shS r (ldL g r) E E.length).2 = (shS r (ldL g r) E E.length).2 from rfl, HSLk], by rw [padO_full (HSL.out _)] at HLL; exact HLL.rd⟩, hbw⟩
end Go.Proofs.Ytijlglanpgcdiaa
