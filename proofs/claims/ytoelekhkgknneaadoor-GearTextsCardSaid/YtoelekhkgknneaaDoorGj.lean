/- Gear: chains; loadsOf, up, Most of the program. -/
import Derived.Test.YtoelekhkgknneaaDoorGi
set_option linter.unusedSimpArgs false
set_option linter.unusedVariables false
namespace Go.Proofs.YtoelekhkgknneaaDoor
open Go.RowKit Go.Maps

/-- a list of numbers in a block that is known whole -/
def LI (w : World) (g : Nat) (l : List Int) : Prop := ∃ cur, Blk w g 3 cur ∧ InRow zC 1 cur l
theorem LI.lt {w : World} {g : Nat} {l : List Int} (h : LI w g l) : g < w.heap.size := by obtain ⟨_, h, _⟩ := h; exact h.lt
theorem LI.cell {w : World} {g : Nat} {l : List Int} (h : LI w g l) {k : Nat} {x : Int} (hx : l[k]? = some x) : w.cell? ⟨g, k, none⟩ = some (.int .i64 x) := by
  obtain ⟨cur, hb, hr⟩ := h
  have := hr k x hx 0 _ rfl
  rw [Nat.mul_one, Nat.add_zero] at this
  rw [hb.cell]; exact this
theorem LI.frozen {w : World} {g : Nat} {l : List Int} (h : LI w g l) (k : Nat) : w.frozen? ⟨g, k, none⟩ = false := by obtain ⟨_, h, _⟩ := h; exact h.frozen k
theorem LI.rd {w : World} {g : Nat} {l : List Int} (h : LI w g l) : Rd zC 1 w (some ⟨g, 0, none⟩) l := by obtain ⟨_, h, hr⟩ := h; exact row_rd h hr
theorem inrow_set {cur : Array Value} {l : List Int} {k : Nat} {x : Int} (y : Int) (hc : InRow zC 1 cur l) (hx : l[k]? = some x) : InRow zC 1 (cur.setIfInBounds k (.int .i64 y)) (l.set k y) := fun k' z hz r u hu => by
  have hr : r = 0 := by
    rcases Nat.lt_or_ge r 1 with h | h
    · omega
    · rw [List.getElem?_eq_none (by rw [zC_len]; exact h)] at hu; cases hu
  subst hr
  rw [Nat.mul_one, Nat.add_zero]
  have h1 := hc k x hx 0 _ rfl
  rw [Nat.mul_one, Nat.add_zero] at h1
  have l1 := (Array.getElem?_eq_some_iff.1 h1).1
  have hkl : k < l.length := (List.getElem?_eq_some_iff.1 hx).1
  by_cases hk : k = k'
  · subst hk
    rw [List.getElem?_set_self hkl] at hz
    cases hz
    rw [Array.getElem?_setIfInBounds_self_of_lt l1]; exact hu
  · rw [List.getElem?_set_ne hk] at hz
    rw [Array.getElem?_setIfInBounds_ne hk]
    have := hc k' z hz 0 u hu
    rwa [Nat.mul_one, Nat.add_zero] at this
theorem LI.set {w : World} {g : Nat} {l : List Int} (h : LI w g l) {k : Nat} {x : Int} (hx : l[k]? = some x) (y : Int) : LI (w.setCell ⟨g, k, none⟩ (.int .i64 y)) g (l.set k y) := by
  obtain ⟨cur, hb, hr⟩ := h
  exact ⟨_, hb.set_ _ _, inrow_set y hr hx⟩
theorem LI.alloc {w : World} {g : Nat} {l : List Int} (h : LI w g l) (o : Obj) : LI (w.alloc o) g l := by obtain ⟨c, h, hr⟩ := h; exact ⟨c, h.alloc o, hr⟩
theorem LI.far {w : World} {g : Nat} {l : List Int} (h : LI w g l) {p : Addr} (hp : g ≠ p.block) (u : Value) : LI (w.setCell p u) g l := by obtain ⟨c, h, hr⟩ := h; exact ⟨c, h.far hp u, hr⟩
theorem LI.drew {w : World} {g : Nat} {l : List Int} (h : LI w g l) : LI w.drew g l := h
theorem LI.drewN {w : World} {g : Nat} {l : List Int} (h : LI w g l) (n : Nat) : LI (w.drewN n) g l := h
theorem LI.below {w w' : World} {g B : Nat} {l : List Int} (h : LI w g l) (hb : Below B w w') (hg : g < B) : LI w' g l := by obtain ⟨c, h, hr⟩ := h; exact ⟨c, h.below hb hg, hr⟩
theorem LI.on {w w' : World} {g : Nat} {l : List Int} (h : LI w g l) (hb : Below w.heap.size w w') : LI w' g l := h.below hb h.lt
theorem LI.grown {w w' : World} {g : Nat} {l : List Int} {row : Option Nat} (h : LI w g l) (k : w.grownBy w' row) (hn : some g ≠ row) : LI w' g l := by obtain ⟨c, h, hr⟩ := h; exact ⟨c, h.grown k hn, hr⟩
theorem own_LI {w : World} {b : Nat} {v : Value} {l : List Int} (h : w.ownsRow b 3 1 v l.length (fl zC l)) (h0 : 0 < l.length) : ∃ g cap, v = .slice (some ⟨g, 0, none⟩) l.length cap ∧ b ≤ g ∧ LI w g l := by
  obtain ⟨g, cap, cur, e, hg, hb, hr⟩ := own_row zC_len h h0
  exact ⟨g, cap, e, hg, cur, hb, hr⟩
/-- what a valid rig says -/
structure VR (g : List It) (r : List Lk) : Prop where
  l0 : 1 ≤ r.length
  l1 : r.length ≤ 32
  lg : g.length ≤ 64
  fr : ∀ (k : Nat) (x : Lk), r[k]? = some x → frB k x.fr = true
  fnd : ∀ (k : Nat) (x : Lk), r[k]? = some x → 0 ≤ fndI g x.nm
  dst : ∀ (k : Nat) (x : Lk), r[k]? = some x → fndL r x.nm = k
  vg : vldG g = true
theorem vr_of {g : List It} {r : List Lk} (h : (vldG g && vldR g r) = true) : VR g r := by
  rw [Bool.and_eq_true] at h
  obtain ⟨h1, h2⟩ := h
  have h3 := h2
  unfold vldR at h2
  rw [Bool.and_eq_true, List.all_eq_true, wn_iff] at h2
  obtain ⟨h4, h5, h6⟩ := h2
  have h7 := h1
  unfold vldG at h7
  rw [Bool.and_eq_true] at h7
  have hk : ∀ (k : Nat) (x : Lk), r[k]? = some x → (0 ≤ fndI g x.nm ∧ frB k x.fr = true) ∧ fndL r x.nm = k := by
    intro k x hx
    have := h4 k (by simpa using (List.getElem?_eq_some_iff.1 hx).1)
    unfold okL at this
    rw [lkAt_of hx] at this
    rw [Bool.and_eq_true, Bool.and_eq_true] at this
    have h8 := fndl_of hx rfl
    have h9 := this.2
    simp at h9
    exact ⟨⟨by simpa using this.1.1, this.1.2⟩, by omega⟩
  exact ⟨by omega, by omega, by simpa using h7.2, fun k x hx => (hk k x hx).1.2, fun k x hx => (hk k x hx).1.1, fun k x hx => (hk k x hx).2, h1⟩
theorem VR.frs {g : List It} {r : List Lk} (h : VR g r) {k : Nat} {x : Lk} (hx : r[k]? = some x) : -1 ≤ x.fr ∧ x.fr < k ∧ (x.fr < 0 ↔ k = 0) := by
  have := h.fr k x hx
  unfold frB at this
  by_cases hk : k = 0
  · rw [if_pos hk] at this
    have : x.fr = -1 := by simpa using this
    omega
  · rw [if_neg hk, wn_iff] at this
    omega
/-- the item of a link -/
def itR (g : List It) (x : Lk) : It := itAt g (fndI g x.nm).toNat
theorem VR.it {g : List It} {r : List Lk} (h : VR g r) {k : Nat} {x : Lk} (hx : r[k]? = some x) : g[(fndI g x.nm).toNat]? = some (itR g x) ∧ sndI (itR g x) = true := by
  have h1 := h.fnd k x hx
  have h2 := (fnd_bd g x.nm).2
  obtain ⟨y, hy⟩ := get_lt (show (fndI g x.nm).toNat < g.length by omega)
  have e : itR g x = y := itAt_of hy
  rw [e]
  refine ⟨hy, ?_⟩
  have h3 := h.vg
  rw [vldG_is, Bool.and_eq_true, Bool.and_eq_true, List.all_eq_true] at h3
  exact h3.2.1 y (List.mem_of_getElem? hy)
theorem snd_ld {x : It} (h : sndI x = true) : (1 ≤ x.ld ∧ x.ld ≤ 1000000) ∧ 0 ≤ x.du ∧ x.du ≤ 100000 := by
  unfold sndI at h
  simp only [Bool.and_eq_true, wn_iff] at h
  exact ⟨h.1.2, h.2⟩
def ldL (g : List It) (r : List Lk) : List Int := r.map fun x => (itR g x).ld
theorem VR.ld {g : List It} {r : List Lk} (h : VR g r) {k : Nat} {n : Int} (hx : (ldL g r)[k]? = some n) : 1 ≤ n ∧ n ≤ 1000000 := by
  unfold ldL at hx
  rw [List.getElem?_map] at hx
  cases hr : r[k]? with
  | none => rw [hr] at hx; cases hx
  | some x =>
    rw [hr] at hx; cases hx
    exact (snd_ld (h.it hr).2).1
set_option maxHeartbeats 1000000 in
set_option maxRecDepth 20000 in
theorem p_loadsOf (A B : Option Addr) (g : List It) (r : List Lk) (c d : Nat) (w : World) (hv : VR g r) (hR : Rd It.cs 4 w A g) (hW : ∀ x ∈ g, IW x) (hS : Rd Lk.cs 2 w B r) (hV : ∀ x ∈ r, LW x) :
    Calls Tryd.prog 69 #[.slice A g.length c, .slice B r.length d] w fun e w' => ∃ v, e = .returned v ∧ w'.ownsRow w.heap.size 3 1 v (ldL g r).length (fl zC (ldL g r)) ∧ Below w.heap.size w w' := by
  have HM := Lib.hid (fun W (h : Below w.heap.size w W) => p_byMark A g c W (by have := hv.lg; omega) (hR.on h) hW)
  obtain ⟨i0, hi, hi1, hi2, hi3⟩ := info_int2
  have HVV := Lib.hid hv
  have hn := hv.l1
  have hlg := hv.lg
  have HMA := Lib.hid (fun s => mkD_at (vldG_dst hv.vg) s g.length (Nat.le_refl _))
  clear hv
  go_enter Tryd.func69, Tryd.ntmps69
  go_wp2_with (go_at_call 78; refine (HM.out _ (below_refl _)).mono ?_; rintro e w2 ⟨rfl, hom, hb2⟩)
  go_loopw [6, 13] (fun v i wr => ∃ k : Nat, k ≤ r.length ∧ i = .int .i64 k ∧ Below w.heap.size w wr ∧ OM wr w.heap.size g.length (mkD g g.length) ∧ wr.ownsRow (w.heap.size + 1) 3 1 v k (fl zC (ldL g (r.take k)))) (fun _ i _ => r.length - (intOf i).toNat)
  case atStart => exact ⟨0, by omega, rfl, hb2, hom, World.ownsRow_nil w2 _ _ _⟩
  case round =>
    clear hom hb2
    obtain ⟨k, hk, rfl, hbw, hom, hown⟩ := hrel
    obtain ⟨ad, cp, rfl⟩ := own_slice hown
    by_cases hlt : k < r.length
    · have k0 : (0 : Int) ≤ (k : Int) := Int.natCast_nonneg _
      have k1 : (k : Int) < (r.length : Int) := by omega
      obtain ⟨x, b, off, hx, rfl, hb, c0, c1⟩ := rdL (hS.on hbw) hlt
      have iw := hV x (List.mem_of_getElem? hx)
      have iw1 := iw.f0
      have iw2 := iw.f1
      have hkey := keyS iw.m
      obtain ⟨hy, hsnd⟩ := HVV.out.it hx
      have f1 := HVV.out.fnd k x hx
      have f2 := (fnd_bd g x.nm).2
      have HA := HMA.out x.nm
      rw [if_pos (by omega)] at HA
      have HST := Lib.hid (show fl zC (ldL g (r.take (k + 1))) = fl zC (ldL g (r.take k)) ++ [.int .i64 (itR g x).ld] by
        rw [List.take_add_one, hx]; simp [ldL, fl, zC])
      obtain ⟨n, hn'⟩ := Int.eq_ofNat_of_zero_le f1
      rw [hn'] at f2 HA hy
      obtain ⟨it, gb, goff, hz, hA, hgb, d0, d1, d2, d3⟩ := rdI (hR.on hbw) (show n < g.length by omega)
      rw [show ((n : Nat) : Int).toNat = n by omega, hz] at hy
      cases hy
      have HAA := Lib.hid HA
      have n0 : (0 : Int) ≤ (n : Int) := Int.natCast_nonneg _
      have hom' := hom.alloc (Obj.cells #[Value.string x.nm, Value.int IntKind.i64 x.fr] 54)
      have hne : gb ≠ wr.heap.size := by omega
      subst hA
      clear hx iw hz HA hsnd hom hn'
      generalize (itR g x).ld = L at *
      go_wp2_with (first
        | (at_lookup; refine wpList_lookup_own_int _ rfl _ _ 120 rfl 9 3 .i64 lawS und_map und_int (zeroN _) _ g.length _ rfl hom' _ _ rfl hkey ?_; intro cc hat hwc; rw [HAA.out] at hat; obtain rfl : (n : Int) = cc := by (cases hat; rfl))
        | (at_builtin; refine wpList_append_own _ rfl _ _ 32 rfl (w.heap.size + 1) 3 i0 (.int .i64 0) 1 8 (by kernel_rfl) hi hi1 hi2 hi3 rfl (by omega) _ _ _ rfl ((hown.alloc _).alloc _) ⟨wr.heap.size + 1, 0, none⟩ 1 1 [.int .i64 L] rfl rfl (by have := cells_new (wr.alloc (.cells #[.string x.nm, .int .i64 x.fr] 54)) [.int .i64 L] 3; simp only [World.size_alloc] at this; exact this) (fun u hu => by simp at hu; subst hu; rfl) (by unfold maxLen; omega) (by omega) (by simp; have := hom'.lt; simp at this; omega) ?_; intro v' w4 hown4 hgrow _))
      go_roundw
      case rel => exact ⟨k + 1, by omega, by go_num, bl_app (bl_alloc hbw _) (hown.alloc _) hgrow (by omega) (by simp; have := hbw.size; omega), (hom'.alloc _).kept hgrow (own_ne hown (by omega)), by rw [HST.out]; exact hown4⟩
      case measure => simp [intOf]; omega
    · obtain rfl : k = r.length := by omega
      rw [List.take_length] at hown
      have HL : (ldL g r).length = r.length := List.length_map ..
      go_wp2
      go_ret
      exact ⟨_, rfl, by rw [HL]; exact own_base hown (by omega), hbw⟩
/-- the links from one up -/
def chF (r : List Lk) : Nat → Int → List Nat
  | 0, _ => []
  | f + 1, i => if i < 0 then [] else i.toNat :: chF r f (lkAt r i.toNat).fr
theorem chF_s (r : List Lk) (f : Nat) (i : Int) : chF r (f + 1) i = if i < 0 then [] else i.toNat :: chF r f (lkAt r i.toNat).fr := rfl
def chn (r : List Lk) (i : Int) : List Nat := chF r (i + 1).toNat i
theorem chn_neg {r : List Lk} {i : Int} (h : i < 0) : chn r i = [] := by
  unfold chn
  cases (i + 1).toNat with
  | zero => rfl
  | succ f => unfold chF; rw [if_pos h]
theorem chF_any {g : List It} {r : List Lk} (h : VR g r) : ∀ (f : Nat) (i : Int), i < r.length → (i + 1).toNat ≤ f → chF r f i = chn r i
  | 0, i, hi, hf => by rw [chn_neg (by omega)]; rfl
  | f + 1, i, hi, hf => by
    by_cases hn : i < 0
    · rw [chn_neg hn]; unfold chF; rw [if_pos hn]
    · obtain ⟨n, rfl⟩ := Int.eq_ofNat_of_zero_le (show 0 ≤ i by omega)
      obtain ⟨x, hx⟩ := get_lt (show n < r.length by omega)
      have hfr := h.frs hx
      rw [chn, show ((n : Int) + 1).toNat = n + 1 by omega, chF_s, if_neg hn, chF_s, if_neg hn, show ((n : Int)).toNat = n by omega, lkAt_of hx]
      congr 1
      rw [chF_any h f x.fr (by omega) (by omega), chF_any h n x.fr (by omega) (by omega)]
theorem chn_step {g : List It} {r : List Lk} (h : VR g r) {n : Nat} {x : Lk} (hx : r[n]? = some x) : chn r (n : Int) = n :: chn r x.fr := by
  have hn := (List.getElem?_eq_some_iff.1 hx).1
  have hfr := h.frs hx
  rw [← chF_any h (n + 1) n (by omega) (by omega)]
  rw [chF_s, if_neg (by omega), show ((n : Int)).toNat = n by omega, lkAt_of hx, chF_any h n x.fr (by omega) (by omega)]
theorem chn_lt {g : List It} {r : List Lk} (h : VR g r) : ∀ (f : Nat) (i : Int), i < r.length → (i + 1).toNat ≤ f → ∀ n ∈ chn r i, (n : Int) ≤ i
  | 0, i, hi, hf, n, hn => by rw [chn_neg (by omega)] at hn; cases hn
  | f + 1, i, hi, hf, n, hn => by
    by_cases hneg : i < 0
    · rw [chn_neg hneg] at hn; cases hn
    · obtain ⟨m, rfl⟩ := Int.eq_ofNat_of_zero_le (show 0 ≤ i by omega)
      obtain ⟨x, hx⟩ := get_lt (show m < r.length by omega)
      have hfr := h.frs hx
      rw [chn_step h hx] at hn
      rcases List.mem_cons.1 hn with rfl | hn
      · omega
      · have := chn_lt h f x.fr (by omega) (by omega) n hn
        omega
/-- the least number along a chain -/
def lowC (l : List Int) (s : Int) (c : List Nat) : Int := c.foldl (fun m i => if l.getD i 0 < m then l.getD i 0 else m) s
def upZ (r : List Lk) (l : List Int) (n : Nat) : Int := lowC l (l.getD n 0) (chn r (lkAt r n).fr)
theorem getD_of {l : List Int} {k : Nat} {x : Int} (h : l[k]? = some x) : l.getD k 0 = x := by simp [List.getD_eq_getElem?_getD, h]
set_option maxHeartbeats 1000000 in
set_option maxRecDepth 20000 in
theorem p_up (A B : Option Addr) (g : List It) (r : List Lk) (l : List Int) (c d n : Nat) (w : World) (hv : VR g r) (hS : Rd Lk.cs 2 w B r) (hA : Rd zC 1 w A l) (hl : l.length = r.length) (hn : n < r.length) :
    Calls Tryd.prog 71 #[.slice B r.length d, .slice A l.length c, .int .i64 n] w fun e w' => e = .returned (.int .i64 (upZ r l n)) ∧ w = w' := by
  have HVV := Lib.hid hv
  obtain ⟨x, b, off, hx, rfl, hb, c0, c1⟩ := rdL hS hn
  obtain ⟨y, a, ao, hy, rfl, ha, d0⟩ := rd_int hA (show n < l.length by omega)
  have hfr := hv.frs hx
  have n1 : (n : Int) < (r.length : Int) := by omega
  have n2 : (n : Int) < (l.length : Int) := by omega
  have hr32 := hv.l1
  have HR := Lib.hid (show upZ r l n = lowC l y (chn r x.fr) by unfold upZ; rw [getD_of hy, lkAt_of hx])
  clear hv hx hy
  go_enter Tryd.func71, Tryd.ntmps71
  go_wp2
  go_loop [7, 8] (fun m i => ∃ (j s : Int), -1 ≤ j ∧ j < r.length ∧ i = .int .i64 j ∧ m = .int .i64 s ∧ Hid (upZ r l n = lowC l s (chn r j))) (fun _ i => (intOf i + 1).toNat)
  case atStart => exact ⟨x.fr, y, by omega, by omega, rfl, rfl, HR⟩
  case round =>
    obtain ⟨j, s, hj, hj', rfl, rfl, HI⟩ := hrel
    by_cases hneg : j < 0
    · have HJ := Lib.hid (chn_neg (r := r) hneg)
      go_wp2
      go_ret
      exact ⟨ret_int (by rw [HI.out, HJ.out]; rfl), rfl⟩
    · obtain ⟨k, rfl⟩ := Int.eq_ofNat_of_zero_le (show 0 ≤ j by omega)
      obtain ⟨z, b', off', hz, e, _, q0, q1⟩ := rdL hS (show k < r.length by omega)
      cases e
      obtain ⟨u, a', ao', hu, e, _, r0⟩ := rd_int hA (show k < l.length by omega)
      cases e
      have hfz := HVV.out.frs hz
      have HST := Lib.hid (show lowC l s (chn r (k : Int)) = lowC l (if u < s then u else s) (chn r z.fr) by
        rw [chn_step HVV.out hz]; unfold lowC; rw [List.foldl_cons, getD_of hu])
      have k0 : (0 : Int) ≤ (k : Int) := by omega
      have k2 : (k : Int) < (l.length : Int) := by omega
      clear hz hu
      go_wp2
      go_round
      case rel => exact ⟨z.fr, _, by omega, by omega, rfl, rfl, Lib.hid (by rw [HI.out, HST.out])⟩
      case measure => simp [intOf]; omega
end Go.Proofs.YtoelekhkgknneaaDoor
