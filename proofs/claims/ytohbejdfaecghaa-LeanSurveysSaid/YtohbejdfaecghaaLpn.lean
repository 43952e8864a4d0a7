/- Lean: no line is nearer, a proof proves, fewer points bend no more, raised points: plain. -/
import Derived.Test.YtohbejdfaecghaaLpm
set_option linter.unusedSimpArgs false
set_option linter.unusedVariables false
namespace Go.Proofs.Ytohbejdfaecghaa
open Go.RowKit

theorem vld_pos {a b d : Int} (h : vldL a b d = true) : 0 < d := by
  have := (lb_of (vld_in h)).d0; omega
theorem vld_red {a b d : Int} (h : vldL a b d = true) : g3 a b d = 1 := by
  unfold vldL at h
  rw [Bool.and_eq_true] at h
  exact of_decide_eq_true h.2
theorem near_one {l : List Pt} (h1 : l.length = 1) : nearP l = ((ptAt l 0).x, 0, 1) ∧ eMax l (nearP l) = 0 := by
  have e : nearP l = ((ptAt l 0).x, 0, 1) := by
    unfold nearP
    rw [if_pos h1]
    unfold mk3 m3
    have : g3 (ptAt l 0).x 0 1 = 1 := by unfold g3; simp
    rw [this]; simp
  refine ⟨e, ?_⟩
  have hw : wst (nearP l) l = 0 := by have := wst_lt (x := nearP l) (l := l) (by omega); omega
  unfold eMax
  rw [hw, e]
  unfold farV offV; simp
/-- fractions of distances compare as these do -/
theorem cmp_low {n d n' d' : Int} (hd : 0 < d) (hd' : 0 < d') : cmpR (gN n d) (gD n d) (gN n' d') (gD n' d') = cmpI (gN n d * gD n' d') (gN n' d' * gD n d) := by
  unfold cmpR
  rw [mx_of (gD_pos hd), mx_of (gD_pos hd')]
theorem low_ge {n d n' d' : Int} (hd : 0 < d) (hd' : 0 < d') : 0 ≤ cmpR (gN n d) (gD n d) (gN n' d') (gD n' d') ↔ n' * d ≤ n * d' := by
  rw [cmp_low hd hd', cmp_nonneg, cross hd' hd]
theorem low_gt {n d n' d' : Int} (hd : 0 < d) (hd' : 0 < d') : 0 < cmpR (gN n d) (gD n d) (gN n' d') (gD n' d') ↔ n' * d < n * d' := by
  rw [cmp_low hd hd', cmp_pos]
  have := cross (n := n) (n' := n') hd hd'
  omega
def cmpL (l : List Pt) (x y : Ln) : Int := cmpR (gN (eMax l x) x.2.2) (gD (eMax l x) x.2.2) (gN (eMax l y) y.2.2) (gD (eMax l y) y.2.2)
/-- no line is nearer than the nearest one -/
theorem least_law {x : Ln} {l : List Pt} (hv : vldL x.1 x.2.1 x.2.2 = true) (hp : vldP l = true) :
    0 ≤ cmpL l x (nearP l) ∧ (0 < cmpL l x (nearP l) ∨ x = nearP l ∨ l.length = 1) := by
  have hx := vld_pos hv
  have hn := vld_pos (near_vld hp)
  unfold cmpL
  rw [low_ge hx hn, low_gt hx hn]
  obtain ⟨h1, _⟩ := vld_len hp
  rcases Nat.eq_or_lt_of_le h1 with he | he
  · obtain ⟨_, e⟩ := near_one he.symm
    rw [e, Int.zero_mul]
    exact ⟨Int.mul_nonneg (eMax_nonneg _ _) (Int.le_of_lt hn), .inr (.inr he.symm)⟩
  · have hN := near_of (vld_lt hp) he
    have hle := hN.le h1 hx (eMax_wi l x)
    refine ⟨hle, ?_⟩
    rcases Int.lt_or_le (eMax l (nearP l) * x.2.2) (eMax l x * (nearP l).2.2) with h | h
    · exact .inl h
    · exact .inr (.inl (same_eq hn hx (vld_red (near_vld hp)) (vld_red hv) (hN.uniq x _ hx (eMax_wi l x) h)).symm)

/-- three points prove a line -/
def prvB (x : Ln) (l : List Pt) (t : Trip) : Bool :=
  decide (off3 x (ptAt l t.1) = off3 x (ptAt l t.2.2)) && (decide (off3 x (ptAt l t.2.1) = -off3 x (ptAt l t.1)) && (decide (off3 x (ptAt l t.1) = eMax l x) || decide (off3 x (ptAt l t.1) = -eMax l x)))
theorem prv_alt {x : Ln} {l : List Pt} {i j k : Nat} (hij : i < j) (hjk : j < k) (hk : k < l.length) : prvB x l (i, j, k) = true ↔ Alt l x (eMax l x) i j k := by
  unfold prvB Alt
  simp only [Bool.and_eq_true, Bool.or_eq_true, decide_eq_true_eq]
  constructor
  · rintro ⟨a, b, c⟩
    refine ⟨hij, hjk, hk, ?_⟩
    rcases c with c | c
    · left; omega
    · right; omega
  · rintro ⟨_, _, _, c⟩
    rcases c with ⟨a, b, c⟩ | ⟨a, b, c⟩
    · omega
    · omega
/-- a line with a proof is the nearest one -/
theorem prv_near {x : Ln} {l : List Pt} {i j k : Nat} (hv : vldL x.1 x.2.1 x.2.2 = true) (hp : vldP l = true) (hij : i < j) (hjk : j < k) (hk : k < l.length) (h : prvB x l (i, j, k) = true) : nearP l = x := by
  have hx := vld_pos hv
  have hn := vld_pos (near_vld hp)
  have hN := near_of (vld_lt hp) (show 2 ≤ l.length by omega)
  have hA := (prv_alt hij hjk hk).1 h
  exact (same_eq hx hn (vld_red hv) (vld_red (near_vld hp)) (alt_least (vld_lt hp) hx hA (eMax_wi l (nearP l)) (hN.le (by omega) hx (eMax_wi l x)))).symm
/-- the nearest line of three points or more has a proof -/
theorem near_prv {l : List Pt} (hp : vldP l = true) (h3 : 3 ≤ l.length) : ∃ t ∈ trips l.length, prvB (nearP l) l t = true := by
  obtain ⟨x, E, i, j, k, hx, hn, hw, hA⟩ := near_many (vld_lt hp) h3
  have hN := near_of (vld_lt hp) (show 2 ≤ l.length by omega)
  have hnp := vld_pos (near_vld hp)
  have hs : SameLn x (nearP l) := by rw [hn]; exact same_symm mk3_same
  have hE : E * (nearP l).2.2 = eMax l (nearP l) * x.2.2 := by
    have e := same_eMax (show 1 ≤ l.length by omega) hx hnp hs
    have e2 : eMax l x = E := by
      apply Int.le_antisymm (eMax_le (by omega) hw)
      obtain ⟨a, b, c, hh⟩ := hA
      have := eMax_wi l x j (by omega)
      omega
    rw [e2] at e
    exact e.symm
  have hA2 := alt_same hx hs hE hA
  obtain ⟨hij, hjk, hk, _⟩ := hA
  obtain ⟨r, hr⟩ := trips_split hij hjk hk
  exact ⟨(i, j, k), by rw [hr]; simp, (prv_alt hij hjk hk).2 hA2⟩

/-- valid points, told by their list -/
theorem vldP_iff {l : List Pt} : vldP l = true ↔ (1 ≤ l.length ∧ l.length ≤ 40) ∧ (∀ p ∈ l, sndP p = true) ∧ l.Pairwise fun p q => p.h < q.h := by
  constructor
  · intro h
    refine ⟨vld_len h, List.all_eq_true.1 (vld_snd h), List.pairwise_iff_getElem.2 fun i j hi hj hij => ?_⟩
    have := vld_lt h i j hij hj
    rwa [ptAt_of (List.getElem?_eq_getElem hi), ptAt_of (List.getElem?_eq_getElem hj)] at this
  · rintro ⟨h1, h2, h3⟩
    unfold vldP
    rw [Bool.and_eq_true, wn_iff, List.all_eq_true]
    refine ⟨by omega, fun i hi => ?_⟩
    have hi : i < l.length := by simpa using hi
    unfold okAt
    rw [Bool.and_eq_true, Bool.or_eq_true, decide_eq_true_eq, decide_eq_true_eq]
    refine ⟨by rw [ptAt_of (List.getElem?_eq_getElem hi)]; exact h2 _ (List.getElem_mem hi), ?_⟩
    rcases Nat.eq_zero_or_pos i with h | h
    · exact .inl h
    · right
      rw [ptAt_of (List.getElem?_eq_getElem hi), ptAt_of (List.getElem?_eq_getElem (show i - 1 < l.length by omega))]
      exact List.pairwise_iff_getElem.1 h3 (i - 1) i (by omega) hi (by omega)
theorem vldP_sub {l r : List Pt} (h : vldP l = true) (hs : r.Sublist l) (h1 : 1 ≤ r.length) : vldP r = true := by
  obtain ⟨⟨_, a⟩, b, c⟩ := vldP_iff.1 h
  exact vldP_iff.2 ⟨⟨h1, by have := hs.length_le; omega⟩, fun p hp => b p (hs.subset hp), c.sublist hs⟩
theorem wi_mem {l : List Pt} {x : Ln} {p : Pt} (h : p ∈ l) : farV x.1 x.2.1 x.2.2 p ≤ eMax l x := by
  obtain ⟨i, hi, rfl⟩ := List.getElem_of_mem h
  have := far_le.2 (eMax_wi l x i hi)
  rwa [ptAt_of (List.getElem?_eq_getElem hi)] at this
/-- fewer points bend no more -/
theorem fewer_law {l r : List Pt} (h : vldP l = true) (hs : r.Sublist l) (h1 : 1 ≤ r.length) :
    cmpR (gN (eMax r (nearP r)) (nearP r).2.2) (gD (eMax r (nearP r)) (nearP r).2.2) (gN (eMax l (nearP l)) (nearP l).2.2) (gD (eMax l (nearP l)) (nearP l).2.2) ≤ 0 := by
  have hr := vldP_sub h hs h1
  have hn := vld_pos (near_vld h)
  have hm := vld_pos (near_vld hr)
  have key : eMax r (nearP r) * (nearP l).2.2 ≤ eMax l (nearP l) * (nearP r).2.2 := by
    rcases Nat.eq_or_lt_of_le h1 with he | he
    · rw [(near_one he.symm).2, Int.zero_mul]
      exact Int.mul_nonneg (eMax_nonneg _ _) (Int.le_of_lt hm)
    · refine (near_of (vld_lt hr) he).le h1 hn fun i hi => far_le.1 ?_
      rw [ptAt_of (List.getElem?_eq_getElem hi)]
      exact wi_mem (hs.subset (List.getElem_mem hi))
  have := (low_gt (n := eMax r (nearP r)) (n' := eMax l (nearP l)) hm hn)
  omega
/-- no point is farther than the bend -/
theorem dist_law {l : List Pt} {p : Pt} {x : Ln} (hx : 0 < x.2.2) (hp : p ∈ l) :
    cmpR (gN (farV x.1 x.2.1 x.2.2 p) x.2.2) (gD (farV x.1 x.2.1 x.2.2 p) x.2.2) (gN (eMax l x) x.2.2) (gD (eMax l x) x.2.2) ≤ 0 := by
  have := low_gt (n := farV x.1 x.2.1 x.2.2 p) (n' := eMax l x) hx hx
  have h2 := Int.mul_le_mul_of_nonneg_right (wi_mem (x := x) hp) (Int.le_of_lt hx)
  omega
theorem gN_zero {n d : Int} (hd : 0 < d) : gN n d = 0 ↔ n = 0 := by
  constructor
  · intro h
    have := gN_mul n d
    rw [h, Int.zero_mul] at this
    exact this.symm
  · rintro rfl; unfold gN; simp
/-- all points are on the line if the bend is 0 -/
theorem on_law {l : List Pt} {x : Ln} (hx : 0 < x.2.2) (h1 : 1 ≤ l.length) : (∀ p ∈ l, gN (farV x.1 x.2.1 x.2.2 p) x.2.2 = 0) ↔ gN (eMax l x) x.2.2 = 0 := by
  rw [gN_zero hx]
  simp only [gN_zero hx]
  constructor
  · intro h
    have hlt := wst_lt (x := x) h1
    unfold eMax
    rw [ptAt_of (List.getElem?_eq_getElem hlt)]
    exact h _ (List.getElem_mem hlt)
  · intro h p hp
    have := wi_mem (x := x) hp
    have h0 : 0 ≤ farV x.1 x.2.1 x.2.2 p := by unfold farV; omega
    omega

/-- what a line of whole numbers adds at a height -/
def upBy (x : Ln) (h : Int) : Int := (x.1 + x.2.1 * h) / x.2.2
def upPt (x : Ln) (p : Pt) : Pt := ⟨p.h, p.x + upBy x p.h⟩
def rsdL (l : List Pt) (x : Ln) : List Pt × Int := if vldP l = true ∧ vldL x.1 x.2.1 x.2.2 = true then (if (l.map (upPt x)).all sndP = true then (l.map (upPt x), 0) else ([], 4)) else ([], 1)
theorem ptAt_map {l : List Pt} {f : Pt → Pt} {i : Nat} (hi : i < l.length) : ptAt (l.map f) i = f (ptAt l i) := by
  rw [ptAt_of (List.getElem?_eq_getElem (by simpa using hi)), ptAt_of (List.getElem?_eq_getElem hi), List.getElem_map]
theorem vldP_up {l : List Pt} {x : Ln} (h : vldP l = true) (hs : (l.map (upPt x)).all sndP = true) : vldP (l.map (upPt x)) = true := by
  obtain ⟨a, b, c⟩ := vldP_iff.1 h
  refine vldP_iff.2 ⟨by simpa using a, List.all_eq_true.1 hs, List.pairwise_map.2 c⟩
theorem off_up {x y : Ln} {p : Pt} (hx : x.2.2 = 1) : off3 (y.1 + x.1 * y.2.2, y.2.1 + x.2.1 * y.2.2, y.2.2) (upPt x p) = off3 y p := by
  unfold off3 offV upPt upBy
  rw [hx]
  simp only [Int.ediv_one]
  grind
theorem wi_up {l : List Pt} {x y : Ln} {E : Int} (hx : x.2.2 = 1) : Wi (l.map (upPt x)) (y.1 + x.1 * y.2.2, y.2.1 + x.2.1 * y.2.2, y.2.2) E ↔ Wi l y E := by
  unfold Wi
  rw [List.length_map]
  constructor
  · intro h i hi
    have := h i hi
    rwa [ptAt_map hi, off_up hx] at this
  · intro h i hi
    rw [ptAt_map hi, off_up hx]
    exact h i hi
theorem same_up {x y z : Ln} (h : SameLn (y.1 + x.1 * y.2.2, y.2.1 + x.2.1 * y.2.2, y.2.2) z) : SameLn y (z.1 - x.1 * z.2.2, z.2.1 - x.2.1 * z.2.2, z.2.2) := by
  obtain ⟨a, b⟩ := h
  dsimp only at a b
  constructor
  · show y.1 * z.2.2 = (z.1 - x.1 * z.2.2) * y.2.2
    grind
  · show y.2.1 * z.2.2 = (z.2.1 - x.2.1 * z.2.2) * y.2.2
    grind
theorem g3_up {a b d u v : Int} : g3 (a + u * d) (b + v * d) d = g3 a b d := by
  have h : ∀ g : Nat, ((g : Int) ∣ a ∧ (g : Int) ∣ b ∧ (g : Int) ∣ d) ↔ ((g : Int) ∣ a + u * d ∧ (g : Int) ∣ b + v * d ∧ (g : Int) ∣ d) := fun g => by
    constructor
    · rintro ⟨h1, h2, h3⟩
      exact ⟨Int.dvd_add h1 (Int.dvd_trans h3 (Int.dvd_mul_left _ _)), Int.dvd_add h2 (Int.dvd_trans h3 (Int.dvd_mul_left _ _)), h3⟩
    · rintro ⟨h1, h2, h3⟩
      exact ⟨by have := Int.dvd_sub h1 (Int.dvd_trans h3 (Int.dvd_mul_left u d)); rwa [Int.add_sub_cancel] at this, by have := Int.dvd_sub h2 (Int.dvd_trans h3 (Int.dvd_mul_left v d)); rwa [Int.add_sub_cancel] at this, h3⟩
  have hg : ∀ (a b d : Int) (g : Nat), g ∣ g3 a b d ↔ ((g : Int) ∣ a ∧ (g : Int) ∣ b ∧ (g : Int) ∣ d) := fun a b d g => by
    unfold g3
    rw [← Int.natCast_dvd_natCast]
    constructor
    · intro h1
      have h2 := Int.dvd_trans h1 (Int.gcd_dvd_left _ _)
      exact ⟨Int.dvd_trans h2 (Int.gcd_dvd_left _ _), Int.dvd_trans h2 (Int.gcd_dvd_right _ _), Int.dvd_trans h1 (Int.gcd_dvd_right _ _)⟩
    · rintro ⟨h1, h2, h3⟩
      exact Int.dvd_coe_gcd (Int.dvd_coe_gcd h1 h2) h3
  exact Nat.dvd_antisymm ((hg _ _ _ _).2 ((h _).2 ((hg _ _ _ _).1 (Nat.dvd_refl _)))) ((hg _ _ _ _).2 ((h _).1 ((hg _ _ _ _).1 (Nat.dvd_refl _))))
/-- points raised by a line of whole numbers have the nearest line raised just so -/
theorem raise_law {l : List Pt} {x : Ln} (h : vldP l = true) (hs : (l.map (upPt x)).all sndP = true) (hx : x.2.2 = 1) (hc : 2 ≤ l.length ∨ x.2.1 = 0) :
    nearP (l.map (upPt x)) = ((nearP l).1 + x.1 * (nearP l).2.2, (nearP l).2.1 + x.2.1 * (nearP l).2.2, (nearP l).2.2) ∧ eMax (l.map (upPt x)) (nearP (l.map (upPt x))) = eMax l (nearP l) := by
  have hu := vldP_up h hs
  have hn := vld_pos (near_vld h)
  have hm := vld_pos (near_vld hu)
  obtain ⟨h1, _⟩ := vld_len h
  have hR1 : 1 ≤ (l.map (upPt x)).length := by simpa using h1
  rcases Nat.eq_or_lt_of_le h1 with he | he
  · have hb : x.2.1 = 0 := by rcases hc with hc | hc; omega; exact hc
    obtain ⟨e1, e2⟩ := near_one he.symm
    obtain ⟨e3, e4⟩ := near_one (l := l.map (upPt x)) (by simp; omega)
    rw [e4, e2]
    refine ⟨?_, rfl⟩
    rw [e3, e1, ptAt_map (by omega), hb]
    unfold upPt upBy
    rw [hx, hb]; simp
  · have hN := near_of (vld_lt h) he
    have hM := near_of (vld_lt hu) (by rw [List.length_map]; omega)
    have w1 : Wi (l.map (upPt x)) ((nearP l).1 + x.1 * (nearP l).2.2, (nearP l).2.1 + x.2.1 * (nearP l).2.2, (nearP l).2.2) (eMax l (nearP l)) := (wi_up hx).2 (eMax_wi l _)
    have k1 := hM.le hR1 (y := ((nearP l).1 + x.1 * (nearP l).2.2, (nearP l).2.1 + x.2.1 * (nearP l).2.2, (nearP l).2.2)) hn w1
    -- the other way round: the raised points' line, lowered
    have w2 : Wi l ((nearP (l.map (upPt x))).1 - x.1 * (nearP (l.map (upPt x))).2.2, (nearP (l.map (upPt x))).2.1 - x.2.1 * (nearP (l.map (upPt x))).2.2, (nearP (l.map (upPt x))).2.2) (eMax (l.map (upPt x)) (nearP (l.map (upPt x)))) := by
      refine (wi_up (x := x) hx).1 ?_
      dsimp only
      rw [Int.sub_add_cancel, Int.sub_add_cancel]
      exact eMax_wi _ _
    have k2 := hN.le h1 (y := ((nearP (l.map (upPt x))).1 - x.1 * (nearP (l.map (upPt x))).2.2, (nearP (l.map (upPt x))).2.1 - x.2.1 * (nearP (l.map (upPt x))).2.2, (nearP (l.map (upPt x))).2.2)) hm w2
    have hsame := hN.uniq ((nearP (l.map (upPt x))).1 - x.1 * (nearP (l.map (upPt x))).2.2, (nearP (l.map (upPt x))).2.1 - x.2.1 * (nearP (l.map (upPt x))).2.2, (nearP (l.map (upPt x))).2.2) _ hm w2 k1
    have hsame2 : SameLn ((nearP l).1 + x.1 * (nearP l).2.2, (nearP l).2.1 + x.2.1 * (nearP l).2.2, (nearP l).2.2) (nearP (l.map (upPt x))) := by
      obtain ⟨a, b⟩ := hsame
      dsimp only at a b
      constructor
      · show ((nearP l).1 + x.1 * (nearP l).2.2) * (nearP (l.map (upPt x))).2.2 = (nearP (l.map (upPt x))).1 * (nearP l).2.2
        grind
      · show ((nearP l).2.1 + x.2.1 * (nearP l).2.2) * (nearP (l.map (upPt x))).2.2 = (nearP (l.map (upPt x))).2.1 * (nearP l).2.2
        grind
    have heq := same_eq (x := ((nearP l).1 + x.1 * (nearP l).2.2, (nearP l).2.1 + x.2.1 * (nearP l).2.2, (nearP l).2.2)) hn hm (by show g3 _ _ _ = 1; rw [g3_up]; exact vld_red (near_vld h)) (vld_red (near_vld hu)) hsame2
    refine ⟨heq.symm, ?_⟩
    have hd : (nearP (l.map (upPt x))).2.2 = (nearP l).2.2 := by rw [← heq]
    rw [hd] at k1 k2
    exact Int.le_antisymm (Int.le_of_mul_le_mul_right k1 hn) (Int.le_of_mul_le_mul_right k2 hn)
theorem tdiv_floor {n d : Int} (hd : 0 < d) : (if n.tmod d < 0 then n.tdiv d - 1 else n.tdiv d) = n / d := by
  have h1 := Int.tmod_add_mul_tdiv n d
  have h2 := Int.emod_add_mul_ediv n d
  have h3 := Int.emod_nonneg n (show d ≠ 0 by omega)
  have h4 := Int.emod_lt_of_pos n hd
  split
  · rename_i h
    have h5 := Int.lt_tmod_of_pos n hd
    have : d * (n.tdiv d - 1 - n / d) < d * 1 ∧ d * (-1) < d * (n.tdiv d - 1 - n / d) := by
      rw [Int.mul_sub, Int.mul_sub]; omega
    have a := Int.lt_of_mul_lt_mul_left this.1 (Int.le_of_lt hd)
    have b := Int.lt_of_mul_lt_mul_left this.2 (Int.le_of_lt hd)
    omega
  · rename_i h
    have h5 := Int.tmod_lt_of_pos n hd
    have : d * (n.tdiv d - n / d) < d * 1 ∧ d * (-1) < d * (n.tdiv d - n / d) := by
      rw [Int.mul_sub]; omega
    have a := Int.lt_of_mul_lt_mul_left this.1 (Int.le_of_lt hd)
    have b := Int.lt_of_mul_lt_mul_left this.2 (Int.le_of_lt hd)
    omega
/-- the nearest line of valid points is made of small numbers -/
theorem near_small {l : List Pt} (h : vldP l = true) : -12000000000 ≤ (nearP l).1 ∧ (nearP l).1 ≤ 12000000000 ∧ -40000 ≤ (nearP l).2.1 ∧ (nearP l).2.1 ≤ 40000 ∧ 1 ≤ (nearP l).2.2 ∧ (nearP l).2.2 ≤ 400000 := by
  obtain ⟨h1, h2⟩ := vld_len h
  have hs := vld_sp h
  have hpos := vld_pos (near_vld h)
  rcases Nat.eq_or_lt_of_le h1 with he | he
  · rw [(near_one he.symm).1]
    obtain ⟨_, _, x0, x1⟩ := hs _ (ptAt_mem (l := l) (m := 0) (by omega))
    dsimp only
    omega
  · obtain ⟨e, _⟩ := nar_near (vld_lt h) he (nar_of (vld_lt h) he)
    rw [← e] at hpos ⊢
    obtain ⟨b0, b1, d0, d1, l0, l1, k0, k1⟩ := narS_b hs
    have hp := (nar_of (vld_lt h) he).pos
    obtain ⟨v1, v2, v3⟩ := g3_dvd ((narS l).2.2.1 + (narS l).2.2.2) (2 * (narS l).1) (2 * (narS l).2.1)
    have x1 := m3_bd v1 (by omega) (B := 12000000000) (by omega) (by omega)
    have x2 := m3_bd v2 (by omega) (B := 40000) (by omega) (by omega)
    have x3 := m3_bd v3 (by omega) (B := 400000) (by omega) (by omega)
    unfold mk3 at hpos ⊢
    dsimp only at *
    omega
end Go.Proofs.Ytohbejdfaecghaa
