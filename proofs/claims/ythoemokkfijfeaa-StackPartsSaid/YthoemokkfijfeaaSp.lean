/- Stack: Open, Stands and Falls, by the program. -/
import Derived.Test.YthoemokkfijfeaaSo
import Derived.Test.YthoemokkfijfeaaShelf
namespace Go.Proofs.Ythoemokkfijfeaa
open Go.RowKit Go.Shelf

theorem blk_setCells {g : Nat} {t : TypeId} : ∀ (vs : List Value) (o : Nat) {w : World} (cs : Array Value), Blk w g t cs → ∃ cs', Blk (w.setCells g o vs) g t cs' ∧ cs'.size = cs.size
  | [], _, _, cs, h => ⟨cs, h, rfl⟩
  | v :: r, o, _, _, h => by
    obtain ⟨cs', h1, h2⟩ := blk_setCells r (o + 1) _ (h.set_ o v)
    exact ⟨cs', h1, by simpa using h2⟩

theorem below_sets {B g : Nat} (hg : B ≤ g) {a : World} : ∀ (vs : List Value) (o : Nat) {w : World}, Below B a w → Below B a (w.setCells g o vs)
  | [], _, _, h => h
  | v :: r, o, _, h => below_sets hg r (o + 1) (h.setCell (p := ⟨g, o, none⟩) hg v)

theorem row_at {W : World} {base : Nat} {e : TypeId} {v : Value} {xs : List Value} (h : W.ownsRow base e 1 v xs.length xs) : (xs = [] ∧ v = .slice none 0 0) ∨ ∃ g cap, v = .slice (some ⟨g, 0, none⟩) xs.length cap ∧ base ≤ g ∧ g < W.heap.size ∧ (∀ j (hj : j < xs.length), W.cell? ⟨g, j, none⟩ = some xs[j]) ∧ (∀ j, W.frozen? ⟨g, j, none⟩ = false) := by
  rcases h.2 with ⟨rfl, h0⟩ | ⟨g, cap, cur, rfl, hB, hh, h1, h2, h3, h4⟩
  · exact .inl ⟨List.eq_nil_of_length_eq_zero h0, rfl⟩
  · have hb : Blk W g e cur := hh
    refine .inr ⟨g, cap, rfl, hB, hb.lt, fun j hj => ?_, hb.frozen⟩
    rw [hb.cell j]
    have h5 : (cur.toList.take (xs.length * 1))[j]? = xs[j]? := by rw [h4]
    rw [List.getElem?_take, if_pos (by omega), List.getElem?_eq_getElem hj, Array.getElem?_toList] at h5
    exact h5

theorem natV_map (zs : List Nat) : natV zs = (zs.map (fun (i : Nat) => (i : Int))).map (Value.int .i64) := by simp [natV]
theorem natV_length (zs : List Nat) : (natV zs).length = zs.length := by simp [natV]

theorem nat_at {W : World} {base : Nat} {e : TypeId} {v : Value} {zs : List Nat} (h : W.ownsRow base e 1 v zs.length (natV zs)) (hne : zs ≠ []) : ∃ g cap, v = .slice (some ⟨g, 0, none⟩) zs.length cap ∧ base ≤ g ∧ g < W.heap.size ∧ (∀ j (hj : j < zs.length), W.cell? ⟨g, j, none⟩ = some (.int .i64 (zs[j] : Int))) := by
  rw [← natV_length] at h
  obtain ⟨g, cap, hv, h1, h2, h3, _⟩ := (row_at h).resolve_left (fun k => hne (by simpa [natV] using k.1))
  refine ⟨g, cap, by rw [hv, natV_length], h1, h2, fun j hj => ?_⟩
  rw [h3 j (by rw [natV_length]; exact hj)]; simp [natV]

theorem s_reverse (base : Nat) (v : Value) (zs : List Nat) (w : World) (h : w.ownsRow base 3 1 v zs.length (natV zs)) (hz : zs.length ≤ 100000) :
    Calls Try.prog 77 #[v] w fun e w' => e = .returned (.tuple #[]) ∧ w'.ownsRow base 3 1 v zs.reverse.length (natV zs.reverse) ∧ Below base w w' := by
  rcases h.2 with ⟨rfl, h0⟩ | ⟨g, cap, cur, rfl, hB, hh, h1, h2, h3, h4⟩
  · have : zs = [] := List.eq_nil_of_length_eq_zero h0
    subst this
    refine (Try.slices_Reverse_int_empty none 0 w).mono ?_
    rintro e w' ⟨rfl, rfl⟩
    exact ⟨rfl, h, Below.refl _ _⟩
  · have hb : Blk w g 3 cur := hh
    have hat : ∀ j, j < zs.length → cur[j]? = some (.int .i64 ((zs.getD j 0 : Nat) : Int)) := fun j hj => by
      have h5 : (cur.toList.take (zs.length * 1))[j]? = (natV zs)[j]? := by rw [h4]
      rw [List.getElem?_take, if_pos (by omega), Array.getElem?_toList] at h5
      rw [h5]; simp [natV, hj]
    refine (Try.slices_Reverse_int_cells g 0 zs.length cap (zs.map (fun (i : Nat) => (i : Int))) w (by simp) (by omega) (fun j hj => ?_) (fun j hj => ?_)).mono ?_
    · simp at hj
      rw [Nat.zero_add, hb.cell j, hat j hj]; simp [hj]
    · rw [Nat.zero_add]; exact hb.frozen j
    · rintro e w' ⟨rfl, q, rfl⟩
      have hvl : (((zs.map (fun (i : Nat) => (i : Int))).take zs.length).reverse.map (Value.int .i64)) = natV zs.reverse := by
        rw [List.take_of_length_le (by simp), ← List.map_reverse, natV_map]
      rw [hvl]
      obtain ⟨cs', hb', hs'⟩ := blk_setCells (natV zs.reverse) 0 cur (hb.drewN q)
      have hin := World.cell?_setCells_in g (natV zs.reverse) 0 (w.drewN q) (fun j hj => by
        rw [natV_length, List.length_reverse] at hj
        rw [Nat.zero_add]
        show (w.cell? ⟨g, j, none⟩).isSome = true
        rw [hb.cell j, hat j hj]; rfl)
      refine ⟨rfl, ⟨by simp [natV], .inr ⟨g, cap, cs', by simp, hB, hb', by simpa using h1, h2, by rw [hs', h3], ?_⟩⟩, ?_⟩
      · apply List.ext_getElem?
        intro j
        rcases Nat.lt_or_ge j zs.length with hj | hj
        · have h6 := hin j (by rw [natV_length, List.length_reverse]; exact hj)
          rw [Nat.zero_add, hb'.cell j] at h6
          rw [List.getElem?_take, if_pos (by simp; omega), Array.getElem?_toList, h6, List.getElem?_eq_getElem]
        · rw [List.getElem?_eq_none (by simp; omega), List.getElem?_eq_none (by simp [natV]; omega)]
      · exact below_sets hB _ _ (below_drewN (Below.refl _ _) q)

/-- What lost says of closed and of holds. -/
theorem lost_hyp {l : List Course} {p : Int} (hv : validC l = true) (hp0 : 0 ≤ p) (hp1 : p ≤ 10000) {k : Nat} (hk : k < l.length) : CB (bedC l k) ∧ AB (bedC l k) (l.drop k) p := by
  obtain ⟨hall, hl1, hl2⟩ := valid_all hv
  obtain ⟨x, hx⟩ : ∃ x, l[k]? = some x := ⟨_, List.getElem?_eq_getElem hk⟩
  have hcb : CB x := cb_of (List.all_eq_true.1 hall x (List.mem_of_getElem? hx))
  rw [bed_at hx]
  exact ⟨hcb, ab_of hcb (all_drop hall k) (by simp; omega) hp0 hp1⟩

theorem s_lostC (A : Option Addr) (l : List Course) (c : Nat) (p side : Int) (w : World) (hv : validC l = true) (hR : Rd Course.cs 6 w A l) (hp0 : 0 ≤ p) (hp1 : p ≤ 10000) (hs0 : 0 ≤ side) (hs1 : side ≤ 3) :
    Calls Try.prog 76 #[.slice A l.length c, .int .i64 p, .int .i64 side, .func (.func 71) #[] #[]] w fun e w' =>
      ∃ v, e = .returned v ∧ w'.ownsRow w.heap.size 3 1 v (lostL closedB l p side (List.range l.length).reverse).length (natV (lostL closedB l p side (List.range l.length).reverse)) ∧ Below w.heap.size w w' :=
  s_lost _ (enters_of Try.func71 (by kernel_rfl) rfl) closedB A l c p side w hv hR (fun k W hk => s_closed _ _ p side W hp0 hp1 hs0 hs1 (lost_hyp hv hp0 hp1 hk).2 (lost_hyp hv hp0 hp1 hk).1)
theorem s_lostH (A : Option Addr) (l : List Course) (c : Nat) (p side : Int) (w : World) (hv : validC l = true) (hR : Rd Course.cs 6 w A l) (hp0 : 0 ≤ p) (hp1 : p ≤ 10000) (hs0 : 0 ≤ side) (hs1 : side ≤ 3) :
    Calls Try.prog 76 #[.slice A l.length c, .int .i64 p, .int .i64 side, .func (.func 73) #[] #[]] w fun e w' =>
      ∃ v, e = .returned v ∧ w'.ownsRow w.heap.size 3 1 v (lostL holdsB l p side (List.range l.length).reverse).length (natV (lostL holdsB l p side (List.range l.length).reverse)) ∧ Below w.heap.size w w' :=
  s_lost _ (enters_of Try.func73 (by kernel_rfl) rfl) holdsB A l c p side w hv hR (fun k W hk => s_holds _ _ p side W hp0 hp1 hs0 hs1 (lost_hyp hv hp0 hp1 hk).2 (lost_hyp hv hp0 hp1 hk).1)

def lostsL (KB : Course → List Course → Int → Int → Bool) (l : List Course) (p side : Int) : List Nat := lostL KB l p side (List.range l.length).reverse
theorem lostsL_len (KB : Course → List Course → Int → Int → Bool) (l : List Course) (p side : Int) : (lostsL KB l p side).length ≤ l.length := by
  have := List.length_filter_le (fun i : Nat => !KB (bedC l i) (l.drop i) p side) (List.range l.length).reverse
  simpa [lostsL, lostL] using this
theorem windy0 (l : List Course) : ∀ {p side : Int}, windyE l 0 p side = 0 → validC l = true ∧ 0 ≤ p ∧ p ≤ 10000 ∧ 0 ≤ side ∧ side ≤ 3 := fun h => by
  obtain ⟨_, _, _, hv, h⟩ := windy_zero h
  exact ⟨hv, h⟩

def openR (l : List Course) (p side : Int) : List Nat := if windyE l 0 p side = 0 then (lostsL closedB l p side).reverse else []
def standsR (l : List Course) (p side : Int) : Bool := if windyE l 0 p side = 0 then (lostsL holdsB l p side).length == 0 else false

theorem s_open (A : Option Addr) (l : List Course) (c : Nat) (p side : Int) (w : World) (hl : l.length ≤ 100000) (hR : Rd Course.cs 6 w A l) :
    Calls Try.prog 43 #[.slice A l.length c, .int .i64 p, .int .i64 side] w fun e w' => ∃ v, e = .returned (.tuple #[v, .int .i64 (windyE l 0 p side)]) ∧ w'.ownsRow w.heap.size 3 1 v (openR l p side).length (natV (openR l p side)) ∧ Below w.heap.size w w' := by
  have HC := Lib.hid (s_windy A l c 0 p side w hl hR)
  by_cases h0 : windyE l 0 p side = 0
  · obtain ⟨hv, hp0, hp1, hs0, hs1⟩ := windy0 l h0
    have hlen := lostsL_len closedB l p side
    have HL := Lib.hid (fun W (h : Below w.heap.size w W) => s_lostC A l c p side W hv (hR.on h) hp0 hp1 hs0 hs1)
    have HE : Hid (openR l p side = (lostsL closedB l p side).reverse) := by show _ = _; unfold openR; rw [if_pos h0]
    rw [h0] at HC ⊢
    clear h0 hv
    go_enter Try.func43, Try.ntmps43
    go_wp2_with (first
      | (go_at_call 65; refine HC.out.mono ?_; rintro e w1 ⟨rfl, hb1⟩)
      | (go_at_call 76; refine (HL.out _ hb1).mono ?_; rintro e w2 ⟨v, rfl, hr2, hb2⟩)
      | (go_at_call 77; refine (s_reverse w1.heap.size _ (lostsL closedB l p side) _ (by exact hr2) (by omega)).mono ?_; rintro e w3 ⟨rfl, hr3, hb3⟩))
    go_ret2
    exact ⟨v, rfl, by rw [HE.out]; exact ownsRow_base hr3 hb1.size, below_tr hb1 (hb2.trans hb3)⟩
  · have H0 := Lib.hid h0
    have t1 : (windyE l 0 p side != 0) = true := by simpa using h0
    clear h0
    go_enter Try.func43, Try.ntmps43
    go_wp2_with (go_at_call 65; refine HC.out.mono ?_; rintro e w1 ⟨rfl, hb1⟩)
    go_ret2
    exact ⟨_, rfl, by simp only [openR, if_neg H0.out]; exact World.ownsRow_nil w1 _ _ _, hb1⟩

theorem s_stands (A : Option Addr) (l : List Course) (c : Nat) (p side : Int) (w : World) (hl : l.length ≤ 100000) (hR : Rd Course.cs 6 w A l) :
    Calls Try.prog 44 #[.slice A l.length c, .int .i64 p, .int .i64 side] w fun e w' => e = .returned (.tuple #[.bool (standsR l p side), .int .i64 (windyE l 0 p side)]) ∧ Below w.heap.size w w' := by
  have HC := Lib.hid (s_windy A l c 0 p side w hl hR)
  by_cases h0 : windyE l 0 p side = 0
  · obtain ⟨hv, hp0, hp1, hs0, hs1⟩ := windy0 l h0
    have hlen := lostsL_len holdsB l p side
    have HL := Lib.hid (fun W (h : Below w.heap.size w W) => s_lostH A l c p side W hv (hR.on h) hp0 hp1 hs0 hs1)
    have HE : Hid (standsR l p side = ((lostsL holdsB l p side).length == 0)) := by show _ = _; unfold standsR; rw [if_pos h0]
    rw [h0] at HC ⊢
    clear h0 hv
    go_enter Try.func44, Try.ntmps44
    go_wp2_with (first
      | (go_at_call 65; refine HC.out.mono ?_; rintro e w1 ⟨rfl, hb1⟩)
      | (go_at_call 76; refine (HL.out _ hb1).mono ?_; rintro e w2 ⟨v, rfl, hr2, hb2⟩; obtain ⟨ad, cp, rfl⟩ := ownsRow_slice hr2))
    go_ret2
    refine ⟨ret_tup2 (a := .bool (((lostsL holdsB l p side).length : Int) == 0)) (congrArg Value.bool ?_) rfl, below_tr hb1 hb2⟩
    rw [HE.out, Bool.eq_iff_iff]; simp
  · have H0 := Lib.hid h0
    have t1 : (windyE l 0 p side != 0) = true := by simpa using h0
    clear h0
    go_enter Try.func44, Try.ntmps44
    go_wp2_with (go_at_call 65; refine HC.out.mono ?_; rintro e w1 ⟨rfl, hb1⟩)
    go_ret2
    exact ⟨by simp only [standsR, if_neg H0.out]; rfl, hb1⟩

def fallsR (l : List Course) (p side : Int) : Int × Int := if windyE l 0 p side = 0 then (match lostsL holdsB l p side with | [] => (0, 8) | b :: _ => ((b : Int), 0)) else (0, windyE l 0 p side)

theorem s_falls (A : Option Addr) (l : List Course) (c : Nat) (p side : Int) (w : World) (hl : l.length ≤ 100000) (hR : Rd Course.cs 6 w A l) :
    Calls Try.prog 48 #[.slice A l.length c, .int .i64 p, .int .i64 side] w fun e w' => e = .returned (.tuple #[.int .i64 (fallsR l p side).1, .int .i64 (fallsR l p side).2]) ∧ Below w.heap.size w w' := by
  have HC := Lib.hid (s_windy A l c 0 p side w hl hR)
  by_cases h0 : windyE l 0 p side = 0
  · obtain ⟨hv, hp0, hp1, hs0, hs1⟩ := windy0 l h0
    have HL := Lib.hid (fun W (h : Below w.heap.size w W) => s_lostH A l c p side W hv (hR.on h) hp0 hp1 hs0 hs1)
    have HE : Hid (fallsR l p side = (match lostsL holdsB l p side with | [] => (0, 8) | b :: _ => ((b : Int), 0))) := by show _ = _; unfold fallsR; rw [if_pos h0]
    rw [h0] at HC
    clear h0 hv
    cases hs : lostsL holdsB l p side with
    | nil =>
      have HS := Lib.hid hs
      clear hs
      go_enter Try.func48, Try.ntmps48
      go_wp2_with (first
        | (go_at_call 65; refine HC.out.mono ?_; rintro e w1 ⟨rfl, hb1⟩)
        | (go_at_call 76; refine (HL.out _ hb1).mono ?_; rintro e w2 ⟨v, rfl, hr2, hb2⟩; rw [show lostL holdsB l p side (List.range l.length).reverse = [] from HS.out] at hr2; obtain ⟨ad, cp, rfl⟩ := ownsRow_slice hr2))
      go_ret2
      exact ⟨by rw [HE.out, HS.out]; rfl, below_tr hb1 hb2⟩
    | cons b t =>
      have HS := Lib.hid hs
      clear hs
      go_enter Try.func48, Try.ntmps48
      go_wp2_with (first
        | (go_at_call 65; refine HC.out.mono ?_; rintro e w1 ⟨rfl, hb1⟩)
        | (go_at_call 76; refine (HL.out _ hb1).mono ?_; rintro e w2 ⟨v, rfl, hr2, hb2⟩; rw [show lostL holdsB l p side (List.range l.length).reverse = b :: t from HS.out] at hr2; obtain ⟨g, cap, rfl, hg, hg2, hcell⟩ := nat_at hr2 (by simp); have q0 := hcell 0 (by simp); simp only [List.getElem_cons_zero] at q0))
      go_ret2
      exact ⟨by rw [HE.out, HS.out]; rfl, below_tr hb1 hb2⟩
  · have H0 := Lib.hid h0
    have t1 : (windyE l 0 p side != 0) = true := by simpa using h0
    clear h0
    go_enter Try.func48, Try.ntmps48
    go_wp2_with (go_at_call 65; refine HC.out.mono ?_; rintro e w1 ⟨rfl, hb1⟩)
    go_ret2
    exact ⟨by simp only [fallsR, if_neg H0.out]; rfl, hb1⟩
end Go.Proofs.Ythoemokkfijfeaa
