/- Gear: items; find and Valid by the reference. -/
import Derived.Test.YtoelekhkgknneaaDoorGa
set_option linter.unusedSimpArgs false
set_option linter.unusedVariables false
namespace Go.Proofs.YtoelekhkgknneaaDoor
open Go.RowKit

structure It where
  nm : ByteArray
  ld : Int
  du : Int
  bt : ByteArray
def It.cs (a : It) : List Value := [.string a.nm, .int .i64 a.ld, .int .i64 a.du, .string a.bt]
theorem It.cs_len (a : It) : a.cs.length = 4 := rfl
abbrev itV (a : It) : Value := .agg #[.string a.nm, .int .i64 a.ld, .int .i64 a.du, .string a.bt]
/-- what comes in is well formed -/
structure IW (a : It) : Prop where
  m : a.nm.size ≤ maxLen
  b : a.bt.size ≤ maxLen
  l0 : -9223372036854775808 ≤ a.ld
  l1 : a.ld ≤ 9223372036854775807
  d0 : -9223372036854775808 ≤ a.du
  d1 : a.du ≤ 9223372036854775807
def itAt (l : List It) (i : Nat) : It := l[i]?.getD ⟨ByteArray.empty, 0, 0, ByteArray.empty⟩
theorem itAt_of {l : List It} {i : Nat} {p : It} (h : l[i]? = some p) : itAt l i = p := by simp [itAt, h]
theorem rdI {w : World} {A : Option Addr} {l : List It} (h : Rd It.cs 4 w A l) {k : Nat} (hk : k < l.length) :
    ∃ x b off, l[k]? = some x ∧ A = some ⟨b, off, none⟩ ∧ b < w.heap.size ∧ w.cell? ⟨b, off + k * 4, none⟩ = some (.string x.nm) ∧ w.cell? ⟨b, off + k * 4 + 1, none⟩ = some (.int .i64 x.ld) ∧ w.cell? ⟨b, off + k * 4 + 2, none⟩ = some (.int .i64 x.du) ∧ w.cell? ⟨b, off + k * 4 + 3, none⟩ = some (.string x.bt) := by
  obtain ⟨x, hx⟩ := get_lt hk
  obtain ⟨b, off, e, hb, hc⟩ := h.get hx
  exact ⟨x, b, off, hx, e, hb, hc 0 _ rfl, hc 1 _ rfl, hc 2 _ rfl, hc 3 _ rfl⟩
def fndI (g : List It) (s : ByteArray) : Int := idxOf (fun x : It => x.nm.toList == s.toList) g 0
theorem idx_bd {α : Type} (p : α → Bool) (l : List α) : ∀ k : Nat, -1 ≤ idxOf p l k ∧ idxOf p l k < k + l.length := by
  induction l with
  | nil => intro k; unfold idxOf; simp; omega
  | cons x l ih =>
    intro k
    unfold idxOf
    have := ih (k + 1)
    split
    · simp; omega
    · simp at this ⊢; omega
theorem fnd_bd (g : List It) (s : ByteArray) : -1 ≤ fndI g s ∧ fndI g s < g.length := by
  have := idx_bd (fun x : It => x.nm.toList == s.toList) g 0
  unfold fndI; simp at this ⊢; omega
set_option maxHeartbeats 1000000 in
set_option maxRecDepth 20000 in
theorem r_find (A : Option Addr) (g : List It) (c : Nat) (s : ByteArray) (w : World) (hl : g.length ≤ 100000) (hR : Rd It.cs 4 w A g) :
    Calls Tryd.prog 50 #[.slice A g.length c, .string s] w fun e w' => e = .returned (.int .i64 (fndI g s)) ∧ w = w' := by
  go_enter Tryd.func50, Tryd.ntmps50
  go_wp2
  go_loop [5] (fun i => ∃ k : Nat, k ≤ g.length ∧ i = .int .i64 k ∧ Hid (fndI g s = idxOf (fun x : It => x.nm.toList == s.toList) (g.drop k) k)) (fun i => g.length - (intOf i).toNat)
  case atStart => exact ⟨0, by omega, rfl, Lib.hid rfl⟩
  case round =>
    obtain ⟨k, hk, rfl, HI⟩ := hrel
    have k0 : (0 : Int) ≤ (k : Int) := Int.natCast_nonneg _
    by_cases hlt : k < g.length
    · have k1 : (k : Int) < (g.length : Int) := by omega
      obtain ⟨x, b, off, hx, rfl, hb, c0, c1, c2, c3⟩ := rdI hR hlt
      have HD := Lib.hid (idxOf_drop (fun x : It => x.nm.toList == s.toList) g k x hx)
      clear hx c1 c2 c3
      cases he : (x.nm.toList == s.toList)
      · have HE := Lib.hid he
        go_wp2
        go_round
        case rel => exact ⟨k + 1, by omega, by go_num, Lib.hid (by rw [HI.out, HD.out, HE.out]; rfl)⟩
        case measure => simp [intOf]; omega
      · have HE := Lib.hid he
        go_wp2
        go_ret
        exact ⟨by rw [HI.out, HD.out, HE.out]; rfl, rfl⟩
    · obtain rfl : k = g.length := by omega
      go_wp2
      go_ret
      exact ⟨by rw [HI.out, List.drop_length]; rfl, rfl⟩
/-- an item that is sound; and its mark stands nowhere before -/
def sndI (x : It) : Bool := nmB x.nm && nmB x.bt && wn x.ld 1 1000000 && wn x.du 0 100000
def okI (g : List It) (i : Nat) : Bool := sndI (itAt g i) && !decide (fndI g (itAt g i).nm < i)
def vldG (g : List It) : Bool := (List.range g.length).all (okI g) && decide (g.length ≤ 64)
theorem vldG_no {g : List It} {k : Nat} {x : It} (hx : g[k]? = some x) (h : (sndI x && !decide (fndI g x.nm < k)) = false) : vldG g = false := by
  have hk : k < g.length := (List.getElem?_eq_some_iff.1 hx).1
  unfold vldG
  rw [Bool.and_eq_false_iff]; left
  rw [List.all_eq_false]
  exact ⟨k, by simpa using hk, by unfold okI; rw [itAt_of hx, h]; simp⟩
theorem okI_step {g : List It} {k : Nat} {x : It} (hx : g[k]? = some x) (h : (List.range k).all (okI g) = true) (hk : (sndI x && !decide (fndI g x.nm < k)) = true) : (List.range (k + 1)).all (okI g) = true := by
  rw [List.range_succ, List.all_append, h]; unfold okI; simp [itAt_of hx]; simpa using hk
theorem vldG_yes {g : List It} (h : (List.range g.length).all (okI g) = true) : vldG g = decide (g.length ≤ 64) := by
  unfold vldG; rw [h, Bool.true_and]
set_option maxHeartbeats 4000000 in
set_option maxRecDepth 20000 in
theorem r_Valid (A : Option Addr) (g : List It) (c : Nat) (w : World) (hl : g.length ≤ 100000) (hR : Rd It.cs 4 w A g) (hW : ∀ x ∈ g, IW x) :
    Calls Tryd.prog 14 #[.slice A g.length c] w fun e w' => e = .returned (.bool (vldG g)) ∧ Below w.heap.size w w' := by
  have HF := Lib.hid (fun s W (h : Below w.heap.size w W) => r_find A g c s W hl (hR.on h))
  go_enter Tryd.func14, Tryd.ntmps14
  go_wp2
  go_loopw [3] (fun i wr => ∃ k : Nat, k ≤ g.length ∧ i = .int .i64 k ∧ Hid ((List.range k).all (okI g) = true) ∧ Below w.heap.size w wr) (fun i _ => g.length - (intOf i).toNat)
  case atStart => exact ⟨0, by omega, rfl, Lib.hid rfl, Below.refl _ _⟩
  case round =>
    obtain ⟨k, hk, rfl, HI, hB⟩ := hrel
    have k0 : (0 : Int) ≤ (k : Int) := Int.natCast_nonneg _
    by_cases hlt : k < g.length
    · have k1 : (k : Int) < (g.length : Int) := by omega
      obtain ⟨x, b, off, hx, rfl, hb, c0, c1, c2, c3⟩ := rdI (hR.on hB) hlt
      have iw := hW x (List.mem_of_getElem? hx)
      have HX := Lib.hid hx
      obtain ⟨fl, fh⟩ := fnd_bd g x.nm
      obtain ⟨F, hF⟩ : ∃ F, fndI g x.nm = F := ⟨_, rfl⟩
      have HN := Lib.hid (fun (v : Bool) (h : nmB x.nm = v) W => calls_bool h (r_isName x.nm W iw.m))
      have HBt := Lib.hid (fun (v : Bool) (h : nmB x.bt = v) W => calls_bool h (r_isName x.bt W iw.b))
      have iw1 := iw.l0
      have iw2 := iw.l1
      have iw3 := iw.d0
      have iw4 := iw.d1
      clear hx iw
      have HFF := Lib.hid hF
      rw [hF] at fl fh
      rcases (by cases nmB x.nm <;> cases nmB x.bt <;> cases wn x.ld 1 1000000 <;> cases wn x.du 0 100000 <;> by_cases hh : F < k <;> simp [hh] : nmB x.nm = false ∨ (nmB x.nm = true ∧ nmB x.bt = false) ∨ (nmB x.nm = true ∧ nmB x.bt = true ∧ wn x.ld 1 1000000 = false) ∨ (nmB x.nm = true ∧ nmB x.bt = true ∧ wn x.ld 1 1000000 = true ∧ wn x.du 0 100000 = false) ∨ (nmB x.nm = true ∧ nmB x.bt = true ∧ wn x.ld 1 1000000 = true ∧ wn x.du 0 100000 = true ∧ F < k) ∨ (nmB x.nm = true ∧ nmB x.bt = true ∧ wn x.ld 1 1000000 = true ∧ wn x.du 0 100000 = true ∧ ¬ F < k)) with h1 | ⟨h1, h2⟩ | ⟨h1, h2, h3⟩ | ⟨h1, h2, h3, h4⟩ | ⟨h1, h2, h3, h4, h5⟩ | ⟨h1, h2, h3, h4, h5⟩
      · have Q1 := Lib.hid (HN.out _ h1)
        have HE := Lib.hid (vldG_no HX.out (by unfold sndI; simp [h1]))
        clear h1 HN HBt
        go_wp2_with (go_at_call 48; ((with_reducible refine (Q1.out _).mono ?_); rintro e w' ⟨rfl, rfl⟩))
        go_ret
        exact ⟨ret_bool (by rw [HE.out]), by (repeat' (first | assumption | exact below_refl _ | refine bl_alloc ?_ _ | refine Below.setCell ?_ ?_ _ | refine below_draw ?_ | refine below_drewN ?_ _ | refine below_tr ?_ (by assumption))) <;> (first | omega | (simp; done) | (simp; omega))⟩
      · have Q1 := Lib.hid (HN.out _ h1)
        have Q2 := Lib.hid (HBt.out _ h2)
        have HE := Lib.hid (vldG_no HX.out (by unfold sndI; simp [h2]))
        clear h1 h2 HN HBt
        go_wp2_with (first | (go_at_call 48; ((with_reducible refine (Q1.out _).mono ?_); rintro e w' ⟨rfl, rfl⟩)) | (go_at_call 48; ((with_reducible refine (Q2.out _).mono ?_); rintro e w' ⟨rfl, rfl⟩)))
        go_ret
        exact ⟨ret_bool (by rw [HE.out]), by (repeat' (first | assumption | exact below_refl _ | refine bl_alloc ?_ _ | refine Below.setCell ?_ ?_ _ | refine below_draw ?_ | refine below_drewN ?_ _ | refine below_tr ?_ (by assumption))) <;> (first | omega | (simp; done) | (simp; omega))⟩
      · have Q1 := Lib.hid (HN.out _ h1)
        have Q2 := Lib.hid (HBt.out _ h2)
        have Q3 := Lib.hid (r_withinV h3)
        have HE := Lib.hid (vldG_no HX.out (by unfold sndI; simp [h3]))
        clear h1 h2 h3 HN HBt
        go_wp2_with (first | (go_at_call 48; ((with_reducible refine (Q1.out _).mono ?_); rintro e w' ⟨rfl, rfl⟩)) | (go_at_call 48; ((with_reducible refine (Q2.out _).mono ?_); rintro e w' ⟨rfl, rfl⟩)) | (go_at_call 49; ((with_reducible refine (Q3.out _).mono ?_); rintro e w' ⟨rfl, rfl⟩)))
        go_ret
        exact ⟨ret_bool (by rw [HE.out]), by (repeat' (first | assumption | exact below_refl _ | refine bl_alloc ?_ _ | refine Below.setCell ?_ ?_ _ | refine below_draw ?_ | refine below_drewN ?_ _ | refine below_tr ?_ (by assumption))) <;> (first | omega | (simp; done) | (simp; omega))⟩
      · have Q1 := Lib.hid (HN.out _ h1)
        have Q2 := Lib.hid (HBt.out _ h2)
        have Q3 := Lib.hid (r_withinV h3)
        have Q4 := Lib.hid (r_withinV h4)
        have HE := Lib.hid (vldG_no HX.out (by unfold sndI; simp [h4]))
        clear h1 h2 h3 h4 HN HBt
        go_wp2_with (first | (go_at_call 48; ((with_reducible refine (Q1.out _).mono ?_); rintro e w' ⟨rfl, rfl⟩)) | (go_at_call 48; ((with_reducible refine (Q2.out _).mono ?_); rintro e w' ⟨rfl, rfl⟩)) | (go_at_call 49; ((with_reducible refine (Q3.out _).mono ?_); rintro e w' ⟨rfl, rfl⟩)) | (go_at_call 49; ((with_reducible refine (Q4.out _).mono ?_); rintro e w' ⟨rfl, rfl⟩)))
        go_ret
        exact ⟨ret_bool (by rw [HE.out]), by (repeat' (first | assumption | exact below_refl _ | refine bl_alloc ?_ _ | refine Below.setCell ?_ ?_ _ | refine below_draw ?_ | refine below_drewN ?_ _ | refine below_tr ?_ (by assumption))) <;> (first | omega | (simp; done) | (simp; omega))⟩
      · have Q1 := Lib.hid (HN.out _ h1)
        have Q2 := Lib.hid (HBt.out _ h2)
        have Q3 := Lib.hid (r_withinV h3)
        have Q4 := Lib.hid (r_withinV h4)
        have Q5 := Lib.hid (fun W h => hF ▸ HF.out x.nm W h)
        have t5 : decide (F < (k : Int)) = true := by simpa using h5
        have HE := Lib.hid (vldG_no HX.out (by rw [hF]; simp [h5]))
        clear h1 h2 h3 h4 HN HBt hF
        go_wp2_with (first | (go_at_call 48; ((with_reducible refine (Q1.out _).mono ?_); rintro e w' ⟨rfl, rfl⟩)) | (go_at_call 48; ((with_reducible refine (Q2.out _).mono ?_); rintro e w' ⟨rfl, rfl⟩)) | (go_at_call 49; ((with_reducible refine (Q3.out _).mono ?_); rintro e w' ⟨rfl, rfl⟩)) | (go_at_call 49; ((with_reducible refine (Q4.out _).mono ?_); rintro e w' ⟨rfl, rfl⟩)) | (go_at_call 50; ((with_reducible refine (Q5.out _ (by (repeat' (first | assumption | exact below_refl _ | refine bl_alloc ?_ _ | refine Below.setCell ?_ ?_ _ | refine below_draw ?_ | refine below_drewN ?_ _ | refine below_tr ?_ (by assumption))) <;> (first | omega | (simp; done) | (simp; omega)))).mono ?_); rintro e w' ⟨rfl, rfl⟩)))
        go_ret
        exact ⟨ret_bool (by rw [HE.out]), by (repeat' (first | assumption | exact below_refl _ | refine bl_alloc ?_ _ | refine Below.setCell ?_ ?_ _ | refine below_draw ?_ | refine below_drewN ?_ _ | refine below_tr ?_ (by assumption))) <;> (first | omega | (simp; done) | (simp; omega))⟩
      · have Q1 := Lib.hid (HN.out _ h1)
        have Q2 := Lib.hid (HBt.out _ h2)
        have Q3 := Lib.hid (r_withinV h3)
        have Q4 := Lib.hid (r_withinV h4)
        have Q5 := Lib.hid (fun W h => hF ▸ HF.out x.nm W h)
        have t5 : decide (F < (k : Int)) = false := by simpa using h5
        have HE := Lib.hid (okI_step HX.out HI.out (by unfold sndI; rw [hF]; simp [h1, h2, h3, h4]; omega))
        clear h1 h2 h3 h4 HN HBt hF
        go_wp2_with (first | (go_at_call 48; ((with_reducible refine (Q1.out _).mono ?_); rintro e w' ⟨rfl, rfl⟩)) | (go_at_call 48; ((with_reducible refine (Q2.out _).mono ?_); rintro e w' ⟨rfl, rfl⟩)) | (go_at_call 49; ((with_reducible refine (Q3.out _).mono ?_); rintro e w' ⟨rfl, rfl⟩)) | (go_at_call 49; ((with_reducible refine (Q4.out _).mono ?_); rintro e w' ⟨rfl, rfl⟩)) | (go_at_call 50; ((with_reducible refine (Q5.out _ (by (repeat' (first | assumption | exact below_refl _ | refine bl_alloc ?_ _ | refine Below.setCell ?_ ?_ _ | refine below_draw ?_ | refine below_drewN ?_ _ | refine below_tr ?_ (by assumption))) <;> (first | omega | (simp; done) | (simp; omega)))).mono ?_); rintro e w' ⟨rfl, rfl⟩)))
        go_roundw
        case rel => exact ⟨k + 1, by omega, by go_num, HE, by (repeat' (first | assumption | exact below_refl _ | refine bl_alloc ?_ _ | refine Below.setCell ?_ ?_ _ | refine below_draw ?_ | refine below_drewN ?_ _ | refine below_tr ?_ (by assumption))) <;> (first | omega | (simp; done) | (simp; omega))⟩
        case measure => simp [intOf]; omega
    · obtain rfl : k = g.length := by omega
      go_wp2
      go_ret
      exact ⟨by rw [vldG_yes HI.out]; simp; omega, by (repeat' (first | assumption | exact below_refl _ | refine bl_alloc ?_ _ | refine Below.setCell ?_ ?_ _ | refine below_draw ?_ | refine below_drewN ?_ _ | refine below_tr ?_ (by assumption))) <;> (first | omega | (simp; done) | (simp; omega))⟩
end Go.Proofs.YtoelekhkgknneaaDoor
