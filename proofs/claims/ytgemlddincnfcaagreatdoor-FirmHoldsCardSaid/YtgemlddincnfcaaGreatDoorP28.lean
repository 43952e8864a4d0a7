/- The parts of the proof, part 28. -/
import Derived.Test.YtgemlddincnfcaaGreatDoorP0
import Derived.Test.YtgemlddincnfcaaGreatDoorP27
set_option linter.unusedSimpArgs false
set_option linter.unusedVariables false
namespace Go.Proofs.YtgemlddincnfcaaGreatDoor.Fi
open Go.RowKit Go.Lib Tx
theorem c_SplitAt (d : UInt8) (s : List UInt8) (w : World) (hs : s.length ≤ 100000) (hL : LdW w) :
  Calls Tryz.prog 48 #[.string (bts s), .string ⟨#[d]⟩] w fun e w' => ∃ b, e = .returned (.slice (some ⟨b, 0, none⟩) (cutZ d s).length (cutZ d s).length) ∧ Below w.heap.size w w' ∧ Rd stG 1 w' (some ⟨b, 0, none⟩) (cutZ d s) ∧ w.heap.size ≤ b ∧ b < w'.heap.size := by
 obtain ⟨m, hm⟩ := hL.mx
 refine (Tryz.strings_Split (bts s) ⟨#[d]⟩ m w (by rw [bts_size]; omega) hm (by simp [ByteArray.size])).mono ?_
 rintro e w' ⟨rfl, rfl⟩
 have h1 : (Lib.splitB ⟨#[d]⟩ 0 (Lib.countB (bts s) ⟨#[d]⟩) (bts s)).map (·.data.toList) = cutZ d s := by
  have e : ∀ x : ByteArray, (Lib.splitB ⟨#[d]⟩ 0 (Lib.countB x ⟨#[d]⟩) x).map (·.data.toList) = Lib.split x.data.toList [d] := fun x => by rw [splitB_data]; rfl
  rw [e, split_cut, bts_list]
 have h2 : (Lib.splitB ⟨#[d]⟩ 0 (Lib.countB (bts s) ⟨#[d]⟩) (bts s)).length = Lib.countB (bts s) ⟨#[d]⟩ + 1 := splitB_all _ (by simp [ByteArray.size]) 0 _ (bts s) rfl
 have h3 : (cutZ d s).length = Lib.countB (bts s) ⟨#[d]⟩ + 1 := by rw [← h1, List.length_map, h2]
 have h4 : (Lib.splitB ⟨#[d]⟩ 0 (Lib.countB (bts s) ⟨#[d]⟩) (bts s)).map Value.string = fl stG (cutZ d s) := by
  rw [← h1]
  generalize Lib.splitB ⟨#[d]⟩ 0 (Lib.countB (bts s) ⟨#[d]⟩) (bts s) = X
  induction X with
  | nil => rfl
  | cons x r ih =>
   simp only [List.map_cons, fl, List.flatMap_cons] at ih ⊢
   rw [ih]
   rfl
 rw [h3, h4]
 refine ⟨w.heap.size, by simp, bl_alloc (below_refl w) _, ?_, Nat.le_refl _, by simp⟩
 generalize cutZ d s = P
 have hf : fl stG P = P.map (fun p => Value.string (bts p)) := by
  unfold fl
  induction P with
  | nil => rfl
  | cons p r ih => rw [List.flatMap_cons, ih]; rfl
 rw [hf]
 intro _
 refine ⟨w.heap.size, 0, rfl, by simp, fun k x hx j v hv => ?_⟩
 have hb := Blk.new w 9 (P.map (fun p => Value.string (bts p))).toArray
 cases j with
 | zero =>
  simp [stG] at hv
  subst hv
  rw [show 0 + k * 1 + 0 = k by omega, hb.cell k, List.getElem?_toArray, List.getElem?_map, hx]
  rfl
 | succ j => simp [stG] at hv
theorem rdc {W : World} {b off : Nat} {P : List (List UInt8)} (h : Rd stG 1 W (some ⟨b, off, none⟩) P) {k : Nat} {p : List UInt8} (hp : P[k]? = some p) : W.cell? ⟨b, off + k, none⟩ = some (.string (bts p)) := by
 obtain ⟨b', off', e, hb, hc⟩ := h.get hp
 cases e
 have := hc 0 (.string (bts p)) rfl
 rw [show off + k * 1 + 0 = off + k by omega] at this
 exact this
theorem rdz {W : World} {b off : Nat} {P : List Int} (h : Rd zC 1 W (some ⟨b, off, none⟩) P) {k : Nat} {p : Int} (hp : P[k]? = some p) : W.cell? ⟨b, off + k, none⟩ = some (.int .i64 p) := by
 obtain ⟨b', off', e, hb, hc⟩ := h.get hp
 cases e
 have := hc 0 (.int .i64 p) rfl
 rw [show off + k * 1 + 0 = off + k by omega] at this
 exact this
theorem rd_dropA {α : Type} {enc : α → List Value} {sz : Nat} {w : World} {b off : Nat} {l : List α} (h : Rd enc sz w (some ⟨b, off, none⟩) l) (n : Nat) : Rd enc sz w (some ⟨b, off + n * sz, none⟩) (l.drop n) := fun hne => by
 obtain ⟨b', off', e, hb, hc⟩ := h (by rintro rfl; simp at hne)
 cases e
 refine ⟨b, off + n * sz, rfl, hb, fun k x hx j v hv => ?_⟩
 rw [List.getElem?_drop] at hx
 rw [show off + n * sz + k * sz + j = off + (n + k) * sz + j by rw [Nat.add_mul]; omega]
 exact hc _ x hx j v hv
theorem rd_bts {W : World} {A : Option Addr} {P : List (List UInt8)} (h : Rd stG 1 W A P) : Rd G.sC 1 W A (P.map bts) := fun hne => by
 obtain ⟨b, off, e, hb, hc⟩ := h (by rintro rfl; simp at hne)
 refine ⟨b, off, e, hb, fun k x hx j v hv => ?_⟩
 rw [List.getElem?_map] at hx
 cases hp : P[k]? with
 | none => rw [hp] at hx; simp at hx
 | some p =>
  rw [hp] at hx
  simp at hx
  subst hx
  exact hc k p hp j v hv
theorem has_emp (P : List (List UInt8)) : G.hasB (P.map bts) ⟨#[]⟩ = decide ([] ∈ P) := by
 have e : (⟨#[]⟩ : ByteArray).toList = [] := by rw [ByteArray.toList_eq]
 rw [Bool.eq_iff_iff, decide_eq_true_iff]
 unfold G.hasB
 rw [List.any_eq_true]
 constructor
 ·rintro ⟨x, hx, h⟩
  obtain ⟨p, hp, rfl⟩ := List.mem_map.1 hx
  rw [bts_emp, e, beq_iff_eq] at h
  rw [h]; exact hp
 ·intro h
  exact ⟨bts [], List.mem_map.2 ⟨[], h, rfl⟩, by rw [bts_emp, e]; rfl⟩
theorem nums_no {P : List (List UInt8)} {w w' : World} {e : Ending} (h : nmsO P = none) (hn : NumP P w e w') : e = .returned (.tuple #[.slice none 0 0, .bool false]) ∧ Below w.heap.size w w' := by
 obtain ⟨hb, hm⟩ := hn
 rw [h] at hm
 exact ⟨hm, hb⟩
theorem nums_yes {P : List (List UInt8)} {ns : List Int} {m : Nat} {w w' : World} {e : Ending} (h : nmsO P = some ns) (hl : ns.length = m) (hn : NumP P w e w') : ∃ A c, e = .returned (.tuple #[.slice A m c, .bool true]) ∧ Rd zC 1 w' A ns ∧ m ≤ c ∧ Below w.heap.size w w' := by
 obtain ⟨hb, hm⟩ := hn
 rw [h] at hm
 obtain ⟨A, c, he, hg⟩ := hm
 subst hl
 exact ⟨A, c, he, hg.rd, hg.lc, hb⟩
theorem nums_yes1 {P : List (List UInt8)} {ns : List Int} {m : Nat} {w w' : World} {e : Ending} (h : nmsO P = some ns) (hl : ns.length = m) (h1 : 1 ≤ m) (hn : NumP P w e w') : ∃ b off c, e = .returned (.tuple #[.slice (some ⟨b, off, none⟩) m c, .bool true]) ∧ Rd zC 1 w' (some ⟨b, off, none⟩) ns ∧ m ≤ c ∧ Below w.heap.size w w' := by
 obtain ⟨A, c, he, hr, hc, hb⟩ := nums_yes h hl hn
 obtain ⟨b, off, e', _⟩ := hr (by rintro rfl; simp at hl; omega)
 subst e'
 exact ⟨b, off, c, he, hr, hc, hb⟩
theorem lks_nil {P : List (List UInt8)} {w w' : World} {e : Ending} (h : lksO P = none) (hn : LksP P w e w') : e = .returned (.tuple #[.slice none 0 0, .bool false]) ∧ Below w.heap.size w w' := by
 obtain ⟨hb, hm⟩ := hn
 rw [h] at hm
 exact ⟨hm, hb⟩
theorem lks_som {P : List (List UInt8)} {ns : List G.Lk} {w w' : World} {e : Ending} (h : lksO P = some ns) (hn : LksP P w e w') : ∃ A c, e = .returned (.tuple #[.slice A ns.length c, .bool true]) ∧ Rd G.Lk.cs 2 w' A ns ∧ Below w.heap.size w w' := by
 obtain ⟨hb, hm⟩ := hn
 rw [h] at hm
 obtain ⟨A, c, he, hg⟩ := hm
 exact ⟨A, c, he, hg.rd, hb⟩
theorem nms_some {P : List (List UInt8)} {ns : List Int} (h : nmsO P = some ns) : ns.length = P.length ∧ ∀ x ∈ ns, I64 x := by
 rw [nms_is] at h
 split at h
 ·rename_i ha
  cases h
  refine ⟨List.length_map .., fun x hx => ?_⟩
  obtain ⟨p, hp, rfl⟩ := List.mem_map.1 hx
  have := ((T6.num_iff p).1 (List.all_eq_true.1 ha p hp)).2
  unfold I64; omega
 ·cases h
theorem lks_some {P : List (List UInt8)} {ns : List G.Lk} (hs : ∀ p ∈ P, p.length ≤ 100000) (h : lksO P = some ns) : ns.length = P.length ∧ ∀ k ∈ ns, G.LW k := by
 rw [lks_is] at h
 split at h
 ·rename_i ha
  cases h
  refine ⟨List.length_map .., fun x hx => ?_⟩
  obtain ⟨p, hp, rfl⟩ := List.mem_map.1 hx
  have h1 := List.all_eq_true.1 ha p hp
  unfold lkB at h1
  have h2 := ((T6.num_iff _).1 (Bool.and_eq_true_iff.1 h1).2).2
  have h3 := (cut_szs 58 p).1
  have h4 := hs p hp
  unfold lkZ
  constructor
  all_goals dsimp only; (try rw [bts_size]); (try unfold maxLen); omega
 ·cases h
def ComP (s : List UInt8) (w : World) (e : Ending) (w' : World) : Prop := Below w.heap.size w w' ∧
 match cmdO s with
 | none => e = .returned .nilIface
 | some c => ∃ v, e = .returned v ∧ CmV w' c v
theorem com_no {s : List UInt8} {w w' : World} (h : cmdO s = none) (hb : Below w.heap.size w w') : ComP s w (.returned .nilIface) w' := ⟨hb, by rw [h]⟩
theorem com_yes {s : List UInt8} {c : Cm} {v : Value} {w w' : World} (h : cmdO s = some c) (hv : CmV w' c v) (hb : Below w.heap.size w w') : ComP s w (.returned v) w' := ⟨hb, by rw [h]; exact ⟨v, rfl, hv⟩⟩
theorem cmd_is {s p0 : List UInt8} {R : List (List UInt8)} (hP : cutZ 32 s = p0 :: R) (he : [] ∉ p0 :: R) : cmdO s =
  (if p0 = [114, 105, 103] ∧ 1 < R.length then (match nmsO (R.take 1), lksO (R.drop 1) with | some [n], some l => some (.rig n l) | _, _ => none)
  else if p0 = [108, 111, 111, 107] ∧ R.length = 1 then some (.look (bts (R.getD 0 [])))
  else if p0 = [99, 97, 108, 108] ∧ R.length = 1 then some (.call (bts (R.getD 0 [])))
  else match nmsO R with
   | none => none
   | some n =>
    if p0 = [108, 105, 102, 116] ∧ 1 < n.length then some (.lift (n.getD 0 0) (n.drop 1))
    else if p0 = [100, 97, 121] ∧ n.length = 0 then some .day
    else if n.length = 1 then sngO p0 (n.getD 0 0)
    else if p0 = [117, 112] ∧ n.length = 2 then some (.up (n.getD 0 0) (n.getD 1 0))
    else if p0 = [100, 111, 119, 110] ∧ n.length = 2 then some (.down (n.getD 0 0) (n.getD 1 0))
    else none) := by
 unfold cmdO
 rw [hP]
 dsimp only
 rw [if_neg he]
 rfl
end Go.Proofs.YtgemlddincnfcaaGreatDoor.Fi
