/- Wind's texts: what the laid variables hold; Split and Atoi; Parse of the program. -/
import Derived.Test.YtoelekhkgknneaaDoorTh
set_option linter.unusedSimpArgs false
set_option linter.unusedVariables false
namespace Go.Proofs.YtoelekhkgknneaaDoor
open Go.RowKit Go.Lib

/-- what the library's variables hold -/
structure LdW (w : World) : Prop where
  tab : TabP w
  mx : ∃ m, w.cell? ⟨0, 0, none⟩ = some (.int .i64 m)
  sy : ∃ ev, w.cell? ⟨1, 0, none⟩ = some ev ∧ (ev = .nilIface ∨ ∃ te pe, ev = .iface te pe)
  rg : ∃ ev, w.cell? ⟨2, 0, none⟩ = some ev ∧ (ev = .nilIface ∨ ∃ te pe, ev = .iface te pe)
theorem cell_on {w w' : World} {g o : Nat} {v : Value} (h : w.cell? ⟨g, o, none⟩ = some v) (hb : Below w.heap.size w w') : w'.cell? ⟨g, o, none⟩ = some v := by
  have hlt : g < w.heap.size := World.block_lt_of_cell? w ⟨g, o, none⟩ h
  exact ((bcell hb).1 g o hlt).trans h
theorem LdW.on {w w' : World} (h : LdW w) (hb : Below w.heap.size w w') : LdW w' :=
  ⟨tab_on h.tab hb, h.mx.imp fun _ q => cell_on q hb, h.sy.imp fun _ q => ⟨cell_on q.1 hb, q.2⟩, h.rg.imp fun _ q => ⟨cell_on q.1 hb, q.2⟩⟩
theorem c_Split (s : ByteArray) (w : World) (hs : s.size ≤ 100000) (hL : LdW w) :
    Calls Tryd.prog 43 #[.string s, .string ⟨#[32]⟩] w fun e w' => e = .returned (.slice (some ⟨w.heap.size, 0, none⟩) (cutZ 32 s.data.toList).length (cutZ 32 s.data.toList).length) ∧ w' = w.alloc (.cells (fl stG (cutZ 32 s.data.toList)).toArray 9) := by
  obtain ⟨m, hm⟩ := hL.mx
  refine (Tryd.strings_Split s ⟨#[32]⟩ m w (by omega) hm (by decide)).mono ?_
  rintro e w' ⟨rfl, rfl⟩
  have h1 : (Lib.splitB ⟨#[32]⟩ 0 (Lib.countB s ⟨#[32]⟩) s).map (·.data.toList) = cutZ 32 s.data.toList := by
    rw [splitB_data, ← split_cut]; rfl
  have h2 : (Lib.splitB ⟨#[32]⟩ 0 (Lib.countB s ⟨#[32]⟩) s).length = Lib.countB s ⟨#[32]⟩ + 1 := splitB_all _ (by decide) 0 _ s rfl
  have h3 : (cutZ 32 s.data.toList).length = Lib.countB s ⟨#[32]⟩ + 1 := by rw [← h1, List.length_map, h2]
  have h4 : (Lib.splitB ⟨#[32]⟩ 0 (Lib.countB s ⟨#[32]⟩) s).map Value.string = fl stG (cutZ 32 s.data.toList) := by
    rw [← h1]
    generalize Lib.splitB ⟨#[32]⟩ 0 (Lib.countB s ⟨#[32]⟩) s = X
    induction X with
    | nil => rfl
    | cons x r ih =>
      simp only [List.map_cons, fl, List.flatMap_cons] at ih ⊢
      rw [ih]
      rfl
  rw [h3, h4]
  exact ⟨rfl, rfl⟩
/-- Atoi: the number, and an error or none -/
theorem c_Atoi (s : ByteArray) (w : World) (hs : s.size ≤ 100000) (hL : LdW w) :
    Calls Tryd.prog 44 #[.string s] w fun e w' => Below w.heap.size w w' ∧ ((e = .returned (.tuple #[.int .i64 (gotI s.data.toList), .nilIface]) ∧ ∃ v, atoiAll s.data.toList = .ok v) ∨ (gotI s.data.toList = -1 ∧ ∃ x t p, e = .returned (.tuple #[.int .i64 x, .iface t p]))) := by
  cases h : atoiAll s.data.toList
  · rename_i v
    refine (Tryd.strconv_Atoi_ok s (by omega) v h w).mono ?_
    rintro e w' ⟨rfl, hw⟩
    refine ⟨?_, .inl ⟨by unfold gotI; rw [h], v, rfl⟩⟩
    rcases hw with rfl | ⟨t, rfl⟩
    · exact below_refl _
    · exact Lib.bytesWorld_below _ _ _
  · obtain ⟨ev, h1, h2⟩ := hL.sy
    refine (Any.strconv_Atoi_syntax Tryd.laysC172 s (by omega) h ev w h1 h2).mono ?_
    rintro e w' ⟨N, rfl, _, _, hb⟩
    exact ⟨hb, .inr ⟨by unfold gotI; rw [h], _, _, _, rfl⟩⟩
  · obtain ⟨ev, h1, h2⟩ := hL.rg
    refine (Tryd.strconv_Atoi_range s (by omega) h ev w h1 h2).mono ?_
    rintro e w' ⟨N, rfl, _, _, hb⟩
    exact ⟨hb, .inr ⟨by unfold gotI; rw [h], _, _, _, rfl⟩⟩
theorem got_bd (L : List UInt8) : -9223372036854775808 ≤ gotI L ∧ gotI L ≤ 9223372036854775807 := by
  unfold gotI
  split
  · rename_i v h
    unfold atoiAll at h
    split at h
    · cases h
    · dsimp only at h
      split at h
      · cases h
      · cases h
      · rename_i u hu
        split at h
        · cases h
        · split at h
          · cases h
          · injection h with h
            split at h <;> omega
  · omega
/-- what Parse answers -/
def paE (L : List UInt8) : Int := match parZ L with
  | some _ => 0
  | none => 2
def paL (L : List UInt8) : List Int := (parZ L).getD []
def PaP (L : List UInt8) (w : World) (e : Ending) (w' : World) : Prop := ∃ A c, e = .returned (.tuple #[.slice A (paL L).length c, .int .i64 (paE L)]) ∧ Rd zC 1 w' A (paL L) ∧ Below w.heap.size w w'
theorem pa_bad {L : List UInt8} {w w' : World} (h : parZ L = none) (hb : Below w.heap.size w w') : PaP L w (.returned (.tuple #[.slice none 0 0, .int .i64 2])) w' := by
  refine ⟨none, 0, ?_, ?_, hb⟩
  · unfold paL paE; rw [h]; rfl
  · unfold paL; rw [h]; exact fun q => absurd rfl q
theorem pa_good {L : List UInt8} {w w' : World} {l : List Int} {A : Option Addr} {c : Nat} (h : parZ L = some l) (hr : Rd zC 1 w' A l) (hb : Below w.heap.size w w') : PaP L w (.returned (.tuple #[.slice A l.length c, .int .i64 0])) w' := by
  refine ⟨A, c, ?_, ?_, hb⟩
  · unfold paL paE; rw [h]; rfl
  · unfold paL; rw [h]; exact hr
theorem rd_strG {w : World} {b off : Nat} {P : List (List UInt8)} {k : Nat} {p : List UInt8} (h : Rd stG 1 w (some ⟨b, off, none⟩) P) (hk : P[k]? = some p) : w.cell? ⟨b, off + k, none⟩ = some (.string ⟨p.toArray⟩) := by
  obtain ⟨b', off', e, _, hc⟩ := h.get hk
  cases e
  simpa using hc 0 _ rfl
theorem take_snoc {P : List (List UInt8)} {k : Nat} {p : List UInt8} (hk : P[k]? = some p) : P.take (k + 1) = P.take k ++ [p] := by rw [List.take_add_one, hk]; rfl
theorem take_rest {P : List (List UInt8)} {k : Nat} {p : List UInt8} (hk : P[k]? = some p) : P = P.take k ++ p :: P.drop (k + 1) := by
  obtain ⟨h, rfl⟩ := List.getElem?_eq_some_iff.1 hk
  rw [← List.drop_eq_getElem_cons h, List.take_append_drop]
end Go.Proofs.YtoelekhkgknneaaDoor
