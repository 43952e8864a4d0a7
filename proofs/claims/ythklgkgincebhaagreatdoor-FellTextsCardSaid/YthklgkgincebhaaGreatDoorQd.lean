/- Texts: what the library's variables hold; Cut, Split, Atoi, Itoa, Join. -/
import Derived.Test.YthklgkgincebhaaGreatDoorQa
import Derived.Test.YthklgkgincebhaaGreatDoorQq
import Derived.Test.YthklgkgincebhaaGreatDoorShelf
import Derived.Lib.AppendIntMem
import Derived.Lib.AtoiErrMem
set_option linter.unusedSimpArgs false
set_option linter.unusedVariables false
namespace Go.Proofs.YthklgkgincebhaaGreatDoor.Tx
open Go.RowKit Go.Lib

abbrev TabP (w : World) : Prop := Lib.TabIs Tryz.prog w "internal/strconv.uint64pow10" .u64 Lib.pow10Tab
theorem tab_on {P : Program} {w w' : World} {name : String} {k : IntKind} {zs : List Int} (h : Lib.TabIs P w name k zs) (hb : Below w.heap.size w w') : Lib.TabIs P w' name k zs := by
  unfold Lib.TabIs World.var? at *
  cases hg : P.globalNamed name with
  | none => simp [hg] at h
  | some g =>
    simp only [hg, Option.bind_some] at h ⊢
    have hlt : g < w.heap.size := by
      rcases Nat.lt_or_ge g w.heap.size with h' | h'
      · exact h'
      · rw [Array.getElem?_eq_none h'] at h; simp at h
    rw [hb.block g hlt]
    exact h
/-- what the library's variables hold -/
structure LdW (w : World) : Prop where
  tab : TabP w
  mx : ∃ m, w.cell? ⟨0, 0, none⟩ = some (.int .i64 m)
  sy : ∃ ev, w.cell? ⟨1, 0, none⟩ = some ev ∧ (ev = .nilIface ∨ ∃ te pe, ev = .iface te pe)
  rg : ∃ ev, w.cell? ⟨2, 0, none⟩ = some ev ∧ (ev = .nilIface ∨ ∃ te pe, ev = .iface te pe)
theorem cell_on {w w' : World} {g o : Nat} {v : Value} (h : w.cell? ⟨g, o, none⟩ = some v) (hb : Below w.heap.size w w') : w'.cell? ⟨g, o, none⟩ = some v := by
  have hlt : g < w.heap.size := World.block_lt_of_cell? w ⟨g, o, none⟩ h
  exact ((bcell hb).1 g o hlt).trans h
theorem LdW.on {w w' : World} (h : LdW w) (hb : Below w.heap.size w w') : LdW w' :=
  ⟨tab_on h.tab hb, h.mx.imp fun _ q => cell_on q hb, h.sy.imp fun _ q => ⟨cell_on q.1 hb, q.2⟩, h.rg.imp fun _ q => ⟨cell_on q.1 hb, q.2⟩⟩
theorem c_Split (s : ByteArray) (w : World) (hs : s.size ≤ 100000) (hL : LdW w) :
    Calls Tryz.prog 19 #[.string s, .string ⟨#[32]⟩] w fun e w' => e = .returned (.slice (some ⟨w.heap.size, 0, none⟩) (cutZ 32 s.data.toList).length (cutZ 32 s.data.toList).length) ∧ w' = w.alloc (.cells (fl stG (cutZ 32 s.data.toList)).toArray 9) := by
  obtain ⟨m, hm⟩ := hL.mx
  refine (Tryz.strings_Split s ⟨#[32]⟩ m w (by omega) hm (by decide)).mono ?_
  rintro e w' ⟨rfl, rfl⟩
  have h1 : (Lib.splitB ⟨#[32]⟩ 0 (Lib.countB s ⟨#[32]⟩) s).map (·.data.toList) = cutZ 32 s.data.toList := by
    rw [splitB_data, ← split_cut]; rfl
  have h2 : (Lib.splitB ⟨#[32]⟩ 0 (Lib.countB s ⟨#[32]⟩) s).length = Lib.countB s ⟨#[32]⟩ + 1 := splitB_all _ (by decide) 0 _ s rfl
  have h3 : (cutZ 32 s.data.toList).length = Lib.countB s ⟨#[32]⟩ + 1 := by rw [← h1, List.length_map, h2]
  have h4 : (Lib.splitB ⟨#[32]⟩ 0 (Lib.countB s ⟨#[32]⟩) s).map Value.string = fl stG (cutZ 32 s.data.toList) := by
    rw [← h1]
    generalize Lib.splitB ⟨#[32]⟩ 0 (Lib.countB s ⟨#[32]⟩) s = X
    induction X with
    | nil => rfl
    | cons x r ih =>
      simp only [List.map_cons, fl, List.flatMap_cons] at ih ⊢
      rw [ih]
      rfl
  rw [h3, h4]
  exact ⟨rfl, rfl⟩
theorem c_CutNl (s : ByteArray) (w : World) (hs : s.size ≤ 100000) (hL : LdW w) :
    Calls Tryz.prog 18 #[.string s, .string ⟨#[10]⟩] w fun e w' => e = .returned (.tuple #[.string (bts (Lib.cut s.data.toList [10]).1), .string (bts (Lib.cut s.data.toList [10]).2.1), .bool (Lib.cut s.data.toList [10]).2.2]) ∧ Below w.heap.size w w' := by
  obtain ⟨m, hm⟩ := hL.mx
  refine (Tryz.strings_Cut s ⟨#[10]⟩ m w (by omega) hm).mono ?_
  rintro e w' ⟨rfl, n, rfl⟩
  exact ⟨rfl, below_drewN (below_refl _) _⟩
/-- Atoi: its number; no error exactly at a numeral -/
theorem c_AtoiB (s : ByteArray) (w : World) (hs : s.size ≤ 100000) (hL : LdW w) :
    Calls Tryz.prog 20 #[.string s] w fun e w' => (∃ er, e = .returned (.tuple #[.int .i64 (valA s.data.toList), er]) ∧ (okA s.data.toList = true → er = .nilIface) ∧ (okA s.data.toList = false → ∃ te pe, er = .iface te pe)) ∧ Below w.heap.size w w' := by
  cases h : atoiAll s.data.toList
  · rename_i v
    refine (Tryz.strconv_Atoi_ok s (by omega) v h w).mono ?_
    rintro e w' ⟨rfl, hw⟩
    refine ⟨⟨_, by unfold valA; rw [h], fun _ => rfl, fun q => by unfold okA at q; rw [h] at q; cases q⟩, ?_⟩
    rcases hw with rfl | ⟨t, rfl⟩
    · exact below_refl _
    · exact Lib.bytesWorld_below _ _ _
  · obtain ⟨ev, h1, h2⟩ := hL.sy
    refine (Any.strconv_Atoi_syntax Tryz.laysC172 s (by omega) h ev w h1 h2).mono ?_
    rintro e w' ⟨N, rfl, _, _, hb⟩
    exact ⟨⟨_, by unfold valA; rw [h], fun q => (by unfold okA at q; rw [h] at q; cases q), fun _ => ⟨_, _, rfl⟩⟩, hb⟩
  · obtain ⟨ev, h1, h2⟩ := hL.rg
    refine (Tryz.strconv_Atoi_range s (by omega) h ev w h1 h2).mono ?_
    rintro e w' ⟨N, rfl, _, _, hb⟩
    exact ⟨⟨_, by unfold valA; rw [h], fun q => (by unfold okA at q; rw [h] at q; cases q), fun _ => ⟨_, _, rfl⟩⟩, hb⟩
theorem c_ItoaV (n : Int) (w : World) (h0 : -9223372036854775808 ≤ n) (h1 : n ≤ 9223372036854775807) (hT : TabP w) :
    Calls Tryz.prog 34 #[.int .i64 n] w fun e w' => e = .returned (.string (bts (itoa n))) ∧ Below w.heap.size w w' := by
  refine (Tryz.strconv_Itoa n h0 h1 w hT).mono ?_
  rintro e w' ⟨rfl, k, os, rfl⟩
  exact ⟨rfl, Lib.below_grow _ _ (Nat.le_refl _) _ _⟩
end Go.Proofs.YthklgkgincebhaaGreatDoor.Tx
