/- Fell: an own list of spots, sorted. -/
import Derived.Test.YthklgkgincebhaaGreatDoorFk
import Derived.Shelf.SlSortCmp.WholeK
set_option linter.unusedSimpArgs false
set_option linter.unusedVariables false
namespace Go.Proofs.YthklgkgincebhaaGreatDoor
open Go.RowKit Go.Shelf

instance : Inhabited Sp := ⟨⟨0, 0⟩⟩
theorem cmpS_lt {a b : Sp} : Go.Proofs.ltOf cmpS a b = true ↔ a.y < b.y ∨ a.y = b.y ∧ a.x < b.x := by
  unfold Go.Proofs.ltOf cmpS
  rw [decide_eq_true_eq]
  unfold Lib.compareInt
  repeat' split
  all_goals omega
theorem cmpS_swo : Go.Sort.SWO (Go.Proofs.ltOf cmpS) where
  irrefl x := by
    cases h : Go.Proofs.ltOf cmpS x x
    · rfl
    · have := cmpS_lt.1 h; omega
  trans x y z h1 h2 := by
    have a := cmpS_lt.1 h1; have b := cmpS_lt.1 h2
    exact cmpS_lt.2 (by omega)
  ntrans x y z h1 h2 := by
    have a := mt cmpS_lt.2 (by rw [h1]; simp); have b := mt cmpS_lt.2 (by rw [h2]; simp)
    cases h : Go.Proofs.ltOf cmpS x z
    · rfl
    · have := cmpS_lt.1 h; omega
theorem lam_lt {a b : Sp} (ha : Bd 10000 a) (hb : Bd 10000 b) (h : a.y < b.y ∨ a.y = b.y ∧ a.x < b.x) : lam 1 100000 a < lam 1 100000 b := by
  unfold Bd at ha hb; unfold lam; omega
theorem take_fl {α : Type} {enc : α → List Value} {sz : Nat} (hs : ∀ a, (enc a).length = sz) {cur : Array Value} {s : List α} (hc : s.length * sz ≤ cur.size) (h : InRow enc sz cur s) : cur.toList.take (s.length * sz) = fl enc s := by
  apply List.ext_getElem?
  intro i
  by_cases hi : i < s.length * sz
  · rw [List.getElem?_take, if_pos hi]
    have hl : i < (fl enc s).length := by rw [fl_length hs]; exact hi
    obtain ⟨u, hu⟩ := get_lt hl
    obtain ⟨k, x, r, rfl, hx, hr⟩ := fl_at hs hu
    rw [hu, Array.getElem?_toList]
    exact h k x hx r u hr
  · rw [List.getElem?_eq_none (by rw [List.length_take]; omega), List.getElem?_eq_none (by rw [fl_length hs]; omega)]
/-- the same row, other elements in it -/
theorem own_turned {α : Type} {enc : α → List Value} {sz : Nat} (hs : ∀ a, (enc a).length = sz) {W W' : World} {base : Nat} {e : TypeId} {g n cap : Nat} {xs : List Value} (h : W.ownsRow base e sz (.slice (some ⟨g, 0, none⟩) n cap) n xs) {cur' : Array Value} {s : List α}
    (hl : s.length = n) (hb : Blk W' g e cur') (hsz : cur'.size = cap * sz) (hr : InRow enc sz cur' s) : W'.ownsRow base e sz (.slice (some ⟨g, 0, none⟩) n cap) n (fl enc s) := by
  refine ⟨by rw [fl_length hs, hl], ?_⟩
  rcases h.2 with ⟨h0, _⟩ | ⟨g', cap', cur, e1, hB, hh, h1, h2, h3, h4⟩
  · cases h0
  · injection e1 with a1 a2 a3
    injection a1 with a1
    injection a1 with a1
    subst a1 a3
    have hle : n * sz ≤ cap * sz := Nat.mul_le_mul_right _ h1
    exact .inr ⟨g, cap, cur', rfl, hB, hb, h1, h2, hsz, by have := take_fl hs (s := s) (by rw [hl, hsz]; exact hle) hr; rwa [hl] at this⟩
theorem blk_own {W : World} {base : Nat} {e : TypeId} {sz g n cap : Nat} {xs : List Value} (h : W.ownsRow base e sz (.slice (some ⟨g, 0, none⟩) n cap) n xs) : ∃ cur, Blk W g e cur ∧ cur.size = cap * sz ∧ n ≤ cap ∧ base ≤ g ∧ cap ≤ maxLen := by
  rcases h.2 with ⟨h0, _⟩ | ⟨g', cap', cur, e1, hB, hh, h1, h2, h3, h4⟩
  · cases h0
  · injection e1 with a1 a2 a3
    injection a1 with a1
    injection a1 with a1
    subst a1 a3
    exact ⟨cur, hh, h3, h1, hB, h2⟩
/-- the world behind the sort -/
theorem sorted_world {w : World} {g m : Nat} {t : TypeId} {cur : Array Value} (hb : Blk w g t cur) (d d' : Array Sp) (os : Array Obj) (hd : d'.size = d.size) (hH : Go.Sort.HoldsK Sp.cs 2 w g 0 d) :
    ∃ cur', cur'.size = cur.size ∧ Blk (Go.Proofs.sortWorldK Sp.cs 2 w g 0 m d' os) g t cur' ∧ InRow Sp.cs 2 cur' d'.toList ∧ Stp (fun b => b = g) w (Go.Proofs.sortWorldK Sp.cs 2 w g 0 m d' os) := by
  have hbk : Blk (Go.Proofs.sortWorldK Sp.cs 2 w g 0 m d' os) g t (Go.Sort.putCells id 0 (Go.Sort.flatK Sp.cs 2 d') cur) := by
    unfold Blk Go.Proofs.sortWorldK Go.Sort.grow Go.Sort.putRowK Go.Sort.putRow Go.Sort.mapBlock Go.Sort.ahead
    have hlt := hb.lt
    unfold Blk at hb
    simp only [Array.getElem?_append, Array.size_modify, hlt, if_true, Array.getElem?_modify, hb, Option.map_some, Go.Sort.onCells]
  refine ⟨_, by unfold Go.Sort.putCells; simp, hbk, fun k x hx r u hr => ?_, ⟨rfl, rfl, rfl, ?_, fun b hlt hne => ?_⟩⟩
  · have hk := (List.getElem?_eq_some_iff.1 hx).1
    rw [Array.length_toList] at hk
    have hr2 : r < 2 := (List.getElem?_eq_some_iff.1 hr).1
    have hlt : k * 2 + r < d'.size * 2 := by omega
    have hc := Go.Sort.cell?_putRow id w g 0 (Go.Sort.flatK Sp.cs 2 d) (Go.Sort.flatK Sp.cs 2 d') hH (by simp [hd]) (k * 2 + r) (by simpa using hlt)
    have hc2 := hbk.cell (k * 2 + r)
    rw [← hc2]
    have hg : (Go.Proofs.sortWorldK Sp.cs 2 w g 0 m d' os).cell? ⟨g, k * 2 + r, none⟩ = (Go.Sort.putRow id w g 0 (Go.Sort.flatK Sp.cs 2 d')).cell? ⟨g, 0 + (k * 2 + r), none⟩ := by
      unfold Go.Proofs.sortWorldK
      rw [Go.Sort.cell?_grow _ _ _ (by show g < _; unfold Go.Sort.putRowK; rw [Go.Sort.size_putRow]; exact hb.lt), Nat.zero_add]
      rfl
    rw [hg, hc]
    rw [Go.Sort.get_flatK _ _ _ _ hlt, show (k * 2 + r) / 2 = k by omega, show (k * 2 + r) % 2 = r by omega]
    have e1 : d'[k]! = x := by
      rw [Array.getElem?_toList] at hx
      rw [getElem!_def, hx]
    rw [e1]
    rw [List.getElem!_eq_getElem?_getD, hr]
    rfl
  · unfold Go.Proofs.sortWorldK Go.Sort.grow Go.Sort.putRowK Go.Sort.putRow Go.Sort.mapBlock Go.Sort.ahead
    simp
  · unfold Go.Proofs.sortWorldK Go.Sort.grow Go.Sort.putRowK Go.Sort.putRow Go.Sort.mapBlock Go.Sort.ahead
    simp only [Array.getElem?_append, Array.size_modify, hlt, if_true, Array.getElem?_modify]
    rw [if_neg (fun e => hne e.symm)]
theorem enters_cmp : ∀ args w, (callFunc 66 args).run Tryz.prog w = .ok (.enter 66 args) w := enters_of Tryz.func66 (by kernel_rfl) rfl
theorem c_Sort0 (a : Option Addr) (c : Nat) (fv : Value) (w : World) : Calls Tryz.prog 83 #[.slice a 0 c, fv] w fun e w' => e = .returned noResult ∧ w = w' := by
  have h1 : ∀ W l, Calls Tryz.prog 96 #[.slice a 0 c, .int .i64 0, .int .i64 0, .int .i64 l, fv] W fun e w' => e = .returned noResult ∧ W = w' := fun W l => by
    have h2 : Calls Tryz.prog 103 #[.slice a 0 c, .int .i64 0, .int .i64 0, fv] W fun e w' => e = .returned noResult ∧ W = w' := by
      go_enter Tryz.func103, Tryz.ntmps103
      go_wp2
      go_loop [8] (fun i => i = .int .i64 1) (fun i => 0)
      case atStart => rfl
      case round =>
        subst hrel
        go_wp2
        go_end0
        exact ⟨rfl, rfl⟩
    have H2 := Lib.hid h2
    clear h2
    go_enter Tryz.func96, Tryz.ntmps96
    go_wp2
    go_loop [1, 2] (fun i j => i = .int .i64 0 ∧ j = .int .i64 0) (fun i _ => 0)
    case atStart => exact ⟨rfl, rfl⟩
    case round =>
      obtain ⟨rfl, rfl⟩ := hrel
      go_wp2_with fail
      refine H2.out.mono ?_
      rintro e w' ⟨rfl, rfl⟩
      go_wp2
      refine bodyPost_ret (results_none rfl _ _ _) rfl ⟨rfl, rfl⟩
  have H1 := Lib.hid h1
  have HL := Lib.hid (fun W => Tryz.bits_Len 0 W (by omega) (by omega))
  clear h1
  go_enter Tryz.func83, Tryz.ntmps83
  go_wp2_with fail
  refine (HL.out _).mono ?_
  rintro e w' ⟨rfl, hw⟩
  subst hw
  go_wp2_with fail
  refine (H1.out _ _).mono ?_
  rintro e w' ⟨rfl, rfl⟩
  go_wp2
  go_end0
  exact ⟨rfl, rfl⟩
/-- a list that reads as l, sorted -/
def SortP (base : Nat) (v : Value) (l : List Sp) (w : World) (e : Ending) (w' : World) : Prop := e = .returned noResult ∧ ∃ s : List Sp, s.Perm l ∧ Asc s ∧ w'.ownsRow base 32 2 v s.length (fl Sp.cs s) ∧ Stp (fun b => v.ownBlock = some b) w w'
theorem holds_row {w : World} {g : Nat} {t : TypeId} {cur : Array Value} {l : List Sp} (hb : Blk w g t cur) (hr : InRow Sp.cs 2 cur l) : Go.Sort.HoldsK Sp.cs 2 w g 0 l.toArray := fun j hj => by
  rw [Go.Sort.size_flatK, List.size_toArray] at hj
  refine ⟨?_, hb.frozen _⟩
  obtain ⟨x, hx⟩ := get_lt (show j / 2 < l.length by omega)
  have hu : (Sp.cs x)[j % 2]? = some ((Sp.cs x)[j % 2]!) := by
    have : j % 2 < (Sp.cs x).length := by show j % 2 < 2; omega
    rw [List.getElem!_eq_getElem?_getD, List.getElem?_eq_getElem this]; rfl
  have h := hr (j / 2) x hx (j % 2) _ hu
  rw [show j / 2 * 2 + j % 2 = j by omega] at h
  rw [Nat.zero_add, hb.cell, h, Go.Sort.get_flatK _ _ _ _ (by rw [List.size_toArray]; exact hj)]
  have : (l.toArray)[j / 2]! = x := by rw [getElem!_def, List.getElem?_toArray, hx]
  rw [this]; rfl
theorem c_Sort (base : Nat) (v : Value) (l : List Sp) (w : World) (h12 : l.length ≤ 24) (hbd : ∀ x ∈ l, Bd 10000 x) (hnd : l.Nodup) (hown : w.ownsRow base 32 2 v l.length (fl Sp.cs l)) :
    Calls Tryz.prog 83 #[v, .func (.func 66) #[] #[]] w (SortP base v l w) := by
  by_cases h0 : l = []
  · subst h0
    obtain ⟨a, c, rfl⟩ := own_slice hown
    refine (c_Sort0 a c _ w).mono ?_
    rintro e w' ⟨rfl, rfl⟩
    exact ⟨rfl, [], List.Perm.refl _, List.Pairwise.nil, hown, Stp.refl _ _⟩
  · have hpos : 0 < l.length := by cases l with | nil => exact absurd rfl h0 | cons a r => simp
    obtain ⟨g, cap, cur, rfl, hg, hb, hr⟩ := own_row Sp.cs_len hown hpos
    have hH := holds_row hb hr
    have hcon := AnyQ.slices_SortFunc Tryz.sortSp 2 Tryz.isAgg32 Tryz.sizeOf32 Sp.cs (fun _ => rfl) spC_one cmpS cmpS_swo 66 #[] g 0 cap l.toArray w enters_cmp
      (fun m os dk _ x y => p_cmp' x y _) hH hb.lt (by simp; omega)
    have hcon' : Calls Tryz.prog 83 #[.slice (some ⟨g, 0, none⟩) l.length cap, .func (.func 66) #[] #[]] w _ := hcon
    refine hcon'.mono ?_
    rintro e w' ⟨rfl, d', n, os, hp, hs, rfl⟩
    obtain ⟨p1, p2, p3⟩ := hp
    have hsz : d'.size = l.toArray.size := p1
    obtain ⟨cur', c1, c2, c3, c4⟩ := sorted_world (m := n) hb l.toArray d' os hsz hH
    have hperm : d'.toList.Perm l := by
      have e1 : (d'.extract 0 l.toArray.size) = d' := by rw [← hsz]; simp
      rw [e1] at p3
      simpa using p3
    have hlen : d'.toList.length = l.length := hperm.length_eq
    obtain ⟨cur2, b2, s2, _, _, _⟩ := blk_own hown
    have ecur : cur2 = cur := by
      have q1 : w.heap[g]? = some (.cells cur2 32 (0, 0)) := b2
      have q2 : w.heap[g]? = some (.cells cur 32 (0, 0)) := hb
      rw [q1] at q2
      injection q2 with q2
      injection q2
    refine ⟨rfl, d'.toList, hperm, ?_, ?_, ?_⟩
    · show d'.toList.Pairwise _
      rw [List.pairwise_iff_getElem]
      intro i j hi hj hij
      have hi' : i < d'.size := by simpa using hi
      have hj' : j < d'.size := by simpa using hj
      have h1 := hs i j (by omega) hij (by rw [← hsz]; exact hj')
      have e1 : d'[i]! = d'.toList[i] := by rw [getElem!_pos d' i hi']; simp
      have e2 : d'[j]! = d'.toList[j] := by rw [getElem!_pos d' j hj']; simp
      rw [e1, e2] at h1
      have hnd' : d'.toList.Nodup := hperm.nodup_iff.2 hnd
      have hne : d'.toList[i] ≠ d'.toList[j] := fun e => by
        have := (List.pairwise_iff_getElem.1 (List.nodup_iff_pairwise_ne.1 hnd')) i j hi hj hij
        exact this e
      have bi := hbd _ (hperm.mem_iff.1 (List.getElem_mem hi))
      have bj := hbd _ (hperm.mem_iff.1 (List.getElem_mem hj))
      refine lam_lt bi bj ?_
      have hnot : ¬ (d'.toList[j].y < d'.toList[i].y ∨ d'.toList[j].y = d'.toList[i].y ∧ d'.toList[j].x < d'.toList[i].x) := fun h => by
        rw [cmpS_lt.2 h] at h1; cases h1
      by_cases ey : d'.toList[i].y = d'.toList[j].y
      · refine .inr ⟨ey, ?_⟩
        rcases Int.lt_trichotomy d'.toList[i].x d'.toList[j].x with q | q | q
        · exact q
        · exact absurd (Sp.ext' q ey) hne
        · exact absurd (.inr ⟨ey.symm, q⟩) hnot
      · left; omega
    · have := own_turned Sp.cs_len hown (s := d'.toList) hlen c2 (by rw [c1, ← ecur]; exact s2) c3
      rw [hlen]; exact this
    · exact c4.mono fun b _ hb => by subst hb; rfl
end Go.Proofs.YthklgkgincebhaaGreatDoor
