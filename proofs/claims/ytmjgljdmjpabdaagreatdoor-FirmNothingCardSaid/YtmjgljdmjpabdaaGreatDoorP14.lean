/- The parts of the proof, part 14. -/
import Derived.Test.YtmjgljdmjpabdaaGreatDoorP0
import Derived.Test.YtmjgljdmjpabdaaGreatDoorP12
import Derived.Deep.AppendLies
set_option linter.unusedSimpArgs false
set_option linter.unusedVariables false
namespace Go.Proofs.YtmjgljdmjpabdaaGreatDoor.Fi
open Go.RowKit Go.Lib Tx
def CloP {α : Type} (enc : α → List Value) (sz : Nat) (t : TypeId) (l : List α) (w : World) (e : Ending) (w' : World) : Prop :=
  ∃ y : Sl α, e = .returned y.v ∧ y.l = l ∧ w'.ownsRow w.heap.size t sz y.v y.l.length (fl enc y.l) ∧ y.l.length ≤ y.c ∧ y.c ≤ maxLen ∧ Below w.heap.size w w'
theorem got_own {α : Type} {enc : α → List Value} {sz base : Nat} {W : World} {e : TypeId} {y : Sl α} {T : Nat → Prop} (hs : ∀ a, (enc a).length = sz) (h : W.ownsRow base e sz y.v y.l.length (fl enc y.l)) (hT : ∀ b, base ≤ b → b < W.heap.size → T b) : Got T W enc sz y := by
  have hc := own_caps h
  refine ⟨own_rd' hs h, fun hne a ha => ?_, hc.1, hc.2⟩
  obtain ⟨b, off, e', hb, _⟩ := own_rd' hs h hne
  rw [e'] at ha; cases ha
  have := own_ge h b (by show (Value.slice y.a _ _).ownBlock = _; rw [e']; rfl)
  exact hT b this.1 this.2
theorem info_Item : ∃ i : TypeInfo, Tryz.prog.info? 71 = some i ∧ i.zero = some (.agg #[.string ByteArray.empty, .int .i64 0, .int .i64 0, .string ByteArray.empty]) ∧ i.size = 4 ∧ i.bytes = 48 := info_parts (by kernel_rfl)
set_option maxRecDepth 20000 in
set_option maxHeartbeats 1000000 in
theorem c_CloneItem (x : Sl G.It) (w : World) (hl : x.l.length ≤ 100000) (hR : Rd G.It.cs 4 w x.a x.l) :
    Calls Tryz.prog 27 #[.slice x.a x.l.length x.c] w (CloP G.It.cs 4 71 x.l w) := by
  obtain ⟨i0, hi, hi1, hi2, hi3⟩ := info_Item
  have hq : ∀ (w : World) (a : Option Addr) (n c n' c' : Nat), (binOp .eql 26 (.slice a n c) (.slice none n' c')).run Tryz.prog w = .ok (.bool a.isNone) w := fun w a n c n' c' => Lib.run_eql_slice_nil w _ _ a n c n' c' Tryz.underlying26
  obtain ⟨A, l, c⟩ := x
  dsimp only at *
  cases A with
  | none =>
    have h0 : l = [] := by
      by_cases h : l = []
      · exact h
      · obtain ⟨_, _, e, _⟩ := hR h; cases e
    subst h0
    go_enter Tryz.func27, Tryz.ntmps27
    go_wp2
    go_ret
    exact ⟨⟨none, [], 0⟩, rfl, rfl, World.ownsRow_nil w _ _ _, Nat.le_refl _, by simp, below_refl _⟩
  | some a =>
    have hcl : ∀ j u, (fl G.It.cs l)[j]? = some u → (w.alloc (.cells #[] 71)).cell? (a.add j) = some u := by
      have hR := hR.on (bl_alloc (below_refl w) (.cells #[] 71))
      by_cases h0 : l = []
      · subst h0
        intro j u hj
        simp [fl] at hj
      · obtain ⟨b, off, e, hb, hc⟩ := hR h0
        cases e
        exact rd_fl (enc := G.It.cs) (sz := 4) (fun _ => rfl) hR
    have hone : ∀ u ∈ fl G.It.cs l, u.oneCell' = true := fun u hu => by
      unfold fl at hu
      obtain ⟨y, _, hu⟩ := List.mem_flatMap.1 hu
      simp [G.It.cs] at hu; rcases hu with rfl | rfl | rfl | rfl <;> rfl
    have hlen := fl_length (enc := G.It.cs) (sz := 4) (fun _ => rfl) l
    go_enter Tryz.func27, Tryz.ntmps27
    go_wp2_with (at_builtin; refine wpList_append_own _ rfl _ _ 26 rfl w.heap.size 71 i0 (.agg #[.string ByteArray.empty, .int .i64 0, .int .i64 0, .string ByteArray.empty]) 4 48 (by kernel_rfl) hi hi1 hi2 hi3 rfl (by omega) _ _ _ rfl (World.ownsRow_made w #[] 0 (Nat.le_refl _) (Nat.zero_le _) (by simp)) a l.length c (fl G.It.cs l) rfl hlen hcl hone (by first | omega | (unfold maxLen; omega) | (simp; done) | (simp; omega)) (by first | omega | (unfold maxLen; omega) | (simp; done) | (simp; omega)) (by first | omega | (unfold maxLen; omega) | (simp; done) | (simp; omega)) ?_; intro v4 w4 hown4 hgrow4 _)
    have own4 : w4.ownsRow w.heap.size 71 4 v4 l.length (fl G.It.cs l) := by simpa using hown4
    obtain ⟨ad, cp, rfl⟩ := own_slice own4
    have hc := own_caps own4
    have B4 : Below w.heap.size w w4 := bl_grown (bl_alloc (below_refl w) (.cells #[] 71)) hgrow4 (fun r h => Nat.le_of_eq (Option.some.inj (show some w.heap.size = some r from h))) (by simp)
    go_wp2
    go_ret
    exact ⟨⟨ad, l, cp⟩, rfl, rfl, own4, hc.1, hc.2, B4⟩
theorem info_Link : ∃ i : TypeInfo, Tryz.prog.info? 102 = some i ∧ i.zero = some (.agg #[.string ByteArray.empty, .int .i64 0]) ∧ i.size = 2 ∧ i.bytes = 24 := info_parts (by kernel_rfl)
set_option maxRecDepth 20000 in
set_option maxHeartbeats 1000000 in
theorem c_CloneLink (x : Sl G.Lk) (w : World) (hl : x.l.length ≤ 100000) (hR : Rd G.Lk.cs 2 w x.a x.l) :
    Calls Tryz.prog 60 #[.slice x.a x.l.length x.c] w (CloP G.Lk.cs 2 102 x.l w) := by
  obtain ⟨i0, hi, hi1, hi2, hi3⟩ := info_Link
  have hq : ∀ (w : World) (a : Option Addr) (n c n' c' : Nat), (binOp .eql 42 (.slice a n c) (.slice none n' c')).run Tryz.prog w = .ok (.bool a.isNone) w := fun w a n c n' c' => Lib.run_eql_slice_nil w _ _ a n c n' c' Tryz.underlying42
  obtain ⟨A, l, c⟩ := x
  dsimp only at *
  cases A with
  | none =>
    have h0 : l = [] := by
      by_cases h : l = []
      · exact h
      · obtain ⟨_, _, e, _⟩ := hR h; cases e
    subst h0
    go_enter Tryz.func60, Tryz.ntmps60
    go_wp2
    go_ret
    exact ⟨⟨none, [], 0⟩, rfl, rfl, World.ownsRow_nil w _ _ _, Nat.le_refl _, by simp, below_refl _⟩
  | some a =>
    have hcl : ∀ j u, (fl G.Lk.cs l)[j]? = some u → (w.alloc (.cells #[] 102)).cell? (a.add j) = some u := by
      have hR := hR.on (bl_alloc (below_refl w) (.cells #[] 102))
      by_cases h0 : l = []
      · subst h0
        intro j u hj
        simp [fl] at hj
      · obtain ⟨b, off, e, hb, hc⟩ := hR h0
        cases e
        exact rd_fl (enc := G.Lk.cs) (sz := 2) (fun _ => rfl) hR
    have hone : ∀ u ∈ fl G.Lk.cs l, u.oneCell' = true := fun u hu => by
      unfold fl at hu
      obtain ⟨y, _, hu⟩ := List.mem_flatMap.1 hu
      simp [G.Lk.cs] at hu; rcases hu with rfl | rfl <;> rfl
    have hlen := fl_length (enc := G.Lk.cs) (sz := 2) (fun _ => rfl) l
    go_enter Tryz.func60, Tryz.ntmps60
    go_wp2_with (at_builtin; refine wpList_append_own _ rfl _ _ 42 rfl w.heap.size 102 i0 (.agg #[.string ByteArray.empty, .int .i64 0]) 2 24 (by kernel_rfl) hi hi1 hi2 hi3 rfl (by omega) _ _ _ rfl (World.ownsRow_made w #[] 0 (Nat.le_refl _) (Nat.zero_le _) (by simp)) a l.length c (fl G.Lk.cs l) rfl hlen hcl hone (by first | omega | (unfold maxLen; omega) | (simp; done) | (simp; omega)) (by first | omega | (unfold maxLen; omega) | (simp; done) | (simp; omega)) (by first | omega | (unfold maxLen; omega) | (simp; done) | (simp; omega)) ?_; intro v4 w4 hown4 hgrow4 _)
    have own4 : w4.ownsRow w.heap.size 102 2 v4 l.length (fl G.Lk.cs l) := by simpa using hown4
    obtain ⟨ad, cp, rfl⟩ := own_slice own4
    have hc := own_caps own4
    have B4 : Below w.heap.size w w4 := bl_grown (bl_alloc (below_refl w) (.cells #[] 102)) hgrow4 (fun r h => Nat.le_of_eq (Option.some.inj (show some w.heap.size = some r from h))) (by simp)
    go_wp2
    go_ret
    exact ⟨⟨ad, l, cp⟩, rfl, rfl, own4, hc.1, hc.2, B4⟩
theorem info_Int : ∃ i : TypeInfo, Tryz.prog.info? 3 = some i ∧ i.zero = some (.int .i64 0) ∧ i.size = 1 ∧ i.bytes = 8 := info_parts (by kernel_rfl)
set_option maxRecDepth 20000 in
set_option maxHeartbeats 1000000 in
theorem c_CloneInt (x : Sl Int) (w : World) (hl : x.l.length ≤ 100000) (hR : Rd zC 1 w x.a x.l) :
    Calls Tryz.prog 59 #[.slice x.a x.l.length x.c] w (CloP zC 1 3 x.l w) := by
  obtain ⟨i0, hi, hi1, hi2, hi3⟩ := info_Int
  have hq : ∀ (w : World) (a : Option Addr) (n c n' c' : Nat), (binOp .eql 43 (.slice a n c) (.slice none n' c')).run Tryz.prog w = .ok (.bool a.isNone) w := fun w a n c n' c' => Lib.run_eql_slice_nil w _ _ a n c n' c' Tryz.underlying43
  obtain ⟨A, l, c⟩ := x
  dsimp only at *
  cases A with
  | none =>
    have h0 : l = [] := by
      by_cases h : l = []
      · exact h
      · obtain ⟨_, _, e, _⟩ := hR h; cases e
    subst h0
    go_enter Tryz.func59, Tryz.ntmps59
    go_wp2
    go_ret
    exact ⟨⟨none, [], 0⟩, rfl, rfl, World.ownsRow_nil w _ _ _, Nat.le_refl _, by simp, below_refl _⟩
  | some a =>
    have hcl : ∀ j u, (fl zC l)[j]? = some u → (w.alloc (.cells #[] 3)).cell? (a.add j) = some u := by
      have hR := hR.on (bl_alloc (below_refl w) (.cells #[] 3))
      by_cases h0 : l = []
      · subst h0
        intro j u hj
        simp [fl] at hj
      · obtain ⟨b, off, e, hb, hc⟩ := hR h0
        cases e
        exact rd_fl (enc := zC) (sz := 1) (fun _ => rfl) hR
    have hone : ∀ u ∈ fl zC l, u.oneCell' = true := fun u hu => by
      unfold fl at hu
      obtain ⟨y, _, hu⟩ := List.mem_flatMap.1 hu
      simp [zC] at hu; subst hu; rfl
    have hlen := fl_length (enc := zC) (sz := 1) (fun _ => rfl) l
    go_enter Tryz.func59, Tryz.ntmps59
    go_wp2_with (at_builtin; refine wpList_append_own _ rfl _ _ 43 rfl w.heap.size 3 i0 (.int .i64 0) 1 8 (by kernel_rfl) hi hi1 hi2 hi3 rfl (by omega) _ _ _ rfl (World.ownsRow_made w #[] 0 (Nat.le_refl _) (Nat.zero_le _) (by simp)) a l.length c (fl zC l) rfl hlen hcl hone (by first | omega | (unfold maxLen; omega) | (simp; done) | (simp; omega)) (by first | omega | (unfold maxLen; omega) | (simp; done) | (simp; omega)) (by first | omega | (unfold maxLen; omega) | (simp; done) | (simp; omega)) ?_; intro v4 w4 hown4 hgrow4 _)
    have own4 : w4.ownsRow w.heap.size 3 1 v4 l.length (fl zC l) := by simpa using hown4
    obtain ⟨ad, cp, rfl⟩ := own_slice own4
    have hc := own_caps own4
    have B4 : Below w.heap.size w w4 := bl_grown (bl_alloc (below_refl w) (.cells #[] 3)) hgrow4 (fun r h => Nat.le_of_eq (Option.some.inj (show some w.heap.size = some r from h))) (by simp)
    go_wp2
    go_ret
    exact ⟨⟨ad, l, cp⟩, rfl, rfl, own4, hc.1, hc.2, B4⟩
theorem info_Str : ∃ i : TypeInfo, Tryz.prog.info? 9 = some i ∧ i.zero = some (.string ByteArray.empty) ∧ i.size = 1 ∧ i.bytes = 16 := info_parts (by kernel_rfl)
set_option maxRecDepth 20000 in
set_option maxHeartbeats 1000000 in
theorem c_CloneStr (x : Sl ByteArray) (w : World) (hl : x.l.length ≤ 100000) (hR : Rd G.sC 1 w x.a x.l) :
    Calls Tryz.prog 61 #[.slice x.a x.l.length x.c] w (CloP G.sC 1 9 x.l w) := by
  obtain ⟨i0, hi, hi1, hi2, hi3⟩ := info_Str
  have hq : ∀ (w : World) (a : Option Addr) (n c n' c' : Nat), (binOp .eql 56 (.slice a n c) (.slice none n' c')).run Tryz.prog w = .ok (.bool a.isNone) w := fun w a n c n' c' => Lib.run_eql_slice_nil w _ _ a n c n' c' Tryz.underlying56
  obtain ⟨A, l, c⟩ := x
  dsimp only at *
  cases A with
  | none =>
    have h0 : l = [] := by
      by_cases h : l = []
      · exact h
      · obtain ⟨_, _, e, _⟩ := hR h; cases e
    subst h0
    go_enter Tryz.func61, Tryz.ntmps61
    go_wp2
    go_ret
    exact ⟨⟨none, [], 0⟩, rfl, rfl, World.ownsRow_nil w _ _ _, Nat.le_refl _, by simp, below_refl _⟩
  | some a =>
    have hcl : ∀ j u, (fl G.sC l)[j]? = some u → (w.alloc (.cells #[] 9)).cell? (a.add j) = some u := by
      have hR := hR.on (bl_alloc (below_refl w) (.cells #[] 9))
      by_cases h0 : l = []
      · subst h0
        intro j u hj
        simp [fl] at hj
      · obtain ⟨b, off, e, hb, hc⟩ := hR h0
        cases e
        exact rd_fl (enc := G.sC) (sz := 1) (fun _ => rfl) hR
    have hone : ∀ u ∈ fl G.sC l, u.oneCell' = true := fun u hu => by
      unfold fl at hu
      obtain ⟨y, _, hu⟩ := List.mem_flatMap.1 hu
      simp [G.sC] at hu; subst hu; rfl
    have hlen := fl_length (enc := G.sC) (sz := 1) (fun _ => rfl) l
    go_enter Tryz.func61, Tryz.ntmps61
    go_wp2_with (at_builtin; refine wpList_append_own _ rfl _ _ 56 rfl w.heap.size 9 i0 (.string ByteArray.empty) 1 16 (by kernel_rfl) hi hi1 hi2 hi3 rfl (by omega) _ _ _ rfl (World.ownsRow_made w #[] 0 (Nat.le_refl _) (Nat.zero_le _) (by simp)) a l.length c (fl G.sC l) rfl hlen hcl hone (by first | omega | (unfold maxLen; omega) | (simp; done) | (simp; omega)) (by first | omega | (unfold maxLen; omega) | (simp; done) | (simp; omega)) (by first | omega | (unfold maxLen; omega) | (simp; done) | (simp; omega)) ?_; intro v4 w4 hown4 hgrow4 _)
    have own4 : w4.ownsRow w.heap.size 9 1 v4 l.length (fl G.sC l) := by simpa using hown4
    obtain ⟨ad, cp, rfl⟩ := own_slice own4
    have hc := own_caps own4
    have B4 : Below w.heap.size w w4 := bl_grown (bl_alloc (below_refl w) (.cells #[] 9)) hgrow4 (fun r h => Nat.le_of_eq (Option.some.inj (show some w.heap.size = some r from h))) (by simp)
    go_wp2
    go_ret
    exact ⟨⟨ad, l, cp⟩, rfl, rfl, own4, hc.1, hc.2, B4⟩
theorem info_Entry : ∃ i : TypeInfo, Tryz.prog.info? 66 = some i ∧ i.zero = some (.agg #[.int .i64 0, .int .i64 0, .string ByteArray.empty, .int .u64 0]) ∧ i.size = 4 ∧ i.bytes = 40 := info_parts (by kernel_rfl)
set_option maxRecDepth 20000 in
set_option maxHeartbeats 1000000 in
theorem c_CloneEntry (x : Sl En) (w : World) (hl : x.l.length ≤ 100000) (hR : Rd En.cs 4 w x.a x.l) :
    Calls Tryz.prog 62 #[.slice x.a x.l.length x.c] w (CloP En.cs 4 66 x.l w) := by
  obtain ⟨i0, hi, hi1, hi2, hi3⟩ := info_Entry
  have hq : ∀ (w : World) (a : Option Addr) (n c n' c' : Nat), (binOp .eql 58 (.slice a n c) (.slice none n' c')).run Tryz.prog w = .ok (.bool a.isNone) w := fun w a n c n' c' => Lib.run_eql_slice_nil w _ _ a n c n' c' Tryz.underlying58
  obtain ⟨A, l, c⟩ := x
  dsimp only at *
  cases A with
  | none =>
    have h0 : l = [] := by
      by_cases h : l = []
      · exact h
      · obtain ⟨_, _, e, _⟩ := hR h; cases e
    subst h0
    go_enter Tryz.func62, Tryz.ntmps62
    go_wp2
    go_ret
    exact ⟨⟨none, [], 0⟩, rfl, rfl, World.ownsRow_nil w _ _ _, Nat.le_refl _, by simp, below_refl _⟩
  | some a =>
    have hcl : ∀ j u, (fl En.cs l)[j]? = some u → (w.alloc (.cells #[] 66)).cell? (a.add j) = some u := by
      have hR := hR.on (bl_alloc (below_refl w) (.cells #[] 66))
      by_cases h0 : l = []
      · subst h0
        intro j u hj
        simp [fl] at hj
      · obtain ⟨b, off, e, hb, hc⟩ := hR h0
        cases e
        exact rd_fl (enc := En.cs) (sz := 4) (fun _ => rfl) hR
    have hone : ∀ u ∈ fl En.cs l, u.oneCell' = true := fun u hu => by
      unfold fl at hu
      obtain ⟨y, _, hu⟩ := List.mem_flatMap.1 hu
      simp [En.cs] at hu; rcases hu with rfl | rfl | rfl | rfl <;> rfl
    have hlen := fl_length (enc := En.cs) (sz := 4) (fun _ => rfl) l
    go_enter Tryz.func62, Tryz.ntmps62
    go_wp2_with (at_builtin; refine wpList_append_own _ rfl _ _ 58 rfl w.heap.size 66 i0 (.agg #[.int .i64 0, .int .i64 0, .string ByteArray.empty, .int .u64 0]) 4 40 (by kernel_rfl) hi hi1 hi2 hi3 rfl (by omega) _ _ _ rfl (World.ownsRow_made w #[] 0 (Nat.le_refl _) (Nat.zero_le _) (by simp)) a l.length c (fl En.cs l) rfl hlen hcl hone (by first | omega | (unfold maxLen; omega) | (simp; done) | (simp; omega)) (by first | omega | (unfold maxLen; omega) | (simp; done) | (simp; omega)) (by first | omega | (unfold maxLen; omega) | (simp; done) | (simp; omega)) ?_; intro v4 w4 hown4 hgrow4 _)
    have own4 : w4.ownsRow w.heap.size 66 4 v4 l.length (fl En.cs l) := by simpa using hown4
    obtain ⟨ad, cp, rfl⟩ := own_slice own4
    have hc := own_caps own4
    have B4 : Below w.heap.size w w4 := bl_grown (bl_alloc (below_refl w) (.cells #[] 66)) hgrow4 (fun r h => Nat.le_of_eq (Option.some.inj (show some w.heap.size = some r from h))) (by simp)
    go_wp2
    go_ret
    exact ⟨⟨ad, l, cp⟩, rfl, rfl, own4, hc.1, hc.2, B4⟩
theorem info_Course : ∃ i : TypeInfo, Tryz.prog.info? 132 = some i ∧ i.zero = some (.agg #[.int .i64 0, .int .i64 0, .int .i64 0, .int .i64 0, .int .i64 0, .int .i64 0]) ∧ i.size = 6 ∧ i.bytes = 48 := info_parts (by kernel_rfl)
set_option maxRecDepth 20000 in
set_option maxHeartbeats 1000000 in
theorem c_CloneCourse (x : Sl S.Course) (w : World) (hl : x.l.length ≤ 100000) (hR : Rd S.Course.cs 6 w x.a x.l) :
    Calls Tryz.prog 111 #[.slice x.a x.l.length x.c] w (CloP S.Course.cs 6 132 x.l w) := by
  obtain ⟨i0, hi, hi1, hi2, hi3⟩ := info_Course
  have hq : ∀ (w : World) (a : Option Addr) (n c n' c' : Nat), (binOp .eql 68 (.slice a n c) (.slice none n' c')).run Tryz.prog w = .ok (.bool a.isNone) w := fun w a n c n' c' => Lib.run_eql_slice_nil w _ _ a n c n' c' Tryz.underlying68
  obtain ⟨A, l, c⟩ := x
  dsimp only at *
  cases A with
  | none =>
    have h0 : l = [] := by
      by_cases h : l = []
      · exact h
      · obtain ⟨_, _, e, _⟩ := hR h; cases e
    subst h0
    go_enter Tryz.func111, Tryz.ntmps111
    go_wp2
    go_ret
    exact ⟨⟨none, [], 0⟩, rfl, rfl, World.ownsRow_nil w _ _ _, Nat.le_refl _, by simp, below_refl _⟩
  | some a =>
    have hcl : ∀ j u, (fl S.Course.cs l)[j]? = some u → (w.alloc (.cells #[] 132)).cell? (a.add j) = some u := by
      have hR := hR.on (bl_alloc (below_refl w) (.cells #[] 132))
      by_cases h0 : l = []
      · subst h0
        intro j u hj
        simp [fl] at hj
      · obtain ⟨b, off, e, hb, hc⟩ := hR h0
        cases e
        exact rd_fl (enc := S.Course.cs) (sz := 6) (fun _ => rfl) hR
    have hone : ∀ u ∈ fl S.Course.cs l, u.oneCell' = true := fun u hu => by
      unfold fl at hu
      obtain ⟨y, _, hu⟩ := List.mem_flatMap.1 hu
      simp [S.Course.cs] at hu; rcases hu with rfl | rfl | rfl | rfl | rfl | rfl <;> rfl
    have hlen := fl_length (enc := S.Course.cs) (sz := 6) (fun _ => rfl) l
    go_enter Tryz.func111, Tryz.ntmps111
    go_wp2_with (at_builtin; refine wpList_append_own _ rfl _ _ 68 rfl w.heap.size 132 i0 (.agg #[.int .i64 0, .int .i64 0, .int .i64 0, .int .i64 0, .int .i64 0, .int .i64 0]) 6 48 (by kernel_rfl) hi hi1 hi2 hi3 rfl (by omega) _ _ _ rfl (World.ownsRow_made w #[] 0 (Nat.le_refl _) (Nat.zero_le _) (by simp)) a l.length c (fl S.Course.cs l) rfl hlen hcl hone (by first | omega | (unfold maxLen; omega) | (simp; done) | (simp; omega)) (by first | omega | (unfold maxLen; omega) | (simp; done) | (simp; omega)) (by first | omega | (unfold maxLen; omega) | (simp; done) | (simp; omega)) ?_; intro v4 w4 hown4 hgrow4 _)
    have own4 : w4.ownsRow w.heap.size 132 6 v4 l.length (fl S.Course.cs l) := by simpa using hown4
    obtain ⟨ad, cp, rfl⟩ := own_slice own4
    have hc := own_caps own4
    have B4 : Below w.heap.size w w4 := bl_grown (bl_alloc (below_refl w) (.cells #[] 132)) hgrow4 (fun r h => Nat.le_of_eq (Option.some.inj (show some w.heap.size = some r from h))) (by simp)
    go_wp2
    go_ret
    exact ⟨⟨ad, l, cp⟩, rfl, rfl, own4, hc.1, hc.2, B4⟩
theorem info_Joint : ∃ i : TypeInfo, Tryz.prog.info? 134 = some i ∧ i.zero = some (.agg #[.int .i64 0, .bool false]) ∧ i.size = 2 ∧ i.bytes = 16 := info_parts (by kernel_rfl)
set_option maxRecDepth 20000 in
set_option maxHeartbeats 1000000 in
theorem c_CloneJoint (x : Sl Jt) (w : World) (hl : x.l.length ≤ 100000) (hR : Rd Jt.cs 2 w x.a x.l) :
    Calls Tryz.prog 112 #[.slice x.a x.l.length x.c] w (CloP Jt.cs 2 134 x.l w) := by
  obtain ⟨i0, hi, hi1, hi2, hi3⟩ := info_Joint
  have hq : ∀ (w : World) (a : Option Addr) (n c n' c' : Nat), (binOp .eql 69 (.slice a n c) (.slice none n' c')).run Tryz.prog w = .ok (.bool a.isNone) w := fun w a n c n' c' => Lib.run_eql_slice_nil w _ _ a n c n' c' Tryz.underlying69
  obtain ⟨A, l, c⟩ := x
  dsimp only at *
  cases A with
  | none =>
    have h0 : l = [] := by
      by_cases h : l = []
      · exact h
      · obtain ⟨_, _, e, _⟩ := hR h; cases e
    subst h0
    go_enter Tryz.func112, Tryz.ntmps112
    go_wp2
    go_ret
    exact ⟨⟨none, [], 0⟩, rfl, rfl, World.ownsRow_nil w _ _ _, Nat.le_refl _, by simp, below_refl _⟩
  | some a =>
    have hcl : ∀ j u, (fl Jt.cs l)[j]? = some u → (w.alloc (.cells #[] 134)).cell? (a.add j) = some u := by
      have hR := hR.on (bl_alloc (below_refl w) (.cells #[] 134))
      by_cases h0 : l = []
      · subst h0
        intro j u hj
        simp [fl] at hj
      · obtain ⟨b, off, e, hb, hc⟩ := hR h0
        cases e
        exact rd_fl (enc := Jt.cs) (sz := 2) (fun _ => rfl) hR
    have hone : ∀ u ∈ fl Jt.cs l, u.oneCell' = true := fun u hu => by
      unfold fl at hu
      obtain ⟨y, _, hu⟩ := List.mem_flatMap.1 hu
      simp [Jt.cs] at hu; rcases hu with rfl | rfl <;> rfl
    have hlen := fl_length (enc := Jt.cs) (sz := 2) (fun _ => rfl) l
    go_enter Tryz.func112, Tryz.ntmps112
    go_wp2_with (at_builtin; refine wpList_append_own _ rfl _ _ 69 rfl w.heap.size 134 i0 (.agg #[.int .i64 0, .bool false]) 2 16 (by kernel_rfl) hi hi1 hi2 hi3 rfl (by omega) _ _ _ rfl (World.ownsRow_made w #[] 0 (Nat.le_refl _) (Nat.zero_le _) (by simp)) a l.length c (fl Jt.cs l) rfl hlen hcl hone (by first | omega | (unfold maxLen; omega) | (simp; done) | (simp; omega)) (by first | omega | (unfold maxLen; omega) | (simp; done) | (simp; omega)) (by first | omega | (unfold maxLen; omega) | (simp; done) | (simp; omega)) ?_; intro v4 w4 hown4 hgrow4 _)
    have own4 : w4.ownsRow w.heap.size 134 2 v4 l.length (fl Jt.cs l) := by simpa using hown4
    obtain ⟨ad, cp, rfl⟩ := own_slice own4
    have hc := own_caps own4
    have B4 : Below w.heap.size w w4 := bl_grown (bl_alloc (below_refl w) (.cells #[] 134)) hgrow4 (fun r h => Nat.le_of_eq (Option.some.inj (show some w.heap.size = some r from h))) (by simp)
    go_wp2
    go_ret
    exact ⟨⟨ad, l, cp⟩, rfl, rfl, own4, hc.1, hc.2, B4⟩
theorem info_Rig : ∃ i : TypeInfo, Tryz.prog.info? 99 = some i ∧ i.zero = some (.agg #[.int .i64 0, .slice none 0 0]) ∧ i.size = 2 ∧ i.bytes = 32 := info_parts (by kernel_rfl)
set_option maxRecDepth 20000 in
set_option maxHeartbeats 1000000 in
theorem c_CloneRig (x : Sl LRg) (w : World) (hl : x.l.length ≤ 100000) (hR : Rd LRg.cs 2 w x.a x.l) :
    Calls Tryz.prog 132 #[.slice x.a x.l.length x.c] w (CloP LRg.cs 2 99 x.l w) := by
  obtain ⟨i0, hi, hi1, hi2, hi3⟩ := info_Rig
  have hq : ∀ (w : World) (a : Option Addr) (n c n' c' : Nat), (binOp .eql 75 (.slice a n c) (.slice none n' c')).run Tryz.prog w = .ok (.bool a.isNone) w := fun w a n c n' c' => Lib.run_eql_slice_nil w _ _ a n c n' c' Tryz.underlying75
  obtain ⟨A, l, c⟩ := x
  dsimp only at *
  cases A with
  | none =>
    have h0 : l = [] := by
      by_cases h : l = []
      · exact h
      · obtain ⟨_, _, e, _⟩ := hR h; cases e
    subst h0
    go_enter Tryz.func132, Tryz.ntmps132
    go_wp2
    go_ret
    exact ⟨⟨none, [], 0⟩, rfl, rfl, World.ownsRow_nil w _ _ _, Nat.le_refl _, by simp, below_refl _⟩
  | some a =>
    have hcl : ∀ j u, (fl LRg.cs l)[j]? = some u → (w.alloc (.cells #[] 99)).cell? (a.add j) = some u := by
      have hR := hR.on (bl_alloc (below_refl w) (.cells #[] 99))
      by_cases h0 : l = []
      · subst h0
        intro j u hj
        simp [fl] at hj
      · obtain ⟨b, off, e, hb, hc⟩ := hR h0
        cases e
        exact rd_fl (enc := LRg.cs) (sz := 2) (fun _ => rfl) hR
    have hone : ∀ u ∈ fl LRg.cs l, u.oneCell' = true := fun u hu => by
      unfold fl at hu
      obtain ⟨y, _, hu⟩ := List.mem_flatMap.1 hu
      simp [LRg.cs] at hu; rcases hu with rfl | rfl <;> rfl
    have hlen := fl_length (enc := LRg.cs) (sz := 2) (fun _ => rfl) l
    go_enter Tryz.func132, Tryz.ntmps132
    go_wp2_with (at_builtin; refine wpList_append_own _ rfl _ _ 75 rfl w.heap.size 99 i0 (.agg #[.int .i64 0, .slice none 0 0]) 2 32 (by kernel_rfl) hi hi1 hi2 hi3 rfl (by omega) _ _ _ rfl (World.ownsRow_made w #[] 0 (Nat.le_refl _) (Nat.zero_le _) (by simp)) a l.length c (fl LRg.cs l) rfl hlen hcl hone (by first | omega | (unfold maxLen; omega) | (simp; done) | (simp; omega)) (by first | omega | (unfold maxLen; omega) | (simp; done) | (simp; omega)) (by first | omega | (unfold maxLen; omega) | (simp; done) | (simp; omega)) ?_; intro v4 w4 hown4 hgrow4 _)
    have own4 : w4.ownsRow w.heap.size 99 2 v4 l.length (fl LRg.cs l) := by simpa using hown4
    obtain ⟨ad, cp, rfl⟩ := own_slice own4
    have hc := own_caps own4
    have B4 : Below w.heap.size w w4 := bl_grown (bl_alloc (below_refl w) (.cells #[] 99)) hgrow4 (fun r h => Nat.le_of_eq (Option.some.inj (show some w.heap.size = some r from h))) (by simp)
    go_wp2
    go_ret
    exact ⟨⟨ad, l, cp⟩, rfl, rfl, own4, hc.1, hc.2, B4⟩
theorem info_Site : ∃ i : TypeInfo, Tryz.prog.info? 106 = some i ∧ i.zero = some (.agg #[.slice none 0 0, .bool false, .int .i64 0]) ∧ i.size = 3 ∧ i.bytes = 40 := info_parts (by kernel_rfl)
set_option maxRecDepth 20000 in
set_option maxHeartbeats 1000000 in
theorem c_CloneSite (x : Sl LSi) (w : World) (hl : x.l.length ≤ 100000) (hR : Rd LSi.cs 3 w x.a x.l) :
    Calls Tryz.prog 133 #[.slice x.a x.l.length x.c] w (CloP LSi.cs 3 106 x.l w) := by
  obtain ⟨i0, hi, hi1, hi2, hi3⟩ := info_Site
  have hq : ∀ (w : World) (a : Option Addr) (n c n' c' : Nat), (binOp .eql 73 (.slice a n c) (.slice none n' c')).run Tryz.prog w = .ok (.bool a.isNone) w := fun w a n c n' c' => Lib.run_eql_slice_nil w _ _ a n c n' c' Tryz.underlying73
  obtain ⟨A, l, c⟩ := x
  dsimp only at *
  cases A with
  | none =>
    have h0 : l = [] := by
      by_cases h : l = []
      · exact h
      · obtain ⟨_, _, e, _⟩ := hR h; cases e
    subst h0
    go_enter Tryz.func133, Tryz.ntmps133
    go_wp2
    go_ret
    exact ⟨⟨none, [], 0⟩, rfl, rfl, World.ownsRow_nil w _ _ _, Nat.le_refl _, by simp, below_refl _⟩
  | some a =>
    have hcl : ∀ j u, (fl LSi.cs l)[j]? = some u → (w.alloc (.cells #[] 106)).cell? (a.add j) = some u := by
      have hR := hR.on (bl_alloc (below_refl w) (.cells #[] 106))
      by_cases h0 : l = []
      · subst h0
        intro j u hj
        simp [fl] at hj
      · obtain ⟨b, off, e, hb, hc⟩ := hR h0
        cases e
        exact rd_fl (enc := LSi.cs) (sz := 3) (fun _ => rfl) hR
    have hone : ∀ u ∈ fl LSi.cs l, u.oneCell' = true := fun u hu => by
      unfold fl at hu
      obtain ⟨y, _, hu⟩ := List.mem_flatMap.1 hu
      simp [LSi.cs] at hu; rcases hu with rfl | rfl | rfl <;> rfl
    have hlen := fl_length (enc := LSi.cs) (sz := 3) (fun _ => rfl) l
    go_enter Tryz.func133, Tryz.ntmps133
    go_wp2_with (at_builtin; refine wpList_append_own _ rfl _ _ 73 rfl w.heap.size 106 i0 (.agg #[.slice none 0 0, .bool false, .int .i64 0]) 3 40 (by kernel_rfl) hi hi1 hi2 hi3 rfl (by omega) _ _ _ rfl (World.ownsRow_made w #[] 0 (Nat.le_refl _) (Nat.zero_le _) (by simp)) a l.length c (fl LSi.cs l) rfl hlen hcl hone (by first | omega | (unfold maxLen; omega) | (simp; done) | (simp; omega)) (by first | omega | (unfold maxLen; omega) | (simp; done) | (simp; omega)) (by first | omega | (unfold maxLen; omega) | (simp; done) | (simp; omega)) ?_; intro v4 w4 hown4 hgrow4 _)
    have own4 : w4.ownsRow w.heap.size 106 3 v4 l.length (fl LSi.cs l) := by simpa using hown4
    obtain ⟨ad, cp, rfl⟩ := own_slice own4
    have hc := own_caps own4
    have B4 : Below w.heap.size w w4 := bl_grown (bl_alloc (below_refl w) (.cells #[] 106)) hgrow4 (fun r h => Nat.le_of_eq (Option.some.inj (show some w.heap.size = some r from h))) (by simp)
    go_wp2
    go_ret
    exact ⟨⟨ad, l, cp⟩, rfl, rfl, own4, hc.1, hc.2, B4⟩
end Go.Proofs.YtmjgljdmjpabdaaGreatDoor.Fi
set_option linter.unusedSimpArgs false
set_option linter.unusedVariables false
namespace Go.Proofs.YtmjgljdmjpabdaaGreatDoor.Fi
open Go.RowKit Go.Lib Go.Maps Tx
theorem upM_comm (a m n : Int) : upM (upM a m) n = upM (upM a n) m := by unfold upM; grind
theorem upM_no {a m : Int} (h : ¬ 0 < m) : upM a m = a := by unfold upM; rw [if_neg (fun q => h q.1)]
theorem upF_filter (a : Int) (l : List Int) : l.foldl upM a = (l.filter fun m => decide (0 < m)).foldl upM a := by
  induction l generalizing a with
  | nil => rfl
  | cons m l ih =>
    by_cases h : 0 < m
    · rw [List.filter_cons_of_pos (by simpa using h), List.foldl_cons, List.foldl_cons, ih]
    · rw [List.filter_cons_of_neg (by simpa using h), List.foldl_cons, upM_no h, ih]
theorem upF_perm {l m : List Int} (h : l.Perm m) (a : Int) : l.foldl upM a = m.foldl upM a := by
  induction h generalizing a with
  | nil => rfl
  | cons x _ ih => simp only [List.foldl_cons]; exact ih _
  | swap x y l => simp only [List.foldl_cons]; rw [upM_comm]
  | trans _ _ h1 h2 => rw [h1, h2]
theorem upF_one (l : List Int) : l.foldl upM 1 = 1 := by
  induction l with
  | nil => rfl
  | cons m l ih =>
    have : upM 1 m = 1 := by unfold upM; rw [if_neg (by omega)]
    rw [List.foldl_cons, this, ih]
theorem upF_bd (l : List Int) (a B : Int) (h0 : 0 ≤ a) (ha : a ≤ B) (hl : ∀ m ∈ l, m + 1 ≤ B) : 0 ≤ l.foldl upM a ∧ l.foldl upM a ≤ B := by
  induction l generalizing a with
  | nil => exact ⟨h0, ha⟩
  | cons m l ih =>
    rw [List.foldl_cons]
    have h1 := hl m (List.mem_cons_self ..)
    refine ih _ ?_ ?_ fun x hx => hl x (List.mem_cons_of_mem _ hx)
    · unfold upM; split <;> omega
    · unfold upM; split <;> omega
theorem nds_len (c : Cl) : ∀ l, (nds c l).length = l.length
  | [] => rfl
  | j :: r => by simp [nds, nds_len c r]
theorem nds_drop (c : Cl) : ∀ (l : List Jt) (k : Nat), (nds c l).drop k = nds c (l.drop k)
  | [], k => by simp [nds]
  | j :: r, 0 => rfl
  | j :: r, k + 1 => by simp only [nds, List.drop_succ_cons]; exact nds_drop c r k
theorem ndA_head {c : Cl} {l : List Jt} {k : Nat} {j : Jt} (h : l[k]? = some j) : ndA c l k = if j.s = true then (if lastB c j = true then 1 else (((l.drop (k + 1)).zip (nds c (l.drop (k + 1)))).filter fun q => decide (q.1.h - j.h ≤ c.ga)).foldl (fun a q => upM a q.2) 0) else 0 := by
  have hk := (List.getElem?_eq_some_iff.1 h).1
  have e : l.drop k = j :: l.drop (k + 1) := by
    rw [List.drop_eq_getElem_cons hk]; congr 1
    rw [List.getElem?_eq_getElem hk] at h; exact Option.some.inj h
  have h1 := nds_drop c l k
  rw [e] at h1
  have h2 : (nds c l).getD k 0 = ((nds c l).drop k).getD 0 0 := by simp [List.getD_eq_getElem?_getD]
  unfold ndA
  rw [h2, h1]; rfl
theorem ndA_bd (c : Cl) (l : List Jt) : ∀ k, 0 ≤ ndA c l k ∧ ndA c l k ≤ l.length := by
  have go : ∀ l, ∀ m ∈ nds c l, 0 ≤ m ∧ m ≤ (l.length : Int) := fun l => by
    induction l with
    | nil => intro m hm; cases hm
    | cons j r ih =>
      intro m hm
      rw [nds] at hm
      rcases List.mem_cons.1 hm with rfl | hm
      · split
        · split
          · simp; omega
          · rw [show (((r.zip (nds c r)).filter fun q => decide (q.1.h - j.h ≤ c.ga)).foldl (fun a q => upM a q.2) 0) = (((r.zip (nds c r)).filter fun q => decide (q.1.h - j.h ≤ c.ga)).map (·.2)).foldl upM 0 by rw [List.foldl_map]]
            have := upF_bd (((r.zip (nds c r)).filter fun q => decide (q.1.h - j.h ≤ c.ga)).map (·.2)) 0 ((r.length : Int) + 1) (by omega) (by omega) fun m hm => by
              obtain ⟨q, hq, rfl⟩ := List.mem_map.1 hm
              have := ih q.2 (List.of_mem_zip (show (q.1, q.2) ∈ _ from (List.mem_filter.1 hq).1)).2
              omega
            simp only [List.length_cons]; omega
        · simp; omega
      · have := ih m hm
        simp only [List.length_cons]; omega
  intro k
  unfold ndA
  rw [List.getD_eq_getElem?_getD]
  cases h : (nds c l)[k]? with
  | none => simp
  | some m => exact go l m (List.mem_of_getElem? h)
theorem ndA_sound {c : Cl} {l : List Jt} {k : Nat} (h : (jAt l k).s = false) : ndA c l k = 0 := by
  unfold jAt at h
  cases hk : l[k]? with
  | none =>
    unfold ndA
    rw [List.getD_eq_getElem?_getD, List.getElem?_eq_none]; · rfl
    rw [nds_len]; exact List.getElem?_eq_none_iff.1 hk
  | some j =>
    rw [ndA_head hk, if_neg]
    rw [hk] at h; simpa using h
def MpIs (w : World) (b n : Nat) (f : Nat → Int) : Prop := ∃ D, G.OZ w b n D ∧ Tidy D ∧ ∀ k : Nat, D.atKey (G.kyZ (k : Nat)) (G.i64d 0) = G.i64d (f k) ∧ Maps.has D (G.kyZ (k : Nat)) = decide (f k ≠ 0)
theorem mp_made (w : World) : MpIs (w.alloc (.map #[] 0)) w.heap.size 0 fun _ => 0 := ⟨.map [], World.ownsMap_made w _ _ _, tidy_empty, fun _ => ⟨rfl, rfl⟩⟩
theorem mp_stp {N : Nat → Prop} {w w' : World} {b n : Nat} {f : Nat → Int} (h : MpIs w b n f) (k : Stp N w w') (hn : ¬ N b) : MpIs w' b n f := by
  obtain ⟨D, h1, h2⟩ := h
  exact ⟨D, G.oz_stp h1 k hn, h2⟩
theorem mp_lt {w : World} {b n : Nat} {f : Nat → Int} (h : MpIs w b n f) : b < w.heap.size := by
  obtain ⟨D, ⟨es, clock, hb, _⟩, _⟩ := h
  exact lt_of_block hb
theorem mp_on {w w' : World} {b n : Nat} {f : Nat → Int} (h : MpIs w b n f) (hb : Below w.heap.size w w') : MpIs w' b n f :=
  mp_stp h ((Stp.refl (fun _ => False) w).below hb (Nat.le_refl _)) (fun q => q)
set_option maxRecDepth 100000 in
theorem mp_look {w : World} {b n : Nat} {f : Nat → Int} (h : MpIs w b n f) (k : Nat) (hk : k ≤ 9223372036854775807) :
    (Instr.lookup 277 (.map (some b)) (.int .i64 (k : Nat)) false).run Tryz.prog w = .ok (.int .i64 (f k)) w := by
  obtain ⟨D, h1, h2, h3⟩ := h
  obtain ⟨c, hr, hc, _⟩ := h1.lookup_int G.lawZ G.und_mapZ G.und_int (G.zeroN _) (G.keyZ (WalkArith.wf_i64 (n := ((k : Nat) : Int)) (by omega)))
  have := (h3 k).1
  have e := hc.symm.trans this
  injection e with e
  injection e with _ e
  rw [hr, e]
set_option maxRecDepth 100000 in
theorem mp_look_ok {w : World} {b n : Nat} {f : Nat → Int} (h : MpIs w b n f) (k : Nat) (hk : k ≤ 9223372036854775807) :
    (Instr.lookup 277 (.map (some b)) (.int .i64 (k : Nat)) true).run Tryz.prog w = .ok (.tuple #[.int .i64 (f k), .bool (decide (f k ≠ 0))]) w := by
  obtain ⟨D, h1, h2, h3⟩ := h
  obtain ⟨v, ps, hr, hv⟩ := h1.look_ok G.lawZ G.und_mapZ (G.zeroN _) (plainElem_int (P := Tryz.prog) G.und_int (by decide : (Lit.int .i64 0).wf = true)) (G.keyZ (WalkArith.wf_i64 (n := ((k : Nat) : Int)) (by omega)))
  obtain ⟨c, rfl, hc, _⟩ := plainElem_int_inv G.und_int hv
  have e1 := congrArg Prod.fst hc
  have e := e1.symm.trans ((h3 k).1)
  injection e with e
  injection e with _ e
  rw [hr, (h3 k).2, e]
theorem mp_put {w' : World} {b n : Nat} {f : Nat → Int} {D : DataW Unit} {k : Nat} {v : Int} (h2 : Tidy D) (h3 : ∀ k : Nat, D.atKey (G.kyZ (k : Nat)) (G.i64d 0) = G.i64d (f k) ∧ Maps.has D (G.kyZ (k : Nat)) = decide (f k ≠ 0)) (hv : v ≠ 0)
    (hw : G.OZ w' b n (D.put (G.kyZ (k : Nat)) (G.i64d v))) : MpIs w' b n fun x => if x = k then v else f x := by
  refine ⟨_, hw, h2.put (G.kyZL _) _, fun x => ?_⟩
  dsimp only
  by_cases h : x = k
  · subst h
    simp only [↓reduceIte]
    exact ⟨atKey_put_same h2.isMap (G.kyZL _) _ _, by rw [has_put_same h2.isMap (G.kyZL _), decide_eq_true hv]⟩
  · simp only [h, ↓reduceIte]
    have hne : G.kyZ ((x : Nat) : Int) ≠ G.kyZ ((k : Nat) : Int) := fun e => h (by unfold G.kyZ at e; injection e with _ e; omega)
    exact ⟨by rw [atKey_put_other hne]; exact (h3 x).1, by rw [has_put_other hne]; exact (h3 x).2⟩
end Go.Proofs.YtmjgljdmjpabdaaGreatDoor.Fi
set_option linter.unusedSimpArgs false
set_option linter.unusedVariables false
namespace Go.Proofs.YtmjgljdmjpabdaaGreatDoor.Fi
open Go.RowKit Go.Lib Go.Maps Tx
theorem sdN_yes {l : List Jt} {k : Nat} (h : (jAt l k).s = true) : sdN l (k + 1) = sdN l k ++ [k] := by unfold sdN; rw [List.range_succ, List.filter_append]; simp [h]
theorem sdN_no {l : List Jt} {k : Nat} (h : (jAt l k).s = false) : sdN l (k + 1) = sdN l k := by unfold sdN; rw [List.range_succ, List.filter_append]; simp [h]
theorem sdN_len (l : List Jt) (k : Nat) : (sdN l k).length ≤ k := by have := List.length_filter_le (fun i => (jAt l i).s) (List.range k); simpa [sdN] using this
theorem sdN_mem {l : List Jt} {k n : Nat} (h : n ∈ sdN l k) : n < k ∧ (jAt l n).s = true := by unfold sdN at h; rw [List.mem_filter, List.mem_range] at h; exact h
structure JB (l : List Jt) : Prop where
  h : ∀ (k : Nat) (x : Jt), l[k]? = some x → 1 ≤ x.h ∧ x.h ≤ 200000
  n : l.length ≤ 200
theorem jb_of {l : List Jt} (h : vJ l = true) : JB l := by
  unfold vJ at h
  rw [Bool.and_eq_true, List.all_eq_true, decide_eq_true_eq] at h
  refine ⟨fun k x hx => ?_, h.2⟩
  have h1 := h.1 k (by rw [List.mem_range]; exact (List.getElem?_eq_some_iff.1 hx).1)
  unfold okJ at h1
  rw [jAt_of hx, Bool.and_eq_true, wn_iff] at h1
  exact h1.1
theorem info_intF : ∃ i : TypeInfo, Tryz.prog.info? 3 = some i ∧ i.zero = some (.int .i64 0) ∧ i.size = 1 ∧ i.bytes = 8 := info_parts (by kernel_rfl)
set_option maxHeartbeats 2000000 in
set_option maxRecDepth 20000 in
theorem l_sound (A : Option Addr) (l : List Jt) (c : Nat) (w : World) (hl : l.length ≤ 100000) (hR : Rd Jt.cs 2 w A l) :
    Calls Tryz.prog 289 #[.slice A l.length c] w fun e w' => ∃ v, e = .returned v ∧ w'.ownsRow w.heap.size 3 1 v (sdN l l.length).length (S.natV (sdN l l.length)) ∧ Below w.heap.size w w' := by
  obtain ⟨i0, hi, hi1, hi2, hi3⟩ := info_intF
  have HN := Lib.hid (fun k h => sdN_no (l := l) (k := k) h)
  have HY := Lib.hid (fun k h => sdN_yes (l := l) (k := k) h)
  have HLn := Lib.hid (fun k => sdN_len l k)
  go_enter Tryz.func289, Tryz.ntmps289
  go_wp2
  go_loopw [3, 8] (fun v i wr => ∃ k : Nat, k ≤ l.length ∧ i = .int .i64 k ∧ Below w.heap.size w wr ∧ wr.ownsRow w.heap.size 3 1 v (sdN l k).length (S.natV (sdN l k))) (fun _ i _ => l.length - (RowKit.intOf i).toNat)
  case atStart => exact ⟨0, by omega, rfl, below_refl _, World.ownsRow_nil w _ _ _⟩
  case round =>
    obtain ⟨k, hk, rfl, hbw, hown⟩ := hrel
    obtain ⟨ad, cp, rfl⟩ := own_slice hown
    have hbvs := hbw.size
    have k0 : (0 : Int) ≤ (k : Int) := Int.natCast_nonneg _
    by_cases hlt : k < l.length
    · have k1 : (k : Int) < (l.length : Int) := by omega
      obtain ⟨x, b, off, hx, rfl, hb, c0, c1⟩ := rdJ (hR.on hbw) hlt
      have hj := jAt_of hx
      obtain ⟨XH, XS⟩ := x
      dsimp only at *
      clear hx
      have hkl := HLn.out k
      cases XS
      · have hq := HN.out k (by rw [hj])
        clear hj
        go_wp2
        go_roundw
        case rel => exact ⟨k + 1, by omega, by go_num, bl_alloc hbw _, by rw [hq]; exact hown.alloc _⟩
        case measure => simp [RowKit.intOf]; omega
      · have hq := HY.out k (by rw [hj])
        clear hj
        go_upto_region 6 with fail
        have bj := bl_alloc hbw (.cells #[.int .i64 XH, .bool true] 134)
        have oj := hown.alloc (.cells #[.int .i64 XH, .bool true] 134)
        have sj := bj.size
        generalize wr.alloc (.cells #[.int .i64 XH, .bool true] 134) = wj at *
        go_wp2_with (at_builtin; (refine wpList_append_own _ rfl _ _ 43 rfl w.heap.size 3 i0 (.int .i64 0) 1 8 (by kernel_rfl) hi hi1 hi2 hi3 rfl (by omega) _ _ _ rfl (oj.alloc _) ⟨wj.heap.size, 0, none⟩ 1 1 [.int .i64 (k : Nat)] rfl rfl (cells_new wj [.int .i64 (k : Nat)] 3) (fun u hu => by simp at hu; subst hu; rfl) (by unfold maxLen; omega) (by omega) (by simp; omega) ?_; intro v4 w4 hown4 hgrow4 _))
        have B4 : Below w.heap.size w w4 := bl_app bj oj hgrow4 (Nat.le_refl _) sj
        have e4 : (sdN l (k + 1)).length = (sdN l k).length + 1 := by rw [hq]; simp
        have hown5 : w4.ownsRow w.heap.size 3 1 v4 (sdN l (k + 1)).length (S.natV (sdN l (k + 1))) := by rw [e4, hq]; simpa [S.natV] using hown4
        clear hown4 hgrow4 hown
        go_wp2
        go_roundw
        case rel => exact ⟨k + 1, by omega, by go_num, B4, hown5⟩
        case measure => simp [RowKit.intOf]; omega
    · obtain rfl : k = l.length := by omega
      go_wp2
      go_ret
      exact ⟨_, rfl, hown, hbw⟩
set_option maxHeartbeats 2000000 in
set_option maxRecDepth 20000 in
theorem l_follows (c : Cl) (A : Option Addr) (l : List Jt) (cc : Nat) (b : Int) (n : Nat) (w : World) (hJ : JB l) (hn : n < l.length) (hb : b < (l.length : Int)) (hR : Rd Jt.cs 2 w A l) :
    Calls Tryz.prog 189 #[clV c, .slice A l.length cc, .int .i64 b, .int .i64 (n : Nat)] w fun e w' => e = .returned (.bool (folB c l b n)) ∧ Below w.heap.size w w' := by
  have x0 := Blk.new w 25 (clA c)
  have B0 := bl_alloc (below_refl w) (.cells (clA c) 25)
  have hn2 := hJ.n
  have n0 : (0 : Int) ≤ (n : Int) := Int.natCast_nonneg _
  have n1 : (n : Int) < (l.length : Int) := by omega
  obtain ⟨x, bb, off, hx, rfl, hbl, c0, c1⟩ := rdJ (hR.on B0) hn
  obtain ⟨x1, x2⟩ := hJ.h n x hx
  have HX := Lib.hid (jAt_of hx)
  have q0 := x0.cell 0
  have q1 := x0.cell 1
  simp only [List.getElem?_toArray, List.getElem?_cons_zero, List.getElem?_cons_succ] at q0 q1
  by_cases hbn : b < 0
  · have HE := Lib.hid (show folB c l b n = decide (x.h ≤ c.fi) by unfold folB; rw [if_pos hbn, HX.out])
    rw [HE.out]
    clear hx hR HE HX
    cases h3 : decide (x.h ≤ c.fi)
    all_goals
      go_enter Tryz.func189, Tryz.ntmps189
      go_wp2_with fail
      go_quiet (fail)
      go_wp2
      go_ret
      exact ⟨rfl, by (repeat' (first | assumption | exact below_refl _ | refine bl_alloc ?_ _ | refine Below.setCell ?_ ?_ _ | refine below_draw ?_ | refine below_drewN ?_ _ | refine below_tr ?_ (by assumption))) <;> (first | omega | (simp; done) | (simp; omega))⟩
  · obtain ⟨m, rfl⟩ := Int.eq_ofNat_of_zero_le (show 0 ≤ b by omega)
    have hm : m < l.length := by omega
    obtain ⟨y, b', off', hy, e', hb', d0, d1⟩ := rdJ (hR.on B0) hm
    cases e'
    obtain ⟨y1, y2⟩ := hJ.h m y hy
    have HY := Lib.hid (jAt_of hy)
    have hw1 : IntKind.i64.wrap (x.h - y.h) = x.h - y.h := fits_wrap ⟨by omega, by omega⟩
    have m0 : (0 : Int) ≤ (m : Int) := Int.natCast_nonneg _
    have m1 : (m : Int) < (l.length : Int) := by omega
    have HE := Lib.hid (show folB c l (m : Int) n = (decide ((m : Int) < (n : Int)) && decide (x.h - y.h ≤ c.ga)) by unfold folB; rw [if_neg hbn, HX.out, Int.toNat_natCast, HY.out])
    rw [HE.out]
    clear hx hy hR HE HX HY
    by_cases h2 : (m : Int) < (n : Int)
    · rw [decide_eq_true h2, Bool.true_and]
      have g2 : m < n := by omega
      cases h3 : decide (x.h - y.h ≤ c.ga)
      all_goals
        go_enter Tryz.func189, Tryz.ntmps189
        go_wp2_with fail
        go_quiet (fail)
        go_wp2
        go_ret
        exact ⟨rfl, by (repeat' (first | assumption | exact below_refl _ | refine bl_alloc ?_ _ | refine Below.setCell ?_ ?_ _ | refine below_draw ?_ | refine below_drewN ?_ _ | refine below_tr ?_ (by assumption))) <;> (first | omega | (simp; done) | (simp; omega))⟩
    · have g1 : decide ((m : Int) < (n : Int)) = false := decide_eq_false h2
      have g2 : decide (m < n) = false := decide_eq_false (by omega)
      rw [g1, Bool.false_and]
      go_enter Tryz.func189, Tryz.ntmps189
      go_wp2_with fail
      go_quiet (fail)
      go_wp2
      go_ret
      exact ⟨rfl, by (repeat' (first | assumption | exact below_refl _ | refine bl_alloc ?_ _ | refine Below.setCell ?_ ?_ _ | refine below_draw ?_ | refine below_drewN ?_ _ | refine below_tr ?_ (by assumption))) <;> (first | omega | (simp; done) | (simp; omega))⟩
theorem l_followsV {c : Cl} {A : Option Addr} {l : List Jt} {cc : Nat} {b : Int} {n : Nat} {w : World} {v : Bool} (h : folB c l b n = v) (hJ : JB l) (hn : n < l.length) (hb : b < (l.length : Int)) (hR : Rd Jt.cs 2 w A l) :
    Calls Tryz.prog 189 #[clV c, .slice A l.length cc, .int .i64 b, .int .i64 (n : Nat)] w fun e w' => e = .returned (.bool v) ∧ Below w.heap.size w w' := h ▸ l_follows c A l cc b n w hJ hn hb hR
end Go.Proofs.YtmjgljdmjpabdaaGreatDoor.Fi
