/- The parts of the proof, part 15. -/
import Derived.Test.YtgemlddincnfcaaGreatDoorQ0
import Derived.Test.YtgemlddincnfcaaGreatDoorQ12
set_option maxHeartbeats 16000000
set_option maxRecDepth 20000
set_option linter.unusedSimpArgs false
set_option linter.unusedVariables false
namespace Go.Proofs.YtgemlddincnfcaaGreatDoor.Fi
open Go.RowKit Go.Lib Tx
def CloP {α : Type} (enc : α -> List Value) (sz : Nat) (t : TypeId) (l : List α) (w : World) (e : Ending) (w' : World) : Prop :=
 ∃ y : Sl α, e = .returned y.v ∧ y.l = l ∧ w'.ownsRow w.heap.size t sz y.v y.l.length (fl enc y.l) ∧ y.l.length <= y.c ∧ y.c <= maxLen ∧ Below w.heap.size w w'
theorem got_own {α : Type} {enc : α -> List Value} {sz base : Nat} {W : World} {e : TypeId} {y : Sl α} {T : Nat -> Prop} (hs : ∀ a, (enc a).length = sz) (h : W.ownsRow base e sz y.v y.l.length (fl enc y.l)) (hT : ∀ b, base <= b -> b < W.heap.size -> T b) : Got T W enc sz y := by
 have hc := own_caps h
 refine ⟨own_rd' hs h, fun hne a ha => ?_, hc.1, hc.2⟩
 obtain ⟨b, off, e', hb, _⟩ := own_rd' hs h hne
 rw [e'] at ha; cases ha
 have := own_ge h b (by show (Value.slice y.a _ _).ownBlock = _; rw [e']; rfl)
 exact hT b this.1 this.2
theorem info_Item : ∃ i : TypeInfo, Tryz.prog.info? 77 = some i ∧ i.zero = some (.agg #[.string ByteArray.empty, .int .i64 0, .int .i64 0, .string ByteArray.empty]) ∧ i.size = 4 ∧ i.bytes = 48 := info_parts (by kernel_rfl)
theorem c_CloneItem (x : Sl G.It) (w : World) (hl : x.l.length <= 100000) (hR : Rd G.It.cs 4 w x.a x.l) :
  Calls Tryz.prog 34 #[.slice x.a x.l.length x.c] w (CloP G.It.cs 4 77 x.l w) := by
 obtain ⟨i0, hi, hi1, hi2, hi3⟩ := info_Item
 have hq : ∀ (w : World) (a : Option Addr) (n c n' c' : Nat), (binOp .eql 26 (.slice a n c) (.slice none n' c')).run Tryz.prog w = .ok (.bool a.isNone) w := fun w a n c n' c' => Lib.run_eql_slice_nil w _ _ a n c n' c' Tryz.underlying26
 obtain ⟨A, l, c⟩ := x
 dsimp only at *
 cases A with
 | none =>
  have h0 : l = [] := by
   by_cases h : l = []
   ·exact h
   ·obtain ⟨_, _, e, _⟩ := hR h; cases e
  subst h0
  go_enter Tryz.func34, Tryz.ntmps34
  go_wp2
  go_ret
  exact ⟨⟨none, [], 0⟩, rfl, rfl, World.ownsRow_nil w _ _ _, Nat.le_refl _, by simp, below_refl _⟩
 | some a =>
  have hcl : ∀ j u, (fl G.It.cs l)[j]? = some u -> (w.alloc (.cells #[] 77)).cell? (a.add j) = some u := by
   have hR := hR.on (bl_alloc (below_refl w) (.cells #[] 77))
   by_cases h0 : l = []
   ·subst h0
    intro j u hj
    simp [fl] at hj
   ·obtain ⟨b, off, e, hb, hc⟩ := hR h0
    cases e
    exact rd_fl (enc := G.It.cs) (sz := 4) (fun _ => rfl) hR
  have hone : ∀ u ∈ fl G.It.cs l, u.oneCell' = true := fun u hu => by
   unfold fl at hu
   obtain ⟨y, _, hu⟩ := List.mem_flatMap.1 hu
   simp [G.It.cs] at hu; rcases hu with rfl | rfl | rfl | rfl <;> rfl
  have hlen := fl_length (enc := G.It.cs) (sz := 4) (fun _ => rfl) l
  go_enter Tryz.func34, Tryz.ntmps34
  go_wp2_with (at_builtin; refine wpList_append_own _ rfl _ _ 26 rfl w.heap.size 77 i0 (.agg #[.string ByteArray.empty, .int .i64 0, .int .i64 0, .string ByteArray.empty]) 4 48 (by kernel_rfl) hi hi1 hi2 hi3 rfl (by omega) _ _ _ rfl (World.ownsRow_made w #[] 0 (Nat.le_refl _) (Nat.zero_le _) (by simp)) a l.length c (fl G.It.cs l) rfl hlen hcl hone (by first | omega | (unfold maxLen; omega) | (simp; done) | (simp; omega)) (by first | omega | (unfold maxLen; omega) | (simp; done) | (simp; omega)) (by first | omega | (unfold maxLen; omega) | (simp; done) | (simp; omega)) ?_; intro v4 w4 hown4 hgrow4 _)
  have own4 : w4.ownsRow w.heap.size 77 4 v4 l.length (fl G.It.cs l) := by simpa using hown4
  obtain ⟨ad, cp, rfl⟩ := own_slice own4
  have hc := own_caps own4
  have B4 : Below w.heap.size w w4 := bl_grown (bl_alloc (below_refl w) (.cells #[] 77)) hgrow4 (fun r h => Nat.le_of_eq (Option.some.inj (show some w.heap.size = some r from h))) (by simp)
  go_wp2
  go_ret
  exact ⟨⟨ad, l, cp⟩, rfl, rfl, own4, hc.1, hc.2, B4⟩
theorem info_Link : ∃ i : TypeInfo, Tryz.prog.info? 79 = some i ∧ i.zero = some (.agg #[.string ByteArray.empty, .int .i64 0]) ∧ i.size = 2 ∧ i.bytes = 24 := info_parts (by kernel_rfl)
theorem c_CloneLink (x : Sl G.Lk) (w : World) (hl : x.l.length <= 100000) (hR : Rd G.Lk.cs 2 w x.a x.l) :
  Calls Tryz.prog 36 #[.slice x.a x.l.length x.c] w (CloP G.Lk.cs 2 79 x.l w) := by
 obtain ⟨i0, hi, hi1, hi2, hi3⟩ := info_Link
 have hq : ∀ (w : World) (a : Option Addr) (n c n' c' : Nat), (binOp .eql 47 (.slice a n c) (.slice none n' c')).run Tryz.prog w = .ok (.bool a.isNone) w := fun w a n c n' c' => Lib.run_eql_slice_nil w _ _ a n c n' c' Tryz.underlying47
 obtain ⟨A, l, c⟩ := x
 dsimp only at *
 cases A with
 | none =>
  have h0 : l = [] := by
   by_cases h : l = []
   ·exact h
   ·obtain ⟨_, _, e, _⟩ := hR h; cases e
  subst h0
  go_enter Tryz.func36, Tryz.ntmps36
  go_wp2
  go_ret
  exact ⟨⟨none, [], 0⟩, rfl, rfl, World.ownsRow_nil w _ _ _, Nat.le_refl _, by simp, below_refl _⟩
 | some a =>
  have hcl : ∀ j u, (fl G.Lk.cs l)[j]? = some u -> (w.alloc (.cells #[] 79)).cell? (a.add j) = some u := by
   have hR := hR.on (bl_alloc (below_refl w) (.cells #[] 79))
   by_cases h0 : l = []
   ·subst h0
    intro j u hj
    simp [fl] at hj
   ·obtain ⟨b, off, e, hb, hc⟩ := hR h0
    cases e
    exact rd_fl (enc := G.Lk.cs) (sz := 2) (fun _ => rfl) hR
  have hone : ∀ u ∈ fl G.Lk.cs l, u.oneCell' = true := fun u hu => by
   unfold fl at hu
   obtain ⟨y, _, hu⟩ := List.mem_flatMap.1 hu
   simp [G.Lk.cs] at hu; rcases hu with rfl | rfl <;> rfl
  have hlen := fl_length (enc := G.Lk.cs) (sz := 2) (fun _ => rfl) l
  go_enter Tryz.func36, Tryz.ntmps36
  go_wp2_with (at_builtin; refine wpList_append_own _ rfl _ _ 47 rfl w.heap.size 79 i0 (.agg #[.string ByteArray.empty, .int .i64 0]) 2 24 (by kernel_rfl) hi hi1 hi2 hi3 rfl (by omega) _ _ _ rfl (World.ownsRow_made w #[] 0 (Nat.le_refl _) (Nat.zero_le _) (by simp)) a l.length c (fl G.Lk.cs l) rfl hlen hcl hone (by first | omega | (unfold maxLen; omega) | (simp; done) | (simp; omega)) (by first | omega | (unfold maxLen; omega) | (simp; done) | (simp; omega)) (by first | omega | (unfold maxLen; omega) | (simp; done) | (simp; omega)) ?_; intro v4 w4 hown4 hgrow4 _)
  have own4 : w4.ownsRow w.heap.size 79 2 v4 l.length (fl G.Lk.cs l) := by simpa using hown4
  obtain ⟨ad, cp, rfl⟩ := own_slice own4
  have hc := own_caps own4
  have B4 : Below w.heap.size w w4 := bl_grown (bl_alloc (below_refl w) (.cells #[] 79)) hgrow4 (fun r h => Nat.le_of_eq (Option.some.inj (show some w.heap.size = some r from h))) (by simp)
  go_wp2
  go_ret
  exact ⟨⟨ad, l, cp⟩, rfl, rfl, own4, hc.1, hc.2, B4⟩
theorem info_Int : ∃ i : TypeInfo, Tryz.prog.info? 3 = some i ∧ i.zero = some (.int .i64 0) ∧ i.size = 1 ∧ i.bytes = 8 := info_parts (by kernel_rfl)
theorem c_CloneInt (x : Sl Int) (w : World) (hl : x.l.length <= 100000) (hR : Rd zC 1 w x.a x.l) :
  Calls Tryz.prog 60 #[.slice x.a x.l.length x.c] w (CloP zC 1 3 x.l w) := by
 obtain ⟨i0, hi, hi1, hi2, hi3⟩ := info_Int
 have hq : ∀ (w : World) (a : Option Addr) (n c n' c' : Nat), (binOp .eql 48 (.slice a n c) (.slice none n' c')).run Tryz.prog w = .ok (.bool a.isNone) w := fun w a n c n' c' => Lib.run_eql_slice_nil w _ _ a n c n' c' Tryz.underlying48
 obtain ⟨A, l, c⟩ := x
 dsimp only at *
 cases A with
 | none =>
  have h0 : l = [] := by
   by_cases h : l = []
   ·exact h
   ·obtain ⟨_, _, e, _⟩ := hR h; cases e
  subst h0
  go_enter Tryz.func60, Tryz.ntmps60
  go_wp2
  go_ret
  exact ⟨⟨none, [], 0⟩, rfl, rfl, World.ownsRow_nil w _ _ _, Nat.le_refl _, by simp, below_refl _⟩
 | some a =>
  have hcl : ∀ j u, (fl zC l)[j]? = some u -> (w.alloc (.cells #[] 3)).cell? (a.add j) = some u := by
   have hR := hR.on (bl_alloc (below_refl w) (.cells #[] 3))
   by_cases h0 : l = []
   ·subst h0
    intro j u hj
    simp [fl] at hj
   ·obtain ⟨b, off, e, hb, hc⟩ := hR h0
    cases e
    exact rd_fl (enc := zC) (sz := 1) (fun _ => rfl) hR
  have hone : ∀ u ∈ fl zC l, u.oneCell' = true := fun u hu => by
   unfold fl at hu
   obtain ⟨y, _, hu⟩ := List.mem_flatMap.1 hu
   simp [zC] at hu; subst hu; rfl
  have hlen := fl_length (enc := zC) (sz := 1) (fun _ => rfl) l
  go_enter Tryz.func60, Tryz.ntmps60
  go_wp2_with (at_builtin; refine wpList_append_own _ rfl _ _ 48 rfl w.heap.size 3 i0 (.int .i64 0) 1 8 (by kernel_rfl) hi hi1 hi2 hi3 rfl (by omega) _ _ _ rfl (World.ownsRow_made w #[] 0 (Nat.le_refl _) (Nat.zero_le _) (by simp)) a l.length c (fl zC l) rfl hlen hcl hone (by first | omega | (unfold maxLen; omega) | (simp; done) | (simp; omega)) (by first | omega | (unfold maxLen; omega) | (simp; done) | (simp; omega)) (by first | omega | (unfold maxLen; omega) | (simp; done) | (simp; omega)) ?_; intro v4 w4 hown4 hgrow4 _)
  have own4 : w4.ownsRow w.heap.size 3 1 v4 l.length (fl zC l) := by simpa using hown4
  obtain ⟨ad, cp, rfl⟩ := own_slice own4
  have hc := own_caps own4
  have B4 : Below w.heap.size w w4 := bl_grown (bl_alloc (below_refl w) (.cells #[] 3)) hgrow4 (fun r h => Nat.le_of_eq (Option.some.inj (show some w.heap.size = some r from h))) (by simp)
  go_wp2
  go_ret
  exact ⟨⟨ad, l, cp⟩, rfl, rfl, own4, hc.1, hc.2, B4⟩
theorem info_Str : ∃ i : TypeInfo, Tryz.prog.info? 9 = some i ∧ i.zero = some (.string ByteArray.empty) ∧ i.size = 1 ∧ i.bytes = 16 := info_parts (by kernel_rfl)
theorem c_CloneStr (x : Sl ByteArray) (w : World) (hl : x.l.length <= 100000) (hR : Rd G.sC 1 w x.a x.l) :
  Calls Tryz.prog 35 #[.slice x.a x.l.length x.c] w (CloP G.sC 1 9 x.l w) := by
 obtain ⟨i0, hi, hi1, hi2, hi3⟩ := info_Str
 have hq : ∀ (w : World) (a : Option Addr) (n c n' c' : Nat), (binOp .eql 42 (.slice a n c) (.slice none n' c')).run Tryz.prog w = .ok (.bool a.isNone) w := fun w a n c n' c' => Lib.run_eql_slice_nil w _ _ a n c n' c' Tryz.underlying42
 obtain ⟨A, l, c⟩ := x
 dsimp only at *
 cases A with
 | none =>
  have h0 : l = [] := by
   by_cases h : l = []
   ·exact h
   ·obtain ⟨_, _, e, _⟩ := hR h; cases e
  subst h0
  go_enter Tryz.func35, Tryz.ntmps35
  go_wp2
  go_ret
  exact ⟨⟨none, [], 0⟩, rfl, rfl, World.ownsRow_nil w _ _ _, Nat.le_refl _, by simp, below_refl _⟩
 | some a =>
  have hcl : ∀ j u, (fl G.sC l)[j]? = some u -> (w.alloc (.cells #[] 9)).cell? (a.add j) = some u := by
   have hR := hR.on (bl_alloc (below_refl w) (.cells #[] 9))
   by_cases h0 : l = []
   ·subst h0
    intro j u hj
    simp [fl] at hj
   ·obtain ⟨b, off, e, hb, hc⟩ := hR h0
    cases e
    exact rd_fl (enc := G.sC) (sz := 1) (fun _ => rfl) hR
  have hone : ∀ u ∈ fl G.sC l, u.oneCell' = true := fun u hu => by
   unfold fl at hu
   obtain ⟨y, _, hu⟩ := List.mem_flatMap.1 hu
   simp [G.sC] at hu; subst hu; rfl
  have hlen := fl_length (enc := G.sC) (sz := 1) (fun _ => rfl) l
  go_enter Tryz.func35, Tryz.ntmps35
  go_wp2_with (at_builtin; refine wpList_append_own _ rfl _ _ 42 rfl w.heap.size 9 i0 (.string ByteArray.empty) 1 16 (by kernel_rfl) hi hi1 hi2 hi3 rfl (by omega) _ _ _ rfl (World.ownsRow_made w #[] 0 (Nat.le_refl _) (Nat.zero_le _) (by simp)) a l.length c (fl G.sC l) rfl hlen hcl hone (by first | omega | (unfold maxLen; omega) | (simp; done) | (simp; omega)) (by first | omega | (unfold maxLen; omega) | (simp; done) | (simp; omega)) (by first | omega | (unfold maxLen; omega) | (simp; done) | (simp; omega)) ?_; intro v4 w4 hown4 hgrow4 _)
  have own4 : w4.ownsRow w.heap.size 9 1 v4 l.length (fl G.sC l) := by simpa using hown4
  obtain ⟨ad, cp, rfl⟩ := own_slice own4
  have hc := own_caps own4
  have B4 : Below w.heap.size w w4 := bl_grown (bl_alloc (below_refl w) (.cells #[] 9)) hgrow4 (fun r h => Nat.le_of_eq (Option.some.inj (show some w.heap.size = some r from h))) (by simp)
  go_wp2
  go_ret
  exact ⟨⟨ad, l, cp⟩, rfl, rfl, own4, hc.1, hc.2, B4⟩
theorem info_Entry : ∃ i : TypeInfo, Tryz.prog.info? 73 = some i ∧ i.zero = some (.agg #[.int .i64 0, .int .i64 0, .string ByteArray.empty, .int .u64 0]) ∧ i.size = 4 ∧ i.bytes = 40 := info_parts (by kernel_rfl)
theorem c_CloneEntry (x : Sl En) (w : World) (hl : x.l.length <= 100000) (hR : Rd En.cs 4 w x.a x.l) :
  Calls Tryz.prog 62 #[.slice x.a x.l.length x.c] w (CloP En.cs 4 73 x.l w) := by
 obtain ⟨i0, hi, hi1, hi2, hi3⟩ := info_Entry
 have hq : ∀ (w : World) (a : Option Addr) (n c n' c' : Nat), (binOp .eql 64 (.slice a n c) (.slice none n' c')).run Tryz.prog w = .ok (.bool a.isNone) w := fun w a n c n' c' => Lib.run_eql_slice_nil w _ _ a n c n' c' Tryz.underlying64
 obtain ⟨A, l, c⟩ := x
 dsimp only at *
 cases A with
 | none =>
  have h0 : l = [] := by
   by_cases h : l = []
   ·exact h
   ·obtain ⟨_, _, e, _⟩ := hR h; cases e
  subst h0
  go_enter Tryz.func62, Tryz.ntmps62
  go_wp2
  go_ret
  exact ⟨⟨none, [], 0⟩, rfl, rfl, World.ownsRow_nil w _ _ _, Nat.le_refl _, by simp, below_refl _⟩
 | some a =>
  have hcl : ∀ j u, (fl En.cs l)[j]? = some u -> (w.alloc (.cells #[] 73)).cell? (a.add j) = some u := by
   have hR := hR.on (bl_alloc (below_refl w) (.cells #[] 73))
   by_cases h0 : l = []
   ·subst h0
    intro j u hj
    simp [fl] at hj
   ·obtain ⟨b, off, e, hb, hc⟩ := hR h0
    cases e
    exact rd_fl (enc := En.cs) (sz := 4) (fun _ => rfl) hR
  have hone : ∀ u ∈ fl En.cs l, u.oneCell' = true := fun u hu => by
   unfold fl at hu
   obtain ⟨y, _, hu⟩ := List.mem_flatMap.1 hu
   simp [En.cs] at hu; rcases hu with rfl | rfl | rfl | rfl <;> rfl
  have hlen := fl_length (enc := En.cs) (sz := 4) (fun _ => rfl) l
  go_enter Tryz.func62, Tryz.ntmps62
  go_wp2_with (at_builtin; refine wpList_append_own _ rfl _ _ 64 rfl w.heap.size 73 i0 (.agg #[.int .i64 0, .int .i64 0, .string ByteArray.empty, .int .u64 0]) 4 40 (by kernel_rfl) hi hi1 hi2 hi3 rfl (by omega) _ _ _ rfl (World.ownsRow_made w #[] 0 (Nat.le_refl _) (Nat.zero_le _) (by simp)) a l.length c (fl En.cs l) rfl hlen hcl hone (by first | omega | (unfold maxLen; omega) | (simp; done) | (simp; omega)) (by first | omega | (unfold maxLen; omega) | (simp; done) | (simp; omega)) (by first | omega | (unfold maxLen; omega) | (simp; done) | (simp; omega)) ?_; intro v4 w4 hown4 hgrow4 _)
  have own4 : w4.ownsRow w.heap.size 73 4 v4 l.length (fl En.cs l) := by simpa using hown4
  obtain ⟨ad, cp, rfl⟩ := own_slice own4
  have hc := own_caps own4
  have B4 : Below w.heap.size w w4 := bl_grown (bl_alloc (below_refl w) (.cells #[] 73)) hgrow4 (fun r h => Nat.le_of_eq (Option.some.inj (show some w.heap.size = some r from h))) (by simp)
  go_wp2
  go_ret
  exact ⟨⟨ad, l, cp⟩, rfl, rfl, own4, hc.1, hc.2, B4⟩
theorem info_Course : ∃ i : TypeInfo, Tryz.prog.info? 99 = some i ∧ i.zero = some (.agg #[.int .i64 0, .int .i64 0, .int .i64 0, .int .i64 0, .int .i64 0, .int .i64 0]) ∧ i.size = 6 ∧ i.bytes = 48 := info_parts (by kernel_rfl)
theorem c_CloneCourse (x : Sl S.Course) (w : World) (hl : x.l.length <= 100000) (hR : Rd S.Course.cs 6 w x.a x.l) :
  Calls Tryz.prog 126 #[.slice x.a x.l.length x.c] w (CloP S.Course.cs 6 99 x.l w) := by
 obtain ⟨i0, hi, hi1, hi2, hi3⟩ := info_Course
 have hq : ∀ (w : World) (a : Option Addr) (n c n' c' : Nat), (binOp .eql 75 (.slice a n c) (.slice none n' c')).run Tryz.prog w = .ok (.bool a.isNone) w := fun w a n c n' c' => Lib.run_eql_slice_nil w _ _ a n c n' c' Tryz.underlying75
 obtain ⟨A, l, c⟩ := x
 dsimp only at *
 cases A with
 | none =>
  have h0 : l = [] := by
   by_cases h : l = []
   ·exact h
   ·obtain ⟨_, _, e, _⟩ := hR h; cases e
  subst h0
  go_enter Tryz.func126, Tryz.ntmps126
  go_wp2
  go_ret
  exact ⟨⟨none, [], 0⟩, rfl, rfl, World.ownsRow_nil w _ _ _, Nat.le_refl _, by simp, below_refl _⟩
 | some a =>
  have hcl : ∀ j u, (fl S.Course.cs l)[j]? = some u -> (w.alloc (.cells #[] 99)).cell? (a.add j) = some u := by
   have hR := hR.on (bl_alloc (below_refl w) (.cells #[] 99))
   by_cases h0 : l = []
   ·subst h0
    intro j u hj
    simp [fl] at hj
   ·obtain ⟨b, off, e, hb, hc⟩ := hR h0
    cases e
    exact rd_fl (enc := S.Course.cs) (sz := 6) (fun _ => rfl) hR
  have hone : ∀ u ∈ fl S.Course.cs l, u.oneCell' = true := fun u hu => by
   unfold fl at hu
   obtain ⟨y, _, hu⟩ := List.mem_flatMap.1 hu
   simp [S.Course.cs] at hu; rcases hu with rfl | rfl | rfl | rfl | rfl | rfl <;> rfl
  have hlen := fl_length (enc := S.Course.cs) (sz := 6) (fun _ => rfl) l
  go_enter Tryz.func126, Tryz.ntmps126
  go_wp2_with (at_builtin; refine wpList_append_own _ rfl _ _ 75 rfl w.heap.size 99 i0 (.agg #[.int .i64 0, .int .i64 0, .int .i64 0, .int .i64 0, .int .i64 0, .int .i64 0]) 6 48 (by kernel_rfl) hi hi1 hi2 hi3 rfl (by omega) _ _ _ rfl (World.ownsRow_made w #[] 0 (Nat.le_refl _) (Nat.zero_le _) (by simp)) a l.length c (fl S.Course.cs l) rfl hlen hcl hone (by first | omega | (unfold maxLen; omega) | (simp; done) | (simp; omega)) (by first | omega | (unfold maxLen; omega) | (simp; done) | (simp; omega)) (by first | omega | (unfold maxLen; omega) | (simp; done) | (simp; omega)) ?_; intro v4 w4 hown4 hgrow4 _)
  have own4 : w4.ownsRow w.heap.size 99 6 v4 l.length (fl S.Course.cs l) := by simpa using hown4
  obtain ⟨ad, cp, rfl⟩ := own_slice own4
  have hc := own_caps own4
  have B4 : Below w.heap.size w w4 := bl_grown (bl_alloc (below_refl w) (.cells #[] 99)) hgrow4 (fun r h => Nat.le_of_eq (Option.some.inj (show some w.heap.size = some r from h))) (by simp)
  go_wp2
  go_ret
  exact ⟨⟨ad, l, cp⟩, rfl, rfl, own4, hc.1, hc.2, B4⟩
theorem info_Joint : ∃ i : TypeInfo, Tryz.prog.info? 124 = some i ∧ i.zero = some (.agg #[.int .i64 0, .bool false]) ∧ i.size = 2 ∧ i.bytes = 16 := info_parts (by kernel_rfl)
theorem c_CloneJoint (x : Sl Jt) (w : World) (hl : x.l.length <= 100000) (hR : Rd Jt.cs 2 w x.a x.l) :
  Calls Tryz.prog 127 #[.slice x.a x.l.length x.c] w (CloP Jt.cs 2 124 x.l w) := by
 obtain ⟨i0, hi, hi1, hi2, hi3⟩ := info_Joint
 have hq : ∀ (w : World) (a : Option Addr) (n c n' c' : Nat), (binOp .eql 60 (.slice a n c) (.slice none n' c')).run Tryz.prog w = .ok (.bool a.isNone) w := fun w a n c n' c' => Lib.run_eql_slice_nil w _ _ a n c n' c' Tryz.underlying60
 obtain ⟨A, l, c⟩ := x
 dsimp only at *
 cases A with
 | none =>
  have h0 : l = [] := by
   by_cases h : l = []
   ·exact h
   ·obtain ⟨_, _, e, _⟩ := hR h; cases e
  subst h0
  go_enter Tryz.func127, Tryz.ntmps127
  go_wp2
  go_ret
  exact ⟨⟨none, [], 0⟩, rfl, rfl, World.ownsRow_nil w _ _ _, Nat.le_refl _, by simp, below_refl _⟩
 | some a =>
  have hcl : ∀ j u, (fl Jt.cs l)[j]? = some u -> (w.alloc (.cells #[] 124)).cell? (a.add j) = some u := by
   have hR := hR.on (bl_alloc (below_refl w) (.cells #[] 124))
   by_cases h0 : l = []
   ·subst h0
    intro j u hj
    simp [fl] at hj
   ·obtain ⟨b, off, e, hb, hc⟩ := hR h0
    cases e
    exact rd_fl (enc := Jt.cs) (sz := 2) (fun _ => rfl) hR
  have hone : ∀ u ∈ fl Jt.cs l, u.oneCell' = true := fun u hu => by
   unfold fl at hu
   obtain ⟨y, _, hu⟩ := List.mem_flatMap.1 hu
   simp [Jt.cs] at hu; rcases hu with rfl | rfl <;> rfl
  have hlen := fl_length (enc := Jt.cs) (sz := 2) (fun _ => rfl) l
  go_enter Tryz.func127, Tryz.ntmps127
  go_wp2_with (at_builtin; refine wpList_append_own _ rfl _ _ 60 rfl w.heap.size 124 i0 (.agg #[.int .i64 0, .bool false]) 2 16 (by kernel_rfl) hi hi1 hi2 hi3 rfl (by omega) _ _ _ rfl (World.ownsRow_made w #[] 0 (Nat.le_refl _) (Nat.zero_le _) (by simp)) a l.length c (fl Jt.cs l) rfl hlen hcl hone (by first | omega | (unfold maxLen; omega) | (simp; done) | (simp; omega)) (by first | omega | (unfold maxLen; omega) | (simp; done) | (simp; omega)) (by first | omega | (unfold maxLen; omega) | (simp; done) | (simp; omega)) ?_; intro v4 w4 hown4 hgrow4 _)
  have own4 : w4.ownsRow w.heap.size 124 2 v4 l.length (fl Jt.cs l) := by simpa using hown4
  obtain ⟨ad, cp, rfl⟩ := own_slice own4
  have hc := own_caps own4
  have B4 : Below w.heap.size w w4 := bl_grown (bl_alloc (below_refl w) (.cells #[] 124)) hgrow4 (fun r h => Nat.le_of_eq (Option.some.inj (show some w.heap.size = some r from h))) (by simp)
  go_wp2
  go_ret
  exact ⟨⟨ad, l, cp⟩, rfl, rfl, own4, hc.1, hc.2, B4⟩
theorem info_Rig : ∃ i : TypeInfo, Tryz.prog.info? 90 = some i ∧ i.zero = some (.agg #[.int .i64 0, .slice none 0 0]) ∧ i.size = 2 ∧ i.bytes = 32 := info_parts (by kernel_rfl)
theorem c_CloneRig (x : Sl LRg) (w : World) (hl : x.l.length <= 100000) (hR : Rd LRg.cs 2 w x.a x.l) :
  Calls Tryz.prog 113 #[.slice x.a x.l.length x.c] w (CloP LRg.cs 2 90 x.l w) := by
 obtain ⟨i0, hi, hi1, hi2, hi3⟩ := info_Rig
 have hq : ∀ (w : World) (a : Option Addr) (n c n' c' : Nat), (binOp .eql 83 (.slice a n c) (.slice none n' c')).run Tryz.prog w = .ok (.bool a.isNone) w := fun w a n c n' c' => Lib.run_eql_slice_nil w _ _ a n c n' c' Tryz.underlying83
 obtain ⟨A, l, c⟩ := x
 dsimp only at *
 cases A with
 | none =>
  have h0 : l = [] := by
   by_cases h : l = []
   ·exact h
   ·obtain ⟨_, _, e, _⟩ := hR h; cases e
  subst h0
  go_enter Tryz.func113, Tryz.ntmps113
  go_wp2
  go_ret
  exact ⟨⟨none, [], 0⟩, rfl, rfl, World.ownsRow_nil w _ _ _, Nat.le_refl _, by simp, below_refl _⟩
 | some a =>
  have hcl : ∀ j u, (fl LRg.cs l)[j]? = some u -> (w.alloc (.cells #[] 90)).cell? (a.add j) = some u := by
   have hR := hR.on (bl_alloc (below_refl w) (.cells #[] 90))
   by_cases h0 : l = []
   ·subst h0
    intro j u hj
    simp [fl] at hj
   ·obtain ⟨b, off, e, hb, hc⟩ := hR h0
    cases e
    exact rd_fl (enc := LRg.cs) (sz := 2) (fun _ => rfl) hR
  have hone : ∀ u ∈ fl LRg.cs l, u.oneCell' = true := fun u hu => by
   unfold fl at hu
   obtain ⟨y, _, hu⟩ := List.mem_flatMap.1 hu
   simp [LRg.cs] at hu; rcases hu with rfl | rfl <;> rfl
  have hlen := fl_length (enc := LRg.cs) (sz := 2) (fun _ => rfl) l
  go_enter Tryz.func113, Tryz.ntmps113
  go_wp2_with (at_builtin; refine wpList_append_own _ rfl _ _ 83 rfl w.heap.size 90 i0 (.agg #[.int .i64 0, .slice none 0 0]) 2 32 (by kernel_rfl) hi hi1 hi2 hi3 rfl (by omega) _ _ _ rfl (World.ownsRow_made w #[] 0 (Nat.le_refl _) (Nat.zero_le _) (by simp)) a l.length c (fl LRg.cs l) rfl hlen hcl hone (by first | omega | (unfold maxLen; omega) | (simp; done) | (simp; omega)) (by first | omega | (unfold maxLen; omega) | (simp; done) | (simp; omega)) (by first | omega | (unfold maxLen; omega) | (simp; done) | (simp; omega)) ?_; intro v4 w4 hown4 hgrow4 _)
  have own4 : w4.ownsRow w.heap.size 90 2 v4 l.length (fl LRg.cs l) := by simpa using hown4
  obtain ⟨ad, cp, rfl⟩ := own_slice own4
  have hc := own_caps own4
  have B4 : Below w.heap.size w w4 := bl_grown (bl_alloc (below_refl w) (.cells #[] 90)) hgrow4 (fun r h => Nat.le_of_eq (Option.some.inj (show some w.heap.size = some r from h))) (by simp)
  go_wp2
  go_ret
  exact ⟨⟨ad, l, cp⟩, rfl, rfl, own4, hc.1, hc.2, B4⟩
theorem info_Site : ∃ i : TypeInfo, Tryz.prog.info? 118 = some i ∧ i.zero = some (.agg #[.slice none 0 0, .bool false, .int .i64 0]) ∧ i.size = 3 ∧ i.bytes = 40 := info_parts (by kernel_rfl)
theorem c_CloneSite (x : Sl LSi) (w : World) (hl : x.l.length <= 100000) (hR : Rd LSi.cs 3 w x.a x.l) :
  Calls Tryz.prog 114 #[.slice x.a x.l.length x.c] w (CloP LSi.cs 3 118 x.l w) := by
 obtain ⟨i0, hi, hi1, hi2, hi3⟩ := info_Site
 have hq : ∀ (w : World) (a : Option Addr) (n c n' c' : Nat), (binOp .eql 81 (.slice a n c) (.slice none n' c')).run Tryz.prog w = .ok (.bool a.isNone) w := fun w a n c n' c' => Lib.run_eql_slice_nil w _ _ a n c n' c' Tryz.underlying81
 obtain ⟨A, l, c⟩ := x
 dsimp only at *
 cases A with
 | none =>
  have h0 : l = [] := by
   by_cases h : l = []
   ·exact h
   ·obtain ⟨_, _, e, _⟩ := hR h; cases e
  subst h0
  go_enter Tryz.func114, Tryz.ntmps114
  go_wp2
  go_ret
  exact ⟨⟨none, [], 0⟩, rfl, rfl, World.ownsRow_nil w _ _ _, Nat.le_refl _, by simp, below_refl _⟩
 | some a =>
  have hcl : ∀ j u, (fl LSi.cs l)[j]? = some u -> (w.alloc (.cells #[] 118)).cell? (a.add j) = some u := by
   have hR := hR.on (bl_alloc (below_refl w) (.cells #[] 118))
   by_cases h0 : l = []
   ·subst h0
    intro j u hj
    simp [fl] at hj
   ·obtain ⟨b, off, e, hb, hc⟩ := hR h0
    cases e
    exact rd_fl (enc := LSi.cs) (sz := 3) (fun _ => rfl) hR
  have hone : ∀ u ∈ fl LSi.cs l, u.oneCell' = true := fun u hu => by
   unfold fl at hu
   obtain ⟨y, _, hu⟩ := List.mem_flatMap.1 hu
   simp [LSi.cs] at hu; rcases hu with rfl | rfl | rfl <;> rfl
  have hlen := fl_length (enc := LSi.cs) (sz := 3) (fun _ => rfl) l
  go_enter Tryz.func114, Tryz.ntmps114
  go_wp2_with (at_builtin; refine wpList_append_own _ rfl _ _ 81 rfl w.heap.size 118 i0 (.agg #[.slice none 0 0, .bool false, .int .i64 0]) 3 40 (by kernel_rfl) hi hi1 hi2 hi3 rfl (by omega) _ _ _ rfl (World.ownsRow_made w #[] 0 (Nat.le_refl _) (Nat.zero_le _) (by simp)) a l.length c (fl LSi.cs l) rfl hlen hcl hone (by first | omega | (unfold maxLen; omega) | (simp; done) | (simp; omega)) (by first | omega | (unfold maxLen; omega) | (simp; done) | (simp; omega)) (by first | omega | (unfold maxLen; omega) | (simp; done) | (simp; omega)) ?_; intro v4 w4 hown4 hgrow4 _)
  have own4 : w4.ownsRow w.heap.size 118 3 v4 l.length (fl LSi.cs l) := by simpa using hown4
  obtain ⟨ad, cp, rfl⟩ := own_slice own4
  have hc := own_caps own4
  have B4 : Below w.heap.size w w4 := bl_grown (bl_alloc (below_refl w) (.cells #[] 118)) hgrow4 (fun r h => Nat.le_of_eq (Option.some.inj (show some w.heap.size = some r from h))) (by simp)
  go_wp2
  go_ret
  exact ⟨⟨ad, l, cp⟩, rfl, rfl, own4, hc.1, hc.2, B4⟩
abbrev rtV (r : Rt) : Value := .agg #[.int .i64 r.lo, .int .i64 r.hi, .int .i64 r.ab, .int .i64 r.co]
abbrev rtA (r : Rt) : Array Value := #[.int .i64 r.lo, .int .i64 r.hi, .int .i64 r.ab, .int .i64 r.co]
theorem j_within (n lo hi : Int) (w : World) :
  Calls Tryz.prog 125 #[.int .i64 n, .int .i64 lo, .int .i64 hi] w fun e w' => e = .returned (.bool (wn n lo hi)) ∧ w = w' := by
 by_cases h1 : lo <= n
 ·have t1 : decide (lo <= n) = true := by simpa using h1
  go_enter Tryz.func125, Tryz.ntmps125
  go_wp2
  go_ret
  exact ⟨ret_bool (by simp [wn, h1]), rfl⟩
 ·have t1 : decide (lo <= n) = false := by simpa using h1
  go_enter Tryz.func125, Tryz.ntmps125
  go_wp2
  go_ret
  exact ⟨ret_bool (by unfold wn; rw [t1]; rfl), rfl⟩
theorem j_withinV {n lo hi : Int} {b : Bool} (h : wn n lo hi = b) (w : World) :
  Calls Tryz.prog 125 #[.int .i64 n, .int .i64 lo, .int .i64 hi] w fun e w' => e = .returned (.bool b) ∧ w = w' := h ▸ j_within n lo hi w
theorem j_ValidRate (r : Rt) (w : World) : Calls Tryz.prog 73 #[rtV r] w fun e w' => e = .returned (.bool (vRt r)) ∧ Below w.heap.size w w' := by
 have HB := Lib.hid (show vRt r = (wn r.hi 1 200000 && (wn r.lo 0 1000000 && (wn r.ab 0 1000000 && wn r.co 0 1000000))) from rfl)
 cases h1 : wn r.hi 1 200000
 ·go_enter Tryz.func73, Tryz.ntmps73
  go_wp2_with (go_at_call 125; ((with_reducible refine (j_withinV h1 _).mono ?_); rintro e w' ⟨rfl, rfl⟩))
  go_ret
  exact ⟨ret_bool (by rw [HB.out, h1]; rfl), bl_alloc (below_refl _) _⟩
 cases h2 : wn r.lo 0 1000000
 ·go_enter Tryz.func73, Tryz.ntmps73
  go_wp2_with (first | (go_at_call 125; ((with_reducible refine (j_withinV h1 _).mono ?_); rintro e w' ⟨rfl, rfl⟩)) | (go_at_call 125; ((with_reducible refine (j_withinV h2 _).mono ?_); rintro e w' ⟨rfl, rfl⟩)))
  go_ret
  exact ⟨ret_bool (by rw [HB.out, h1, h2]; rfl), bl_alloc (below_refl _) _⟩
 cases h3 : wn r.ab 0 1000000
 ·go_enter Tryz.func73, Tryz.ntmps73
  go_wp2_with (first | (go_at_call 125; ((with_reducible refine (j_withinV h1 _).mono ?_); rintro e w' ⟨rfl, rfl⟩)) | (go_at_call 125; ((with_reducible refine (j_withinV h2 _).mono ?_); rintro e w' ⟨rfl, rfl⟩)) | (go_at_call 125; ((with_reducible refine (j_withinV h3 _).mono ?_); rintro e w' ⟨rfl, rfl⟩)))
  go_ret
  exact ⟨ret_bool (by rw [HB.out, h1, h2, h3]; rfl), bl_alloc (below_refl _) _⟩
 cases h4 : wn r.co 0 1000000
 all_goals
  go_enter Tryz.func73, Tryz.ntmps73
  go_wp2_with (first | (go_at_call 125; ((with_reducible refine (j_withinV h1 _).mono ?_); rintro e w' ⟨rfl, rfl⟩)) | (go_at_call 125; ((with_reducible refine (j_withinV h2 _).mono ?_); rintro e w' ⟨rfl, rfl⟩)) | (go_at_call 125; ((with_reducible refine (j_withinV h3 _).mono ?_); rintro e w' ⟨rfl, rfl⟩)) | (go_at_call 125; ((with_reducible refine (j_withinV h4 _).mono ?_); rintro e w' ⟨rfl, rfl⟩)))
  go_ret
  exact ⟨ret_bool (by rw [HB.out, h1, h2, h3, h4]; rfl), bl_alloc (below_refl _) _⟩
theorem j_ValidRateV {r : Rt} {b : Bool} (h : vRt r = b) (w : World) : Calls Tryz.prog 73 #[rtV r] w fun e w' => e = .returned (.bool b) ∧ Below w.heap.size w w' := h ▸ j_ValidRate r w
theorem j_metres (h : Int) (w : World) (h0 : 0 <= h) (h1 : h <= 1000000000) : Calls Tryz.prog 300 #[.int .i64 h] w fun e w' => e = .returned (.int .i64 (mtr h)) ∧ w = w' := by
 have hw : IntKind.i64.wrap (h + 999) = h + 999 := fits_wrap ⟨by omega, by omega⟩
 have hd : Int.tdiv (h + 999) 1000 = mtr h := by unfold mtr; rw [Int.tdiv_eq_ediv_of_nonneg (by omega)]
 have hm : 0 <= mtr h ∧ mtr h <= 1000000000 := by unfold mtr; omega
 have hw2 : IntKind.i64.wrap (mtr h) = mtr h := fits_wrap ⟨by omega, by omega⟩
 go_enter Tryz.func300, Tryz.ntmps300
 go_wp2
 go_ret
 exact ⟨rfl, rfl⟩
theorem mtr_bd {h : Int} (h0 : 0 <= h) (h1 : h <= 200000) : 0 <= mtr h ∧ mtr h <= 200 := by unfold mtr; omega
theorem mul_bd {a b A B : Int} (a0 : 0 <= a) (a1 : a <= A) (b0 : 0 <= b) (b1 : b <= B) : 0 <= a * b ∧ a * b <= A * B := ⟨Int.mul_nonneg a0 b0, Int.mul_le_mul a1 b1 b0 (by omega)⟩
theorem j_Price (r : Rt) (h : Int) (w : World) : Calls Tryz.prog 299 #[rtV r, .int .i64 h] w fun e w' => e = .returned (.tuple #[.int .i64 (priV r h), .int .i64 (priE r h)]) ∧ Below w.heap.size w w' := by
 have x0 := Blk.new w 30 (rtA r)
 have B0 := bl_alloc (below_refl w) (.cells (rtA r) 30)
 have b0 := x0.cell 0
 have b1 := x0.cell 1
 have b2 := x0.cell 2
 have b3 := x0.cell 3
 simp only [GA] at b0 b1 b2 b3
 have HR := Lib.hid (fun v (h : vRt r = v) W => j_ValidRateV h W)
 cases h1 : vRt r
 ·have H1 := Lib.hid (HR.out _ h1)
  have HE := Lib.hid (show priV r h = 0 ∧ priE r h = 1 by unfold priV priE; rw [h1]; exact ⟨rfl, rfl⟩)
  go_enter Tryz.func299, Tryz.ntmps299
  go_wp2_with (go_at_call 73; ((with_reducible refine (H1.out _).mono ?_); rintro e w3 ⟨rfl, hb3⟩))
  go_ret2
  exact ⟨by rw [HE.out.1, HE.out.2]; rfl, below_tr B0 hb3⟩
 have H1 := Lib.hid (HR.out _ h1)
 cases h2 : wn h 0 200000
 ·have HE := Lib.hid (show priV r h = 0 ∧ priE r h = 7 by unfold priV priE; rw [h1, h2]; exact ⟨rfl, rfl⟩)
  go_enter Tryz.func299, Tryz.ntmps299
  go_wp2_with (first
   | (go_at_call 73; ((with_reducible refine (H1.out _).mono ?_); rintro e w3 ⟨rfl, hb3⟩))
   | (go_at_call 125; ((with_reducible refine (j_withinV h2 _).mono ?_); rintro e w' ⟨rfl, rfl⟩)))
  go_ret2
  exact ⟨by rw [HE.out.1, HE.out.2]; rfl, below_tr B0 hb3⟩
 have HE := Lib.hid (show priV r h = r.co + r.lo * mtr (min h r.hi) + r.ab * mtr (max 0 (h - r.hi)) ∧ priE r h = 0 by
  have e : priE r h = 0 := by unfold priE; rw [h1, h2]; rfl
  refine ⟨?_, e⟩
  unfold priV; rw [e]; rfl)
 obtain ⟨hh0, hh1⟩ := wn_iff.1 h2
 have hv := h1
 unfold vRt at hv
 obtain ⟨q1, hv⟩ := Bool.and_eq_true_iff.1 hv
 obtain ⟨q2, hv⟩ := Bool.and_eq_true_iff.1 hv
 obtain ⟨q3, q4⟩ := Bool.and_eq_true_iff.1 hv
 obtain ⟨hi0, hi1⟩ := wn_iff.1 q1
 obtain ⟨lo0, lo1⟩ := wn_iff.1 q2
 obtain ⟨ab0, ab1⟩ := wn_iff.1 q3
 obtain ⟨co0, co1⟩ := wn_iff.1 q4
 obtain ⟨P, hP⟩ : ∃ P, P = min h r.hi := ⟨_, rfl⟩
 obtain ⟨Q, hQ⟩ : ∃ Q, Q = max 0 (h - r.hi) := ⟨_, rfl⟩
 have hPb : 0 <= P ∧ P <= 200000 := by omega
 have hQb : 0 <= Q ∧ Q <= 200000 := by omega
 obtain ⟨m0, m1⟩ := mtr_bd hPb.1 hPb.2
 obtain ⟨n0, n1⟩ := mtr_bd hQb.1 hQb.2
 have HM1 := Lib.hid (fun W => j_metres P W hPb.1 (by omega))
 have HM2 := Lib.hid (fun W => j_metres Q W hQb.1 (by omega))
 have hws : IntKind.i64.wrap (h - r.hi) = h - r.hi := fits_wrap ⟨by omega, by omega⟩
 rw [← hP, ← hQ] at HE
 obtain ⟨p0, p1⟩ := mul_bd lo0 lo1 m0 m1
 obtain ⟨s0, s1⟩ := mul_bd ab0 ab1 n0 n1
 have hw1 : IntKind.i64.wrap (r.lo * mtr P) = r.lo * mtr P := fits_wrap ⟨by omega, by omega⟩
 have hw2 : IntKind.i64.wrap (r.co + r.lo * mtr P) = r.co + r.lo * mtr P := fits_wrap ⟨by omega, by omega⟩
 have hw3 : IntKind.i64.wrap (r.ab * mtr Q) = r.ab * mtr Q := fits_wrap ⟨by omega, by omega⟩
 have hw4 : IntKind.i64.wrap (r.co + r.lo * mtr P + r.ab * mtr Q) = r.co + r.lo * mtr P + r.ab * mtr Q := fits_wrap ⟨by omega, by omega⟩
 go_enter Tryz.func299, Tryz.ntmps299
 go_upto_region 5 with (first
   | (go_at_call 73; ((with_reducible refine (H1.out _).mono ?_); rintro e w3 ⟨rfl, hb3⟩; have B3 := below_tr B0 hb3; have x3 := x0.below hb3 x0.lt; have d0 := x3.cell 0; have d1 := x3.cell 1; have d2 := x3.cell 2; have d3 := x3.cell 3; simp only [GA] at d0 d1 d2 d3))
   | (go_at_call 125; ((with_reducible refine (j_withinV h2 _).mono ?_); rintro e w' ⟨rfl, rfl⟩)))
 have hp1 : min h r.hi = P := hP.symm
 have hp2 : max 0 (h - r.hi) = Q := hQ.symm
 clear hP hQ
 go_quiet (first
  | (go_at_call 300; with_reducible exact quiet_left (HM1.out _))
  | (go_at_call 300; with_reducible exact quiet_left (HM2.out _)))
 go_wp2
 go_ret2
 exact ⟨by rw [HE.out.1, HE.out.2]; rfl, bl⟩
end Go.Proofs.YtgemlddincnfcaaGreatDoor.Fi
