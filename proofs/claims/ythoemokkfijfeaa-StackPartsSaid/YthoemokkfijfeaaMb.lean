/- Stack: a course more, by the reference. -/
import Derived.Test.YthoemokkfijfeaaMa
namespace Go.Proofs.Ythoemokkfijfeaa
open Go.RowKit

theorem own_zero {W : World} {base : Nat} {e : TypeId} {sz : Nat} {v : Value} {n : Nat} {xs : List Value} (h : W.ownsRow base e sz v (0 + n) ([] ++ xs)) : W.ownsRow base e sz v n xs := by rwa [Nat.zero_add, List.nil_append] at h

theorem grow_blk {w w' : World} {row : Option Nat} {g : Nat} {t : TypeId} {cs : Array Value} (h : w.grownBy w' row) (hb : Blk w g t cs) (hn : some g ≠ row) : Blk w' g t cs := (h.block g hb.lt hn).trans hb

set_option maxHeartbeats 1000000 in
set_option maxRecDepth 20000 in
theorem r_added (A : Option Addr) (l : List Course) (c : Nat) (x : Course) (w : World) (hl : l.length ≤ 100000) (hR : Rd Course.cs 6 w A l) :
    Calls Try.prog 39 #[.slice A l.length c, courseV x] w fun e w' => ∃ v, e = .returned (.tuple #[v, .int .i64 (addE l x)]) ∧ GotS (addE l x) w' w.heap.size v (l ++ [x]) ∧ Below w.heap.size w w' := by
  have HC := Lib.hid (fun W (h : Below w.heap.size w W) => r_valid A l c W hl (hR.on h))
  unfold courseV
  cases hv : validC l
  · have hE : addE l x = 1 := by simp [addE, hv]
    rw [hE]
    rw [hv] at HC
    clear hv hE
    go_enter Try.func39, Try.ntmps39
    go_wp2_with (go_at_call 18; ((with_reducible refine (HC.out _ (below_alloc _ _)).mono ?_); rintro e w1 ⟨rfl, hb1⟩))
    go_ret2
    exact ⟨_, rfl, got_no (by decide), below_tr (below_alloc _ _) hb1⟩
  · rw [hv] at HC
    cases hs : soundB x
    · have hE : addE l x = 1 := by simp [addE, hs]
      have HSS := Lib.hid hs
      rw [hE]
      clear hv hE hs
      go_enter Try.func39, Try.ntmps39
      go_wp2_with (first
        | (go_at_call 18; ((with_reducible refine (HC.out _ (below_alloc _ _)).mono ?_); rintro e w1 ⟨rfl, c1⟩; have b1 : Below w.heap.size w w1 := below_tr (below_alloc w (.cells #[.int .i64 x.h, .int .i64 x.o, .int .i64 x.i, .int .i64 x.wt, .int .i64 x.e, .int .i64 x.n] 35)) c1; have d1 : Blk w1 w.heap.size 35 #[.int .i64 x.h, .int .i64 x.o, .int .i64 x.i, .int .i64 x.wt, .int .i64 x.e, .int .i64 x.n] := (Blk.new w _ _).below c1 (by simp); have q10 : w1.cell? ⟨w.heap.size, 0, none⟩ = some (.int .i64 x.h) := d1.cell 0; have q11 : w1.cell? ⟨w.heap.size, 1, none⟩ = some (.int .i64 x.o) := d1.cell 1; have q12 : w1.cell? ⟨w.heap.size, 2, none⟩ = some (.int .i64 x.i) := d1.cell 2; have q13 : w1.cell? ⟨w.heap.size, 3, none⟩ = some (.int .i64 x.wt) := d1.cell 3; have q14 : w1.cell? ⟨w.heap.size, 4, none⟩ = some (.int .i64 x.e) := d1.cell 4; have q15 : w1.cell? ⟨w.heap.size, 5, none⟩ = some (.int .i64 x.n) := d1.cell 5; have y1 : w.heap.size < w1.heap.size := d1.lt))
        | (go_at_call 59; ((with_reducible refine (r_sound x _).mono ?_); rintro e w2 ⟨rfl, c2⟩; rw [HSS.out]; have b2 : Below w.heap.size w w2 := below_tr b1 c2; have d2 : Blk w2 w.heap.size 35 #[.int .i64 x.h, .int .i64 x.o, .int .i64 x.i, .int .i64 x.wt, .int .i64 x.e, .int .i64 x.n] := d1.below c2 d1.lt; have q20 : w2.cell? ⟨w.heap.size, 0, none⟩ = some (.int .i64 x.h) := d2.cell 0; have q21 : w2.cell? ⟨w.heap.size, 1, none⟩ = some (.int .i64 x.o) := d2.cell 1; have q22 : w2.cell? ⟨w.heap.size, 2, none⟩ = some (.int .i64 x.i) := d2.cell 2; have q23 : w2.cell? ⟨w.heap.size, 3, none⟩ = some (.int .i64 x.wt) := d2.cell 3; have q24 : w2.cell? ⟨w.heap.size, 4, none⟩ = some (.int .i64 x.e) := d2.cell 4; have q25 : w2.cell? ⟨w.heap.size, 5, none⟩ = some (.int .i64 x.n) := d2.cell 5; have y2 : w.heap.size < w2.heap.size := d2.lt)))
      go_ret2
      exact ⟨_, rfl, got_no (by decide), b2⟩
    · have HSS := Lib.hid hs
      by_cases h60 : l.length = 60
      · have hE : addE l x = 4 := by simp [addE, hv, hs, h60]
        have hi60 : (l.length : Int) = 60 := by omega
        rw [hE]
        clear hv hE hs h60
        go_enter Try.func39, Try.ntmps39
        go_wp2_with (first
          | (go_at_call 18; ((with_reducible refine (HC.out _ (below_alloc _ _)).mono ?_); rintro e w1 ⟨rfl, c1⟩; have b1 : Below w.heap.size w w1 := below_tr (below_alloc w (.cells #[.int .i64 x.h, .int .i64 x.o, .int .i64 x.i, .int .i64 x.wt, .int .i64 x.e, .int .i64 x.n] 35)) c1; have d1 : Blk w1 w.heap.size 35 #[.int .i64 x.h, .int .i64 x.o, .int .i64 x.i, .int .i64 x.wt, .int .i64 x.e, .int .i64 x.n] := (Blk.new w _ _).below c1 (by simp); have q10 : w1.cell? ⟨w.heap.size, 0, none⟩ = some (.int .i64 x.h) := d1.cell 0; have q11 : w1.cell? ⟨w.heap.size, 1, none⟩ = some (.int .i64 x.o) := d1.cell 1; have q12 : w1.cell? ⟨w.heap.size, 2, none⟩ = some (.int .i64 x.i) := d1.cell 2; have q13 : w1.cell? ⟨w.heap.size, 3, none⟩ = some (.int .i64 x.wt) := d1.cell 3; have q14 : w1.cell? ⟨w.heap.size, 4, none⟩ = some (.int .i64 x.e) := d1.cell 4; have q15 : w1.cell? ⟨w.heap.size, 5, none⟩ = some (.int .i64 x.n) := d1.cell 5; have y1 : w.heap.size < w1.heap.size := d1.lt))
          | (go_at_call 59; ((with_reducible refine (r_sound x _).mono ?_); rintro e w2 ⟨rfl, c2⟩; rw [HSS.out]; have b2 : Below w.heap.size w w2 := below_tr b1 c2; have d2 : Blk w2 w.heap.size 35 #[.int .i64 x.h, .int .i64 x.o, .int .i64 x.i, .int .i64 x.wt, .int .i64 x.e, .int .i64 x.n] := d1.below c2 d1.lt; have q20 : w2.cell? ⟨w.heap.size, 0, none⟩ = some (.int .i64 x.h) := d2.cell 0; have q21 : w2.cell? ⟨w.heap.size, 1, none⟩ = some (.int .i64 x.o) := d2.cell 1; have q22 : w2.cell? ⟨w.heap.size, 2, none⟩ = some (.int .i64 x.i) := d2.cell 2; have q23 : w2.cell? ⟨w.heap.size, 3, none⟩ = some (.int .i64 x.wt) := d2.cell 3; have q24 : w2.cell? ⟨w.heap.size, 4, none⟩ = some (.int .i64 x.e) := d2.cell 4; have q25 : w2.cell? ⟨w.heap.size, 5, none⟩ = some (.int .i64 x.n) := d2.cell 5; have y2 : w.heap.size < w2.heap.size := d2.lt)))
        go_ret2
        exact ⟨_, rfl, got_no (by decide), b2⟩
      · have hE : addE l x = 0 := by simp [addE, hv, hs, h60]
        obtain ⟨hall, hl1, hl2⟩ := valid_all hv
        obtain ⟨b, off, rfl, hblt, _⟩ := hR (by rintro rfl; simp at hl1)
        have HR := Lib.hid (fun W (h : Below w.heap.size w W) => rd_flat (hR.on h))
        obtain ⟨i0, hi, hi1, hi2, hi3⟩ := info_course
        have hn60 : (l.length : Int) ≠ 60 := by omega
        rw [hE]
        clear hv hE hs hall
        go_enter Try.func39, Try.ntmps39
        go_wp2_with (first
          | (go_at_call 18; ((with_reducible refine (HC.out _ (below_alloc _ _)).mono ?_); rintro e w1 ⟨rfl, c1⟩; have b1 : Below w.heap.size w w1 := below_tr (below_alloc w (.cells #[.int .i64 x.h, .int .i64 x.o, .int .i64 x.i, .int .i64 x.wt, .int .i64 x.e, .int .i64 x.n] 35)) c1; have d1 : Blk w1 w.heap.size 35 #[.int .i64 x.h, .int .i64 x.o, .int .i64 x.i, .int .i64 x.wt, .int .i64 x.e, .int .i64 x.n] := (Blk.new w _ _).below c1 (by simp); have q10 : w1.cell? ⟨w.heap.size, 0, none⟩ = some (.int .i64 x.h) := d1.cell 0; have q11 : w1.cell? ⟨w.heap.size, 1, none⟩ = some (.int .i64 x.o) := d1.cell 1; have q12 : w1.cell? ⟨w.heap.size, 2, none⟩ = some (.int .i64 x.i) := d1.cell 2; have q13 : w1.cell? ⟨w.heap.size, 3, none⟩ = some (.int .i64 x.wt) := d1.cell 3; have q14 : w1.cell? ⟨w.heap.size, 4, none⟩ = some (.int .i64 x.e) := d1.cell 4; have q15 : w1.cell? ⟨w.heap.size, 5, none⟩ = some (.int .i64 x.n) := d1.cell 5; have y1 : w.heap.size < w1.heap.size := d1.lt))
          | (go_at_call 59; ((with_reducible refine (r_sound x _).mono ?_); rintro e w2 ⟨rfl, c2⟩; rw [HSS.out]; have b2 : Below w.heap.size w w2 := below_tr b1 c2; have d2 : Blk w2 w.heap.size 35 #[.int .i64 x.h, .int .i64 x.o, .int .i64 x.i, .int .i64 x.wt, .int .i64 x.e, .int .i64 x.n] := d1.below c2 d1.lt; have q20 : w2.cell? ⟨w.heap.size, 0, none⟩ = some (.int .i64 x.h) := d2.cell 0; have q21 : w2.cell? ⟨w.heap.size, 1, none⟩ = some (.int .i64 x.o) := d2.cell 1; have q22 : w2.cell? ⟨w.heap.size, 2, none⟩ = some (.int .i64 x.i) := d2.cell 2; have q23 : w2.cell? ⟨w.heap.size, 3, none⟩ = some (.int .i64 x.wt) := d2.cell 3; have q24 : w2.cell? ⟨w.heap.size, 4, none⟩ = some (.int .i64 x.e) := d2.cell 4; have q25 : w2.cell? ⟨w.heap.size, 5, none⟩ = some (.int .i64 x.n) := d2.cell 5; have y2 : w.heap.size < w2.heap.size := d2.lt)))
        have z2 := b2.size
        have Ba := below_draw (below_tr b2 (below_alloc w2 (.cells #[] 35)))
        have Bb := below_draw (below_tr (below_tr b2 (below_alloc w2 (.cells #[] 35))) (below_alloc _ (.cells #[.int .i64 x.h, .int .i64 x.o, .int .i64 x.i, .int .i64 x.wt, .int .i64 x.e, .int .i64 x.n] 35)))
        have Bc := below_draw (below_tr (below_tr b2 (below_alloc w2 (.cells #[.int .i64 x.h, .int .i64 x.o, .int .i64 x.i, .int .i64 x.wt, .int .i64 x.e, .int .i64 x.n] 35))) (below_alloc _ (.cells #[] 35)))
        have Nb := Blk.new (w2.alloc (.cells #[] 35)) 35 #[.int .i64 x.h, .int .i64 x.o, .int .i64 x.i, .int .i64 x.wt, .int .i64 x.e, .int .i64 x.n]
        rw [World.size_alloc] at Nb
        have Nc := (Blk.new w2 35 #[.int .i64 x.h, .int .i64 x.o, .int .i64 x.i, .int .i64 x.wt, .int .i64 x.e, .int .i64 x.n]).alloc (.cells #[] 35)
        have Oa := own_empty w2 35 6
        have Ob := (own_empty w2 35 6).alloc (.cells #[.int .i64 x.h, .int .i64 x.o, .int .i64 x.i, .int .i64 x.wt, .int .i64 x.e, .int .i64 x.n] 35)
        have Oc := own_empty (w2.alloc (.cells #[.int .i64 x.h, .int .i64 x.o, .int .i64 x.i, .int .i64 x.wt, .int .i64 x.e, .int .i64 x.n] 35)) 35 6
        rw [World.size_alloc] at Oc
        first
          | (go_region_held3 (fun w' => w'.cell? ⟨w.heap.size, 0, none⟩ = some (.int .i64 x.h) ∧ w'.cell? ⟨w.heap.size, 1, none⟩ = some (.int .i64 x.o) ∧ w'.cell? ⟨w.heap.size, 2, none⟩ = some (.int .i64 x.i) ∧ w'.cell? ⟨w.heap.size, 3, none⟩ = some (.int .i64 x.wt) ∧ w'.cell? ⟨w.heap.size, 4, none⟩ = some (.int .i64 x.e) ∧ w'.cell? ⟨w.heap.size, 5, none⟩ = some (.int .i64 x.n))
              (first | (go_keep; done) | (refine ⟨?_, ?_, ?_, ?_, ?_, ?_⟩ <;> (first | assumption | (refine (hgrow4.cell_far _ ?_ ?_).trans ?_ <;> (first | assumption | (simp [Value.ownBlock]; done) | (simp [Value.ownBlock]; omega) | (go_simp; done))) | (refine (hgrow.cell_far _ ?_ ?_).trans ?_ <;> (first | assumption | (simp [Value.ownBlock]; done) | (simp [Value.ownBlock]; omega) | (go_simp; done))))))
              (first
                | ((refine step_append_lies ((w2.alloc (.cells #[] 35)).drew) (by rfl) _ _ _ (by rfl) _ 35 i0 _ 6 48 Try.underlying22 hi hi1 hi2 hi3 rfl (by omega) _ 0 [] (by rfl) Oa.drew ⟨b, off, none⟩ l.length c (flat l) (by rfl) (flat_length l) (HR.out _ Ba) (flat_one l) (by omega) (by unfold maxLen; omega) (by omega) (by first | (simp; omega) | simp) _ rfl ?_; intro gg cap w3 hown3 hgrow hat hlt; rw [Nat.zero_add]; simp only [Nat.zero_add, List.nil_append] at hown3; have hg3 : w2.heap.size ≤ gg := (by have := (hown3.lt gg rfl).1; omega)))
                | ((refine step_append_lies (((w2.alloc (.cells #[] 35)).alloc (.cells #[.int .i64 x.h, .int .i64 x.o, .int .i64 x.i, .int .i64 x.wt, .int .i64 x.e, .int .i64 x.n] 35)).drew) (by rfl) _ _ _ (by rfl) _ 35 i0 _ 6 48 Try.underlying22 hi hi1 hi2 hi3 rfl (by omega) _ 0 [] (by rfl) Ob.drew ⟨b, off, none⟩ l.length c (flat l) (by rfl) (flat_length l) (HR.out _ Bb) (flat_one l) (by omega) (by unfold maxLen; omega) (by omega) (by first | (simp; omega) | simp) _ rfl ?_; intro gg cap w3 hown3 hgrow hat hlt; rw [Nat.zero_add]; simp only [Nat.zero_add, List.nil_append] at hown3; have hg3 : w2.heap.size ≤ gg := (by have := (hown3.lt gg rfl).1; omega); have N3 := grow_blk hgrow Nb.drew (by simp [Value.ownBlock])))
                | ((refine step_append_lies (((w2.alloc (.cells #[.int .i64 x.h, .int .i64 x.o, .int .i64 x.i, .int .i64 x.wt, .int .i64 x.e, .int .i64 x.n] 35)).alloc (.cells #[] 35)).drew) (by rfl) _ _ _ (by rfl) _ 35 i0 _ 6 48 Try.underlying22 hi hi1 hi2 hi3 rfl (by omega) _ 0 [] (by rfl) Oc.drew ⟨b, off, none⟩ l.length c (flat l) (by rfl) (flat_length l) (HR.out _ Bc) (flat_one l) (by omega) (by unfold maxLen; omega) (by omega) (by first | (simp; omega) | simp) _ rfl ?_; intro gg cap w3 hown3 hgrow hat hlt; rw [Nat.zero_add]; simp only [Nat.zero_add, List.nil_append] at hown3; have hg3 : w2.heap.size ≤ gg := (by have := (hown3.lt gg rfl).1; omega); have N3 := grow_blk hgrow Nc.drew (by simp [Value.ownBlock])))
                | ((refine step_append_lies _ (by rfl) _ _ _ (by rfl) _ 35 i0 _ 6 48 Try.underlying22 hi hi1 hi2 hi3 rfl (by omega) _ l.length (flat l) (by rfl) (hown3.alloc _) ⟨w3.heap.size, 0, none⟩ 1 1 (Course.cs x) (by rfl) (by rfl) (World.news_of_block (cs := #[.int .i64 x.h, .int .i64 x.o, .int .i64 x.i, .int .i64 x.wt, .int .i64 x.e, .int .i64 x.n]) (t := 35) (fr := (0, 0)) (heap_alloc_new w3 _)) (by simp [Course.cs, Value.oneCell']) (by omega) (by unfold maxLen; omega) (by omega) (by first | omega | (simp; omega)) _ rfl ?_; intro g4 cap4 w4 hown4 hgrow4 hat4 hlt4))
                | ((refine step_append_lies _ (by rfl) _ _ _ (by rfl) _ 35 i0 _ 6 48 Try.underlying22 hi hi1 hi2 hi3 rfl (by omega) _ l.length (flat l) (by rfl) hown3 ⟨w2.heap.size + 1, 0, none⟩ 1 1 (Course.cs x) (by rfl) (by rfl) (World.news_of_block (cs := #[.int .i64 x.h, .int .i64 x.o, .int .i64 x.i, .int .i64 x.wt, .int .i64 x.e, .int .i64 x.n]) (t := 35) (fr := (0, 0)) N3) (by simp [Course.cs, Value.oneCell']) (by omega) (by unfold maxLen; omega) (by omega) (by first | omega | (simp; omega)) _ rfl ?_; intro g4 cap4 w4 hown4 hgrow4 hat4 hlt4))
                | ((refine step_append_lies _ (by rfl) _ _ _ (by rfl) _ 35 i0 _ 6 48 Try.underlying22 hi hi1 hi2 hi3 rfl (by omega) _ l.length (flat l) (by rfl) hown3 ⟨w2.heap.size, 0, none⟩ 1 1 (Course.cs x) (by rfl) (by rfl) (World.news_of_block (cs := #[.int .i64 x.h, .int .i64 x.o, .int .i64 x.i, .int .i64 x.wt, .int .i64 x.e, .int .i64 x.n]) (t := 35) (fr := (0, 0)) N3) (by simp [Course.cs, Value.oneCell']) (by omega) (by unfold maxLen; omega) (by omega) (by first | omega | (simp; omega)) _ rfl ?_; intro g4 cap4 w4 hown4 hgrow4 hat4 hlt4))
                | fail))
          | fail
        all_goals
          go_wp2
          go_ret2
          refine ⟨_, rfl, got_ok rfl (ownS_of (own_add hown4 (base' := w.heap.size) (by omega)) (by simp)), ?_⟩
        · exact below_grown (below_tr (below_grown Ba hgrow (fun r hr => by cases hr; exact z2) Ba.size) (below_alloc _ _)) hgrow4 (fun r hr => by have h3 : gg = r := Option.some.inj hr; omega) (by rw [World.size_alloc]; omega)
        · exact below_grown (below_grown Bb hgrow (fun r hr => by cases hr; exact z2) Bb.size) hgrow4 (fun r hr => by have h3 : gg = r := Option.some.inj hr; omega) (by omega)
        · exact below_grown (below_grown Bc hgrow (fun r hr => by have h3 : w2.heap.size + 1 = r := Option.some.inj hr; omega) Bc.size) hgrow4 (fun r hr => by have h3 : gg = r := Option.some.inj hr; omega) (by omega)
end Go.Proofs.Ythoemokkfijfeaa
