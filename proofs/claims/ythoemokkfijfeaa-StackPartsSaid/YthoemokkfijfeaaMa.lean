/- Stack: a course more, by both. -/
import Derived.Test.YthoemokkfijfeaaSy
import Derived.Deep.RegionHeld3
import Derived.Deep.AppendLies
import Derived.Deep.DrawnRows
import Derived.Deep.Onto
namespace Go.Proofs.Ythoemokkfijfeaa
open Go.RowKit

def courseV (x : Course) : Value := .agg #[.int .i64 x.h, .int .i64 x.o, .int .i64 x.i, .int .i64 x.wt, .int .i64 x.e, .int .i64 x.n]
def addE (l : List Course) (x : Course) : Int := if validC l && soundB x then (if l.length = 60 then 4 else 0) else 1

theorem own_add {W : World} {base base' : Nat} {v : Value} {l : List Course} {x : Course} (h : W.ownsRow base 35 6 v (l.length + 1) (flat l ++ x.cs)) (hb : base' ≤ base) : W.ownsRow base' 35 6 v (l ++ [x]).length (flat (l ++ [x])) := by
  rw [show (l ++ [x]).length = l.length + 1 by simp, show flat (l ++ [x]) = flat l ++ x.cs by simp [flat]]
  exact h.mono hb
theorem own_far {w : World} {base : Nat} {e : TypeId} {size : Nat} {v : Value} {n : Nat} {xs : List Value} {g : Nat} (h : w.ownsRow base e size v n xs) (hg : g < base) : some g ≠ v.ownBlock := fun k => by
  have := (h.lt g k.symm).1
  omega

set_option maxHeartbeats 1000000 in
set_option maxRecDepth 20000 in
theorem s_added (A : Option Addr) (l : List Course) (c : Nat) (x : Course) (w : World) (hl : l.length ≤ 100000) (hR : Rd Course.cs 6 w A l) :
    Calls Try.prog 38 #[.slice A l.length c, courseV x] w fun e w' => ∃ v, e = .returned (.tuple #[v, .int .i64 (addE l x)]) ∧ GotS (addE l x) w' w.heap.size v (l ++ [x]) ∧ Below w.heap.size w w' := by
  have HC := Lib.hid (fun W (h : Below w.heap.size w W) => s_valid A l c W hl (hR.on h))
  unfold courseV
  cases hv : validC l
  · have hE : addE l x = 1 := by simp [addE, hv]
    rw [hE]
    rw [hv] at HC
    clear hv hE
    go_enter Try.func38, Try.ntmps38
    go_wp2_with (go_at_call 17; refine (HC.out _ (below_alloc _ _)).mono ?_; rintro e w1 ⟨rfl, hb1⟩)
    go_ret2
    exact ⟨_, rfl, got_no (by decide), below_tr (below_alloc _ _) hb1⟩
  · rw [hv] at HC
    cases hs : soundB x
    · have hE : addE l x = 1 := by simp [addE, hs]
      have HSS := Lib.hid hs
      rw [hE]
      clear hv hE hs
      go_enter Try.func38, Try.ntmps38
      go_wp2_with (first
        | (go_at_call 17; refine (HC.out _ (below_alloc _ _)).mono ?_; rintro e w1 ⟨rfl, c1⟩; have b1 : Below w.heap.size w w1 := below_tr (below_alloc w (.cells #[.int .i64 x.h, .int .i64 x.o, .int .i64 x.i, .int .i64 x.wt, .int .i64 x.e, .int .i64 x.n] 35)) c1; have d1 : Blk w1 w.heap.size 35 #[.int .i64 x.h, .int .i64 x.o, .int .i64 x.i, .int .i64 x.wt, .int .i64 x.e, .int .i64 x.n] := (Blk.new w _ _).below c1 (by simp); have q10 : w1.cell? ⟨w.heap.size, 0, none⟩ = some (.int .i64 x.h) := d1.cell 0; have q11 : w1.cell? ⟨w.heap.size, 1, none⟩ = some (.int .i64 x.o) := d1.cell 1; have q12 : w1.cell? ⟨w.heap.size, 2, none⟩ = some (.int .i64 x.i) := d1.cell 2; have q13 : w1.cell? ⟨w.heap.size, 3, none⟩ = some (.int .i64 x.wt) := d1.cell 3; have q14 : w1.cell? ⟨w.heap.size, 4, none⟩ = some (.int .i64 x.e) := d1.cell 4; have q15 : w1.cell? ⟨w.heap.size, 5, none⟩ = some (.int .i64 x.n) := d1.cell 5; have y1 : w.heap.size < w1.heap.size := d1.lt)
        | (go_at_call 58; refine (s_sound x _).mono ?_; rintro e w2 ⟨rfl, c2⟩; rw [HSS.out]; have b2 : Below w.heap.size w w2 := below_tr b1 c2; have d2 : Blk w2 w.heap.size 35 #[.int .i64 x.h, .int .i64 x.o, .int .i64 x.i, .int .i64 x.wt, .int .i64 x.e, .int .i64 x.n] := d1.below c2 d1.lt; have q20 : w2.cell? ⟨w.heap.size, 0, none⟩ = some (.int .i64 x.h) := d2.cell 0; have q21 : w2.cell? ⟨w.heap.size, 1, none⟩ = some (.int .i64 x.o) := d2.cell 1; have q22 : w2.cell? ⟨w.heap.size, 2, none⟩ = some (.int .i64 x.i) := d2.cell 2; have q23 : w2.cell? ⟨w.heap.size, 3, none⟩ = some (.int .i64 x.wt) := d2.cell 3; have q24 : w2.cell? ⟨w.heap.size, 4, none⟩ = some (.int .i64 x.e) := d2.cell 4; have q25 : w2.cell? ⟨w.heap.size, 5, none⟩ = some (.int .i64 x.n) := d2.cell 5; have y2 : w.heap.size < w2.heap.size := d2.lt))
      go_ret2
      exact ⟨_, rfl, got_no (by decide), b2⟩
    · have HSS := Lib.hid hs
      by_cases h60 : l.length = 60
      · have hE : addE l x = 4 := by simp [addE, hv, hs, h60]
        have hi60 : (l.length : Int) = 60 := by omega
        rw [hE]
        clear hv hE hs h60
        go_enter Try.func38, Try.ntmps38
        go_wp2_with (first
          | (go_at_call 17; refine (HC.out _ (below_alloc _ _)).mono ?_; rintro e w1 ⟨rfl, c1⟩; have b1 : Below w.heap.size w w1 := below_tr (below_alloc w (.cells #[.int .i64 x.h, .int .i64 x.o, .int .i64 x.i, .int .i64 x.wt, .int .i64 x.e, .int .i64 x.n] 35)) c1; have d1 : Blk w1 w.heap.size 35 #[.int .i64 x.h, .int .i64 x.o, .int .i64 x.i, .int .i64 x.wt, .int .i64 x.e, .int .i64 x.n] := (Blk.new w _ _).below c1 (by simp); have q10 : w1.cell? ⟨w.heap.size, 0, none⟩ = some (.int .i64 x.h) := d1.cell 0; have q11 : w1.cell? ⟨w.heap.size, 1, none⟩ = some (.int .i64 x.o) := d1.cell 1; have q12 : w1.cell? ⟨w.heap.size, 2, none⟩ = some (.int .i64 x.i) := d1.cell 2; have q13 : w1.cell? ⟨w.heap.size, 3, none⟩ = some (.int .i64 x.wt) := d1.cell 3; have q14 : w1.cell? ⟨w.heap.size, 4, none⟩ = some (.int .i64 x.e) := d1.cell 4; have q15 : w1.cell? ⟨w.heap.size, 5, none⟩ = some (.int .i64 x.n) := d1.cell 5; have y1 : w.heap.size < w1.heap.size := d1.lt)
          | (go_at_call 58; refine (s_sound x _).mono ?_; rintro e w2 ⟨rfl, c2⟩; rw [HSS.out]; have b2 : Below w.heap.size w w2 := below_tr b1 c2; have d2 : Blk w2 w.heap.size 35 #[.int .i64 x.h, .int .i64 x.o, .int .i64 x.i, .int .i64 x.wt, .int .i64 x.e, .int .i64 x.n] := d1.below c2 d1.lt; have q20 : w2.cell? ⟨w.heap.size, 0, none⟩ = some (.int .i64 x.h) := d2.cell 0; have q21 : w2.cell? ⟨w.heap.size, 1, none⟩ = some (.int .i64 x.o) := d2.cell 1; have q22 : w2.cell? ⟨w.heap.size, 2, none⟩ = some (.int .i64 x.i) := d2.cell 2; have q23 : w2.cell? ⟨w.heap.size, 3, none⟩ = some (.int .i64 x.wt) := d2.cell 3; have q24 : w2.cell? ⟨w.heap.size, 4, none⟩ = some (.int .i64 x.e) := d2.cell 4; have q25 : w2.cell? ⟨w.heap.size, 5, none⟩ = some (.int .i64 x.n) := d2.cell 5; have y2 : w.heap.size < w2.heap.size := d2.lt))
        go_ret2
        exact ⟨_, rfl, got_no (by decide), b2⟩
      · have hE : addE l x = 0 := by simp [addE, hv, hs, h60]
        obtain ⟨hall, hl1, hl2⟩ := valid_all hv
        obtain ⟨b, off, rfl, hblt, _⟩ := hR (by rintro rfl; simp at hl1)
        have HL := Lib.hid (fun W (h : Below w.heap.size w W) => s_clone b off l c W (by omega) hl2 (hR.on h))
        obtain ⟨i0, hi, hi1, hi2, hi3⟩ := info_course
        have hn60 : (l.length : Int) ≠ 60 := by omega
        rw [hE]
        clear hv hE hs hall
        go_enter Try.func38, Try.ntmps38
        go_wp2_with (first
          | (go_at_call 17; refine (HC.out _ (below_alloc _ _)).mono ?_; rintro e w1 ⟨rfl, c1⟩; have b1 : Below w.heap.size w w1 := below_tr (below_alloc w (.cells #[.int .i64 x.h, .int .i64 x.o, .int .i64 x.i, .int .i64 x.wt, .int .i64 x.e, .int .i64 x.n] 35)) c1; have d1 : Blk w1 w.heap.size 35 #[.int .i64 x.h, .int .i64 x.o, .int .i64 x.i, .int .i64 x.wt, .int .i64 x.e, .int .i64 x.n] := (Blk.new w _ _).below c1 (by simp); have q10 : w1.cell? ⟨w.heap.size, 0, none⟩ = some (.int .i64 x.h) := d1.cell 0; have q11 : w1.cell? ⟨w.heap.size, 1, none⟩ = some (.int .i64 x.o) := d1.cell 1; have q12 : w1.cell? ⟨w.heap.size, 2, none⟩ = some (.int .i64 x.i) := d1.cell 2; have q13 : w1.cell? ⟨w.heap.size, 3, none⟩ = some (.int .i64 x.wt) := d1.cell 3; have q14 : w1.cell? ⟨w.heap.size, 4, none⟩ = some (.int .i64 x.e) := d1.cell 4; have q15 : w1.cell? ⟨w.heap.size, 5, none⟩ = some (.int .i64 x.n) := d1.cell 5; have y1 : w.heap.size < w1.heap.size := d1.lt)
          | (go_at_call 58; refine (s_sound x _).mono ?_; rintro e w2 ⟨rfl, c2⟩; rw [HSS.out]; have b2 : Below w.heap.size w w2 := below_tr b1 c2; have d2 : Blk w2 w.heap.size 35 #[.int .i64 x.h, .int .i64 x.o, .int .i64 x.i, .int .i64 x.wt, .int .i64 x.e, .int .i64 x.n] := d1.below c2 d1.lt; have q20 : w2.cell? ⟨w.heap.size, 0, none⟩ = some (.int .i64 x.h) := d2.cell 0; have q21 : w2.cell? ⟨w.heap.size, 1, none⟩ = some (.int .i64 x.o) := d2.cell 1; have q22 : w2.cell? ⟨w.heap.size, 2, none⟩ = some (.int .i64 x.i) := d2.cell 2; have q23 : w2.cell? ⟨w.heap.size, 3, none⟩ = some (.int .i64 x.wt) := d2.cell 3; have q24 : w2.cell? ⟨w.heap.size, 4, none⟩ = some (.int .i64 x.e) := d2.cell 4; have q25 : w2.cell? ⟨w.heap.size, 5, none⟩ = some (.int .i64 x.n) := d2.cell 5; have y2 : w.heap.size < w2.heap.size := d2.lt)
          | (go_at_call 67; refine (HL.out _ b2).mono ?_; rintro e w3 ⟨v3, rfl, hr3, c3⟩; have b3 : Below w.heap.size w w3 := below_tr b2 c3; have d3 : Blk w3 w.heap.size 35 #[.int .i64 x.h, .int .i64 x.o, .int .i64 x.i, .int .i64 x.wt, .int .i64 x.e, .int .i64 x.n] := d2.below c3 d2.lt; have q30 : w3.cell? ⟨w.heap.size, 0, none⟩ = some (.int .i64 x.h) := d3.cell 0; have q31 : w3.cell? ⟨w.heap.size, 1, none⟩ = some (.int .i64 x.o) := d3.cell 1; have q32 : w3.cell? ⟨w.heap.size, 2, none⟩ = some (.int .i64 x.i) := d3.cell 2; have q33 : w3.cell? ⟨w.heap.size, 3, none⟩ = some (.int .i64 x.wt) := d3.cell 3; have q34 : w3.cell? ⟨w.heap.size, 4, none⟩ = some (.int .i64 x.e) := d3.cell 4; have q35 : w3.cell? ⟨w.heap.size, 5, none⟩ = some (.int .i64 x.n) := d3.cell 5; have y3 : w.heap.size < w3.heap.size := d3.lt))
        have hBd := below_draw b2
        have hBd2 := below_draw (below_tr b2 (below_alloc w2 (.cells #[.int .i64 x.h, .int .i64 x.o, .int .i64 x.i, .int .i64 x.wt, .int .i64 x.e, .int .i64 x.n] 35)))
        have N2 := Blk.drew (Blk.new w2 35 #[.int .i64 x.h, .int .i64 x.o, .int .i64 x.i, .int .i64 x.wt, .int .i64 x.e, .int .i64 x.n])
        have z2 := b2.size
        first
          | (go_region_held3 (fun w' => w'.cell? ⟨w.heap.size, 0, none⟩ = some (.int .i64 x.h) ∧ w'.cell? ⟨w.heap.size, 1, none⟩ = some (.int .i64 x.o) ∧ w'.cell? ⟨w.heap.size, 2, none⟩ = some (.int .i64 x.i) ∧ w'.cell? ⟨w.heap.size, 3, none⟩ = some (.int .i64 x.wt) ∧ w'.cell? ⟨w.heap.size, 4, none⟩ = some (.int .i64 x.e) ∧ w'.cell? ⟨w.heap.size, 5, none⟩ = some (.int .i64 x.n))
              (first | (go_keep; done) | (refine ⟨?_, ?_, ?_, ?_, ?_, ?_⟩ <;> (first | assumption | (refine (hc3 _ _ ?_).trans ?_ <;> (first | assumption | omega | (simp; omega) | (go_simp; done))) | (refine (hgrow.cell_far _ ?_ ?_).trans ?_ <;> (first | assumption | (simp; omega) | (go_simp; done))))))
              (first
                | (go_at_call 67; ((with_reducible refine (HL.out _ hBd).mono ?_); rintro e w3 ⟨v3, rfl, hr3, c3⟩; obtain ⟨hc3, hf3⟩ := bcell c3; have y3 : w2.heap.size ≤ w3.heap.size := c3.size; have hv3 : some w.heap.size ≠ v3.ownBlock := (own_far hr3 (show w.heap.size < w2.heap.size from y2))))
                | (go_at_call 67; ((with_reducible refine (HL.out _ hBd2).mono ?_); rintro e w3 ⟨v3, rfl, hr3, c3⟩; obtain ⟨hc3, hf3⟩ := bcell c3; have y3 : w2.heap.size + 1 ≤ w3.heap.size := (by have := c3.size; simpa using this); have hv3 : some w.heap.size ≠ v3.ownBlock := (own_far hr3 (by simp; omega)); have N3 := N2.below c3 (show w2.heap.size < (w2.alloc _).heap.size by simp)))
                | ((refine step_append_lies _ (by rfl) _ _ _ (by rfl) _ 35 i0 _ 6 48 Try.underlying22 hi hi1 hi2 hi3 rfl (by omega) v3 l.length (flat l) (by rfl) (hr3.alloc _) ⟨w3.heap.size, 0, none⟩ 1 1 (Course.cs x) (by rfl) (by rfl) (World.news_of_block (cs := #[.int .i64 x.h, .int .i64 x.o, .int .i64 x.i, .int .i64 x.wt, .int .i64 x.e, .int .i64 x.n]) (t := 35) (fr := (0, 0)) (heap_alloc_new w3 _)) (by simp [Course.cs, Value.oneCell']) (by omega) (by unfold maxLen; omega) (by omega) (by first | (simp; omega) | simp) (w3.heap.size + 1) (by simp) ?_; intro gg cap w4 hown4 hgrow hat hlt))
                | ((refine step_append_lies _ (by rfl) _ _ _ (by rfl) _ 35 i0 _ 6 48 Try.underlying22 hi hi1 hi2 hi3 rfl (by omega) v3 l.length (flat l) (by rfl) hr3 ⟨w2.heap.size, 0, none⟩ 1 1 (Course.cs x) (by rfl) (by rfl) (World.news_of_block (cs := #[.int .i64 x.h, .int .i64 x.o, .int .i64 x.i, .int .i64 x.wt, .int .i64 x.e, .int .i64 x.n]) (t := 35) (fr := (0, 0)) N3) (by simp [Course.cs, Value.oneCell']) (by omega) (by unfold maxLen; omega) (by omega) (by first | (simp; omega) | simp) w3.heap.size (by simp) ?_; intro gg cap w4 hown4 hgrow hat hlt))))
          | fail
        all_goals
          go_wp2
          go_ret2
          refine ⟨_, rfl, got_ok rfl (ownS_of (v := .slice (some ⟨gg, 0, none⟩) (l.length + 1) cap) ?_ (by simp)), ?_⟩
        · exact own_add hown4 z2
        · exact below_grown (below_tr (below_tr hBd c3) (below_alloc _ _)) hgrow (fun r hr => by have := (hr3.lt r hr).1; have h2 : w.heap.size ≤ w2.drew.heap.size := z2; omega) (by simp; omega)
        · exact own_add hown4 (by simp; omega)
        · exact below_grown (below_tr hBd2 c3) hgrow (fun r hr => by have := (hr3.lt r hr).1; have h2 : w.heap.size ≤ (w2.alloc _).drew.heap.size := hBd2.size; omega) (by omega)
end Go.Proofs.Ythoemokkfijfeaa
