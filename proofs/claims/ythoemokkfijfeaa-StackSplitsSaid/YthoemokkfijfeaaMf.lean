/- Stack: a course divided, by the program. -/
import Derived.Test.YthoemokkfijfeaaMe
namespace Go.Proofs.Ythoemokkfijfeaa
open Go.RowKit

def lowC (x : Course) (a : Int) : Course := { x with h := a, wt := x.wt * a / x.h }
def highC (x : Course) (a : Int) : Course := { x with h := x.h - a, wt := x.wt - x.wt * a / x.h }
def splitX (l : List Course) (x : Course) (a : Int) : Int := if wn a 1 (x.h - 1) then (if x.wt * a / x.h = 0 ∨ x.wt - x.wt * a / x.h = 0 then 10 else if l.length = 60 then 4 else 0) else 7
def splitE (l : List Course) (n a : Int) : Int := if askedE l n = 0 then splitX l (bedC l n) a else askedE l n
def splitL (l : List Course) (n a : Int) : List Course := l.take n.toNat ++ ([lowC (bedC l n) a, highC (bedC l n) a] ++ l.drop (n.toNat + 1))
theorem splitE_of {l : List Course} {n : Nat} {a : Int} {x : Course} (h : askedE l n = 0) (hx : l[n]? = some x) : splitE l n a = splitX l x a := by
  unfold splitE; rw [if_pos h]; simp [bedC, hx]
theorem split_wt {x : Course} {a : Int} (hx : CB x) (h1 : 1 ≤ a) (h2 : a ≤ x.h - 1) : 0 ≤ x.wt * a ∧ x.wt * a ≤ 2000000000 ∧ 0 ≤ x.wt * a / x.h ∧ x.wt * a / x.h < x.wt := by
  obtain ⟨d1, d2, d3, d4, d5, d6, d7, d8, d9, d10, d11⟩ := hx
  have m := mul_bd0 (a := x.wt) (b := a) (A := 1000000) (B := 2000) (by omega) d7 (by omega) (by omega)
  refine ⟨m.1, by omega, Int.ediv_nonneg m.1 (by omega), ?_⟩
  refine Int.ediv_lt_of_lt_mul (by omega) ?_
  exact Int.mul_lt_mul_of_pos_left (by omega) (by omega)

theorem rd_blk {W : World} {G : Nat} {L : List Course} {cs : Array Value} (h : Blk W G 35 cs) (hc : cs.toList = flat L) : Rd Course.cs 6 W (some ⟨G, 0, none⟩) L := fun _ =>
  ⟨G, 0, rfl, h.lt, fun k x hx j v hv => by rw [Nat.zero_add, h.cell, ← Array.getElem?_toList, hc]; exact flat_get hx hv⟩
theorem rd_drop {w : World} {b off : Nat} {l : List Course} (h : Rd Course.cs 6 w (some ⟨b, off, none⟩) l) (n : Nat) : Rd Course.cs 6 w (some ⟨b, off + n * 6, none⟩) (l.drop n) := fun hne => by
  obtain ⟨b', off', e, hb, hc⟩ := h (by rintro rfl; simp at hne)
  cases e
  refine ⟨b, off + n * 6, rfl, hb, fun k x hx j v hv => ?_⟩
  rw [List.getElem?_drop] at hx
  rw [show off + n * 6 + k * 6 + j = off + (n + k) * 6 + j by omega]
  exact hc _ x hx j v hv

theorem split_concat {l : List Course} {x : Course} {a q : Int} {b off c k o3 n3 c3 : Nat} {w : World} (hR : Rd Course.cs 6 w (some ⟨b, off, none⟩) l) (h3 : Rd Course.cs 6 w (some ⟨b, o3, none⟩) (l.drop (k + 1))) (hk : k < l.length) (hl : l.length ≤ 60) (hx : l[k]? = some x)
    (hlow : lowC x a = ⟨a, x.o, x.i, q, x.e, x.n⟩) (hhigh : highC x a = ⟨x.h - a, x.o, x.i, x.wt - q, x.e, x.n⟩) (W : World) (hW : Below w.heap.size w W) (G B : Nat)
    (hG : Blk W G 35 #[.int .i64 a, .int .i64 x.o, .int .i64 x.i, .int .i64 q, .int .i64 x.e, .int .i64 x.n, .int .i64 (x.h - a), .int .i64 x.o, .int .i64 x.i, .int .i64 (x.wt - q), .int .i64 x.e, .int .i64 x.n])
    (hB : Blk W B 22 #[.slice (some ⟨b, off, none⟩) k c, .slice (some ⟨G, 0, none⟩) 2 2, .slice (some ⟨b, o3, none⟩) n3 c3]) (hn3 : n3 = l.length - (k + 1)) :
    Calls Try.prog 75 #[.slice (some ⟨B, 0, none⟩) 3 3] W fun e w' => ∃ v, e = .returned v ∧ w'.ownsRow W.heap.size 35 6 v (splitL l k a).length (flat (splitL l k a)) ∧ Below W.heap.size W w' := by
  have hf : [l.take k, [lowC x a, highC x a], l.drop (k + 1)].flatten = splitL l k a := by simp [splitL, bedC, hx]
  have ht : tot [l.take k, [lowC x a, highC x a], l.drop (k + 1)] = l.length + 1 := by simp [tot]; omega
  have := s_concat B 3 [l.take k, [lowC x a, highC x a], l.drop (k + 1)] W (by omega) (by omega) (by simp) ?_
  · rw [hf] at this; exact this
  · intro j y hy
    have hj : j < 3 := (List.getElem?_eq_some_iff.1 hy).1
    rcases (by omega : j = 0 ∨ j = 1 ∨ j = 2) with rfl | rfl | rfl
    · cases hy
      exact ⟨b, off, c, by rw [hB.cell 0, List.length_take_of_le (by omega)]; rfl, rd_take (hR.on hW) k⟩
    · cases hy
      exact ⟨G, 0, 2, hB.cell 1, rd_blk hG (by rw [hlow, hhigh]; rfl)⟩
    · cases hy
      exact ⟨b, o3, c3, by rw [hB.cell 2, List.length_drop, ← hn3]; rfl, h3.on hW⟩

set_option maxHeartbeats 2000000 in
set_option maxRecDepth 40000 in
theorem s_split (A : Option Addr) (l : List Course) (c : Nat) (n a : Int) (w : World) (hl : l.length ≤ 100000) (hlc : l.length ≤ c) (hcm : c ≤ maxLen) (hR : Rd Course.cs 6 w A l) :
    Calls Try.prog 37 #[.slice A l.length c, .int .i64 n, .int .i64 a] w fun e w' => ∃ v, e = .returned (.tuple #[v, .int .i64 (splitE l n a)]) ∧ GotS (splitE l n a) w' w.heap.size v (splitL l n a) ∧ Below w.heap.size w w' := by
  unfold maxLen at hcm
  have HC := Lib.hid (s_asked A l c n w hl hR)
  by_cases h0 : askedE l n = 0
  · obtain ⟨k, rfl, hk, hv⟩ := asked_zero h0
    obtain ⟨hall, hl1, hl2⟩ := valid_all hv
    obtain ⟨x, hx⟩ := get_lt hk
    obtain ⟨b, off, rfl, hblt, _⟩ := hR.get hx
    have hcb := cb_of (List.all_eq_true.1 hall x (List.mem_of_getElem? hx))
    have hEq := splitE_of (a := a) h0 hx
    rw [h0] at HC
    rw [hEq]
    have HX := Lib.hid hx
    have HK := Lib.hid (fun W (h : Below w.heap.size w W) => rdK (hR.on h) hx)
    have i1 : (0 : Int) ≤ (k : Int) := Int.natCast_nonneg _
    have i2 : (k : Int) < (l.length : Int) := by omega
    have HN1 := Lib.hid hcb
    obtain ⟨d1, d2, d3, d4, d5, d6, d7, d8, d9, d10, d11⟩ := hcb
    cases hn : wn a 1 (x.h - 1)
    · have hE : splitX l x a = 7 := by simp [splitX, hn]
      have HN := Lib.hid hn
      rw [hE]
      clear hE hn hEq h0 hv hall hx hR
      go_enter Try.func37, Try.ntmps37
      go_wp2_with (first
        | (go_at_call 61; ((with_reducible refine HC.out.mono ?_); rintro e w1 ⟨rfl, hb1⟩; obtain ⟨j0, j1, j2, j3, j4, j5⟩ := HK.out w1 hb1))
        | (go_at_call 55; ((with_reducible refine (s_within _ _ _ _).mono ?_); rintro e w2 ⟨rfl, rfl⟩; rw [HN.out])))
      go_ret2
      exact ⟨_, rfl, got_no (by decide), below_tr hb1 (below_alloc _ _)⟩
    · have HN := Lib.hid hn
      rw [wn_iff] at hn
      obtain ⟨q1, q2, q3, q4⟩ := split_wt HN1.out hn.1 hn.2
      obtain ⟨hn1, hn2⟩ := hn
      obtain ⟨q, hq⟩ : ∃ q, q = x.wt * a / x.h := ⟨_, rfl⟩
      have hX : splitX l x a = if q = 0 ∨ x.wt - q = 0 then 10 else if l.length = 60 then 4 else 0 := by unfold splitX; rw [if_pos HN.out, ← hq]
      have hlow : lowC x a = ⟨a, x.o, x.i, q, x.e, x.n⟩ := by rw [hq]; rfl
      have hhigh : highC x a = ⟨x.h - a, x.o, x.i, x.wt - q, x.e, x.n⟩ := by rw [hq]; rfl
      have HLo := Lib.hid hlow
      have HHi := Lib.hid hhigh
      rw [← hq] at q3 q4
      have hq' := hq.symm
      rw [hX]
      clear hX hq hlow hhigh hEq h0 hv hall hx
      by_cases hz : q = 0
      · subst hz
        rw [if_pos (.inl rfl)]
        clear hR
        go_enter Try.func37, Try.ntmps37
        go_wp2_with (first
          | (go_at_call 61; ((with_reducible refine HC.out.mono ?_); rintro e w1 ⟨rfl, hb1⟩; obtain ⟨j0, j1, j2, j3, j4, j5⟩ := HK.out w1 hb1))
          | (go_at_call 55; ((with_reducible refine (s_within _ _ _ _).mono ?_); rintro e w2 ⟨rfl, rfl⟩; rw [HN.out])))
        go_ret2
        exact ⟨_, rfl, got_no (by decide), below_tr (below_tr hb1 (below_alloc _ _)) (below_alloc _ _)⟩
      · rw [if_neg (by omega)]
        have hz1 : (q == 0) = false := by simpa using hz
        have hz2 : (x.wt - q == 0) = false := by simp; omega
        by_cases h60 : l.length = 60
        · rw [if_pos h60]
          have hi60 : (l.length : Int) = 60 := by omega
          clear hR h60
          go_enter Try.func37, Try.ntmps37
          go_wp2_with (first
            | (go_at_call 61; ((with_reducible refine HC.out.mono ?_); rintro e w1 ⟨rfl, hb1⟩; obtain ⟨j0, j1, j2, j3, j4, j5⟩ := HK.out w1 hb1))
            | (go_at_call 55; ((with_reducible refine (s_within _ _ _ _).mono ?_); rintro e w2 ⟨rfl, rfl⟩; rw [HN.out])))
          go_ret2
          exact ⟨_, rfl, got_no (by decide), below_tr (below_tr hb1 (below_alloc _ _)) (below_alloc _ _)⟩
        · rw [if_neg h60]
          have hn60 : ((l.length : Int) == 60) = false := by simp; omega
          have i3 : (k : Int) ≤ (c : Int) := by omega
          have i4 : (0 : Int) ≤ (k : Int) + 1 := by omega
          have i5 : (k : Int) + 1 ≤ (l.length : Int) := by omega
          have i6 : IntKind.i64.wrap ((k : Int) + 1) = (k : Int) + 1 := IntWalk.i64_in _ (by omega)
          have i7 : ((k : Int) + 1).toNat = k + 1 := by omega
          by_cases hck : c = k + 1
          · subst hck
            have i9 : (k : Int) ≤ (k : Int) + 1 := by omega
            have i10 : k ≤ k + 1 := by omega
            go_enter Try.func37, Try.ntmps37
            go_wp2_with (first
              | (go_at_call 61; ((with_reducible refine HC.out.mono ?_); rintro e w1 ⟨rfl, hb1⟩; obtain ⟨j0, j1, j2, j3, j4, j5⟩ := HK.out w1 hb1))
              | (go_at_call 55; ((with_reducible refine (s_within _ _ _ _).mono ?_); rintro e w2 ⟨rfl, rfl⟩; rw [HN.out])))
            obtain ⟨w3, hw3⟩ : ∃ w3, (w1.alloc (.cells #[.int .i64 a, .int .i64 x.o, .int .i64 x.i, .int .i64 q, .int .i64 x.e, .int .i64 x.n] 35)).alloc (.cells #[.int .i64 (x.h - a), .int .i64 x.o, .int .i64 x.i, .int .i64 (x.wt - q), .int .i64 x.e, .int .i64 x.n] 35) = w3 := ⟨_, rfl⟩
            rw [hw3]
            have b3 : Below w.heap.size w w3 := hw3 ▸ below_tr (below_tr hb1 (below_alloc _ _)) (below_alloc _ _)
            have BL : Blk w3 w1.heap.size 35 #[.int .i64 a, .int .i64 x.o, .int .i64 x.i, .int .i64 q, .int .i64 x.e, .int .i64 x.n] := hw3 ▸ (Blk.new w1 _ _).alloc _
            have BH : Blk w3 (w1.heap.size + 1) 35 #[.int .i64 (x.h - a), .int .i64 x.o, .int .i64 x.i, .int .i64 (x.wt - q), .int .i64 x.e, .int .i64 x.n] := by have := Blk.new (w1.alloc (.cells #[.int .i64 a, .int .i64 x.o, .int .i64 x.i, .int .i64 q, .int .i64 x.e, .int .i64 x.n] 35)) 35 #[.int .i64 (x.h - a), .int .i64 x.o, .int .i64 x.i, .int .i64 (x.wt - q), .int .i64 x.e, .int .i64 x.n]; rw [World.size_alloc, hw3] at this; exact this
            clear hw3
            obtain ⟨l0, l1, l2, l3, l4, l5⟩ := blk6 BL
            obtain ⟨h0, h1, h2, h3, h4, h5⟩ := blk6 BH
            have z1 : w1.heap.size < w3.heap.size := BL.lt
            have z2 : w1.heap.size + 1 < w3.heap.size := BH.lt
            have n1 : w1.heap.size ≠ w3.heap.size := by omega
            have n2 : w1.heap.size + 1 ≠ w3.heap.size := by omega
            have hW := below_draw (below_tr (below_tr b3 (below_alloc w3 (.cells #[.int .i64 a, .int .i64 x.o, .int .i64 x.i, .int .i64 q, .int .i64 x.e, .int .i64 x.n, .int .i64 (x.h - a), .int .i64 x.o, .int .i64 x.i, .int .i64 (x.wt - q), .int .i64 x.e, .int .i64 x.n] 35))) (below_alloc _ (.cells #[.slice (some ⟨b, off, none⟩) k (k + 1), .slice (some ⟨w3.heap.size, 0, none⟩) 2 2, .slice (some ⟨b, off, none⟩) 0 0] 22)))
            have hG := ((Blk.new w3 35 #[.int .i64 a, .int .i64 x.o, .int .i64 x.i, .int .i64 q, .int .i64 x.e, .int .i64 x.n, .int .i64 (x.h - a), .int .i64 x.o, .int .i64 x.i, .int .i64 (x.wt - q), .int .i64 x.e, .int .i64 x.n]).alloc (.cells #[.slice (some ⟨b, off, none⟩) k (k + 1), .slice (some ⟨w3.heap.size, 0, none⟩) 2 2, .slice (some ⟨b, off, none⟩) 0 0] 22)).drew
            have hB := (Blk.new (w3.alloc (.cells #[.int .i64 a, .int .i64 x.o, .int .i64 x.i, .int .i64 q, .int .i64 x.e, .int .i64 x.n, .int .i64 (x.h - a), .int .i64 x.o, .int .i64 x.i, .int .i64 (x.wt - q), .int .i64 x.e, .int .i64 x.n] 35)) 22 #[.slice (some ⟨b, off, none⟩) k (k + 1), .slice (some ⟨w3.heap.size, 0, none⟩) 2 2, .slice (some ⟨b, off, none⟩) 0 0]).drew
            rw [World.size_alloc] at hB
            have HCon := Lib.hid (split_concat hR (by rw [List.drop_of_length_le (by omega)]; exact Rd.nil_) hk hl2 HX.out HLo.out HHi.out _ hW _ _ hG hB (by omega))
            have HG := Lib.hid hG
            have HB := Lib.hid hB
            clear hG hB
            first
              | (go_region_held3 (fun w' => w'.cell? ⟨w1.heap.size, 0, none⟩ = some (.int .i64 a) ∧ w'.cell? ⟨w1.heap.size, 1, none⟩ = some (.int .i64 x.o) ∧ w'.cell? ⟨w1.heap.size, 2, none⟩ = some (.int .i64 x.i) ∧ w'.cell? ⟨w1.heap.size, 3, none⟩ = some (.int .i64 q) ∧ w'.cell? ⟨w1.heap.size, 4, none⟩ = some (.int .i64 x.e) ∧ w'.cell? ⟨w1.heap.size, 5, none⟩ = some (.int .i64 x.n) ∧ w'.cell? ⟨w1.heap.size + 1, 0, none⟩ = some (.int .i64 (x.h - a)) ∧ w'.cell? ⟨w1.heap.size + 1, 1, none⟩ = some (.int .i64 x.o) ∧ w'.cell? ⟨w1.heap.size + 1, 2, none⟩ = some (.int .i64 x.i) ∧ w'.cell? ⟨w1.heap.size + 1, 3, none⟩ = some (.int .i64 (x.wt - q)) ∧ w'.cell? ⟨w1.heap.size + 1, 4, none⟩ = some (.int .i64 x.e) ∧ w'.cell? ⟨w1.heap.size + 1, 5, none⟩ = some (.int .i64 x.n))
                  (first | (go_keep; done) | (go_split_ands; refine ⟨?_, ?_, ?_, ?_, ?_, ?_, ?_, ?_, ?_, ?_, ?_, ?_⟩ <;> (first | assumption | (refine (hc4 _ _ ?_).trans ?_ <;> (first | assumption | omega | (simp; omega) | (go_simp; done))))))
                  (first
                    | (go_at_call 75; ((with_reducible refine HCon.out.mono ?_); rintro e w4 ⟨v, rfl, hr4, c4⟩; obtain ⟨hc4, hf4⟩ := bcell c4))))
              | fail
            go_wp2
            go_ret2
            exact ⟨v, rfl, got_ok rfl (ownS_of (hr4.mono hW.size) (by simp [splitL]; omega)), below_tr hW c4⟩
          · have i8 : (k : Int) + 1 ≤ (c : Int) := by omega
            go_enter Try.func37, Try.ntmps37
            go_wp2_with (first
              | (go_at_call 61; ((with_reducible refine HC.out.mono ?_); rintro e w1 ⟨rfl, hb1⟩; obtain ⟨j0, j1, j2, j3, j4, j5⟩ := HK.out w1 hb1))
              | (go_at_call 55; ((with_reducible refine (s_within _ _ _ _).mono ?_); rintro e w2 ⟨rfl, rfl⟩; rw [HN.out])))
            obtain ⟨w3, hw3⟩ : ∃ w3, (w1.alloc (.cells #[.int .i64 a, .int .i64 x.o, .int .i64 x.i, .int .i64 q, .int .i64 x.e, .int .i64 x.n] 35)).alloc (.cells #[.int .i64 (x.h - a), .int .i64 x.o, .int .i64 x.i, .int .i64 (x.wt - q), .int .i64 x.e, .int .i64 x.n] 35) = w3 := ⟨_, rfl⟩
            rw [hw3]
            have b3 : Below w.heap.size w w3 := hw3 ▸ below_tr (below_tr hb1 (below_alloc _ _)) (below_alloc _ _)
            have BL : Blk w3 w1.heap.size 35 #[.int .i64 a, .int .i64 x.o, .int .i64 x.i, .int .i64 q, .int .i64 x.e, .int .i64 x.n] := hw3 ▸ (Blk.new w1 _ _).alloc _
            have BH : Blk w3 (w1.heap.size + 1) 35 #[.int .i64 (x.h - a), .int .i64 x.o, .int .i64 x.i, .int .i64 (x.wt - q), .int .i64 x.e, .int .i64 x.n] := by have := Blk.new (w1.alloc (.cells #[.int .i64 a, .int .i64 x.o, .int .i64 x.i, .int .i64 q, .int .i64 x.e, .int .i64 x.n] 35)) 35 #[.int .i64 (x.h - a), .int .i64 x.o, .int .i64 x.i, .int .i64 (x.wt - q), .int .i64 x.e, .int .i64 x.n]; rw [World.size_alloc, hw3] at this; exact this
            clear hw3
            obtain ⟨l0, l1, l2, l3, l4, l5⟩ := blk6 BL
            obtain ⟨h0, h1, h2, h3, h4, h5⟩ := blk6 BH
            have z1 : w1.heap.size < w3.heap.size := BL.lt
            have z2 : w1.heap.size + 1 < w3.heap.size := BH.lt
            have n1 : w1.heap.size ≠ w3.heap.size := by omega
            have n2 : w1.heap.size + 1 ≠ w3.heap.size := by omega
            have hW := below_draw (below_tr (below_tr b3 (below_alloc w3 (.cells #[.int .i64 a, .int .i64 x.o, .int .i64 x.i, .int .i64 q, .int .i64 x.e, .int .i64 x.n, .int .i64 (x.h - a), .int .i64 x.o, .int .i64 x.i, .int .i64 (x.wt - q), .int .i64 x.e, .int .i64 x.n] 35))) (below_alloc _ (.cells #[.slice (some ⟨b, off, none⟩) k c, .slice (some ⟨w3.heap.size, 0, none⟩) 2 2, .slice (some ⟨b, off + (k + 1) * 6, none⟩) (l.length - (k + 1)) (c - (k + 1))] 22)))
            have hG := ((Blk.new w3 35 #[.int .i64 a, .int .i64 x.o, .int .i64 x.i, .int .i64 q, .int .i64 x.e, .int .i64 x.n, .int .i64 (x.h - a), .int .i64 x.o, .int .i64 x.i, .int .i64 (x.wt - q), .int .i64 x.e, .int .i64 x.n]).alloc (.cells #[.slice (some ⟨b, off, none⟩) k c, .slice (some ⟨w3.heap.size, 0, none⟩) 2 2, .slice (some ⟨b, off + (k + 1) * 6, none⟩) (l.length - (k + 1)) (c - (k + 1))] 22)).drew
            have hB := (Blk.new (w3.alloc (.cells #[.int .i64 a, .int .i64 x.o, .int .i64 x.i, .int .i64 q, .int .i64 x.e, .int .i64 x.n, .int .i64 (x.h - a), .int .i64 x.o, .int .i64 x.i, .int .i64 (x.wt - q), .int .i64 x.e, .int .i64 x.n] 35)) 22 #[.slice (some ⟨b, off, none⟩) k c, .slice (some ⟨w3.heap.size, 0, none⟩) 2 2, .slice (some ⟨b, off + (k + 1) * 6, none⟩) (l.length - (k + 1)) (c - (k + 1))]).drew
            rw [World.size_alloc] at hB
            have HCon := Lib.hid (split_concat hR (rd_drop hR (k + 1)) hk hl2 HX.out HLo.out HHi.out _ hW _ _ hG hB (by omega))
            have HG := Lib.hid hG
            have HB := Lib.hid hB
            clear hG hB
            first
              | (go_region_held3 (fun w' => w'.cell? ⟨w1.heap.size, 0, none⟩ = some (.int .i64 a) ∧ w'.cell? ⟨w1.heap.size, 1, none⟩ = some (.int .i64 x.o) ∧ w'.cell? ⟨w1.heap.size, 2, none⟩ = some (.int .i64 x.i) ∧ w'.cell? ⟨w1.heap.size, 3, none⟩ = some (.int .i64 q) ∧ w'.cell? ⟨w1.heap.size, 4, none⟩ = some (.int .i64 x.e) ∧ w'.cell? ⟨w1.heap.size, 5, none⟩ = some (.int .i64 x.n) ∧ w'.cell? ⟨w1.heap.size + 1, 0, none⟩ = some (.int .i64 (x.h - a)) ∧ w'.cell? ⟨w1.heap.size + 1, 1, none⟩ = some (.int .i64 x.o) ∧ w'.cell? ⟨w1.heap.size + 1, 2, none⟩ = some (.int .i64 x.i) ∧ w'.cell? ⟨w1.heap.size + 1, 3, none⟩ = some (.int .i64 (x.wt - q)) ∧ w'.cell? ⟨w1.heap.size + 1, 4, none⟩ = some (.int .i64 x.e) ∧ w'.cell? ⟨w1.heap.size + 1, 5, none⟩ = some (.int .i64 x.n))
                  (first | (go_keep; done) | (go_split_ands; refine ⟨?_, ?_, ?_, ?_, ?_, ?_, ?_, ?_, ?_, ?_, ?_, ?_⟩ <;> (first | assumption | (refine (hc4 _ _ ?_).trans ?_ <;> (first | assumption | omega | (simp; omega) | (go_simp; done))))))
                  (first
                    | (go_at_call 75; ((with_reducible refine HCon.out.mono ?_); rintro e w4 ⟨v, rfl, hr4, c4⟩; obtain ⟨hc4, hf4⟩ := bcell c4))))
              | fail
            go_wp2
            go_ret2
            exact ⟨v, rfl, got_ok rfl (ownS_of (hr4.mono hW.size) (by simp [splitL]; omega)), below_tr hW c4⟩
  · have H0 := Lib.hid h0
    have t1 : (askedE l n != 0) = true := by simpa using h0
    have hE : splitE l n a = askedE l n := by unfold splitE; rw [if_neg h0]
    rw [hE]
    clear h0 hE
    go_enter Try.func37, Try.ntmps37
    go_wp2_with (go_at_call 61; ((with_reducible refine HC.out.mono ?_); rintro e w1 ⟨rfl, hb1⟩))
    go_ret2
    exact ⟨_, rfl, got_no H0.out, hb1⟩
end Go.Proofs.Ythoemokkfijfeaa
