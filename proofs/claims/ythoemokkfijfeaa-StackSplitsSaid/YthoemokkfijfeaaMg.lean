/- Stack: a course divided, by the reference. -/
import Derived.Test.YthoemokkfijfeaaMf
import Derived.Deep.DeepCutAuto
namespace Go.Proofs.Ythoemokkfijfeaa
open Go.RowKit

theorem asked_ok' {l : List Course} {n : Nat} (hv : validC l = true) (hn : n < l.length) : askedE l n = 0 := by
  unfold askedE wn; rw [if_pos hv, if_pos]; simp; omega

def preS (l : List Course) (k : Nat) (lo hi : Course) (j : Nat) : List Course := (List.range j).flatMap fun i => if i = k then [lo, hi] else l[i]?.toList
theorem preS_at {l : List Course} {k : Nat} {lo hi : Course} : preS l k lo hi (k + 1) = preS l k lo hi k ++ [lo, hi] := by
  simp [preS, List.range_succ]
theorem preS_off {l : List Course} {k j : Nat} {lo hi x : Course} (hx : l[j]? = some x) (h : j ≠ k) : preS l k lo hi (j + 1) = preS l k lo hi j ++ [x] := by
  simp [preS, List.range_succ, hx, h]
theorem preS_take {l : List Course} {k : Nat} {lo hi : Course} (j : Nat) (hj : j ≤ k) (hk : k < l.length) : preS l k lo hi j = l.take j := by
  induction j with
  | zero => rfl
  | succ j ih =>
    obtain ⟨x, hx⟩ := get_lt (show j < l.length by omega)
    rw [preS_off hx (by omega), ih (by omega), List.take_add_one, hx]; rfl
theorem preS_drop {l : List Course} {k : Nat} {lo hi : Course} (d : Nat) (hd : k + 1 + d ≤ l.length) : preS l k lo hi (k + 1 + d) = l.take k ++ ([lo, hi] ++ (l.drop (k + 1)).take d) := by
  induction d with
  | zero => rw [Nat.add_zero, preS_at, preS_take k (Nat.le_refl _) (by omega)]; simp
  | succ d ih =>
    obtain ⟨x, hx⟩ := get_lt (show k + 1 + d < l.length by omega)
    rw [show k + 1 + (d + 1) = (k + 1 + d) + 1 by omega, preS_off hx (by omega), ih (by omega), List.take_add_one, List.getElem?_drop, hx]; simp
theorem preS_all {l : List Course} {k : Nat} {lo hi : Course} (hk : k < l.length) : preS l k lo hi l.length = l.take k ++ ([lo, hi] ++ l.drop (k + 1)) := by
  have := preS_drop (lo := lo) (hi := hi) (l := l) (k := k) (l.length - (k + 1)) (by omega)
  rw [show k + 1 + (l.length - (k + 1)) = l.length by omega, List.take_of_length_le (l := l.drop (k + 1)) (by simp)] at this
  exact this

theorem preS_len' {l : List Course} {k : Nat} {lo hi : Course} (j : Nat) : (preS l k lo hi j).length ≤ 2 * j := by
  induction j with
  | zero => simp [preS]
  | succ j ih =>
    have : preS l k lo hi (j + 1) = preS l k lo hi j ++ (if j = k then [lo, hi] else l[j]?.toList) := by simp [preS, List.range_succ]
    rw [this, List.length_append]
    have h2 : (if j = k then [lo, hi] else l[j]?.toList).length ≤ 2 := by split; simp; cases l[j]? <;> simp
    omega
theorem flat_append (a b : List Course) : flat (a ++ b) = flat a ++ flat b := by simp [flat]

set_option maxHeartbeats 2000000 in
set_option maxRecDepth 40000 in
theorem r_split (A : Option Addr) (l : List Course) (c : Nat) (n a : Int) (w : World) (hl : l.length ≤ 100000) (hR : Rd Course.cs 6 w A l) :
    Calls Try.prog 42 #[.slice A l.length c, .int .i64 n, .int .i64 a] w fun e w' => ∃ v, e = .returned (.tuple #[v, .int .i64 (splitE l n a)]) ∧ GotS (splitE l n a) w' w.heap.size v (splitL l n a) ∧ Below w.heap.size w w' := by
  have HC := Lib.hid (r_valid A l c w hl hR)
  cases hv : validC l
  · have hE : splitE l n a = 1 := by unfold splitE askedE; simp [hv]
    rw [hE]
    rw [hv] at HC
    clear hv hE
    go_enter Try.func42, Try.ntmps42
    go_wp2_with (go_at_call 18; ((with_reducible refine HC.out.mono ?_); rintro e w1 ⟨rfl, hb1⟩))
    go_ret2
    exact ⟨_, rfl, got_no (by decide), hb1⟩
  rw [hv] at HC
  obtain ⟨hall, hl1, hl2⟩ := valid_all hv
  by_cases h0 : wn n 0 ((l.length : Int) - 1) = true
  · have h0' := wn_iff.1 h0
    obtain ⟨k, rfl⟩ : ∃ k : Nat, n = k := ⟨n.toNat, by omega⟩
    have hk : k < l.length := by omega
    obtain ⟨x, hx⟩ := get_lt hk
    obtain ⟨b, off, rfl, hblt, _⟩ := hR.get hx
    have hcb := cb_of (List.all_eq_true.1 hall x (List.mem_of_getElem? hx))
    have hEq := splitE_of (a := a) (asked_ok' hv hk) hx
    rw [hEq]
    have HX := Lib.hid hx
    have HK := Lib.hid (fun W (h : Below w.heap.size w W) => rdK (hR.on h) hx)
    have i1 : (0 : Int) ≤ (k : Int) := Int.natCast_nonneg _
    have i2 : (k : Int) < (l.length : Int) := by omega
    have HN1 := Lib.hid hcb
    have HN0 := Lib.hid h0
    obtain ⟨d1, d2, d3, d4, d5, d6, d7, d8, d9, d10, d11⟩ := hcb
    cases hn : wn a 1 (x.h - 1)
    · have hE : splitX l x a = 7 := by simp [splitX, hn]
      have HN := Lib.hid hn
      rw [hE]
      clear hE hn hEq h0 hv hall hx hR
      go_enter Try.func42, Try.ntmps42
      go_wp2_with (first
        | (go_at_call 18; ((with_reducible refine HC.out.mono ?_); rintro e w1 ⟨rfl, hb1⟩; obtain ⟨j0, j1, j2, j3, j4, j5⟩ := HK.out w1 hb1))
        | (go_at_call_of 60 (Value.int IntKind.i64 (k : Int)); ((with_reducible refine (r_within _ _ _ _).mono ?_); rintro e w2 ⟨rfl, rfl⟩; rw [HN0.out]))
        | (go_at_call 60; ((with_reducible refine (r_within _ _ _ _).mono ?_); rintro e w2 ⟨rfl, rfl⟩; rw [HN.out])))
      go_ret2
      exact ⟨_, rfl, got_no (by decide), hb1⟩
    · have HN := Lib.hid hn
      rw [wn_iff] at hn
      obtain ⟨q1, q2, q3, q4⟩ := split_wt HN1.out hn.1 hn.2
      obtain ⟨hn1, hn2⟩ := hn
      obtain ⟨q, hq⟩ : ∃ q, q = x.wt * a / x.h := ⟨_, rfl⟩
      have hX : splitX l x a = if q = 0 ∨ x.wt - q = 0 then 10 else if l.length = 60 then 4 else 0 := by unfold splitX; rw [if_pos HN.out, ← hq]
      have hlow : lowC x a = ⟨a, x.o, x.i, q, x.e, x.n⟩ := by rw [hq]; rfl
      have hhigh : highC x a = ⟨x.h - a, x.o, x.i, x.wt - q, x.e, x.n⟩ := by rw [hq]; rfl
      have HLo := Lib.hid hlow
      have HHi := Lib.hid hhigh
      have HXX := Lib.hid hX
      rw [← hq] at q3 q4
      have hq' := hq.symm
      have hqt : (x.wt * a).tdiv x.h = q := by rw [Int.tdiv_eq_ediv_of_nonneg q1]; exact hq'
      have HALL := Lib.hid hall
      clear hX hq hlow hhigh hEq h0 hv hall hx
      go_enter Try.func42, Try.ntmps42
      go_upto_region 5 with (first
        | (go_at_call 18; ((with_reducible refine HC.out.mono ?_); rintro e w1 ⟨rfl, hb1⟩; obtain ⟨j0, j1, j2, j3, j4, j5⟩ := HK.out w1 hb1))
        | (go_at_call_of 60 (Value.int IntKind.i64 (k : Int)); ((with_reducible refine (r_within _ _ _ _).mono ?_); rintro e w2 ⟨rfl, rfl⟩; rw [HN0.out]))
        | (go_at_call 60; ((with_reducible refine (r_within _ _ _ _).mono ?_); rintro e w2 ⟨rfl, rfl⟩; rw [HN.out])))
      go_cut [8, 9] (fun s8 s9 wx => ∃ g h : Nat, s8 = .pointer (some ⟨g, 0, none⟩) ∧ s9 = .pointer (some ⟨h, 0, none⟩) ∧ g ≠ h ∧ Blk wx g 35 #[.int .i64 x.h, .int .i64 x.o, .int .i64 x.i, .int .i64 x.wt, .int .i64 x.e, .int .i64 x.n] ∧ Blk wx h 35 #[.int .i64 x.h, .int .i64 x.o, .int .i64 x.i, .int .i64 x.wt, .int .i64 x.e, .int .i64 x.n] ∧ Below w.heap.size w wx ∧ w.heap.size ≤ g ∧ w.heap.size ≤ h)
      case first =>
        have n1 : b ≠ w1.heap.size := by have := hb1.size; omega
        have n2 : b ≠ w1.heap.size + 1 := by have := hb1.size; omega
        first
          | (go_region_held3 (fun w' => w'.cell? ⟨b, off + k * 6, none⟩ = some (.int .i64 x.h) ∧ w'.cell? ⟨b, off + k * 6 + 1, none⟩ = some (.int .i64 x.o) ∧ w'.cell? ⟨b, off + k * 6 + 2, none⟩ = some (.int .i64 x.i) ∧ w'.cell? ⟨b, off + k * 6 + 3, none⟩ = some (.int .i64 x.wt) ∧ w'.cell? ⟨b, off + k * 6 + 4, none⟩ = some (.int .i64 x.e) ∧ w'.cell? ⟨b, off + k * 6 + 5, none⟩ = some (.int .i64 x.n)) (go_keep) (fail))
          | fail
        all_goals
          go_wp2
          go_meet
        all_goals first
          | exact ⟨w1.heap.size, w1.heap.size + 1, rfl, rfl, by omega, ((Blk.new w1 _ _).alloc _).drew, (Blk.drew (by have := Blk.new (w1.alloc (.cells #[.int .i64 x.h, .int .i64 x.o, .int .i64 x.i, .int .i64 x.wt, .int .i64 x.e, .int .i64 x.n] 35)) 35 #[.int .i64 x.h, .int .i64 x.o, .int .i64 x.i, .int .i64 x.wt, .int .i64 x.e, .int .i64 x.n]; rw [World.size_alloc] at this; exact this)), (below_tr (below_tr hb1 (below_alloc _ _)) (below_alloc _ _)).drew, hb1.size, by have := hb1.size; omega⟩
          | exact ⟨w1.heap.size + 1, w1.heap.size, rfl, rfl, by omega, (Blk.drew (by have := Blk.new (w1.alloc (.cells #[.int .i64 x.h, .int .i64 x.o, .int .i64 x.i, .int .i64 x.wt, .int .i64 x.e, .int .i64 x.n] 35)) 35 #[.int .i64 x.h, .int .i64 x.o, .int .i64 x.i, .int .i64 x.wt, .int .i64 x.e, .int .i64 x.n]; rw [World.size_alloc] at this; exact this)), ((Blk.new w1 _ _).alloc _).drew, (below_tr (below_tr hb1 (below_alloc _ _)) (below_alloc _ _)).drew, by have := hb1.size; omega, hb1.size⟩
      case rest =>
        obtain ⟨g, h, rfl, rfl, hgh, Bg, Bh, bx, hg, hh⟩ := hcut
        have hhg : h ≠ g := Ne.symm hgh
        obtain ⟨j0, j1, j2, j3, j4, j5⟩ := blk6 Bg
        obtain ⟨k0, k1, k2, k3, k4, k5⟩ := blk6 Bh
        have f0 := Bg.frozen 0
        have f3 := Bg.frozen 3
        have f10 := Bh.frozen 0
        have f13 := Bh.frozen 3
        go_upto_region 6 with (fail)
        go_cut [] (fun wy => Blk wy g 35 #[.int .i64 a, .int .i64 x.o, .int .i64 x.i, .int .i64 q, .int .i64 x.e, .int .i64 x.n] ∧ Blk wy h 35 #[.int .i64 x.h, .int .i64 x.o, .int .i64 x.i, .int .i64 x.wt, .int .i64 x.e, .int .i64 x.n] ∧ Below w.heap.size w wy)
        case first =>
          go_region
          all_goals
            go_wp2
            go_meet
          exact ⟨((Bg.set_ 0 _).set_ 3 _).drew, ((Bh.far hhg _).far hhg _).drew, ((bx.setCell hg _).setCell hg _).drew⟩
        case rest =>
          obtain ⟨Bg1, Bh1, bx1⟩ := hcut
          clear j0 j1 j2 j3 j4 j5 k0 k1 k2 k3 k4 k5 f0 f3 f10 f13 Bg Bh bx
          obtain ⟨j0, j1, j2, j3, j4, j5⟩ := blk6 Bg1
          obtain ⟨k0, k1, k2, k3, k4, k5⟩ := blk6 Bh1
          have f10 := Bh1.frozen 0
          have f13 := Bh1.frozen 3
          go_upto_region 7 with (fail)
          go_cut [] (fun wy => Blk wy g 35 #[.int .i64 a, .int .i64 x.o, .int .i64 x.i, .int .i64 q, .int .i64 x.e, .int .i64 x.n] ∧ Blk wy h 35 #[.int .i64 (x.h - a), .int .i64 x.o, .int .i64 x.i, .int .i64 (x.wt - q), .int .i64 x.e, .int .i64 x.n] ∧ Below w.heap.size w wy)
          case first =>
            go_region
            all_goals
              go_wp2
              go_meet
            all_goals exact ⟨((Bg1.far hgh _).far hgh _).drew, ((Bh1.set_ 0 _).set_ 3 _).drew, ((bx1.setCell hh _).setCell hh _).drew⟩
          case rest =>
            obtain ⟨Bg2, Bh2, bx2⟩ := hcut
            clear j0 j1 j2 j3 j4 j5 k0 k1 k2 k3 k4 k5 f10 f13 Bg1 Bh1 bx1
            obtain ⟨j0, j1, j2, j3, j4, j5⟩ := blk6 Bg2
            obtain ⟨k0, k1, k2, k3, k4, k5⟩ := blk6 Bh2
            by_cases hz : q = 0
            · subst hz
              have hE : splitX l x a = 10 := by rw [HXX.out, if_pos (.inl rfl)]
              have HE := Lib.hid hE
              clear hE
              go_wp2
              go_ret2
              exact ⟨_, by rw [HE.out]; rfl, got_no (by rw [HE.out]; decide), bx2⟩
            · have hz1 : (q == 0) = false := by simpa using hz
              have hz2 : (x.wt - q == 0) = false := by simp; omega
              by_cases h60 : l.length = 60
              · have hE : splitX l x a = 4 := by rw [HXX.out, if_neg (by omega), if_pos h60]
                have HE := Lib.hid hE
                have hi60 : (l.length : Int) = 60 := by omega
                clear hR h60 hE
                go_wp2
                go_ret2
                exact ⟨_, by rw [HE.out]; rfl, got_no (by rw [HE.out]; decide), bx2⟩
              · have hE : splitX l x a = 0 := by rw [HXX.out, if_neg (by omega), if_neg h60]
                have HE := Lib.hid hE
                clear hE
                have hn60 : ((l.length : Int) == 60) = false := by simp; omega
                obtain ⟨i0, hi, hii1, hii2, hii3⟩ := info_course
                obtain ⟨wb, rfl⟩ : ∃ wb : World, wb = wc := ⟨_, rfl⟩
                have hbs := bx2.size
                go_wp2
                clear j0 j1 j2 j3 j4 j5 k0 k1 k2 k3 k4 k5
                go_loopw [10, 11] (fun v i wr => ∃ j : Nat, j ≤ l.length ∧ i = .int .i64 j ∧ wr.ownsRow wb.heap.size 35 6 v (preS l k (lowC x a) (highC x a) j).length (flat (preS l k (lowC x a) (highC x a) j)) ∧ Below wb.heap.size wb wr) (fun _ i _ => l.length - (intOf i).toNat)
                case atStart => exact ⟨0, by omega, rfl, World.ownsRow_nil _ _ _ _, below_refl _⟩
                case round =>
                  obtain ⟨j, hj, rfl, hown, hbw⟩ := hrel
                  obtain ⟨va, vc, rfl⟩ := ownsRow_slice hown
                  have hsz := hbw.size
                  have hbL : (preS l k (lowC x a) (highC x a) j).length ≤ 1000 := by have := preS_len' (l := l) (k := k) (lo := lowC x a) (hi := highC x a) j; omega
                  by_cases hlj : j < l.length
                  · by_cases hjk : j = k
                    · subst hjk
                      obtain ⟨j0, j1, j2, j3, j4, j5⟩ := blk6 (Bg2.below hbw Bg2.lt)
                      obtain ⟨k0, k1, k2, k3, k4, k5⟩ := blk6 (Bh2.below hbw Bh2.lt)
                      have HP := Lib.hid (preS_at (l := l) (k := j) (lo := lowC x a) (hi := highC x a))
                      generalize hpre : preS l j (lowC x a) (highC x a) j = pre at *
                      have HO := Lib.hid (hown.alloc (.cells #[.int .i64 a, .int .i64 x.o, .int .i64 x.i, .int .i64 q, .int .i64 x.e, .int .i64 x.n, .int .i64 (x.h - a), .int .i64 x.o, .int .i64 x.i, .int .i64 (x.wt - q), .int .i64 x.e, .int .i64 x.n] 35))
                      clear hpre hown
                      go_wp2_with (at_builtin; refine wpList_append_own _ rfl _ _ 22 rfl wb.heap.size 35 i0 _ 6 48 (by kernel_rfl) hi hii1 hii2 hii3 rfl (by omega) _ _ _ rfl HO.out ⟨wr.heap.size, 0, none⟩ 2 2 (flat [lowC x a, highC x a]) rfl (flat_length _) (by rw [HLo.out, HHi.out]; exact World.news_of_block (heap_alloc_new wr _)) (flat_one _) (by unfold maxLen; omega) (by omega) (by simp; omega) ?_; intro v3 w3 hown3 hgrow _)
                      have hb3 := below_grown (hbw.alloc hsz _) hgrow (fun r hr => (HO.out.lt r hr).1) (by simp; omega)
                      clear hgrow
                      go_roundw
                      case rel => exact ⟨j + 1, by omega, by go_num, by rw [HP.out, List.length_append, flat_append]; exact hown3, hb3⟩
                      case measure => simp [intOf]; omega
                    · obtain ⟨y, hy⟩ := get_lt hlj
                      obtain ⟨j0, j1, j2, j3, j4, j5⟩ := rdK (hR.on (below_tr bx2 hbw)) hy
                      have HP := Lib.hid (preS_off (lo := lowC x a) (hi := highC x a) hy hjk)
                      generalize hpre : preS l k (lowC x a) (highC x a) j = pre at *
                      have HO := Lib.hid (hown.alloc (.cells #[.int .i64 y.h, .int .i64 y.o, .int .i64 y.i, .int .i64 y.wt, .int .i64 y.e, .int .i64 y.n] 35))
                      have hjk1 : ((j : Int) == k) = false := by simp; omega
                      have hjk2 : ¬ (j : Int) = k := by omega
                      clear hpre hown hy
                      go_wp2_with (at_builtin; refine wpList_append_own _ rfl _ _ 22 rfl wb.heap.size 35 i0 _ 6 48 (by kernel_rfl) hi hii1 hii2 hii3 rfl (by omega) _ _ _ rfl HO.out ⟨wr.heap.size, 0, none⟩ 1 1 (flat [y]) rfl (flat_length _) (World.news_of_block (heap_alloc_new wr _)) (flat_one _) (by unfold maxLen; omega) (by omega) (by simp; omega) ?_; intro v3 w3 hown3 hgrow _)
                      have hb3 := below_grown (hbw.alloc hsz _) hgrow (fun r hr => (HO.out.lt r hr).1) (by simp; omega)
                      clear hgrow
                      go_roundw
                      case rel => exact ⟨j + 1, by omega, by go_num, by rw [HP.out, List.length_append, flat_append]; exact hown3, hb3⟩
                      case measure => simp [intOf]; omega
                  · obtain rfl : j = l.length := by omega
                    have HP := Lib.hid (preS_all (lo := lowC x a) (hi := highC x a) hk)
                    go_wp2
                    go_ret2
                    refine ⟨_, by rw [HE.out]; rfl, got_ok HE.out (ownS_of ?_ (by simp [splitL]; omega)), below_tr bx2 hbw⟩
                    have : splitL l k a = preS l k (lowC x a) (highC x a) l.length := by rw [HP.out]; simp [splitL, bedC, HX.out]
                    rw [this]
                    exact hown.mono hbs
  · have h0' : wn n 0 ((l.length : Int) - 1) = false := by simpa using h0
    have H0 := Lib.hid h0'
    have hE : splitE l n a = 7 := by unfold splitE askedE; rw [if_pos hv, if_neg h0, if_neg (by omega)]
    rw [hE]
    clear h0 h0' hE hv hall
    go_enter Try.func42, Try.ntmps42
    go_wp2_with (first
      | (go_at_call 18; ((with_reducible refine HC.out.mono ?_); rintro e w1 ⟨rfl, hb1⟩))
      | (go_at_call 60; ((with_reducible refine (r_within _ _ _ _).mono ?_); rintro e w2 ⟨rfl, rfl⟩; rw [H0.out])))
    go_ret2
    exact ⟨_, rfl, got_no (by decide), hb1⟩
end Go.Proofs.Ythoemokkfijfeaa
