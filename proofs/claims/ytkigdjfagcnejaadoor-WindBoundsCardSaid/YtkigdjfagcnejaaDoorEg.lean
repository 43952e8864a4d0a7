/- Wind cards: Bounds of the reference. -/
import Derived.Test.YtkigdjfagcnejaaDoorEf
import Derived.Deep.OwnRows
set_option linter.unusedSimpArgs false
set_option linter.unusedVariables false
namespace Go.Proofs.YtkigdjfagcnejaaDoor
open Go.RowKit

theorem vk_same {r : Ru} {l L M : List Int} {k s : Nat} {x y : Int} (h1 : VK true r l k L) (h2 : VK false r l k M) (hx : L[s]? = some x) (hy : M[s]? = some y) : (x < 0 → y < 0) ∧ (y < 0 → x < 0) := by
  have a := h1 s (List.getElem?_eq_some_iff.1 hx).1
  have b := h2 s (List.getElem?_eq_some_iff.1 hy).1
  rw [show L.getD s (-1) = x by rw [List.getD_eq_getElem?_getD, hx]; rfl] at a
  rw [show M.getD s (-1) = y by rw [List.getD_eq_getElem?_getD, hy]; rfl] at b
  rcases a with ⟨a1, a2⟩ | ⟨a1, a2, _⟩
  · rcases b with ⟨b1, _⟩ | ⟨_, b2, _⟩
    · omega
    · exact absurd b2 (a2 _)
  · rcases b with ⟨_, b2⟩ | ⟨b1, _, _⟩
    · exact absurd a2 (b2 _)
    · omega
theorem nv_skips {b : Bool} {r : Ru} {now N gs : List Int} {s : Nat} (h : NV b r now (prs s gs) N) (hn : now.getD s (-1) < 0) : NV b r now (prs (s + 1) gs) N := fun t ht => by
  refine bst_iff (fun m => ?_) (h t ht)
  rw [prs_succ]
  constructor
  · rintro ⟨p, hp, hq⟩; exact ⟨p, List.mem_append_left _ hp, hq⟩
  · rintro ⟨p, hp, hq⟩
    rcases List.mem_append.1 hp with hp | hp
    · exact ⟨p, hp, hq⟩
    · obtain ⟨g, _, rfl⟩ := List.mem_map.1 hp
      dsimp only at hq; omega
theorem nv_bd {b : Bool} {r : Ru} {now N : List Int} {ps : List (Nat × Int)} {t : Nat} {v : Int} (h : NV b r now ps N) (hx : N[t]? = some v) : N.getD t (-1) = v ∧ -1 ≤ v := by
  have e : N.getD t (-1) = v := by rw [List.getD_eq_getElem?_getD, hx]; rfl
  refine ⟨e, ?_⟩
  have := h t (List.getElem?_eq_some_iff.1 hx).1
  rw [e] at this
  rcases this with ⟨h1, _⟩ | ⟨h1, _⟩ <;> omega
theorem set_same {N : List Int} {t : Nat} {v : Int} (h : N[t]? = some v) : N.set t v = N := by
  have hlt := (List.getElem?_eq_some_iff.1 h).1
  apply List.ext_getElem?
  intro i
  by_cases e : t = i
  · subst e; rw [List.getElem?_set_self hlt]; exact h.symm
  · rw [List.getElem?_set_ne e]
theorem info_int3 : (Tryd.prog.info? 3).map (fun i => (i.zero, i.size, i.bytes)) = some (some (.int .i64 0), 1, 8) := by kernel_rfl
theorem run_mk (n : Nat) (hn : n ≤ 100000) (w : World) : (Instr.makeSlice 24 (.int .i64 (n : Int)) (.int .i64 (n : Int))).run Tryd.prog w = .ok (.slice (some ⟨w.heap.size, 0, none⟩) n n) (w.alloc (.cells (madeCells #[.int .i64 0] n) 3)) :=
  run_make_row' 24 3 (.int .i64 0) 8 (by kernel_rfl) info_int3 rfl .i64 .i64 n (by omega) (by omega) w
theorem li_made (w : World) (n : Nat) : LI (w.alloc (.cells (madeCells #[.int .i64 0] n) 3)) w.heap.size (List.replicate n 0) := by
  refine ⟨_, Blk.new w _ _, fun k x hx r u hu => ?_⟩
  have hr : r < 1 := (List.getElem?_eq_some_iff.1 hu).1
  obtain rfl : r = 0 := by omega
  have hk := (List.getElem?_eq_some_iff.1 hx).1
  rw [List.length_replicate] at hk
  have h1 : (madeCells #[Value.int .i64 0] n).toList[k]? = some (.int .i64 0) := by rw [toList_madeCells_one, List.getElem?_replicate, if_pos hk]
  rw [Nat.mul_one, Nat.add_zero, ← Array.getElem?_toList, h1]
  rw [List.getElem?_replicate, if_pos hk] at hx
  cases hx
  exact hu
/-- two rows made in whatever order -/
def Two (W wx : World) (n : Nat) (a b : Nat) : Prop := a ≠ b ∧ W.heap.size ≤ a ∧ W.heap.size ≤ b ∧ LI wx a (List.replicate n 0) ∧ LI wx b (List.replicate n 0) ∧ Below W.heap.size W wx
theorem two_of (W : World) (n q : Nat) : Two W (((W.alloc (.cells (madeCells #[.int .i64 0] n) 3)).alloc (.cells (madeCells #[.int .i64 0] n) 3)).drewN q) n W.heap.size (W.heap.size + 1) ∧ Two W (((W.alloc (.cells (madeCells #[.int .i64 0] n) 3)).alloc (.cells (madeCells #[.int .i64 0] n) 3)).drewN q) n (W.heap.size + 1) W.heap.size := by
  have a := (li_made W n).alloc (.cells (madeCells #[.int .i64 0] n) 3)
  have b := li_made (W.alloc (.cells (madeCells #[.int .i64 0] n) 3)) n
  rw [World.size_alloc] at b
  have B := below_drewN (bl_alloc (bl_alloc (below_refl W) (.cells (madeCells #[.int .i64 0] n) 3)) (.cells (madeCells #[.int .i64 0] n) 3)) q
  exact ⟨⟨by omega, Nat.le_refl _, by omega, a.drewN q, b.drewN q, B⟩, ⟨by omega, by omega, Nat.le_refl _, b.drewN q, a.drewN q, B⟩⟩
theorem put_low {v n : Int} : (v < 0 → putV true v n = n) ∧ (n < v → putV true v n = n) ∧ (0 ≤ v → v ≤ n → putV true v n = v) := by
  refine ⟨fun h => ?_, fun h => ?_, fun h1 h2 => ?_⟩
  · unfold putV; rw [if_pos (Or.inl h)]
  · unfold putV; rw [if_pos (Or.inr (by simp [bt, h]))]
  · unfold putV; rw [if_neg (by simp [bt]; omega)]
theorem put_high {v n : Int} (hn : 0 ≤ n) : (v < n → putV false v n = n) ∧ (n ≤ v → putV false v n = v) := by
  refine ⟨fun h => ?_, fun h => ?_⟩
  · unfold putV; rw [if_pos (Or.inr (by simp [bt, h]))]
  · unfold putV; rw [if_neg (by simp [bt]; omega)]
set_option maxHeartbeats 12000000 in
set_option maxRecDepth 20000 in
theorem r_Bounds (A : Option Addr) (r : Ru) (l : List Int) (c : Nat) (w : World) (hl : l.length ≤ 100000) (hR : Rd zC 1 w A l) :
    Calls Tryd.prog 48 #[ruV r, .slice A l.length c] w fun e w' => ∃ a b : Int, e = .returned (.tuple #[.int .i64 a, .int .i64 b, .int .i64 (aE r l)]) ∧ BdV true r l a ∧ BdV false r l b ∧ Below w.heap.size w w' := by
  have H1 := Lib.hid (fun W (h : Below w.heap.size w W) => r_asked A r l c W hl (hR.on h))
  by_cases h1 : aE r l = 0
  rotate_left
  · have HE := Lib.hid (aE_one h1)
    have HB := Lib.hid (fun b => show BdV b r l 0 by unfold BdV; rw [if_neg h1])
    rw [aE_one h1] at H1
    clear h1
    go_enter Tryd.func48, Tryd.ntmps48
    go_wp2_with (go_at_call 65; ((with_reducible refine (H1.out _ (bl_alloc (below_refl _) _)).mono ?_); rintro e w1 ⟨rfl, hb1⟩; obtain ⟨hc1, hf1⟩ := bcell hb1; have hz1 := hb1.size; (try simp [sz_drew, sz_drewN] at hz1); (try simp only [sz_drew, sz_drewN] at hc1 hf1); have z1_0 : w.heap.size < w1.heap.size := (by omega)))
    refine bodyPost_ret (v := .tuple #[.int .i64 0, .int .i64 0, .int .i64 1]) (by simp [results, Tryd.results48, go_sem]) rfl ⟨0, 0, by rw [HE.out], HB.out _, HB.out _, by (repeat' (first | assumption | exact below_refl _ | refine bl_alloc ?_ _ | refine Below.setCell ?_ ?_ _ | refine below_draw ?_ | refine below_drewN ?_ _ | refine below_tr ?_ (by assumption))) <;> (first | omega | (simp; done) | (simp; omega))⟩
  rw [h1] at H1
  obtain ⟨hv, hgu⟩ := a_z h1
  have HE := Lib.hid h1
  have HBD := Lib.hid (fun b v (h : Bst b (AllR r l) v) => show BdV b r l v by unfold BdV; rw [if_pos h1]; exact h)
  have HRU := Lib.hid hv
  have HV := Lib.hid (vru hv)
  have HGU := Lib.hid (vgu hgu).2
  have HCP := Lib.hid (fun x (h : x < 0) => cov_r hv h)
  have HCO := Lib.hid (fun x (h : 0 ≤ x) => cov_one r h)
  have HVS := Lib.hid (fun b k L N gs => vk_step (b := b) (l := l) (k := k) (L := L) (N := N) (gs := gs) hv)
  obtain ⟨C, hC⟩ : ∃ C : Nat, r.c = (C : Int) := ⟨r.c.toNat, by have := HV.out; omega⟩
  obtain ⟨n1, hn1⟩ : ∃ n1 : Nat, n1 = C + 1 := ⟨_, rfl⟩
  have HC1 := Lib.hid hC
  have HN1 := Lib.hid hn1
  have HUA := Lib.hid (fun b o => up_all (b := b) (l := l) (n := n1) (o := o) hv (by omega))
  have hc240 : n1 ≤ 241 := by have := HV.out; omega
  have hwc : IntKind.i64.wrap (r.c + 1) = (n1 : Int) := by rw [show r.c + 1 = (n1 : Int) by omega]; exact fits_wrap (by omega)
  have hmk := run_mk n1 (by omega)
  have HIS := Lib.hid (fun n k (h : k < n) => iL_step h)
  have HIA := Lib.hid (fun n k (h : k < n) => iL_at h)
  clear h1 hgu hC hn1 hv
  go_enter Tryd.func48, Tryd.ntmps48
  go_wp2_with fail
  have x0 := Blk.new w 23 #[.int .i64 r.s, .int .i64 r.g, .int .i64 r.c]
  have B0 := bl_alloc (below_refl w) (.cells #[.int .i64 r.s, .int .i64 r.g, .int .i64 r.c] 23)
  have sz0 := World.size_alloc w (.cells #[.int .i64 r.s, .int .i64 r.g, .int .i64 r.c] 23)
  generalize w.alloc (.cells #[.int .i64 r.s, .int .i64 r.g, .int .i64 r.c] 23) = W0 at *
  refine (H1.out _ B0).mono ?_
  rintro e w1 ⟨rfl, hb1⟩
  have B1 := below_tr B0 hb1
  have x1 := x0.below hb1 x0.lt
  have s1 : w.heap.size < w1.heap.size := x1.lt
  have q2 := x1.cell 2
  simp only [List.getElem?_toArray, List.getElem?_cons_zero, List.getElem?_cons_succ] at q2
  clear hb1 x0 B0 H1 sz0
  go_upto_region 4 with fail
  go_cut [8, 9] (fun s8 s9 wx => ∃ a b : Nat, s8 = .slice (some ⟨a, 0, none⟩) n1 n1 ∧ s9 = .slice (some ⟨b, 0, none⟩) n1 n1 ∧ Two w1 wx n1 a b)
  case first =>
    as_aux_lemma =>
      have HT := Lib.hid (two_of w1 n1)
      go_region
      all_goals go_wp2
      all_goals go_meet
      all_goals (first | exact ⟨_, _, rfl, rfl, (HT.out _).1⟩ | exact ⟨_, _, rfl, rfl, (HT.out _).2⟩ | exact ⟨_, _, rfl, rfl, (HT.out 0).1⟩ | exact ⟨_, _, rfl, rfl, (HT.out 0).2⟩)
  case rest =>
    obtain ⟨ga, gb, rfl, rfl, hab, ha1, hb1, la, lb, hbx⟩ := hcut
    have B2 := below_tr B1 hbx
    have x2 := x1.below hbx x1.lt
    have ha0 : w.heap.size < ga := by omega
    have hb0 : w.heap.size < gb := by omega
    rw [← iL_zero] at la lb
    have hnC : n1 = C + 1 := HN1.out
    have lz : ∀ g W, LI W g (iL n1 0) → LI W g (0 :: iL C 0) := fun g W h => by
      rw [hnC] at h
      rwa [show iL (C + 1) 0 = 0 :: iL C 0 by simp [iL, List.replicate_succ]] at h
    have la2 := lz _ _ la
    have lb2 := lz _ _ lb
    clear la lb lz hbx x1 B1 q2
    have HNC := Lib.hid hnC
    clear hnC ha1 hb1 s1 hmk
    have hmk := run_mk n1 (by omega)
    go_wp2_with fail
    go_loopw [10] (fun i wr => ∃ k : Nat, k ≤ C ∧ i = .int .i64 ((k : Int) + 1) ∧ Below w.heap.size w wr ∧ Blk wr w.heap.size 23 #[.int .i64 r.s, .int .i64 r.g, .int .i64 r.c] ∧ LI wr ga (0 :: iL C k) ∧ LI wr gb (0 :: iL C k)) (fun i _ => (r.c + 1 - intOf i).toNat)
    case atStart => exact ⟨0, by omega, by simp, B2, x2, la2, lb2⟩
    case round =>
      clear B2 x2 la2 lb2
      obtain ⟨k, hk, rfl, hbw, xr, la, lb⟩ := hrel
      have k0 : (0 : Int) ≤ (k : Int) := Int.natCast_nonneg _
      have q2 := xr.cell 2
      simp only [List.getElem?_toArray, List.getElem?_cons_zero, List.getElem?_cons_succ] at q2
      have hrc := HC1.out
      have hnC := HNC.out
      by_cases hlt : k < C
      · as_aux_lemma =>
          have hle : (k : Int) + 1 ≤ r.c := by omega
          have k1 : (k : Int) + 1 < (n1 : Int) := by omega
          have k2 : (0 : Int) ≤ (k : Int) + 1 := by omega
          have ht : ((k : Int) + 1).toNat = k + 1 := by omega
          have hw1 : IntKind.i64.wrap ((k : Int) + 1 + 1) = (k : Int) + 1 + 1 := fits_wrap (by have := HV.out; omega)
          have e0 : (0 :: iL C k)[k + 1]? = some 0 := by rw [List.getElem?_cons_succ]; exact HIA.out C k hlt
          have ca := la.cell e0
          have cb := lb.cell e0
          have fa := la.frozen (k + 1)
          have fb := lb.frozen (k + 1)
          have za := la.lt
          have zb := lb.lt
          have es : (0 :: iL C k).set (k + 1) (-1) = 0 :: iL C (k + 1) := by rw [List.set_cons_succ, HIS.out C k hlt]
          have HA := Lib.hid (show LI ((wr.setCell ⟨ga, k + 1, none⟩ (.int .i64 (-1))).setCell ⟨gb, k + 1, none⟩ (.int .i64 (-1))) ga (0 :: iL C (k + 1)) from es ▸ (la.set e0 (-1)).far (p := ⟨gb, k + 1, none⟩) hab _)
          have HB := Lib.hid (show LI ((wr.setCell ⟨ga, k + 1, none⟩ (.int .i64 (-1))).setCell ⟨gb, k + 1, none⟩ (.int .i64 (-1))) gb (0 :: iL C (k + 1)) from es ▸ (lb.far (p := ⟨ga, k + 1, none⟩) (Ne.symm hab) (.int .i64 (-1))).set e0 (-1))
          have HX := Lib.hid ((xr.far (p := ⟨ga, k + 1, none⟩) (by show w.heap.size ≠ ga; omega) (.int .i64 (-1))).far (p := ⟨gb, k + 1, none⟩) (by show w.heap.size ≠ gb; omega) (.int .i64 (-1)))
          have HL := Lib.hid ((hbw.setCell (p := ⟨ga, k + 1, none⟩) (by show w.heap.size ≤ ga; omega) (.int .i64 (-1))).setCell (p := ⟨gb, k + 1, none⟩) (by show w.heap.size ≤ gb; omega) (.int .i64 (-1)))
          clear la lb xr hrc hnC es e0
          go_wp2
          go_roundw
          case rel => exact ⟨k + 1, by omega, int_eq (by omega), HL.out, HX.out, HA.out, HB.out⟩
          case measure => simp [intOf]; omega
      · have hkC : k = C := by omega
        have hle : r.c < (k : Int) + 1 := by omega
        rw [hkC, iL_all] at la lb
        obtain ⟨K, hK⟩ : ∃ K : Int, K = (k : Int) + 1 := ⟨_, rfl⟩
        rw [← hK] at hle ⊢
        have hvz := Lib.hid (vk_zero true r l C)
        have hvz2 := Lib.hid (vk_zero false r l C)
        have hln : (0 :: List.replicate C (-1 : Int)).length = n1 := by simp; omega
        clear hK hkC hlt hk k0 hrc hnC
        go_wp2_with fail
        go_loopw [8, 9, 11] (fun s8 s9 i wq => ∃ (k a b : Nat) (L M : List Int), k ≤ l.length ∧ i = .int .i64 k ∧ s8 = .slice (some ⟨a, 0, none⟩) n1 n1 ∧ s9 = .slice (some ⟨b, 0, none⟩) n1 n1 ∧ w.heap.size < a ∧ w.heap.size < b ∧ L.length = n1 ∧ M.length = n1 ∧ Hid (VK true r l k L) ∧ Hid (VK false r l k M) ∧ Below w.heap.size w wq ∧ Blk wq w.heap.size 23 #[.int .i64 r.s, .int .i64 r.g, .int .i64 r.c] ∧ LI wq a (L) ∧ LI wq b (M)) (fun _ _ i _ => l.length - (intOf i).toNat)
        case atStart => exact ⟨0, ga, gb, _, _, by omega, rfl, rfl, rfl, ha0, hb0, hln, hln, hvz, hvz2, hbw, xr, la, lb⟩
        case round =>
          clear hbw xr la lb q2 ha0 hb0 hab hvz hvz2 hln
          rename World => wq
          obtain ⟨k, a, b, L, M, hk, rfl, rfl, rfl, ha, hb, hL, hM, HVL, HVM, hbq, xq, la, lb⟩ := hrel
          have k0 : (0 : Int) ≤ (k : Int) := Int.natCast_nonneg _
          have q0 := xq.cell 0
          have q1 := xq.cell 1
          have q2 := xq.cell 2
          simp only [List.getElem?_toArray, List.getElem?_cons_zero, List.getElem?_cons_succ] at q0 q1 q2
          by_cases hlt2 : k < l.length
          · have k1 : (k : Int) < (l.length : Int) := by omega
            obtain ⟨g, gbk, go, hg, rfl, hgb, c0⟩ := rd_int (hR.on hbq) hlt2
            obtain ⟨g0, g1⟩ := HGU.out k g hg
            have HGD := Lib.hid (getD_of hg)
            have HC1' := Lib.hid (fun (h : g < 0) => show Cov r (l.getD k 0) [0, r.g - 1, r.g, r.s - 1, r.s] by rw [HGD.out]; exact HCP.out g h)
            have HC2' := Lib.hid (fun (h : 0 ≤ g) => show Cov r (l.getD k 0) [g] by rw [HGD.out]; exact HCO.out g h)
            have hwg : IntKind.i64.wrap (r.g - 1) = r.g - 1 := fits_wrap (by have := HV.out; omega)
            have hws : IntKind.i64.wrap (r.s - 1) = r.s - 1 := fits_wrap (by have := HV.out; omega)
            have zx := xq.lt
            clear hg
            go_upto_if 66 with fail
            go_cut [12] (fun s wx => ∃ (gg : Nat) (gs : List Int), s = .slice (some ⟨gg, 0, none⟩) gs.length gs.length ∧ wq.heap.size ≤ gg ∧ Blk wx gg 3 (aC gs) ∧ Hid (Cov r (l.getD k 0) gs) ∧ gs.length ≤ 5 ∧ Below wq.heap.size wq wx)
            case first =>
              as_aux_lemma =>
                by_cases hg : g < 0
                · have CV := Lib.hid (HC1'.out hg)
                  have K := (Blk.new (wq.alloc (.cells #[.int .i64 g] 3)) 3 #[.int .i64 0, .int .i64 (r.g - 1), .int .i64 r.g, .int .i64 (r.s - 1), .int .i64 r.s])
                  rw [World.size_alloc] at K
                  have K2 : Blk ((wq.alloc (.cells #[.int .i64 g] 3)).alloc (.cells #[.int .i64 0, .int .i64 (r.g - 1), .int .i64 r.g, .int .i64 (r.s - 1), .int .i64 r.s] 3)) (wq.heap.size + 1) 3 (aC [0, r.g - 1, r.g, r.s - 1, r.s]) := K
                  have KB := bl_alloc (bl_alloc (below_refl wq) (.cells #[.int .i64 g] 3)) (.cells #[.int .i64 0, .int .i64 (r.g - 1), .int .i64 r.g, .int .i64 (r.s - 1), .int .i64 r.s] 3)
                  clear HC1' HC2'
                  go_wp2
                  go_meet
                  case rel => exact ⟨_, [0, r.g - 1, r.g, r.s - 1, r.s], rfl, Nat.le_succ _, K2, CV, by simp, KB⟩
                · have CV := Lib.hid (HC2'.out (by omega))
                  have K := (Blk.new wq 3 (aC [g]))
                  have KB := (bl_alloc (below_refl wq) (.cells (aC [g]) 3))
                  clear HC1' HC2'
                  go_wp2
                  go_meet
                  case rel => exact ⟨_, [g], rfl, Nat.le_refl _, K, CV, by simp, KB⟩
            case rest =>
              obtain ⟨gg, gs, rfl, hgg, kg, HC, hgl, hbx⟩ := hcut
              have B5 := below_tr hbq hbx
              have x5 := xq.below hbx xq.lt
              have la5 := la.on hbx
              have lb5 := lb.on hbx
              have hag : a < gg := by have := la.lt; omega
              have hbg : b < gg := by have := lb.lt; omega
              have hwgg : w.heap.size < gg := by omega
              clear hbq xq la lb hbx q0 q1 q2 hwg hws zx c0 hgb HC1' HC2' hgg g0 g1
              obtain ⟨wv, hwv⟩ : ∃ wv : World, wv = wc := ⟨wc, rfl⟩
              rw [← hwv] at B5 x5 la5 lb5 kg ⊢
              clear hwv
              have q2 := x5.cell 2
              simp only [List.getElem?_toArray, List.getElem?_cons_zero, List.getElem?_cons_succ] at q2
              have zx := x5.lt
              go_upto_region 15 with fail
              go_cut [13, 14] (fun s13 s14 wx => ∃ u v : Nat, s13 = .slice (some ⟨u, 0, none⟩) n1 n1 ∧ s14 = .slice (some ⟨v, 0, none⟩) n1 n1 ∧ Two wv wx n1 u v)
              case first =>
                as_aux_lemma =>
                  have HT := Lib.hid (two_of wv n1)
                  go_region
                  all_goals go_wp2
                  all_goals go_meet
                  all_goals (first | exact ⟨_, _, rfl, rfl, (HT.out _).1⟩ | exact ⟨_, _, rfl, rfl, (HT.out _).2⟩ | exact ⟨_, _, rfl, rfl, (HT.out 0).1⟩ | exact ⟨_, _, rfl, rfl, (HT.out 0).2⟩)
              case rest =>
                obtain ⟨u, v, rfl, rfl, huv, hu1, hv1, lu, lv, hbx⟩ := hcut
                have B6 := below_tr B5 hbx
                have x6 := x5.below hbx x5.lt
                have la6 := la5.on hbx
                have lb6 := lb5.on hbx
                have kg6 := kg.below hbx kg.lt
                have hgu : gg < u := by have := kg.lt; omega
                have hgv : gg < v := by have := kg.lt; omega
                rw [← iL_zero] at lu lv
                clear B5 x5 la5 lb5 kg hbx q2 zx hu1 hv1
                go_wp2_with fail
                go_loopw [15] (fun i wz => ∃ j : Nat, j ≤ n1 ∧ i = .int .i64 j ∧ Below w.heap.size w wz ∧ Blk wz w.heap.size 23 #[.int .i64 r.s, .int .i64 r.g, .int .i64 r.c] ∧ LI wz a (L) ∧ LI wz b (M) ∧ LI wz u (iL n1 j) ∧ LI wz v (iL n1 j) ∧ Blk wz gg 3 (aC gs)) (fun i _ => (r.c + 1 - intOf i).toNat)
                case atStart => exact ⟨0, by omega, rfl, B6, x6, la6, lb6, lu, lv, kg6⟩
                case round =>
                  clear B6 x6 la6 lb6 lu lv kg6
                  rename World => wz
                  obtain ⟨j, hj, rfl, hbz, xz, la, lb, lu, lv, kg⟩ := hrel
                  have j0 : (0 : Int) ≤ (j : Int) := Int.natCast_nonneg _
                  have q2 := xz.cell 2
                  simp only [List.getElem?_toArray, List.getElem?_cons_zero, List.getElem?_cons_succ] at q2
                  have hrc := HC1.out
                  have hnC := HNC.out
                  by_cases hj2 : j < n1
                  · as_aux_lemma =>
                      have hle : (j : Int) ≤ r.c := by omega
                      have j1 : (j : Int) < (n1 : Int) := by omega
                      have hw1 : IntKind.i64.wrap ((j : Int) + 1) = (j : Int) + 1 := fits_wrap (by omega)
                      have e0 : (iL n1 j)[j]? = some 0 := HIA.out n1 j hj2
                      have ca := lu.cell e0
                      have cb := lv.cell e0
                      have fa := lu.frozen j
                      have fb := lv.frozen j
                      have za := lu.lt
                      have zb := lv.lt
                      have es := HIS.out n1 j hj2
                      have HU := Lib.hid (show LI ((wz.setCell ⟨u, j, none⟩ (.int .i64 (-1))).setCell ⟨v, j, none⟩ (.int .i64 (-1))) u (iL n1 (j + 1)) from es ▸ (lu.set e0 (-1)).far (p := ⟨v, j, none⟩) huv _)
                      have HVv := Lib.hid (show LI ((wz.setCell ⟨u, j, none⟩ (.int .i64 (-1))).setCell ⟨v, j, none⟩ (.int .i64 (-1))) v (iL n1 (j + 1)) from es ▸ (lv.far (p := ⟨u, j, none⟩) (Ne.symm huv) (.int .i64 (-1))).set e0 (-1))
                      have HX := Lib.hid ((xz.far (p := ⟨u, j, none⟩) (by show w.heap.size ≠ u; omega) (.int .i64 (-1))).far (p := ⟨v, j, none⟩) (by show w.heap.size ≠ v; omega) (.int .i64 (-1)))
                      have HA := Lib.hid ((la.far (p := ⟨u, j, none⟩) (by show a ≠ u; omega) (.int .i64 (-1))).far (p := ⟨v, j, none⟩) (by show a ≠ v; omega) (.int .i64 (-1)))
                      have HB := Lib.hid ((lb.far (p := ⟨u, j, none⟩) (by show b ≠ u; omega) (.int .i64 (-1))).far (p := ⟨v, j, none⟩) (by show b ≠ v; omega) (.int .i64 (-1)))
                      have HG := Lib.hid ((kg.far (p := ⟨u, j, none⟩) (by show gg ≠ u; omega) (.int .i64 (-1))).far (p := ⟨v, j, none⟩) (by show gg ≠ v; omega) (.int .i64 (-1)))
                      have HL := Lib.hid ((hbz.setCell (p := ⟨u, j, none⟩) (by show w.heap.size ≤ u; omega) (.int .i64 (-1))).setCell (p := ⟨v, j, none⟩) (by show w.heap.size ≤ v; omega) (.int .i64 (-1)))
                      clear la lb lu lv kg xz hrc hnC es e0
                      go_wp2
                      go_roundw
                      case rel => exact ⟨j + 1, by omega, by go_num, HL.out, HX.out, HA.out, HB.out, HU.out, HVv.out, HG.out⟩
                      case measure => simp [intOf]; omega
                  · have hjn : j = n1 := by omega
                    have hle : r.c < (j : Int) := by omega
                    rw [hjn, iL_all] at lu lv
                    obtain ⟨J, hJ⟩ : ∃ J : Int, J = (j : Int) := ⟨_, rfl⟩
                    rw [← hJ] at hle ⊢
                    clear hJ hjn hj2 hj j0 hrc hnC
                    go_wp2_with fail
                    go_loopw [16] (fun i wy => ∃ (s : Nat) (N O : List Int), s ≤ n1 ∧ i = .int .i64 s ∧ N.length = n1 ∧ O.length = n1 ∧ Hid (NV true r L (prs s gs) N) ∧ Hid (NV false r M (prs s gs) O) ∧ Below w.heap.size w wy ∧ Blk wy w.heap.size 23 #[.int .i64 r.s, .int .i64 r.g, .int .i64 r.c] ∧ LI wy a (L) ∧ LI wy b (M) ∧ LI wy u (N) ∧ LI wy v (O) ∧ Blk wy gg 3 (aC gs)) (fun i _ => (r.c + 1 - intOf i).toNat)
                    case atStart => exact ⟨0, _, _, by omega, rfl, by simp, by simp, Lib.hid (nv_nil true r L n1), Lib.hid (nv_nil false r M n1), hbz, xz, la, lb, lu, lv, kg⟩
                    case round =>
                      clear hbz xz la lb lu lv kg q2
                      rename World => wy
                      obtain ⟨s, N, O, hs, rfl, hNl, hOl, HNV, HOV, hby, xy, la, lb, lu, lv, kg⟩ := hrel
                      have s0 : (0 : Int) ≤ (s : Int) := Int.natCast_nonneg _
                      have q2 := xy.cell 2
                      simp only [List.getElem?_toArray, List.getElem?_cons_zero, List.getElem?_cons_succ] at q2
                      have hrc := HC1.out
                      have hnC := HNC.out
                      by_cases hs2 : s < n1
                      · have hle2 : (s : Int) ≤ r.c := by omega
                        have s1 : (s : Int) < (n1 : Int) := by omega
                        have hw1 : IntKind.i64.wrap ((s : Int) + 1) = (s : Int) + 1 := fits_wrap (by omega)
                        have hw2 : IntKind.i64.wrap ((s : Int) - 1) = (s : Int) - 1 := fits_wrap (by omega)
                        obtain ⟨x, hx⟩ := get_lt (show s < L.length by omega)
                        obtain ⟨y, hy⟩ := get_lt (show s < M.length by omega)
                        obtain ⟨hlx, x0', x1', _⟩ := vk_bd HRU.out HVL.out hx
                        obtain ⟨hly, y0', y1', _⟩ := vk_bd HRU.out HVM.out hy
                        obtain ⟨sm1, sm2⟩ := vk_same HVL.out HVM.out hx hy
                        have cx := la.cell hx
                        have cy := lb.cell hy
                        have HXc := Lib.hid hx
                        have HYc := Lib.hid hy
                        clear hrc hnC
                        by_cases hy0 : y < 0
                        · as_aux_lemma =>
                            have HN2 := Lib.hid (nv_skips HNV.out (by rw [hlx]; exact sm2 hy0))
                            have HO2 := Lib.hid (nv_skips HOV.out (by rw [hly]; exact hy0))
                            clear hx hy hlx hly sm1 sm2
                            go_wp2
                            go_roundw
                            case rel => exact ⟨s + 1, N, O, by omega, by go_num, hNl, hOl, HN2, HO2, hby, xy, la, lb, lu, lv, kg⟩
                            case measure => simp [intOf]; omega
                        have hx0 : 0 ≤ x := by omega
                        clear hx hy sm1 sm2
                        go_wp2_with fail
                        go_loopw [17] (fun i wy => ∃ (j : Nat) (N O : List Int), j ≤ gs.length ∧ i = .int .i64 j ∧ N.length = n1 ∧ O.length = n1 ∧ Hid (NV true r L (prs s gs ++ (gs.take j).map fun g => (s, g)) N) ∧ Hid (NV false r M (prs s gs ++ (gs.take j).map fun g => (s, g)) O) ∧ Below w.heap.size w wy ∧ Blk wy w.heap.size 23 #[.int .i64 r.s, .int .i64 r.g, .int .i64 r.c] ∧ LI wy a (L) ∧ LI wy b (M) ∧ LI wy u (N) ∧ LI wy v (O) ∧ Blk wy gg 3 (aC gs)) (fun i _ => gs.length - (intOf i).toNat)
                        case atStart => exact ⟨0, N, O, by omega, rfl, hNl, hOl, by simpa using HNV, by simpa using HOV, hby, xy, la, lb, lu, lv, kg⟩
                        case round =>
                          clear hNl hOl HNV HOV hby xy la lb lu lv kg N O q2 cx cy
                          rename World => wy
                          obtain ⟨j, N, O, hj, rfl, hNl, hOl, HNV, HOV, hby, xy, la, lb, lu, lv, kg⟩ := hrel
                          have j0 : (0 : Int) ≤ (j : Int) := Int.natCast_nonneg _
                          by_cases hj2 : j < gs.length
                          · have j1 : (j : Int) < (gs.length : Int) := by omega
                            obtain ⟨g2, hg2x⟩ := get_lt hj2
                            have c0 := blk_at kg hg2x
                            have htk : (gs.take (j + 1)).map (fun g => (s, g)) = (gs.take j).map (fun g => (s, g)) ++ [(s, g2)] := by rw [List.take_add_one, hg2x]; simp
                            have HNX := Lib.hid (fun W => r_Next r ((s : Int) - 1) g2 W (by omega) (by have := HV.out; omega))
                            obtain ⟨hT1, hT2⟩ := tS_le HRU.out (show (s : Int) ≤ r.c from hle2) g2
                            obtain ⟨T0, hT0⟩ : ∃ T0, T0 = nx r ((s : Int) - 1) g2 := ⟨_, rfl⟩
                            obtain ⟨Q, hQ⟩ : ∃ Q, Q = gB r ((s : Int) - 1) g2 := ⟨_, rfl⟩
                            rw [← hT0, ← hQ] at HNX
                            rw [← hT0] at hT2
                            have HI := Lib.hid (show iS r s g2 = if Q = true then 1 else 0 by unfold iS; rw [hQ])
                            have hTn : tS r s g2 < n1 := by have h1 := HNC.out; have h2 := HC1.out; omega
                            have HN2 := Lib.hid (nv_put HNV.out (s := s) (by rw [hlx]; exact hx0) g2)
                            have HO2 := Lib.hid (nv_put HOV.out (s := s) (by rw [hly]; omega) g2)
                            rw [hlx, List.append_assoc, ← htk] at HN2
                            rw [hly, List.append_assoc, ← htk] at HO2
                            generalize tS r s g2 = T at *
                            obtain ⟨v1, hv1⟩ := get_lt (show T < N.length by omega)
                            obtain ⟨v2, hv2⟩ := get_lt (show T < O.length by omega)
                            obtain ⟨e1, v10⟩ := nv_bd HNV.out hv1
                            obtain ⟨e2, v20⟩ := nv_bd HOV.out hv2
                            rw [e1] at HN2
                            rw [e2] at HO2
                            have hwT : IntKind.i64.wrap (T0 + 1) = (T : Int) := by rw [← hT2]; exact fits_wrap (by omega)
                            have t0 : (0 : Int) ≤ (T : Int) := Int.natCast_nonneg _
                            have t1 : (T : Int) < (n1 : Int) := by omega
                            have q0 := xy.cell 0
                            have q1 := xy.cell 1
                            have q2 := xy.cell 2
                            simp only [List.getElem?_toArray, List.getElem?_cons_zero, List.getElem?_cons_succ] at q0 q1 q2
                            have cx := la.cell HXc.out
                            have cy := lb.cell HYc.out
                            have cu := lu.cell hv1
                            have cv := lv.cell hv2
                            have fu := lu.frozen T
                            have fv := lv.frozen T
                            have za := la.lt
                            have zb := lb.lt
                            have zu := lu.lt
                            have zv := lv.lt
                            have zg := kg.lt
                            have zx := xy.lt
                            clear hg2x htk hT0 hQ hT1 hT2 HNV HOV
                            go_wp2_with fail
                            go_region_held3 (fun w' => (∀ b o, b < wy.heap.size → w'.cell? ⟨b, o, none⟩ = wy.cell? ⟨b, o, none⟩) ∧ (∀ b o, b < wy.heap.size → w'.frozen? ⟨b, o, none⟩ = wy.frozen? ⟨b, o, none⟩) ∧ Below wy.heap.size wy w') ((first | assumption | (refine kp_of ?_; (repeat' (first | assumption | exact below_refl _ | refine bl_alloc ?_ _ | refine Below.setCell ?_ ?_ _ | refine below_draw ?_ | refine below_drewN ?_ _ | refine below_tr ?_ (by assumption))) <;> (first | omega | (simp; done) | (simp; omega))))) ((go_at_call 80; ((with_reducible refine (HNX.out _).mono ?_); rintro e w3 ⟨rfl, hb3⟩; obtain ⟨hc3, hf3⟩ := bcell hb3; have hz3 := hb3.size; (try simp [sz_drew, sz_drewN] at hz3); (try simp only [sz_drew, sz_drewN] at hc3 hf3); have B3 : Below wy.heap.size wy w3 := (by (repeat' (first | assumption | exact below_refl _ | refine bl_alloc ?_ _ | refine Below.setCell ?_ ?_ _ | refine below_draw ?_ | refine below_drewN ?_ _ | refine below_tr ?_ (by assumption))) <;> (first | omega | (simp; done) | (simp; omega))))))
                            have By := below_tr hby B3
                            have x3 := xy.below B3 xy.lt
                            have la3 := la.on B3
                            have lb3 := lb.on B3
                            have lu3 := lu.on B3
                            have lv3 := lv.on B3
                            have kg3 := kg.below B3 kg.lt
                            have HV1 := Lib.hid hv1
                            have HV2 := Lib.hid hv2
                            clear hby xy la lb lu lv kg cx cy cu cv c0 q0 q1 q2 fu fv za zb zu zv zg zx hb3 hc3 hf3 hz3 B3 HNX e1 e2 hv1 hv2
                            have cx := la3.cell HXc.out
                            have cy := lb3.cell HYc.out
                            go_wp2_with fail
                            go_quiet (fail)
                            have By := below_drewN By nq
                            have x4 := x3.drewN nq
                            have la4 := la3.drewN nq
                            have lb4 := lb3.drewN nq
                            have lu4 := lu3.drewN nq
                            have lv4 := lv3.drewN nq
                            have kg4 := kg3.drewN nq
                            generalize w3.drewN nq = w4 at *
                            clear x3 la3 lb3 lu3 lv3 kg3 cx cy
                            obtain ⟨I, hI⟩ : ∃ I : Int, I = (if Q = true then 1 else 0) := ⟨_, rfl⟩
                            have HII := Lib.hid hI
                            have hI01 : 0 ≤ I ∧ I ≤ 1 := by rw [hI]; split <;> omega
                            rw [HI.out, ← hI] at HN2
                            rw [HI.out, ← hI] at HO2
                            clear hI
                            have hwx : IntKind.i64.wrap (x + 1) = x + 1 := fits_wrap (by omega)
                            have hwy : IntKind.i64.wrap (y + 1) = y + 1 := fits_wrap (by omega)
                            go_upto_if 134 with fail
                            go_cut [20, 21] (fun s20 s21 wx => s20 = .int .i64 (x + I) ∧ s21 = .int .i64 (y + I) ∧ wx = w4)
                            case first =>
                              as_aux_lemma =>
                                cases Q
                                · have hI2 : I = 0 := HII.out
                                  go_wp2
                                  go_meet
                                  case rel => exact ⟨int_eq (by omega), int_eq (by omega), rfl⟩
                                · have hI2 : I = 1 := HII.out
                                  have HI3 := Lib.hid hI2
                                  clear hI2
                                  go_wp2
                                  go_meet
                                  case rel => exact ⟨int_eq (by rw [HI3.out]), int_eq (by rw [HI3.out]), rfl⟩
                            case rest =>
                              obtain ⟨rfl, rfl, rfl⟩ := hcut
                              obtain ⟨X, hX⟩ : ∃ X, X = x + I := ⟨_, rfl⟩
                              obtain ⟨Y, hY⟩ : ∃ Y, Y = y + I := ⟨_, rfl⟩
                              rw [← hX] at HN2
                              rw [← hY] at HO2
                              rw [← hX, ← hY]
                              have hX0 : 0 ≤ X := by omega
                              have hY0 : 0 ≤ Y := by omega
                              clear hX hY HII hI01 hwx hwy
                              have cu := lu4.cell HV1.out
                              have cv := lv4.cell HV2.out
                              have fu := lu4.frozen T
                              have fv := lv4.frozen T
                              have zu := lu4.lt
                              have zv := lv4.lt
                              by_cases hv0 : v1 < 0
                              · as_aux_lemma =>
                                  have hd : decide (v1 < 0) = true := decide_eq_true hv0
                                  have HNa := Lib.hid (show NV true r L (prs s gs ++ (gs.take (j + 1)).map fun g => (s, g)) (N.set T X) by have := HN2.out; rwa [put_low.1 hv0] at this)
                                  clear HN2
                                  by_cases hY : v2 < Y
                                  · as_aux_lemma =>
                                      have HOa := Lib.hid (show NV false r M (prs s gs ++ (gs.take (j + 1)).map fun g => (s, g)) (O.set T Y) by have := HO2.out; rwa [(put_high hY0).1 hY] at this)
                                      clear HO2
                                      have HB1 := Lib.hid (By.setCell (p := ⟨u, T, none⟩) (by show w.heap.size ≤ u; omega) (.int .i64 X))
                                      have HX1 := Lib.hid (x4.far (p := ⟨u, T, none⟩) (by show w.heap.size ≠ u; omega) (.int .i64 X))
                                      have HA1 := Lib.hid (la4.far (p := ⟨u, T, none⟩) (by show a ≠ u; omega) (.int .i64 X))
                                      have HM1 := Lib.hid (lb4.far (p := ⟨u, T, none⟩) (by show b ≠ u; omega) (.int .i64 X))
                                      have HU1 := Lib.hid (lu4.set HV1.out X)
                                      have HW1 := Lib.hid (lv4.far (p := ⟨u, T, none⟩) (Ne.symm huv) (.int .i64 X))
                                      have HG1 := Lib.hid (kg4.far (p := ⟨u, T, none⟩) (by show gg ≠ u; omega) (.int .i64 X))
                                      have HB2 := Lib.hid (HB1.out.setCell (p := ⟨v, T, none⟩) (by show w.heap.size ≤ v; omega) (.int .i64 Y))
                                      have HX2 := Lib.hid (HX1.out.far (p := ⟨v, T, none⟩) (by show w.heap.size ≠ v; omega) (.int .i64 Y))
                                      have HA2 := Lib.hid (HA1.out.far (p := ⟨v, T, none⟩) (by show a ≠ v; omega) (.int .i64 Y))
                                      have HM2 := Lib.hid (HM1.out.far (p := ⟨v, T, none⟩) (by show b ≠ v; omega) (.int .i64 Y))
                                      have HU2 := Lib.hid (HU1.out.far (p := ⟨v, T, none⟩) huv (.int .i64 Y))
                                      have HW2 := Lib.hid (HW1.out.set HV2.out Y)
                                      have HG2 := Lib.hid (HG1.out.far (p := ⟨v, T, none⟩) (by show gg ≠ v; omega) (.int .i64 Y))
                                      have hNl2 : (N.set T X).length = n1 := by rw [List.length_set]; exact hNl
                                      have hOl2 : (O.set T Y).length = n1 := by rw [List.length_set]; exact hOl
                                      go_wp2
                                      go_roundw
                                      case rel => exact ⟨j + 1, (N.set T X), (O.set T Y), by omega, by go_num, hNl2, hOl2, HNa, HOa, HB2.out, HX2.out, HA2.out, HM2.out, HU2.out, HW2.out, HG2.out⟩
                                      case measure => simp [intOf]; omega
                                  · as_aux_lemma =>
                                      have HOa := Lib.hid (show NV false r M (prs s gs ++ (gs.take (j + 1)).map fun g => (s, g)) O by have := HO2.out; rwa [(put_high hY0).2 (by omega), set_same HV2.out] at this)
                                      clear HO2
                                      have HB1 := Lib.hid (By.setCell (p := ⟨u, T, none⟩) (by show w.heap.size ≤ u; omega) (.int .i64 X))
                                      have HX1 := Lib.hid (x4.far (p := ⟨u, T, none⟩) (by show w.heap.size ≠ u; omega) (.int .i64 X))
                                      have HA1 := Lib.hid (la4.far (p := ⟨u, T, none⟩) (by show a ≠ u; omega) (.int .i64 X))
                                      have HM1 := Lib.hid (lb4.far (p := ⟨u, T, none⟩) (by show b ≠ u; omega) (.int .i64 X))
                                      have HU1 := Lib.hid (lu4.set HV1.out X)
                                      have HW1 := Lib.hid (lv4.far (p := ⟨u, T, none⟩) (Ne.symm huv) (.int .i64 X))
                                      have HG1 := Lib.hid (kg4.far (p := ⟨u, T, none⟩) (by show gg ≠ u; omega) (.int .i64 X))
                                      have hNl2 : (N.set T X).length = n1 := by rw [List.length_set]; exact hNl
                                      have hOl2 : O.length = n1 := by exact hOl
                                      go_wp2
                                      go_roundw
                                      case rel => exact ⟨j + 1, (N.set T X), O, by omega, by go_num, hNl2, hOl2, HNa, HOa, HB1.out, HX1.out, HA1.out, HM1.out, HU1.out, HW1.out, HG1.out⟩
                                      case measure => simp [intOf]; omega
                              · have hd : decide (v1 < 0) = false := decide_eq_false (by omega)
                                by_cases hX1 : X < v1
                                · as_aux_lemma =>
                                    have HNa := Lib.hid (show NV true r L (prs s gs ++ (gs.take (j + 1)).map fun g => (s, g)) (N.set T X) by have := HN2.out; rwa [put_low.2.1 hX1] at this)
                                    clear HN2
                                    by_cases hY : v2 < Y
                                    · as_aux_lemma =>
                                        have HOa := Lib.hid (show NV false r M (prs s gs ++ (gs.take (j + 1)).map fun g => (s, g)) (O.set T Y) by have := HO2.out; rwa [(put_high hY0).1 hY] at this)
                                        clear HO2
                                        have HB1 := Lib.hid (By.setCell (p := ⟨u, T, none⟩) (by show w.heap.size ≤ u; omega) (.int .i64 X))
                                        have HX1 := Lib.hid (x4.far (p := ⟨u, T, none⟩) (by show w.heap.size ≠ u; omega) (.int .i64 X))
                                        have HA1 := Lib.hid (la4.far (p := ⟨u, T, none⟩) (by show a ≠ u; omega) (.int .i64 X))
                                        have HM1 := Lib.hid (lb4.far (p := ⟨u, T, none⟩) (by show b ≠ u; omega) (.int .i64 X))
                                        have HU1 := Lib.hid (lu4.set HV1.out X)
                                        have HW1 := Lib.hid (lv4.far (p := ⟨u, T, none⟩) (Ne.symm huv) (.int .i64 X))
                                        have HG1 := Lib.hid (kg4.far (p := ⟨u, T, none⟩) (by show gg ≠ u; omega) (.int .i64 X))
                                        have HB2 := Lib.hid (HB1.out.setCell (p := ⟨v, T, none⟩) (by show w.heap.size ≤ v; omega) (.int .i64 Y))
                                        have HX2 := Lib.hid (HX1.out.far (p := ⟨v, T, none⟩) (by show w.heap.size ≠ v; omega) (.int .i64 Y))
                                        have HA2 := Lib.hid (HA1.out.far (p := ⟨v, T, none⟩) (by show a ≠ v; omega) (.int .i64 Y))
                                        have HM2 := Lib.hid (HM1.out.far (p := ⟨v, T, none⟩) (by show b ≠ v; omega) (.int .i64 Y))
                                        have HU2 := Lib.hid (HU1.out.far (p := ⟨v, T, none⟩) huv (.int .i64 Y))
                                        have HW2 := Lib.hid (HW1.out.set HV2.out Y)
                                        have HG2 := Lib.hid (HG1.out.far (p := ⟨v, T, none⟩) (by show gg ≠ v; omega) (.int .i64 Y))
                                        have hNl2 : (N.set T X).length = n1 := by rw [List.length_set]; exact hNl
                                        have hOl2 : (O.set T Y).length = n1 := by rw [List.length_set]; exact hOl
                                        go_wp2
                                        go_roundw
                                        case rel => exact ⟨j + 1, (N.set T X), (O.set T Y), by omega, by go_num, hNl2, hOl2, HNa, HOa, HB2.out, HX2.out, HA2.out, HM2.out, HU2.out, HW2.out, HG2.out⟩
                                        case measure => simp [intOf]; omega
                                    · as_aux_lemma =>
                                        have HOa := Lib.hid (show NV false r M (prs s gs ++ (gs.take (j + 1)).map fun g => (s, g)) O by have := HO2.out; rwa [(put_high hY0).2 (by omega), set_same HV2.out] at this)
                                        clear HO2
                                        have HB1 := Lib.hid (By.setCell (p := ⟨u, T, none⟩) (by show w.heap.size ≤ u; omega) (.int .i64 X))
                                        have HX1 := Lib.hid (x4.far (p := ⟨u, T, none⟩) (by show w.heap.size ≠ u; omega) (.int .i64 X))
                                        have HA1 := Lib.hid (la4.far (p := ⟨u, T, none⟩) (by show a ≠ u; omega) (.int .i64 X))
                                        have HM1 := Lib.hid (lb4.far (p := ⟨u, T, none⟩) (by show b ≠ u; omega) (.int .i64 X))
                                        have HU1 := Lib.hid (lu4.set HV1.out X)
                                        have HW1 := Lib.hid (lv4.far (p := ⟨u, T, none⟩) (Ne.symm huv) (.int .i64 X))
                                        have HG1 := Lib.hid (kg4.far (p := ⟨u, T, none⟩) (by show gg ≠ u; omega) (.int .i64 X))
                                        have hNl2 : (N.set T X).length = n1 := by rw [List.length_set]; exact hNl
                                        have hOl2 : O.length = n1 := by exact hOl
                                        go_wp2
                                        go_roundw
                                        case rel => exact ⟨j + 1, (N.set T X), O, by omega, by go_num, hNl2, hOl2, HNa, HOa, HB1.out, HX1.out, HA1.out, HM1.out, HU1.out, HW1.out, HG1.out⟩
                                        case measure => simp [intOf]; omega
                                · as_aux_lemma =>
                                    have HNa := Lib.hid (show NV true r L (prs s gs ++ (gs.take (j + 1)).map fun g => (s, g)) N by have := HN2.out; rwa [put_low.2.2 (by omega) (by omega), set_same HV1.out] at this)
                                    clear HN2
                                    by_cases hY : v2 < Y
                                    · as_aux_lemma =>
                                        have HOa := Lib.hid (show NV false r M (prs s gs ++ (gs.take (j + 1)).map fun g => (s, g)) (O.set T Y) by have := HO2.out; rwa [(put_high hY0).1 hY] at this)
                                        clear HO2
                                        have HB2 := Lib.hid (By.setCell (p := ⟨v, T, none⟩) (by show w.heap.size ≤ v; omega) (.int .i64 Y))
                                        have HX2 := Lib.hid (x4.far (p := ⟨v, T, none⟩) (by show w.heap.size ≠ v; omega) (.int .i64 Y))
                                        have HA2 := Lib.hid (la4.far (p := ⟨v, T, none⟩) (by show a ≠ v; omega) (.int .i64 Y))
                                        have HM2 := Lib.hid (lb4.far (p := ⟨v, T, none⟩) (by show b ≠ v; omega) (.int .i64 Y))
                                        have HU2 := Lib.hid (lu4.far (p := ⟨v, T, none⟩) huv (.int .i64 Y))
                                        have HW2 := Lib.hid (lv4.set HV2.out Y)
                                        have HG2 := Lib.hid (kg4.far (p := ⟨v, T, none⟩) (by show gg ≠ v; omega) (.int .i64 Y))
                                        have hNl2 : N.length = n1 := by exact hNl
                                        have hOl2 : (O.set T Y).length = n1 := by rw [List.length_set]; exact hOl
                                        go_wp2
                                        go_roundw
                                        case rel => exact ⟨j + 1, N, (O.set T Y), by omega, by go_num, hNl2, hOl2, HNa, HOa, HB2.out, HX2.out, HA2.out, HM2.out, HU2.out, HW2.out, HG2.out⟩
                                        case measure => simp [intOf]; omega
                                    · as_aux_lemma =>
                                        have HOa := Lib.hid (show NV false r M (prs s gs ++ (gs.take (j + 1)).map fun g => (s, g)) O by have := HO2.out; rwa [(put_high hY0).2 (by omega), set_same HV2.out] at this)
                                        clear HO2
                                        have hNl2 : N.length = n1 := by exact hNl
                                        have hOl2 : O.length = n1 := by exact hOl
                                        go_wp2
                                        go_roundw
                                        case rel => exact ⟨j + 1, N, O, by omega, by go_num, hNl2, hOl2, HNa, HOa, By, x4, la4, lb4, lu4, lv4, kg4⟩
                                        case measure => simp [intOf]; omega
                          · as_aux_lemma =>
                              obtain rfl : j = gs.length := by omega
                              have HNa := Lib.hid (show NV true r L (prs (s + 1) gs) N by
                                rw [prs_succ]
                                have := HNV.out
                                rwa [List.take_length] at this)
                              have HOa := Lib.hid (show NV false r M (prs (s + 1) gs) O by
                                rw [prs_succ]
                                have := HOV.out
                                rwa [List.take_length] at this)
                              clear HNV HOV
                              go_wp2
                              go_roundw
                              case rel => exact ⟨s + 1, N, O, by omega, by go_num, hNl, hOl, HNa, HOa, hby, xy, la, lb, lu, lv, kg⟩
                              case measure => simp [intOf]; omega
                      · as_aux_lemma =>
                          have hsn : s = n1 := by omega
                          have hle2 : r.c < (s : Int) := by omega
                          have HNa := Lib.hid (HVS.out true k L N gs HVL.out (by omega) HC.out (by rw [hL]; have := HNV.out; rwa [hsn] at this))
                          have HOa := Lib.hid (HVS.out false k M O gs HVM.out (by omega) HC.out (by rw [hM]; have := HOV.out; rwa [hsn] at this))
                          obtain ⟨S, hS⟩ : ∃ S : Int, S = (s : Int) := ⟨_, rfl⟩
                          rw [← hS] at hle2 ⊢
                          clear hS hsn hs2 hs s0 HNV HOV hrc hnC
                          go_wp2
                          go_roundw
                          case rel => exact ⟨k + 1, u, v, N, O, by omega, by go_num, rfl, rfl, by omega, by omega, hNl, hOl, HNa, HOa, hby, xy, lu, lv⟩
                          case measure => simp [intOf]; omega
          · obtain rfl : k = l.length := by omega
            go_wp2_with fail
            go_loopw [22, 23, 24] (fun s22 s23 i wz => ∃ (s : Nat) (o p : Int), s ≤ n1 ∧ i = .int .i64 s ∧ s22 = .int .i64 o ∧ s23 = .int .i64 p ∧ Hid (Bst true (UpR r l s) o) ∧ Hid (Bst false (UpR r l s) p) ∧ -1 ≤ p ∧ Below w.heap.size w wz ∧ Blk wz w.heap.size 23 #[.int .i64 r.s, .int .i64 r.g, .int .i64 r.c] ∧ LI wz a (L) ∧ LI wz b (M)) (fun _ _ i _ => (r.c + 1 - intOf i).toNat)
            case atStart => exact ⟨0, -1, -1, by omega, rfl, rfl, rfl, Lib.hid (up_zero true r l), Lib.hid (up_zero false r l), by omega, hbq, xq, la, lb⟩
            case round =>
              clear hbq xq la lb q0 q1 q2
              rename World => wz
              obtain ⟨s, o, p, hs, rfl, rfl, rfl, HO, HP, hp1, hbz, xz, la, lb⟩ := hrel
              have s0 : (0 : Int) ≤ (s : Int) := Int.natCast_nonneg _
              have q2 := xz.cell 2
              simp only [List.getElem?_toArray, List.getElem?_cons_zero, List.getElem?_cons_succ] at q2
              have hrc := HC1.out
              have hnC := HNC.out
              by_cases hs2 : s < n1
              · have hle2 : (s : Int) ≤ r.c := by omega
                have s1 : (s : Int) < (n1 : Int) := by omega
                have hw1 : IntKind.i64.wrap ((s : Int) + 1) = (s : Int) + 1 := fits_wrap (by omega)
                obtain ⟨x, hx⟩ := get_lt (show s < L.length by omega)
                obtain ⟨y, hy⟩ := get_lt (show s < M.length by omega)
                obtain ⟨hlx, x0', x1', _⟩ := vk_bd HRU.out HVL.out hx
                obtain ⟨hly, y0', y1', _⟩ := vk_bd HRU.out HVM.out hy
                obtain ⟨sm1, sm2⟩ := vk_same HVL.out HVM.out hx hy
                have cx := la.cell hx
                have cy := lb.cell hy
                have za := la.lt
                have zb := lb.lt
                have HO2 := Lib.hid (up_step HO.out HVL.out (show s < L.length by omega))
                have HP2 := Lib.hid (up_step HP.out HVM.out (show s < M.length by omega))
                rw [hlx] at HO2
                rw [hly] at HP2
                clear hrc hnC hx hy hlx hly
                by_cases hy0 : y < 0
                · as_aux_lemma =>
                    have HOa := Lib.hid (show Bst true (UpR r l (s + 1)) o by have := HO2.out; rwa [if_neg (by have := sm2 hy0; omega)] at this)
                    have HPa := Lib.hid (show Bst false (UpR r l (s + 1)) p by have := HP2.out; rwa [if_neg (by omega)] at this)
                    clear sm1 sm2 HO2 HP2
                    go_wp2
                    go_roundw
                    case rel => exact ⟨s + 1, o, p, by omega, by go_num, rfl, rfl, HOa, HPa, by omega, hbz, xz, la, lb⟩
                    case measure => simp [intOf]; omega
                have hx0 : 0 ≤ x := by omega
                have hyy : 0 ≤ y := by omega
                rw [if_pos hx0] at HO2
                rw [if_pos hyy] at HP2
                clear sm1 sm2
                by_cases ho : o < 0
                · as_aux_lemma =>
                    have hd : decide (o < 0) = true := decide_eq_true ho
                    have HOa := Lib.hid (show Bst true (UpR r l (s + 1)) x by have := HO2.out; rwa [put_low.1 ho] at this)
                    clear HO2
                    by_cases hpy : p < y
                    · as_aux_lemma =>
                        have HPa := Lib.hid (show Bst false (UpR r l (s + 1)) y by have := HP2.out; rwa [(put_high (by omega)).1 hpy] at this)
                        clear HP2
                        go_wp2
                        go_roundw
                        case rel => exact ⟨s + 1, x, y, by omega, by go_num, rfl, rfl, HOa, HPa, by omega, hbz, xz, la, lb⟩
                        case measure => simp [intOf]; omega
                    · as_aux_lemma =>
                        have HPa := Lib.hid (show Bst false (UpR r l (s + 1)) p by have := HP2.out; rwa [(put_high (by omega)).2 (by omega)] at this)
                        clear HP2
                        go_wp2
                        go_roundw
                        case rel => exact ⟨s + 1, x, p, by omega, by go_num, rfl, rfl, HOa, HPa, by omega, hbz, xz, la, lb⟩
                        case measure => simp [intOf]; omega
                · have hd : decide (o < 0) = false := decide_eq_false (by omega)
                  by_cases hxo : x < o
                  · as_aux_lemma =>
                      have HOa := Lib.hid (show Bst true (UpR r l (s + 1)) x by have := HO2.out; rwa [put_low.2.1 hxo] at this)
                      clear HO2
                      by_cases hpy : p < y
                      · as_aux_lemma =>
                          have HPa := Lib.hid (show Bst false (UpR r l (s + 1)) y by have := HP2.out; rwa [(put_high (by omega)).1 hpy] at this)
                          clear HP2
                          go_wp2
                          go_roundw
                          case rel => exact ⟨s + 1, x, y, by omega, by go_num, rfl, rfl, HOa, HPa, by omega, hbz, xz, la, lb⟩
                          case measure => simp [intOf]; omega
                      · as_aux_lemma =>
                          have HPa := Lib.hid (show Bst false (UpR r l (s + 1)) p by have := HP2.out; rwa [(put_high (by omega)).2 (by omega)] at this)
                          clear HP2
                          go_wp2
                          go_roundw
                          case rel => exact ⟨s + 1, x, p, by omega, by go_num, rfl, rfl, HOa, HPa, by omega, hbz, xz, la, lb⟩
                          case measure => simp [intOf]; omega
                  · as_aux_lemma =>
                      have HOa := Lib.hid (show Bst true (UpR r l (s + 1)) o by have := HO2.out; rwa [put_low.2.2 (by omega) (by omega)] at this)
                      clear HO2
                      by_cases hpy : p < y
                      · as_aux_lemma =>
                          have HPa := Lib.hid (show Bst false (UpR r l (s + 1)) y by have := HP2.out; rwa [(put_high (by omega)).1 hpy] at this)
                          clear HP2
                          go_wp2
                          go_roundw
                          case rel => exact ⟨s + 1, o, y, by omega, by go_num, rfl, rfl, HOa, HPa, by omega, hbz, xz, la, lb⟩
                          case measure => simp [intOf]; omega
                      · as_aux_lemma =>
                          have HPa := Lib.hid (show Bst false (UpR r l (s + 1)) p by have := HP2.out; rwa [(put_high (by omega)).2 (by omega)] at this)
                          clear HP2
                          go_wp2
                          go_roundw
                          case rel => exact ⟨s + 1, o, p, by omega, by go_num, rfl, rfl, HOa, HPa, by omega, hbz, xz, la, lb⟩
                          case measure => simp [intOf]; omega
              · as_aux_lemma =>
                  have hsn : s = n1 := by omega
                  have hle2 : r.c < (s : Int) := by omega
                  rw [hsn] at HO HP
                  have HOa := Lib.hid (HBD.out _ _ (HUA.out true o HO.out))
                  have HPa := Lib.hid (HBD.out _ _ (HUA.out false p HP.out))
                  clear hrc hnC
                  go_wp2
                  refine bodyPost_ret (v := .tuple #[.int .i64 o, .int .i64 p, .int .i64 0]) (by simp [results, Tryd.results48, go_sem]) rfl ⟨o, p, by rw [HE.out], HOa.out, HPa.out, hbz⟩
end Go.Proofs.YtkigdjfagcnejaaDoor

