/- Fell: FellZones. -/
import Derived.Test.YtkeojokbpjdhpaaFzk
set_option linter.unusedSimpArgs false
set_option linter.unusedVariables false
namespace Go.Proofs.Ytkeojokbpjdhpaa
open Go.RowKit

theorem inZ_grow {f t : Sp} {r r' n n' : Int} {s : Sp} (r0 : 0 ≤ r) (hr : r ≤ r') (hn : n ≤ n') (h : inZ ⟨f, t, r, n⟩ s = true) : inZ ⟨f, t, r', n'⟩ s = true := by
  have h1 : inZ ⟨f, t, r', n⟩ s = true := by
    rw [inZ_iff] at h ⊢
    obtain ⟨h1, h2⟩ := h
    refine ⟨?_, h2⟩
    unfold okz at h1 ⊢
    rw [Bool.and_eq_true, decide_eq_true_eq, decide_eq_true_eq] at h1 ⊢
    refine ⟨h1.1, ?_⟩
    have a1 := h1.2
    dsimp only at a1 ⊢
    have e : alz ⟨f, t, r', n⟩ s = alz ⟨f, t, r, n⟩ s := rfl
    rw [e]
    have v0 : 0 ≤ vdot (vec t f) (vec t f) := by unfold vdot; have := sq_nn (vec t f).x; have := sq_nn (vec t f).y; omega
    have a2 : r * r ≤ r' * r' := Int.mul_le_mul hr hr r0 (by omega)
    have a3 := Int.mul_le_mul_of_nonneg_right a2 v0
    exact Int.le_trans a1 a3
  exact inZ_mono hn h1
theorem inD_grow {z : Zn} {a b : Int} {x : Sp} (a0 : 0 ≤ a) (a1 : a ≤ 20000) (b0 : 0 ≤ b) (b1 : b ≤ 1000) (h : inD z x = true) (he : inE ⟨z.f, z.t, IntKind.i64.wrap (z.r + a), IntKind.i64.wrap (z.w + b)⟩ x = 0) : inD ⟨z.f, z.t, IntKind.i64.wrap (z.r + a), IntKind.i64.wrap (z.w + b)⟩ x = true := by
  unfold inD at h ⊢
  rw [if_pos he]
  split at h
  · next hz =>
    obtain ⟨hv, _⟩ := inE_z hz
    obtain ⟨_, _, _, r1, r2, w1, w2⟩ := vzn hv
    rw [fits_wrap (n := z.r + a) (by omega), fits_wrap (n := z.w + b) (by omega)]
    exact inZ_grow (by omega) (by omega) (by omega) h
  · cases h
set_option maxHeartbeats 8000000 in
set_option maxRecDepth 20000 in
theorem l_FellZones (z : Zn) (A : Option Addr) (l : List Sp) (c : Nat) (B : Option Addr) (m : List Sp) (d : Nat) (ra wi : Int) (w : World) (hl : l.length ≤ maxLen) (hR : Rd Sp.cs 2 w A l) (hm : m.length ≤ maxLen) (hS : Rd Sp.cs 2 w B m) :
    Calls Try.prog 6 #[znV z, .slice A l.length c, .slice B m.length d, .int .i64 ra, .int .i64 wi] w fun e w' => e = .returned (.bool true) ∧ Below w.heap.size w w' := by
  unfold maxLen at hl hm
  have HAW := Lib.hid l_awake
  have x0 := Blk.new w 44 (znC z)
  have B0 := bl_alloc (below_refl w) (.cells (znC z) 44)
  by_cases h60 : 60 < l.length
  · have h60' : 60 < (l.length : Int) := by omega
    clear x0
    go_enter Try.func6, Try.ntmps6
    go_wp2_with fail
    refine (HAW.out _).mono ?_
    rintro e w1 ⟨rfl, hb1⟩
    go_wp2
    go_ret
    exact ⟨rfl, below_tr B0 hb1⟩
  have h60' : ¬ 60 < (l.length : Int) := by omega
  by_cases h61 : 60 < m.length
  · have h61' : 60 < (m.length : Int) := by omega
    clear x0
    go_enter Try.func6, Try.ntmps6
    go_wp2_with fail
    refine (HAW.out _).mono ?_
    rintro e w1 ⟨rfl, hb1⟩
    go_wp2
    go_ret
    exact ⟨rfl, below_tr B0 hb1⟩
  have h61' : ¬ 60 < (m.length : Int) := by omega
  have HP1 := Lib.hid (fun W (hb : Below w.heap.size w W) => p_Hit z A l c W (by omega) (hR.on hb))
  have HP2 := Lib.hid (fun W (hb : Below w.heap.size w W) => r_Hit z A l c W (by omega) (hR.on hb))
  have HC1 := Lib.hid (fun W (hb : Below w.heap.size w W) => p_Clear z.f z.r z.w A l c B m d W (by omega) (by omega) (hR.on hb) (hS.on hb))
  have HC2 := Lib.hid (fun W (hb : Below w.heap.size w W) => r_Clear z.f z.r z.w A l c B m d W (by omega) (by omega) (hR.on hb) (hS.on hb))
  have HV1 := Lib.hid (fun W => p_ValidZone z W)
  have HV2 := Lib.hid (fun W => r_ValidZone z W)
  have HLL := Lib.hid (hiL_len z l)
  unfold HiP at HP1 HP2
  unfold ClP at HC1 HC2
  generalize hiL z l = LL at *
  generalize hiE z l = LE at *
  generalize clN z.f z.r z.w l m = CN at *
  generalize clE z.f z.r z.w l m = CE at *
  generalize vZn z = V at *
  clear h60 h61
  go_enter Try.func6, Try.ntmps6
  go_wp2_with fail
  refine (HAW.out _).mono ?_
  rintro e w1 ⟨rfl, hb1⟩
  have B1 := below_tr B0 hb1
  have x1 := x0.below hb1 x0.lt
  clear x0 B0 hb1 HAW
  have p0 := x1.cell 0
  have p1 := x1.cell 1
  have p2 := x1.cell 2
  have p3 := x1.cell 3
  have p4 := x1.cell 4
  have p5 := x1.cell 5
  simp only [List.getElem?_toArray, List.getElem?_cons_zero, List.getElem?_cons_succ] at p0 p1 p2 p3 p4 p5
  have zlp := x1.lt
  go_wp2_with fail
  refine (HP1.out _ B1).mono ?_
  rintro e w2 ⟨A1, c1, rfl, hr1, hb2⟩
  have B2 := below_tr B1 hb2
  have x2 := x1.below hb2 x1.lt
  clear p0 p1 p2 p3 p4 p5 zlp x1
  have p0 := x2.cell 0
  have p1 := x2.cell 1
  have p2 := x2.cell 2
  have p3 := x2.cell 3
  have p4 := x2.cell 4
  have p5 := x2.cell 5
  simp only [List.getElem?_toArray, List.getElem?_cons_zero, List.getElem?_cons_succ] at p0 p1 p2 p3 p4 p5
  have zlp := x2.lt
  go_wp2_with fail
  refine (HP2.out _ B2).mono ?_
  rintro e w3 ⟨A2, c2, rfl, hr2, hb3⟩
  have B3 := below_tr B2 hb3
  have x3 := x2.below hb3 x2.lt
  clear p0 p1 p2 p3 p4 p5 zlp x2
  have p0 := x3.cell 0
  have p1 := x3.cell 1
  have p2 := x3.cell 2
  have p3 := x3.cell 3
  have p4 := x3.cell 4
  have p5 := x3.cell 5
  simp only [List.getElem?_toArray, List.getElem?_cons_zero, List.getElem?_cons_succ] at p0 p1 p2 p3 p4 p5
  have zlp := x3.lt
  have HSM := Lib.hid (fun W (hb : Below w3.heap.size w3 W) => r_sameInts A1 A2 LL c1 c2 W (by have := HLL.out; omega) ((hr1.on hb3).on hb) (hr2.on hb))
  clear hr1 hr2 hb2 hb3 HP1 HP2 HLL
  go_wp2_with fail
  go_region_held3 (fun w' => (∀ b o, b < w3.heap.size → w'.cell? ⟨b, o, none⟩ = w3.cell? ⟨b, o, none⟩) ∧ (∀ b o, b < w3.heap.size → w'.frozen? ⟨b, o, none⟩ = w3.frozen? ⟨b, o, none⟩) ∧ Below w3.heap.size w3 w') ((first | assumption | (refine kp_of ?_; (repeat' (first | assumption | exact below_refl _ | refine bl_alloc ?_ _ | refine Below.setCell ?_ ?_ _ | refine below_draw ?_ | refine below_drewN ?_ _ | refine below_tr ?_ (by assumption))) <;> (first | omega | (simp; done) | (simp; omega))))) ((first | (go_at_call 24; ((with_reducible refine (HV1.out _).mono ?_); rintro e w5 ⟨rfl, hb5⟩; obtain ⟨hc5, hf5⟩ := bcell hb5; have hz5 := hb5.size; (try simp [sz_drew, sz_drewN] at hz5); (try simp only [sz_drew, sz_drewN] at hc5 hf5))) | (go_at_call 25; ((with_reducible refine (HV2.out _).mono ?_); rintro e w6 ⟨rfl, hb6⟩; obtain ⟨hc6, hf6⟩ := bcell hb6; have hz6 := hb6.size; (try simp [sz_drew, sz_drewN] at hz6); (try simp only [sz_drew, sz_drewN] at hc6 hf6))) | (go_at_call 26; ((with_reducible refine (HSM.out _ (by (repeat' (first | assumption | exact below_refl _ | refine bl_alloc ?_ _ | refine Below.setCell ?_ ?_ _ | refine below_draw ?_ | refine below_drewN ?_ _ | refine below_tr ?_ (by assumption))) <;> (first | omega | (simp; done) | (simp; omega)))).mono ?_); rintro e w7 ⟨rfl, hb7⟩; obtain ⟨hc7, hf7⟩ := bcell hb7; have hz7 := hb7.size; (try simp [sz_drew, sz_drewN] at hz7); (try simp only [sz_drew, sz_drewN] at hc7 hf7)))))
  go_wp2_with fail
  refine (HC1.out _ (below_tr B3 (by (repeat' (first | assumption | exact below_refl _ | refine bl_alloc ?_ _ | refine Below.setCell ?_ ?_ _ | refine below_draw ?_ | refine below_drewN ?_ _ | refine below_tr ?_ (by assumption))) <;> (first | omega | (simp; done) | (simp; omega))))).mono ?_
  rintro e w8 ⟨rfl, hb8⟩
  have C8 : Below w3.heap.size w3 w8 := by (repeat' (first | assumption | exact below_refl _ | refine bl_alloc ?_ _ | refine Below.setCell ?_ ?_ _ | refine below_draw ?_ | refine below_drewN ?_ _ | refine below_tr ?_ (by assumption))) <;> (first | omega | (simp; done) | (simp; omega))
  have B8 := below_tr B3 C8
  have x8 := x3.below C8 x3.lt
  clear p0 p1 p2 p3 p4 p5 zlp x3
  have p0 := x8.cell 0
  have p1 := x8.cell 1
  have p2 := x8.cell 2
  have p3 := x8.cell 3
  have p4 := x8.cell 4
  have p5 := x8.cell 5
  simp only [List.getElem?_toArray, List.getElem?_cons_zero, List.getElem?_cons_succ] at p0 p1 p2 p3 p4 p5
  have zlp := x8.lt
  go_wp2_with fail
  refine (HC2.out _ B8).mono ?_
  rintro e w9 ⟨rfl, hb9⟩
  have B9 := below_tr B8 hb9
  have x9 := x8.below hb9 x8.lt
  clear p0 p1 p2 p3 p4 p5 zlp x8
  have p0 := x9.cell 0
  have p1 := x9.cell 1
  have p2 := x9.cell 2
  have p3 := x9.cell 3
  have p4 := x9.cell 4
  have p5 := x9.cell 5
  simp only [List.getElem?_toArray, List.getElem?_cons_zero, List.getElem?_cons_succ] at p0 p1 p2 p3 p4 p5
  have zlp := x9.lt
  have B10 := bl_alloc B9 (.cells (znC z) 44)
  have x10 := x9.alloc (.cells (znC z) 44)
  have g10 := Blk.new w9 44 (znC z)
  rcases (by omega : (ra < 0) ∨ (0 ≤ ra ∧ 20000 < ra) ∨ (0 ≤ ra ∧ ra ≤ 20000 ∧ wi < 0) ∨ (0 ≤ ra ∧ ra ≤ 20000 ∧ 0 ≤ wi ∧ 1000 < wi) ∨ (0 ≤ ra ∧ ra ≤ 20000 ∧ 0 ≤ wi ∧ wi ≤ 1000)) with h | ⟨h, h'⟩ | ⟨h, h', h''⟩ | ⟨h, h', h'', h3⟩ | ⟨h, h', h'', h3⟩
  iterate 4
    rotate_left
  · obtain ⟨R', hR'⟩ : ∃ R', R' = IntKind.i64.wrap (z.r + ra) := ⟨_, rfl⟩
    obtain ⟨D', hD'⟩ : ∃ D', D' = IntKind.i64.wrap (z.w + wi) := ⟨_, rfl⟩
    have HG := Lib.hid (show ∀ x, inD z x = true → inE ⟨z.f, z.t, R', D'⟩ x = 0 → inD ⟨z.f, z.t, R', D'⟩ x = true from fun x hx he => by rw [hR', hD'] at he ⊢; exact inD_grow h h' h'' h3 hx he)
    have hR2 := hR'.symm
    have hD2 := hD'.symm
    clear hR' hD'
    obtain ⟨G, hG⟩ : ∃ G : Zn, G = ⟨z.f, z.t, R', D'⟩ := ⟨_, rfl⟩
    rw [← hG] at HG
    have g11 : Blk (w9.alloc (.cells #[.int .i64 z.f.x, .int .i64 z.f.y, .int .i64 z.t.x, .int .i64 z.t.y, .int .i64 R', .int .i64 D'] 44)) w9.heap.size 44 (znC G) := by rw [hG]; exact Blk.new w9 44 (znC ⟨z.f, z.t, R', D'⟩)
    have x11 := x9.alloc (.cells #[.int .i64 z.f.x, .int .i64 z.f.y, .int .i64 z.t.x, .int .i64 z.t.y, .int .i64 R', .int .i64 D'] 44)
    have B11 := bl_alloc B9 (.cells #[.int .i64 z.f.x, .int .i64 z.f.y, .int .i64 z.t.x, .int .i64 z.t.y, .int .i64 R', .int .i64 D'] 44)
    clear hG
    go_wp2_with fail
    clear h HC1 HC2 HV1 HV2 HSM B1 B2 B3 B8 B9 C8 x9 hb5 hb6 hb7 hc5 hc6 hc7 hf5 hf6 hf7 hz5 hz6 hz7 hb8 hb9 p0 p1 p2 p3 p4 p5 zlp B10 x10 g10 hR2 hD2
    generalize w9.alloc (.cells #[.int .i64 z.f.x, .int .i64 z.f.y, .int .i64 z.t.x, .int .i64 z.t.y, .int .i64 R', .int .i64 D'] 44) = WG at *
    generalize w9.heap.size = gg at *
    go_loopw [20] (fun i wr => ∃ k : Nat, k ≤ l.length ∧ i = .int .i64 k ∧ Below w.heap.size w wr ∧ Blk wr w.heap.size 44 (znC z) ∧ Blk wr gg 44 (znC G)) (fun i _ => l.length - (intOf i).toNat)
    case atStart => exact ⟨0, by omega, rfl, B11, x11, g11⟩
    case round =>
      clear B11 x11 g11
      obtain ⟨k, hk, rfl, hbw, xz, xg⟩ := hrel
      have k0 : (0 : Int) ≤ (k : Int) := Int.natCast_nonneg _
      by_cases hlt : k < l.length
      · have k1 : (k : Int) < (l.length : Int) := by omega
        obtain ⟨x, b, off, hx, rfl, hb, c0, c1⟩ := rdS (hR.on hbw) hlt
        have QA := Lib.hid (fun W => p_In z x W)
        have QB := Lib.hid (fun W => r_In z x W)
        have QC := Lib.hid (fun W => p_In G x W)
        have HGX := Lib.hid (HG.out x)
        clear hx
        generalize inD z x = D at *
        generalize inE z x = E at *
        generalize inD G x = D2 at *
        generalize inE G x = E2 at *
        have p0 := xz.cell 0
        have p1 := xz.cell 1
        have p2 := xz.cell 2
        have p3 := xz.cell 3
        have p4 := xz.cell 4
        have p5 := xz.cell 5
        simp only [List.getElem?_toArray, List.getElem?_cons_zero, List.getElem?_cons_succ] at p0 p1 p2 p3 p4 p5
        have zlp := xz.lt
        go_wp2_with fail
        go_region_held3 (fun w' => (∀ b o, b < wr.heap.size → w'.cell? ⟨b, o, none⟩ = wr.cell? ⟨b, o, none⟩) ∧ (∀ b o, b < wr.heap.size → w'.frozen? ⟨b, o, none⟩ = wr.frozen? ⟨b, o, none⟩) ∧ Below wr.heap.size wr w') ((first | assumption | (refine kp_of ?_; (repeat' (first | assumption | exact below_refl _ | refine bl_alloc ?_ _ | refine Below.setCell ?_ ?_ _ | refine below_draw ?_ | refine below_drewN ?_ _ | refine below_tr ?_ (by assumption))) <;> (first | omega | (simp; done) | (simp; omega))))) ((first | (go_at_call 29; ((with_reducible refine (QA.out _).mono ?_); rintro e w5 ⟨rfl, hb5⟩; obtain ⟨hc5, hf5⟩ := bcell hb5; have hz5 := hb5.size; (try simp [sz_drew, sz_drewN] at hz5); (try simp only [sz_drew, sz_drewN] at hc5 hf5)))))
        go_wp2_with fail
        refine wp_world ?_
        intro W2 hW2
        have C2 : Below wr.heap.size wr W2 := by rw [hW2]; (repeat' (first | assumption | exact below_refl _ | refine bl_alloc ?_ _ | refine Below.setCell ?_ ?_ _ | refine below_draw ?_ | refine below_drewN ?_ _ | refine below_tr ?_ (by assumption))) <;> (first | omega | (simp; done) | (simp; omega))
        clear hW2
        have B2 := below_tr hbw C2
        have xz2 := xz.below C2 xz.lt
        have xg2 := xg.below C2 xg.lt
        have d0 := ((bcell C2).1 _ (off + k * 2) hb).trans c0
        have d1 := ((bcell C2).1 _ (off + k * 2 + 1) hb).trans c1
        have hb2 : b < W2.heap.size := Nat.lt_of_lt_of_le hb C2.size
        clear p0 p1 p2 p3 p4 p5 zlp xz xg c0 c1 hb hbw hb5 hc5 hf5 hz5 C2 QA
        have p0 := xz2.cell 0
        have p1 := xz2.cell 1
        have p2 := xz2.cell 2
        have p3 := xz2.cell 3
        have p4 := xz2.cell 4
        have p5 := xz2.cell 5
        simp only [List.getElem?_toArray, List.getElem?_cons_zero, List.getElem?_cons_succ] at p0 p1 p2 p3 p4 p5
        have zlp := xz2.lt
        go_wp2_with fail
        go_region_held3 (fun w' => (∀ b o, b < W2.heap.size → w'.cell? ⟨b, o, none⟩ = W2.cell? ⟨b, o, none⟩) ∧ (∀ b o, b < W2.heap.size → w'.frozen? ⟨b, o, none⟩ = W2.frozen? ⟨b, o, none⟩) ∧ Below W2.heap.size W2 w') ((first | assumption | (refine kp_of ?_; (repeat' (first | assumption | exact below_refl _ | refine bl_alloc ?_ _ | refine Below.setCell ?_ ?_ _ | refine below_draw ?_ | refine below_drewN ?_ _ | refine below_tr ?_ (by assumption))) <;> (first | omega | (simp; done) | (simp; omega))))) ((first | (go_at_call 30; ((with_reducible refine (QB.out _).mono ?_); rintro e w6 ⟨rfl, hb6⟩; obtain ⟨hc6, hf6⟩ := bcell hb6; have hz6 := hb6.size; (try simp [sz_drew, sz_drewN] at hz6); (try simp only [sz_drew, sz_drewN] at hc6 hf6)))))
        go_wp2_with fail
        refine wp_world ?_
        intro W3 hW3
        have C3 : Below W2.heap.size W2 W3 := by rw [hW3]; (repeat' (first | assumption | exact below_refl _ | refine bl_alloc ?_ _ | refine Below.setCell ?_ ?_ _ | refine below_draw ?_ | refine below_drewN ?_ _ | refine below_tr ?_ (by assumption))) <;> (first | omega | (simp; done) | (simp; omega))
        clear hW3
        have B3 := below_tr B2 C3
        have xz3 := xz2.below C3 xz2.lt
        have xg3 := xg2.below C3 xg2.lt
        have f0 := ((bcell C3).1 _ (off + k * 2) hb2).trans d0
        have f1 := ((bcell C3).1 _ (off + k * 2 + 1) hb2).trans d1
        have hb3 : b < W3.heap.size := Nat.lt_of_lt_of_le hb2 C3.size
        clear p0 p1 p2 p3 p4 p5 zlp xz2 xg2 d0 d1 hb2 B2 hb6 hc6 hf6 hz6 C3 QB
        have p0 := xg3.cell 0
        have p1 := xg3.cell 1
        have p2 := xg3.cell 2
        have p3 := xg3.cell 3
        have p4 := xg3.cell 4
        have p5 := xg3.cell 5
        simp only [List.getElem?_toArray, List.getElem?_cons_zero, List.getElem?_cons_succ] at p0 p1 p2 p3 p4 p5
        have zlp := xg3.lt
        go_wp2_with fail
        go_region_held3 (fun w' => (∀ b o, b < W3.heap.size → w'.cell? ⟨b, o, none⟩ = W3.cell? ⟨b, o, none⟩) ∧ (∀ b o, b < W3.heap.size → w'.frozen? ⟨b, o, none⟩ = W3.frozen? ⟨b, o, none⟩) ∧ Below W3.heap.size W3 w') ((first | assumption | (refine kp_of ?_; (repeat' (first | assumption | exact below_refl _ | refine bl_alloc ?_ _ | refine Below.setCell ?_ ?_ _ | refine below_draw ?_ | refine below_drewN ?_ _ | refine below_tr ?_ (by assumption))) <;> (first | omega | (simp; done) | (simp; omega))))) ((first | (go_at_call 29; ((with_reducible refine (QC.out _).mono ?_); rintro e w7 ⟨rfl, hb7⟩; obtain ⟨hc7, hf7⟩ := bcell hb7; have hz7 := hb7.size; (try simp [sz_drew, sz_drewN] at hz7); (try simp only [sz_drew, sz_drewN] at hc7 hf7)))))
        have B4 := B3
        rcases (by cases D <;> cases D2 <;> by_cases e : E2 = 0 <;> simp [e] <;> first | exact absurd (HGX.out rfl e) (by simp) | skip : D = false ∨ (D = true ∧ E2 ≠ 0) ∨ (D = true ∧ E2 = 0 ∧ D2 = true)) with rfl | ⟨rfl, hE⟩ | ⟨rfl, rfl, rfl⟩
        · go_wp2
          go_roundw
          case rel => exact ⟨k + 1, by omega, by go_num, below_tr B3 (by (repeat' (first | assumption | exact below_refl _ | refine bl_alloc ?_ _ | refine Below.setCell ?_ ?_ _ | refine below_draw ?_ | refine below_drewN ?_ _ | refine below_tr ?_ (by assumption))) <;> (first | omega | (simp; done) | (simp; omega))), xz3.below (by (repeat' (first | assumption | exact below_refl _ | refine bl_alloc ?_ _ | refine Below.setCell ?_ ?_ _ | refine below_draw ?_ | refine below_drewN ?_ _ | refine below_tr ?_ (by assumption))) <;> (first | omega | (simp; done) | (simp; omega))) xz3.lt, xg3.below (by (repeat' (first | assumption | exact below_refl _ | refine bl_alloc ?_ _ | refine Below.setCell ?_ ?_ _ | refine below_draw ?_ | refine below_drewN ?_ _ | refine below_tr ?_ (by assumption))) <;> (first | omega | (simp; done) | (simp; omega))) xg3.lt⟩
          case measure => simp [intOf]; omega
        · have hE' : (E2 == 0) = false := by simpa using hE
          go_wp2
          go_roundw
          case rel => exact ⟨k + 1, by omega, by go_num, below_tr B3 (by (repeat' (first | assumption | exact below_refl _ | refine bl_alloc ?_ _ | refine Below.setCell ?_ ?_ _ | refine below_draw ?_ | refine below_drewN ?_ _ | refine below_tr ?_ (by assumption))) <;> (first | omega | (simp; done) | (simp; omega))), xz3.below (by (repeat' (first | assumption | exact below_refl _ | refine bl_alloc ?_ _ | refine Below.setCell ?_ ?_ _ | refine below_draw ?_ | refine below_drewN ?_ _ | refine below_tr ?_ (by assumption))) <;> (first | omega | (simp; done) | (simp; omega))) xz3.lt, xg3.below (by (repeat' (first | assumption | exact below_refl _ | refine bl_alloc ?_ _ | refine Below.setCell ?_ ?_ _ | refine below_draw ?_ | refine below_drewN ?_ _ | refine below_tr ?_ (by assumption))) <;> (first | omega | (simp; done) | (simp; omega))) xg3.lt⟩
          case measure => simp [intOf]; omega
        · go_wp2
          go_roundw
          case rel => exact ⟨k + 1, by omega, by go_num, below_tr B3 (by (repeat' (first | assumption | exact below_refl _ | refine bl_alloc ?_ _ | refine Below.setCell ?_ ?_ _ | refine below_draw ?_ | refine below_drewN ?_ _ | refine below_tr ?_ (by assumption))) <;> (first | omega | (simp; done) | (simp; omega))), xz3.below (by (repeat' (first | assumption | exact below_refl _ | refine bl_alloc ?_ _ | refine Below.setCell ?_ ?_ _ | refine below_draw ?_ | refine below_drewN ?_ _ | refine below_tr ?_ (by assumption))) <;> (first | omega | (simp; done) | (simp; omega))) xz3.lt, xg3.below (by (repeat' (first | assumption | exact below_refl _ | refine bl_alloc ?_ _ | refine Below.setCell ?_ ?_ _ | refine below_draw ?_ | refine below_drewN ?_ _ | refine below_tr ?_ (by assumption))) <;> (first | omega | (simp; done) | (simp; omega))) xg3.lt⟩
          case measure => simp [intOf]; omega
      · obtain rfl : k = l.length := by omega
        go_wp2
        go_ret
        exact ⟨rfl, hbw⟩
  all_goals
    have HG := Lib.hid (show ∀ x, inD z x = true → inE z x = 0 → inD z x = true from fun x hx _ => hx)
    obtain ⟨G, hG⟩ : ∃ G : Zn, G = z := ⟨z, rfl⟩
    rw [show (∀ x, inD z x = true → inE z x = 0 → inD z x = true) = (∀ x, inD z x = true → inE G x = 0 → inD G x = true) by rw [hG]] at HG
    have g11 : Blk (w9.alloc (.cells (znC z) 44)) w9.heap.size 44 (znC G) := by rw [hG]; exact g10
    clear hG g10
    go_wp2_with fail
    clear h HC1 HC2 HV1 HV2 HSM B1 B2 B3 B8 B9 C8 x9 hb5 hb6 hb7 hc5 hc6 hc7 hf5 hf6 hf7 hz5 hz6 hz7 hb8 hb9 p0 p1 p2 p3 p4 p5 zlp
    generalize w9.alloc (.cells #[.int .i64 z.f.x, .int .i64 z.f.y, .int .i64 z.t.x, .int .i64 z.t.y, .int .i64 z.r, .int .i64 z.w] 44) = WG at *
    generalize w9.heap.size = gg at *
    go_loopw [20] (fun i wr => ∃ k : Nat, k ≤ l.length ∧ i = .int .i64 k ∧ Below w.heap.size w wr ∧ Blk wr w.heap.size 44 (znC z) ∧ Blk wr gg 44 (znC G)) (fun i _ => l.length - (intOf i).toNat)
    case atStart => exact ⟨0, by omega, rfl, B10, x10, g11⟩
    case round =>
      clear B10 x10 g11
      obtain ⟨k, hk, rfl, hbw, xz, xg⟩ := hrel
      have k0 : (0 : Int) ≤ (k : Int) := Int.natCast_nonneg _
      by_cases hlt : k < l.length
      · have k1 : (k : Int) < (l.length : Int) := by omega
        obtain ⟨x, b, off, hx, rfl, hb, c0, c1⟩ := rdS (hR.on hbw) hlt
        have QA := Lib.hid (fun W => p_In z x W)
        have QB := Lib.hid (fun W => r_In z x W)
        have QC := Lib.hid (fun W => p_In G x W)
        have HGX := Lib.hid (HG.out x)
        clear hx
        generalize inD z x = D at *
        generalize inE z x = E at *
        generalize inD G x = D2 at *
        generalize inE G x = E2 at *
        have p0 := xz.cell 0
        have p1 := xz.cell 1
        have p2 := xz.cell 2
        have p3 := xz.cell 3
        have p4 := xz.cell 4
        have p5 := xz.cell 5
        simp only [List.getElem?_toArray, List.getElem?_cons_zero, List.getElem?_cons_succ] at p0 p1 p2 p3 p4 p5
        have zlp := xz.lt
        go_wp2_with fail
        go_region_held3 (fun w' => (∀ b o, b < wr.heap.size → w'.cell? ⟨b, o, none⟩ = wr.cell? ⟨b, o, none⟩) ∧ (∀ b o, b < wr.heap.size → w'.frozen? ⟨b, o, none⟩ = wr.frozen? ⟨b, o, none⟩) ∧ Below wr.heap.size wr w') ((first | assumption | (refine kp_of ?_; (repeat' (first | assumption | exact below_refl _ | refine bl_alloc ?_ _ | refine Below.setCell ?_ ?_ _ | refine below_draw ?_ | refine below_drewN ?_ _ | refine below_tr ?_ (by assumption))) <;> (first | omega | (simp; done) | (simp; omega))))) ((first | (go_at_call 29; ((with_reducible refine (QA.out _).mono ?_); rintro e w5 ⟨rfl, hb5⟩; obtain ⟨hc5, hf5⟩ := bcell hb5; have hz5 := hb5.size; (try simp [sz_drew, sz_drewN] at hz5); (try simp only [sz_drew, sz_drewN] at hc5 hf5)))))
        go_wp2_with fail
        refine wp_world ?_
        intro W2 hW2
        have C2 : Below wr.heap.size wr W2 := by rw [hW2]; (repeat' (first | assumption | exact below_refl _ | refine bl_alloc ?_ _ | refine Below.setCell ?_ ?_ _ | refine below_draw ?_ | refine below_drewN ?_ _ | refine below_tr ?_ (by assumption))) <;> (first | omega | (simp; done) | (simp; omega))
        clear hW2
        have B2 := below_tr hbw C2
        have xz2 := xz.below C2 xz.lt
        have xg2 := xg.below C2 xg.lt
        have d0 := ((bcell C2).1 _ (off + k * 2) hb).trans c0
        have d1 := ((bcell C2).1 _ (off + k * 2 + 1) hb).trans c1
        have hb2 : b < W2.heap.size := Nat.lt_of_lt_of_le hb C2.size
        clear p0 p1 p2 p3 p4 p5 zlp xz xg c0 c1 hb hbw hb5 hc5 hf5 hz5 C2 QA
        have p0 := xz2.cell 0
        have p1 := xz2.cell 1
        have p2 := xz2.cell 2
        have p3 := xz2.cell 3
        have p4 := xz2.cell 4
        have p5 := xz2.cell 5
        simp only [List.getElem?_toArray, List.getElem?_cons_zero, List.getElem?_cons_succ] at p0 p1 p2 p3 p4 p5
        have zlp := xz2.lt
        go_wp2_with fail
        go_region_held3 (fun w' => (∀ b o, b < W2.heap.size → w'.cell? ⟨b, o, none⟩ = W2.cell? ⟨b, o, none⟩) ∧ (∀ b o, b < W2.heap.size → w'.frozen? ⟨b, o, none⟩ = W2.frozen? ⟨b, o, none⟩) ∧ Below W2.heap.size W2 w') ((first | assumption | (refine kp_of ?_; (repeat' (first | assumption | exact below_refl _ | refine bl_alloc ?_ _ | refine Below.setCell ?_ ?_ _ | refine below_draw ?_ | refine below_drewN ?_ _ | refine below_tr ?_ (by assumption))) <;> (first | omega | (simp; done) | (simp; omega))))) ((first | (go_at_call 30; ((with_reducible refine (QB.out _).mono ?_); rintro e w6 ⟨rfl, hb6⟩; obtain ⟨hc6, hf6⟩ := bcell hb6; have hz6 := hb6.size; (try simp [sz_drew, sz_drewN] at hz6); (try simp only [sz_drew, sz_drewN] at hc6 hf6)))))
        go_wp2_with fail
        refine wp_world ?_
        intro W3 hW3
        have C3 : Below W2.heap.size W2 W3 := by rw [hW3]; (repeat' (first | assumption | exact below_refl _ | refine bl_alloc ?_ _ | refine Below.setCell ?_ ?_ _ | refine below_draw ?_ | refine below_drewN ?_ _ | refine below_tr ?_ (by assumption))) <;> (first | omega | (simp; done) | (simp; omega))
        clear hW3
        have B3 := below_tr B2 C3
        have xz3 := xz2.below C3 xz2.lt
        have xg3 := xg2.below C3 xg2.lt
        have f0 := ((bcell C3).1 _ (off + k * 2) hb2).trans d0
        have f1 := ((bcell C3).1 _ (off + k * 2 + 1) hb2).trans d1
        have hb3 : b < W3.heap.size := Nat.lt_of_lt_of_le hb2 C3.size
        clear p0 p1 p2 p3 p4 p5 zlp xz2 xg2 d0 d1 hb2 B2 hb6 hc6 hf6 hz6 C3 QB
        have p0 := xg3.cell 0
        have p1 := xg3.cell 1
        have p2 := xg3.cell 2
        have p3 := xg3.cell 3
        have p4 := xg3.cell 4
        have p5 := xg3.cell 5
        simp only [List.getElem?_toArray, List.getElem?_cons_zero, List.getElem?_cons_succ] at p0 p1 p2 p3 p4 p5
        have zlp := xg3.lt
        go_wp2_with fail
        go_region_held3 (fun w' => (∀ b o, b < W3.heap.size → w'.cell? ⟨b, o, none⟩ = W3.cell? ⟨b, o, none⟩) ∧ (∀ b o, b < W3.heap.size → w'.frozen? ⟨b, o, none⟩ = W3.frozen? ⟨b, o, none⟩) ∧ Below W3.heap.size W3 w') ((first | assumption | (refine kp_of ?_; (repeat' (first | assumption | exact below_refl _ | refine bl_alloc ?_ _ | refine Below.setCell ?_ ?_ _ | refine below_draw ?_ | refine below_drewN ?_ _ | refine below_tr ?_ (by assumption))) <;> (first | omega | (simp; done) | (simp; omega))))) ((first | (go_at_call 29; ((with_reducible refine (QC.out _).mono ?_); rintro e w7 ⟨rfl, hb7⟩; obtain ⟨hc7, hf7⟩ := bcell hb7; have hz7 := hb7.size; (try simp [sz_drew, sz_drewN] at hz7); (try simp only [sz_drew, sz_drewN] at hc7 hf7)))))
        have B4 := B3
        rcases (by cases D <;> cases D2 <;> by_cases e : E2 = 0 <;> simp [e] <;> first | exact absurd (HGX.out rfl e) (by simp) | skip : D = false ∨ (D = true ∧ E2 ≠ 0) ∨ (D = true ∧ E2 = 0 ∧ D2 = true)) with rfl | ⟨rfl, hE⟩ | ⟨rfl, rfl, rfl⟩
        · go_wp2
          go_roundw
          case rel => exact ⟨k + 1, by omega, by go_num, below_tr B3 (by (repeat' (first | assumption | exact below_refl _ | refine bl_alloc ?_ _ | refine Below.setCell ?_ ?_ _ | refine below_draw ?_ | refine below_drewN ?_ _ | refine below_tr ?_ (by assumption))) <;> (first | omega | (simp; done) | (simp; omega))), xz3.below (by (repeat' (first | assumption | exact below_refl _ | refine bl_alloc ?_ _ | refine Below.setCell ?_ ?_ _ | refine below_draw ?_ | refine below_drewN ?_ _ | refine below_tr ?_ (by assumption))) <;> (first | omega | (simp; done) | (simp; omega))) xz3.lt, xg3.below (by (repeat' (first | assumption | exact below_refl _ | refine bl_alloc ?_ _ | refine Below.setCell ?_ ?_ _ | refine below_draw ?_ | refine below_drewN ?_ _ | refine below_tr ?_ (by assumption))) <;> (first | omega | (simp; done) | (simp; omega))) xg3.lt⟩
          case measure => simp [intOf]; omega
        · have hE' : (E2 == 0) = false := by simpa using hE
          go_wp2
          go_roundw
          case rel => exact ⟨k + 1, by omega, by go_num, below_tr B3 (by (repeat' (first | assumption | exact below_refl _ | refine bl_alloc ?_ _ | refine Below.setCell ?_ ?_ _ | refine below_draw ?_ | refine below_drewN ?_ _ | refine below_tr ?_ (by assumption))) <;> (first | omega | (simp; done) | (simp; omega))), xz3.below (by (repeat' (first | assumption | exact below_refl _ | refine bl_alloc ?_ _ | refine Below.setCell ?_ ?_ _ | refine below_draw ?_ | refine below_drewN ?_ _ | refine below_tr ?_ (by assumption))) <;> (first | omega | (simp; done) | (simp; omega))) xz3.lt, xg3.below (by (repeat' (first | assumption | exact below_refl _ | refine bl_alloc ?_ _ | refine Below.setCell ?_ ?_ _ | refine below_draw ?_ | refine below_drewN ?_ _ | refine below_tr ?_ (by assumption))) <;> (first | omega | (simp; done) | (simp; omega))) xg3.lt⟩
          case measure => simp [intOf]; omega
        · go_wp2
          go_roundw
          case rel => exact ⟨k + 1, by omega, by go_num, below_tr B3 (by (repeat' (first | assumption | exact below_refl _ | refine bl_alloc ?_ _ | refine Below.setCell ?_ ?_ _ | refine below_draw ?_ | refine below_drewN ?_ _ | refine below_tr ?_ (by assumption))) <;> (first | omega | (simp; done) | (simp; omega))), xz3.below (by (repeat' (first | assumption | exact below_refl _ | refine bl_alloc ?_ _ | refine Below.setCell ?_ ?_ _ | refine below_draw ?_ | refine below_drewN ?_ _ | refine below_tr ?_ (by assumption))) <;> (first | omega | (simp; done) | (simp; omega))) xz3.lt, xg3.below (by (repeat' (first | assumption | exact below_refl _ | refine bl_alloc ?_ _ | refine Below.setCell ?_ ?_ _ | refine below_draw ?_ | refine below_drewN ?_ _ | refine below_tr ?_ (by assumption))) <;> (first | omega | (simp; done) | (simp; omega))) xg3.lt⟩
          case measure => simp [intOf]; omega
      · obtain rfl : k = l.length := by omega
        go_wp2
        go_ret
        exact ⟨rfl, hbw⟩
end Go.Proofs.Ytkeojokbpjdhpaa
