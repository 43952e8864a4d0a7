/- Fell: the corner that is nearest: the closures. -/
import Derived.Test.YthklgkgincebhaaGreatDoorFz0
set_option linter.unusedSimpArgs false
set_option linter.unusedVariables false
namespace Go.Proofs.YthklgkgincebhaaGreatDoor
open Go.RowKit

set_option maxHeartbeats 2000000 in
theorem p_dir11 (q p s : Sp) (b c : Nat) (w : World) (hq : Bd 10000 q) (hp : Bd 10000 p) (hs : Bd 10000 s) (hb : Blk w b 32 (spA s)) (hc : Blk w c 32 (spA p)) :
    Calls Tryz.prog 49 #[spV q, .pointer (some ⟨b, 0, none⟩), .pointer (some ⟨c, 0, none⟩)] w fun e w' => e = .returned (.bool (decide (0 < dw s p q))) ∧ Below w.heap.size w w' := by
  have HL1 := Lib.hid (fun W => p_less s p W (hs.mono (by omega)) (hp.mono (by omega)))
  have HL2 := Lib.hid (fun W => p_less q p W (hq.mono (by omega)) (hp.mono (by omega)))
  have HD := Lib.hid (fun W => p_dot (vec s p) (vec q p) W ((vec_bd (m := 10000) (n := 10000) hs hp).mono (by omega)) ((vec_bd (m := 10000) (n := 10000) hq hp).mono (by omega)))
  rw [vdot_dw] at HD
  generalize vec s p = V1 at *
  generalize vec q p = V2 at *
  generalize dw s p q = D at *
  have B0 := bl_alloc (below_refl w) (.cells (spA q) 32)
  have x0 := Blk.new w 32 (spA q)
  have x1 := hb.alloc (.cells (spA q) 32)
  have x2 := hc.alloc (.cells (spA q) 32)
  have hbl := hb.lt
  have hcl := hc.lt
  go_enter Tryz.func49, Tryz.ntmps49
  go_wp2_with fail
  have p0 := x0.cell 0
  have p1 := x0.cell 1
  have q0 := x1.cell 0
  have q1 := x1.cell 1
  have r0 := x2.cell 0
  have r1 := x2.cell 1
  simp only [List.getElem?_toArray, List.getElem?_cons_zero, List.getElem?_cons_succ] at p0 p1 q0 q1 r0 r1
  have z0 := x0.lt
  have z1 := x1.lt
  have z2 := x2.lt
  generalize w.alloc (.cells (spA q) 32) = W at *
  clear x0 x1 x2 hb hc
  go_region_held3 (fun w' => (∀ b o, b < W.heap.size → w'.cell? ⟨b, o, none⟩ = W.cell? ⟨b, o, none⟩) ∧ (∀ b o, b < W.heap.size → w'.frozen? ⟨b, o, none⟩ = W.frozen? ⟨b, o, none⟩) ∧ Below W.heap.size W w') ((first | assumption | (refine kp_of ?_; (repeat' (first | assumption | exact below_refl _ | refine bl_alloc ?_ _ | refine Below.setCell ?_ ?_ _ | refine below_draw ?_ | refine below_drewN ?_ _ | refine below_tr ?_ (by assumption))) <;> (first | omega | (simp; done) | (simp; omega))))) ((first | (go_at_call 44; ((with_reducible refine (HL1.out _).mono ?_); rintro e w3 ⟨rfl, hb3⟩; obtain ⟨hc3, hf3⟩ := bcell hb3; have hz3 := hb3.size; (try simp [sz_drew, sz_drewN] at hz3); (try simp only [sz_drew, sz_drewN] at hc3 hf3))) | (go_at_call 44; ((with_reducible refine (HL2.out _).mono ?_); rintro e w4 ⟨rfl, hb4⟩; obtain ⟨hc4, hf4⟩ := bcell hb4; have hz4 := hb4.size; (try simp [sz_drew, sz_drewN] at hz4); (try simp only [sz_drew, sz_drewN] at hc4 hf4))) | (go_at_call 45; ((with_reducible refine (HD.out _).mono ?_); rintro e w5 ⟨rfl, hb5⟩; obtain ⟨hc5, hf5⟩ := bcell hb5; have hz5 := hb5.size; (try simp [sz_drew, sz_drewN] at hz5); (try simp only [sz_drew, sz_drewN] at hc5 hf5)))))
  go_wp2
  go_ret
  exact ⟨rfl, below_tr B0 (by (repeat' (first | assumption | exact below_refl _ | refine bl_alloc ?_ _ | refine Below.setCell ?_ ?_ _ | refine below_draw ?_ | refine below_drewN ?_ _ | refine below_tr ?_ (by assumption))) <;> (first | omega | (simp; done) | (simp; omega)))⟩
set_option maxHeartbeats 2000000 in
theorem p_dir1 (p s : Sp) (h : List Sp) (A : Option Addr) (c b2 b : Nat) (w : World) (hl : h.length ≤ 100000) (hp : Bd 10000 p) (hs : Bd 10000 s) (hbd : ∀ x ∈ h, Bd 10000 x)
    (hb2 : Blk w b2 63 #[.slice A h.length c]) (hb : Blk w b 32 (spA s)) (hR : Rd Sp.cs 2 w A h) :
    Calls Tryz.prog 48 #[spV p, .pointer (some ⟨b2, 0, none⟩), .pointer (some ⟨b, 0, none⟩)] w fun e w' => e = .returned (.bool (crnB h s p)) ∧ Below w.heap.size w w' := by
  have B0 := bl_alloc (below_refl w) (.cells (spA p) 32)
  have x0 := Blk.new w 32 (spA p)
  have x1 := hb.alloc (.cells (spA p) 32)
  have x2 := hb2.alloc (.cells (spA p) 32)
  have HC := Lib.hid (c_containsS A h c (fun q => decide (0 < dw s p q)) 49 #[.pointer (some ⟨b, 0, none⟩), .pointer (some ⟨w.heap.size, 0, none⟩)] (w.alloc (.cells (spA p) 32)) hl (hR.on B0) (enters_of Tryz.func49 (by kernel_rfl) rfl) (fun W q hW hq => p_dir11 q p s b w.heap.size W (hbd q hq) hp hs (x1.below hW x1.lt) (x0.below hW x0.lt)))
  have HE := Lib.hid (show crnB h s p = !(h.any fun q => decide (0 < dw s p q)) from rfl)
  generalize (h.any fun q => decide (0 < dw s p q)) = R at *
  have e0 := x2.cell 0
  simp only [List.getElem?_toArray, List.getElem?_cons_zero, List.getElem?_cons_succ] at e0
  go_enter Tryz.func48, Tryz.ntmps48
  go_wp2_with fail
  refine HC.out.mono ?_
  rintro e w1 ⟨rfl, hb1⟩
  go_wp2
  go_ret
  exact ⟨ret_bool HE.out.symm, below_tr B0 hb1⟩
end Go.Proofs.YthklgkgincebhaaGreatDoor
