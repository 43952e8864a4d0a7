/- Fell: what is held, by the reference: triangles. -/
import Derived.Test.YtkeojokbpjdhpaaGreatDoorFq
set_option linter.unusedSimpArgs false
set_option linter.unusedVariables false
namespace Go.Proofs.YtkeojokbpjdhpaaGreatDoor
open Go.RowKit

set_option maxHeartbeats 4000000 in
set_option maxRecDepth 20000 in
theorem r_inside (a b c s : Sp) (w : World) (ha : Bd 10000 a) (hb : Bd 10000 b) (hc : Bd 10000 c) (hs : Bd 10000 s) : Calls Tryz.prog 47 #[spV a, spV b, spV c, spV s] w fun e w' => e = .returned (.bool (insB a b c s)) ∧ Below w.heap.size w w' := by
  have b1 : Bd 1000000 (vec b a) := (vec_bd (m := 10000) (n := 10000) hb ha).mono (by omega)
  have HM1 := Lib.hid (fun W => r_minus b a W (hb.mono (by omega)) (ha.mono (by omega)))
  have b2 : Bd 1000000 (vec s a) := (vec_bd (m := 10000) (n := 10000) hs ha).mono (by omega)
  have HM2 := Lib.hid (fun W => r_minus s a W (hs.mono (by omega)) (ha.mono (by omega)))
  have b3 : Bd 1000000 (vec c b) := (vec_bd (m := 10000) (n := 10000) hc hb).mono (by omega)
  have HM3 := Lib.hid (fun W => r_minus c b W (hc.mono (by omega)) (hb.mono (by omega)))
  have b4 : Bd 1000000 (vec s b) := (vec_bd (m := 10000) (n := 10000) hs hb).mono (by omega)
  have HM4 := Lib.hid (fun W => r_minus s b W (hs.mono (by omega)) (hb.mono (by omega)))
  have b5 : Bd 1000000 (vec a c) := (vec_bd (m := 10000) (n := 10000) ha hc).mono (by omega)
  have HM5 := Lib.hid (fun W => r_minus a c W (ha.mono (by omega)) (hc.mono (by omega)))
  have b6 : Bd 1000000 (vec s c) := (vec_bd (m := 10000) (n := 10000) hs hc).mono (by omega)
  have HM6 := Lib.hid (fun W => r_minus s c W (hs.mono (by omega)) (hc.mono (by omega)))
  have b7 : Bd 1000000 (vec c a) := (vec_bd (m := 10000) (n := 10000) hc ha).mono (by omega)
  have HM7 := Lib.hid (fun W => r_minus c a W (hc.mono (by omega)) (ha.mono (by omega)))
  have HC1 := Lib.hid (fun W => r_cross (vec b a) (vec s a) W b1 b2)
  rw [vcr_crR] at HC1
  have HC2 := Lib.hid (fun W => r_cross (vec c b) (vec s b) W b3 b4)
  rw [vcr_crR] at HC2
  have HC3 := Lib.hid (fun W => r_cross (vec a c) (vec s c) W b5 b6)
  rw [vcr_crR] at HC3
  have HC4 := Lib.hid (fun W => r_cross (vec b a) (vec c a) W b1 b7)
  rw [vcr_crR] at HC4
  unfold insB
  generalize vec b a = V1 at *
  generalize vec s a = V2 at *
  generalize vec c b = V3 at *
  generalize vec s b = V4 at *
  generalize vec a c = V5 at *
  generalize vec s c = V6 at *
  generalize vec c a = V7 at *
  generalize cr a b s = X at *
  generalize cr b c s = Y at *
  generalize cr c a s = Z at *
  generalize cr a b c = T at *
  clear b1 b2 b3 b4 b5 b6 b7 ha hb hc hs
  go_enter Tryz.func47, Tryz.ntmps47
  go_wp2_with fail
  have x0 := ((((Blk.new w 24 (spA a)).alloc (.cells (spA b) 24)).alloc (.cells (spA c) 24)).alloc (.cells (spA s) 24))
  have x1 := (((Blk.new (w.alloc (.cells (spA a) 24)) 24 (spA b)).alloc (.cells (spA c) 24)).alloc (.cells (spA s) 24))
  have x2 := ((Blk.new ((w.alloc (.cells (spA a) 24)).alloc (.cells (spA b) 24)) 24 (spA c)).alloc (.cells (spA s) 24))
  have x3 := (Blk.new (((w.alloc (.cells (spA a) 24)).alloc (.cells (spA b) 24)).alloc (.cells (spA c) 24)) 24 (spA s))
  simp only [World.size_alloc] at x1 x2 x3
  have B0 := (bl_alloc (bl_alloc (bl_alloc (bl_alloc (below_refl w) (.cells (spA a) 24)) (.cells (spA b) 24)) (.cells (spA c) 24)) (.cells (spA s) 24))
  generalize ((((w.alloc (.cells (spA a) 24)).alloc (.cells (spA b) 24)).alloc (.cells (spA c) 24)).alloc (.cells (spA s) 24)) = W at *
  have p0_0 := x0.cell 0
  have p0_1 := x0.cell 1
  have p1_0 := x1.cell 0
  have p1_1 := x1.cell 1
  have p2_0 := x2.cell 0
  have p2_1 := x2.cell 1
  have p3_0 := x3.cell 0
  have p3_1 := x3.cell 1
  simp only [List.getElem?_toArray, List.getElem?_cons_zero, List.getElem?_cons_succ] at p0_0 p0_1 p1_0 p1_1 p2_0 p2_1 p3_0 p3_1
  have z0 := x0.lt
  have z1 := x1.lt
  have z2 := x2.lt
  have z3 := x3.lt
  clear x0 x1 x2 x3
  go_region_held3 (fun w' => (∀ b o, b < W.heap.size → w'.cell? ⟨b, o, none⟩ = W.cell? ⟨b, o, none⟩) ∧ (∀ b o, b < W.heap.size → w'.frozen? ⟨b, o, none⟩ = W.frozen? ⟨b, o, none⟩) ∧ Below W.heap.size W w') ((first | assumption | (refine kp_of ?_; (repeat' (first | assumption | exact below_refl _ | refine bl_alloc ?_ _ | refine Below.setCell ?_ ?_ _ | refine below_draw ?_ | refine below_drewN ?_ _ | refine below_tr ?_ (by assumption))) <;> (first | omega | (simp; done) | (simp; omega))))) ((first | (go_at_call 72; ((with_reducible refine (HM1.out _).mono ?_); rintro e w11 ⟨rfl, hb11⟩; obtain ⟨hc11, hf11⟩ := bcell hb11; have hz11 := hb11.size; (try simp [sz_drew, sz_drewN] at hz11); (try simp only [sz_drew, sz_drewN] at hc11 hf11))) | (go_at_call 72; ((with_reducible refine (HM2.out _).mono ?_); rintro e w12 ⟨rfl, hb12⟩; obtain ⟨hc12, hf12⟩ := bcell hb12; have hz12 := hb12.size; (try simp [sz_drew, sz_drewN] at hz12); (try simp only [sz_drew, sz_drewN] at hc12 hf12))) | (go_at_call 72; ((with_reducible refine (HM3.out _).mono ?_); rintro e w13 ⟨rfl, hb13⟩; obtain ⟨hc13, hf13⟩ := bcell hb13; have hz13 := hb13.size; (try simp [sz_drew, sz_drewN] at hz13); (try simp only [sz_drew, sz_drewN] at hc13 hf13))) | (go_at_call 72; ((with_reducible refine (HM4.out _).mono ?_); rintro e w14 ⟨rfl, hb14⟩; obtain ⟨hc14, hf14⟩ := bcell hb14; have hz14 := hb14.size; (try simp [sz_drew, sz_drewN] at hz14); (try simp only [sz_drew, sz_drewN] at hc14 hf14))) | (go_at_call 72; ((with_reducible refine (HM5.out _).mono ?_); rintro e w15 ⟨rfl, hb15⟩; obtain ⟨hc15, hf15⟩ := bcell hb15; have hz15 := hb15.size; (try simp [sz_drew, sz_drewN] at hz15); (try simp only [sz_drew, sz_drewN] at hc15 hf15))) | (go_at_call 72; ((with_reducible refine (HM6.out _).mono ?_); rintro e w16 ⟨rfl, hb16⟩; obtain ⟨hc16, hf16⟩ := bcell hb16; have hz16 := hb16.size; (try simp [sz_drew, sz_drewN] at hz16); (try simp only [sz_drew, sz_drewN] at hc16 hf16))) | (go_at_call 71; ((with_reducible refine (HC1.out _).mono ?_); rintro e w21 ⟨rfl, hb21⟩; obtain ⟨hc21, hf21⟩ := bcell hb21; have hz21 := hb21.size; (try simp [sz_drew, sz_drewN] at hz21); (try simp only [sz_drew, sz_drewN] at hc21 hf21))) | (go_at_call 71; ((with_reducible refine (HC2.out _).mono ?_); rintro e w22 ⟨rfl, hb22⟩; obtain ⟨hc22, hf22⟩ := bcell hb22; have hz22 := hb22.size; (try simp [sz_drew, sz_drewN] at hz22); (try simp only [sz_drew, sz_drewN] at hc22 hf22))) | (go_at_call 71; ((with_reducible refine (HC3.out _).mono ?_); rintro e w23 ⟨rfl, hb23⟩; obtain ⟨hc23, hf23⟩ := bcell hb23; have hz23 := hb23.size; (try simp [sz_drew, sz_drewN] at hz23); (try simp only [sz_drew, sz_drewN] at hc23 hf23)))))
  go_wp2_with fail
  refine wp_world ?_
  intro W2 hW2
  have B2 : Below W.heap.size W W2 := by rw [hW2]; (repeat' (first | assumption | exact below_refl _ | refine bl_alloc ?_ _ | refine Below.setCell ?_ ?_ _ | refine below_draw ?_ | refine below_drewN ?_ _ | refine below_tr ?_ (by assumption))) <;> (first | omega | (simp; done) | (simp; omega))
  clear hW2
  have q0_0 : W2.cell? ⟨w.heap.size, 0, none⟩ = some (.int .i64 a.x) := by rw [(bcell B2).1 _ _ z0]; exact p0_0
  have q0_1 : W2.cell? ⟨w.heap.size, 1, none⟩ = some (.int .i64 a.y) := by rw [(bcell B2).1 _ _ z0]; exact p0_1
  have y0 := Nat.lt_of_lt_of_le z0 B2.size
  have q1_0 : W2.cell? ⟨w.heap.size + 1, 0, none⟩ = some (.int .i64 b.x) := by rw [(bcell B2).1 _ _ z1]; exact p1_0
  have q1_1 : W2.cell? ⟨w.heap.size + 1, 1, none⟩ = some (.int .i64 b.y) := by rw [(bcell B2).1 _ _ z1]; exact p1_1
  have y1 := Nat.lt_of_lt_of_le z1 B2.size
  have q2_0 : W2.cell? ⟨w.heap.size + 1 + 1, 0, none⟩ = some (.int .i64 c.x) := by rw [(bcell B2).1 _ _ z2]; exact p2_0
  have q2_1 : W2.cell? ⟨w.heap.size + 1 + 1, 1, none⟩ = some (.int .i64 c.y) := by rw [(bcell B2).1 _ _ z2]; exact p2_1
  have y2 := Nat.lt_of_lt_of_le z2 B2.size
  have BB := below_tr B0 B2
  clear p0_0 p0_1 p1_0 p1_1 p2_0 p2_1 p3_0 p3_1 z0 z1 z2 z3 B0 B2
  go_region_held3 (fun w' => (∀ b o, b < W2.heap.size → w'.cell? ⟨b, o, none⟩ = W2.cell? ⟨b, o, none⟩) ∧ (∀ b o, b < W2.heap.size → w'.frozen? ⟨b, o, none⟩ = W2.frozen? ⟨b, o, none⟩) ∧ Below W2.heap.size W2 w') ((first | assumption | (refine kp_of ?_; (repeat' (first | assumption | exact below_refl _ | refine bl_alloc ?_ _ | refine Below.setCell ?_ ?_ _ | refine below_draw ?_ | refine below_drewN ?_ _ | refine below_tr ?_ (by assumption))) <;> (first | omega | (simp; done) | (simp; omega))))) ((first | (go_at_call 72; ((with_reducible refine (HM1.out _).mono ?_); rintro e w31 ⟨rfl, hb31⟩; obtain ⟨hc31, hf31⟩ := bcell hb31; have hz31 := hb31.size; (try simp [sz_drew, sz_drewN] at hz31); (try simp only [sz_drew, sz_drewN] at hc31 hf31))) | (go_at_call 72; ((with_reducible refine (HM7.out _).mono ?_); rintro e w37 ⟨rfl, hb37⟩; obtain ⟨hc37, hf37⟩ := bcell hb37; have hz37 := hb37.size; (try simp [sz_drew, sz_drewN] at hz37); (try simp only [sz_drew, sz_drewN] at hc37 hf37))) | (go_at_call 71; ((with_reducible refine (HC4.out _).mono ?_); rintro e w38 ⟨rfl, hb38⟩; obtain ⟨hc38, hf38⟩ := bcell hb38; have hz38 := hb38.size; (try simp [sz_drew, sz_drewN] at hz38); (try simp only [sz_drew, sz_drewN] at hc38 hf38)))))
  go_wp2
  all_goals go_ret
  all_goals exact ⟨ret_bool (by first | (simp_all; done) | (simp_all; omega) | (simp_all; (repeat intro _); omega) | (simp_all; constructor <;> omega)), below_tr BB (by (repeat' (first | assumption | exact below_refl _ | refine bl_alloc ?_ _ | refine Below.setCell ?_ ?_ _ | refine below_draw ?_ | refine below_drewN ?_ _ | refine below_tr ?_ (by assumption))) <;> (first | omega | (simp; done) | (simp; omega)))⟩
end Go.Proofs.YtkeojokbpjdhpaaGreatDoor
