/- Fell: Towards of the program. -/
import Derived.Test.YtkeojokbpjdhpaaDoorFz3
import Derived.Test.YtkeojokbpjdhpaaDoorFwa
set_option linter.unusedSimpArgs false
set_option linter.unusedVariables false
namespace Go.Proofs.YtkeojokbpjdhpaaDoor
open Go.RowKit

def spA2 (s t : Sp) : Array Value := #[.int .i64 s.x, .int .i64 s.y, .int .i64 t.x, .int .i64 t.y]
theorem rd_two (w : World) (s t : Sp) : Rd Sp.cs 2 (w.alloc (.cells (spA2 s t) 24)) (some ⟨w.heap.size, 0, none⟩) [s, t] := by
  refine row_rd (cur := spA2 s t) (Blk.new w 24 (spA2 s t)) ?_
  intro k x hx r u hu
  rcases k with _ | _ | k
  · simp at hx; subst hx
    rcases r with _ | _ | r <;> simp [Sp.cs, spA2] at hu ⊢ <;> exact hu
  · simp at hx; subst hx
    rcases r with _ | _ | r <;> simp [Sp.cs, spA2] at hu ⊢ <;> exact hu
  · simp at hx
theorem p_directionZ (A : Option Addr) (l : List Sp) (c : Nat) (s : Sp) (w : World) (h12 : l.length ≤ 24) (hne : l ≠ []) (hbd : ∀ x ∈ l, Bd 10000 x) (hnd : l.Nodup) (hs : Bd 10000 s) (hw : ¬ Held l s) (hR : Rd Sp.cs 2 w A l) :
    Calls Tryd.prog 56 #[.slice A l.length c, spV s] w fun e w' => e = .returned (spV (dirZ l s)) ∧ Below w.heap.size w w' := by
  refine (p_direction A l c s w h12 hne hbd hnd hs hw hR).mono ?_
  rintro e w' ⟨d, rfl, hd, hb⟩
  exact ⟨by rw [dirP_uniq hd (dirZ_dir hbd hnd hne hw)], hb⟩
set_option maxHeartbeats 4000000 in
theorem p_towards (A : Option Addr) (l : List Sp) (c : Nat) (s t : Sp) (w : World) (h12 : l.length ≤ 24) (hne : l ≠ []) (hbd : ∀ x ∈ l, Bd 10000 x) (hnd : l.Nodup) (hs : Bd 10000 s) (ht : Bd 10000 t) (hw : ¬ Held l s) (hR : Rd Sp.cs 2 w A l) :
    Calls Tryd.prog 54 #[.slice A l.length c, spV s, spV t] w fun e w' => e = .returned (.bool (twZ l s t)) ∧ Below w.heap.size w w' := by
  have bd := dirP_bd hbd hnd hne hw hs (dirZ_dir hbd hnd hne hw)
  have bu : Bd 20000 (vec t s) := vec_bd (m := 10000) (n := 10000) ht hs
  have HD := Lib.hid (fun (W : World) (hW : Below w.heap.size w W) => p_directionZ A l c s W h12 hne hbd hnd hs hw (hR.on hW))
  have HL := Lib.hid (fun W => p_less t s W (ht.mono (by omega)) (hs.mono (by omega)))
  have HT := Lib.hid (fun W => p_dot (dirZ l s) (vec t s) W (bd.mono (by omega)) (bu.mono (by omega)))
  unfold twZ
  clear bd bu hbd hnd hne hs ht hw hR h12
  generalize dirZ l s = d at *
  generalize vec t s = u at *
  generalize vdot d u = D at *
  obtain ⟨W1, hW1⟩ : ∃ W1, W1 = (w.alloc (.cells (spA s) 24)).alloc (.cells (spA t) 24) := ⟨_, rfl⟩
  have x0 : Blk W1 w.heap.size 24 (spA s) := by rw [hW1]; exact (Blk.new w 24 (spA s)).alloc (.cells (spA t) 24)
  have y0 : Blk W1 (w.heap.size + 1) 24 (spA t) := by
    have := Blk.new (w.alloc (.cells (spA s) 24)) 24 (spA t)
    rw [World.size_alloc] at this
    rw [hW1]; exact this
  have B0 : Below w.heap.size w W1 := by rw [hW1]; exact bl_alloc (bl_alloc (below_refl w) (.cells (spA s) 24)) (.cells (spA t) 24)
  have p0 := x0.cell 0
  have p1 := x0.cell 1
  have q0 := y0.cell 0
  have q1 := y0.cell 1
  simp only [List.getElem?_toArray, List.getElem?_cons_zero, List.getElem?_cons_succ] at p0 p1 q0 q1
  have zx := x0.lt
  have zy := y0.lt
  go_enter Tryd.func54, Tryd.ntmps54
  go_wp2_with fail
  rw [show ((w.alloc (.cells #[.int .i64 s.x, .int .i64 s.y] 24)).alloc (.cells #[.int .i64 t.x, .int .i64 t.y] 24)) = W1 from hW1.symm]
  clear hW1
  go_region_held3 (fun w' => (∀ b o, b < W1.heap.size → w'.cell? ⟨b, o, none⟩ = W1.cell? ⟨b, o, none⟩) ∧ (∀ b o, b < W1.heap.size → w'.frozen? ⟨b, o, none⟩ = W1.frozen? ⟨b, o, none⟩) ∧ Below W1.heap.size W1 w') ((first | assumption | (refine kp_of ?_; (repeat' (first | assumption | exact below_refl _ | refine bl_alloc ?_ _ | refine Below.setCell ?_ ?_ _ | refine below_draw ?_ | refine below_drewN ?_ _ | refine below_tr ?_ (by assumption))) <;> (first | omega | (simp; done) | (simp; omega))))) ((first | (go_at_call 56; ((with_reducible refine (HD.out _ (by (repeat' (first | assumption | exact below_refl _ | refine bl_alloc ?_ _ | refine Below.setCell ?_ ?_ _ | refine below_draw ?_ | refine below_drewN ?_ _ | refine below_tr ?_ (by assumption))) <;> (first | omega | (simp; done) | (simp; omega)))).mono ?_); rintro e w3 ⟨rfl, hb3⟩; obtain ⟨hc3, hf3⟩ := bcell hb3; have hz3 := hb3.size; (try simp [sz_drew, sz_drewN] at hz3); (try simp only [sz_drew, sz_drewN] at hc3 hf3))) | (go_at_call 73; ((with_reducible refine (HL.out _).mono ?_); rintro e w4 ⟨rfl, hb4⟩; obtain ⟨hc4, hf4⟩ := bcell hb4; have hz4 := hb4.size; (try simp [sz_drew, sz_drewN] at hz4); (try simp only [sz_drew, sz_drewN] at hc4 hf4))) | (go_at_call 74; ((with_reducible refine (HT.out _).mono ?_); rintro e w5 ⟨rfl, hb5⟩; obtain ⟨hc5, hf5⟩ := bcell hb5; have hz5 := hb5.size; (try simp [sz_drew, sz_drewN] at hz5); (try simp only [sz_drew, sz_drewN] at hc5 hf5)))))
  go_wp2
  go_ret
  exact ⟨rfl, below_tr B0 (by (repeat' (first | assumption | exact below_refl _ | refine bl_alloc ?_ _ | refine Below.setCell ?_ ?_ _ | refine below_draw ?_ | refine below_drewN ?_ _ | refine below_tr ?_ (by assumption))) <;> (first | omega | (simp; done) | (simp; omega)))⟩
def twE (l : List Pr) (s t : Sp) : Int := if askE l [s, t] = 0 then flE l s else askE l [s, t]
def twD (l : List Pr) (s t : Sp) : Bool := if twE l s t = 0 then twZ (spL l) s t else false
theorem askE_two {l : List Pr} {s t : Sp} (h : askE l [s, t] = 0) : vP l = true ∧ isS s = true ∧ isS t = true := by
  obtain ⟨h1, h2⟩ := askE_z h
  simp at h2
  exact ⟨h1, h2.1, h2.2⟩
theorem askE_same (l : List Pr) (s : Sp) : askE l [s, s] = stE l s := by
  unfold stE askE; simp
theorem p_askedTwo (A : Option Addr) (l : List Pr) (s t : Sp) (c b : Nat) (w : World) (hl : l.length ≤ 100000) (hR : Rd Pr.cs 3 w A l) (hS : Rd Sp.cs 2 w (some ⟨b, 0, none⟩) [s, t]) :
    Calls Tryd.prog 44 #[.slice A l.length c, .slice (some ⟨b, 0, none⟩) 2 2] w fun e w' => e = .returned (.int .i64 (askE l [s, t])) ∧ Below w.heap.size w w' := p_asked A _ l [s, t] c 2 w hl (by simp) hR hS
end Go.Proofs.YtkeojokbpjdhpaaDoor
