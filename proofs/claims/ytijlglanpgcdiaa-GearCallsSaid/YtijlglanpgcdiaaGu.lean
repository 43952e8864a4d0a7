/- Gear: Borne by both. -/
import Derived.Test.YtijlglanpgcdiaaGs
set_option linter.unusedSimpArgs false
set_option linter.unusedVariables false
namespace Go.Proofs.Ytijlglanpgcdiaa
open Go.RowKit Go.Maps

def GotW (w' : World) (v : Value) (l : List Int) : Prop := ∃ A c, v = .slice A l.length c ∧ Rd zC 1 w' A l
theorem gotW_nil (w' : World) : GotW w' (.slice none 0 0) [] := ⟨none, 0, rfl, fun h => absurd rfl h⟩
def boE (g : List It) (r : List Lk) (L : List Int) : Int := if (vldG g && vldR g r) = true then ldE r L else 1
def boL (g : List It) (r : List Lk) (L : List Int) : List Int := if boE g r L = 0 then boZ r L else []
theorem ldE_z {r : List Lk} {L : List Int} (h : ldE r L = 0) : L.length = (endN r r.length).length ∧ L.all okZ = true := by
  unfold ldE at h
  split at h
  · rename_i h1
    split at h
    · rename_i h2; exact ⟨h1, h2⟩
    · omega
  · omega
theorem boZ_len {g : List It} {r : List Lk} (hv : VR g r) {L : List Int} (h : ldE r L = 0) : (boZ r L).length = r.length := by
  obtain ⟨h1, h2⟩ := ldE_z h
  rw [boZ_is hv h2 h1]; simp
set_option maxHeartbeats 1000000 in
set_option maxRecDepth 20000 in
theorem p_Borne (A B C : Option Addr) (g : List It) (r : List Lk) (L : List Int) (c d f : Nat) (w : World) (hl : g.length ≤ 100000) (hn : r.length ≤ 100000) (hk : L.length ≤ 100000) (hR : Rd It.cs 4 w A g) (hW : ∀ x ∈ g, IW x) (hS : Rd Lk.cs 2 w B r) (hV : ∀ x ∈ r, LW x) (hL : Rd zC 1 w C L) :
    Calls Try.prog 27 #[.slice A g.length c, .slice B r.length d, .slice C L.length f] w fun e w' => ∃ v, e = .returned (.tuple #[v, .int .i64 (boE g r L)]) ∧ GotW w' v (boL g r L) ∧ Below w.heap.size w w' := by
  have H1 := Lib.hid (fun b h => p_ValidRigV (c := c) (d := d) (b := b) h hl hn hR hW hS hV)
  have H2 := Lib.hid (fun W (h : Below w.heap.size w W) => p_loaded B C r L d f W hn hk (hS.on h) (hL.on h))
  cases h : (vldG g && vldR g r)
  · have HE := Lib.hid (show boE g r L = 1 by unfold boE; rw [if_neg (by simp [h])])
    have HL := Lib.hid (show boL g r L = [] by unfold boL; rw [HE.out]; rfl)
    go_enter Try.func27, Try.ntmps27
    go_wp2_with (go_at_call 17; ((with_reducible refine (H1.out _ h).mono ?_); rintro e w1 ⟨rfl, hb1⟩; obtain ⟨hc1, hf1⟩ := bcell hb1; have hz1 := hb1.size; (try simp [sz_drew, sz_drewN] at hz1); (try simp only [sz_drew, sz_drewN] at hc1 hf1)))
    go_ret2
    exact ⟨_, by rw [HE.out]; rfl, by rw [HL.out]; exact gotW_nil _, by (repeat' (first | assumption | exact below_refl _ | refine bl_alloc ?_ _ | refine Below.setCell ?_ ?_ _ | refine below_draw ?_ | refine below_drewN ?_ _ | refine below_tr ?_ (by assumption))) <;> (first | omega | (simp; done) | (simp; omega))⟩
  have hv := vr_of h
  have HE := Lib.hid (show boE g r L = ldE r L by unfold boE; rw [if_pos h])
  by_cases h2 : ldE r L = 0
  · have HL := Lib.hid (show boL g r L = boZ r L by unfold boL; rw [HE.out, if_pos h2])
    obtain ⟨h3, h4⟩ := ldE_z h2
    have HZ := Lib.hid (boZ_len hv h2)
    have H3 := Lib.hid (fun W (h : Below w.heap.size w W) => p_borne B C g r L d f W hv h4 h3 (hS.on h) (hL.on h))
    rw [h2] at H2 HE
    clear h2 h3 h4
    go_enter Try.func27, Try.ntmps27
    go_wp2_with (first
      | (go_at_call 17; ((with_reducible refine (H1.out _ h).mono ?_); rintro e w1 ⟨rfl, hb1⟩; obtain ⟨hc1, hf1⟩ := bcell hb1; have hz1 := hb1.size; (try simp [sz_drew, sz_drewN] at hz1); (try simp only [sz_drew, sz_drewN] at hc1 hf1)))
      | ((go_at_call 65; ((with_reducible refine (H2.out _ hb1).mono ?_); rintro e w2 ⟨rfl, hb2⟩; obtain ⟨hc2, hf2⟩ := bcell hb2; have hz2 := hb2.size; (try simp [sz_drew, sz_drewN] at hz2); (try simp only [sz_drew, sz_drewN] at hc2 hf2))); have B2 := below_tr hb1 hb2)
      | (go_at_call 66; ((with_reducible refine (H3.out _ B2).mono ?_); rintro e w3 ⟨A3, c3, rfl, _, hr3, hb3⟩)))
    go_ret2
    exact ⟨_, by rw [HE.out]; rfl, by rw [HL.out]; exact ⟨some A3, c3, by rw [HZ.out]; rfl, hr3⟩, below_tr B2 hb3⟩
  · have HL := Lib.hid (show boL g r L = [] by unfold boL; rw [HE.out, if_neg h2])
    have h5 : (ldE r L != 0) = true := by simpa using h2
    generalize ldE r L = X at *
    clear h2
    go_enter Try.func27, Try.ntmps27
    go_wp2_with (first | (go_at_call 17; ((with_reducible refine (H1.out _ h).mono ?_); rintro e w1 ⟨rfl, hb1⟩; obtain ⟨hc1, hf1⟩ := bcell hb1; have hz1 := hb1.size; (try simp [sz_drew, sz_drewN] at hz1); (try simp only [sz_drew, sz_drewN] at hc1 hf1))) | (go_at_call 65; ((with_reducible refine (H2.out _ hb1).mono ?_); rintro e w2 ⟨rfl, hb2⟩; obtain ⟨hc2, hf2⟩ := bcell hb2; have hz2 := hb2.size; (try simp [sz_drew, sz_drewN] at hz2); (try simp only [sz_drew, sz_drewN] at hc2 hf2))))
    go_ret2
    exact ⟨_, by rw [HE.out]; rfl, by rw [HL.out]; exact gotW_nil _, by (repeat' (first | assumption | exact below_refl _ | refine bl_alloc ?_ _ | refine Below.setCell ?_ ?_ _ | refine below_draw ?_ | refine below_drewN ?_ _ | refine below_tr ?_ (by assumption))) <;> (first | omega | (simp; done) | (simp; omega))⟩

set_option maxHeartbeats 1000000 in
set_option maxRecDepth 20000 in
theorem r_Borne (A B C : Option Addr) (g : List It) (r : List Lk) (L : List Int) (c d f : Nat) (w : World) (hl : g.length ≤ 100000) (hn : r.length ≤ 100000) (hk : L.length ≤ 100000) (hR : Rd It.cs 4 w A g) (hW : ∀ x ∈ g, IW x) (hS : Rd Lk.cs 2 w B r) (hV : ∀ x ∈ r, LW x) (hL : Rd zC 1 w C L) :
    Calls Try.prog 28 #[.slice A g.length c, .slice B r.length d, .slice C L.length f] w fun e w' => ∃ v, e = .returned (.tuple #[v, .int .i64 (boE g r L)]) ∧ GotW w' v (boL g r L) ∧ Below w.heap.size w w' := by
  have H1 := Lib.hid (fun b h => r_ValidRigV (c := c) (d := d) (b := b) h hl hn hR hW hS hV)
  have H2 := Lib.hid (fun W (h : Below w.heap.size w W) => r_loaded B C r L d f W hn hk (hS.on h) (hL.on h))
  cases h : (vldG g && vldR g r)
  · have HE := Lib.hid (show boE g r L = 1 by unfold boE; rw [if_neg (by simp [h])])
    have HL := Lib.hid (show boL g r L = [] by unfold boL; rw [HE.out]; rfl)
    go_enter Try.func28, Try.ntmps28
    go_wp2_with (go_at_call 18; ((with_reducible refine (H1.out _ h).mono ?_); rintro e w1 ⟨rfl, hb1⟩; obtain ⟨hc1, hf1⟩ := bcell hb1; have hz1 := hb1.size; (try simp [sz_drew, sz_drewN] at hz1); (try simp only [sz_drew, sz_drewN] at hc1 hf1)))
    go_ret2
    exact ⟨_, by rw [HE.out]; rfl, by rw [HL.out]; exact gotW_nil _, by (repeat' (first | assumption | exact below_refl _ | refine bl_alloc ?_ _ | refine Below.setCell ?_ ?_ _ | refine below_draw ?_ | refine below_drewN ?_ _ | refine below_tr ?_ (by assumption))) <;> (first | omega | (simp; done) | (simp; omega))⟩
  have hv := vr_of h
  have HE := Lib.hid (show boE g r L = ldE r L by unfold boE; rw [if_pos h])
  by_cases h2 : ldE r L = 0
  · have HL := Lib.hid (show boL g r L = boZ r L by unfold boL; rw [HE.out, if_pos h2])
    obtain ⟨h3, h4⟩ := ldE_z h2
    have HZ := Lib.hid (boZ_len hv h2)
    have H3 := Lib.hid (fun W (h : Below w.heap.size w W) => r_borne B C g r L d f W hv h4 h3 (hS.on h) (hL.on h))
    rw [h2] at H2 HE
    clear h2 h3 h4
    go_enter Try.func28, Try.ntmps28
    go_wp2_with (first
      | (go_at_call 18; ((with_reducible refine (H1.out _ h).mono ?_); rintro e w1 ⟨rfl, hb1⟩; obtain ⟨hc1, hf1⟩ := bcell hb1; have hz1 := hb1.size; (try simp [sz_drew, sz_drewN] at hz1); (try simp only [sz_drew, sz_drewN] at hc1 hf1)))
      | ((go_at_call 67; ((with_reducible refine (H2.out _ hb1).mono ?_); rintro e w2 ⟨rfl, hb2⟩; obtain ⟨hc2, hf2⟩ := bcell hb2; have hz2 := hb2.size; (try simp [sz_drew, sz_drewN] at hz2); (try simp only [sz_drew, sz_drewN] at hc2 hf2))); have B2 := below_tr hb1 hb2)
      | (go_at_call 68; ((with_reducible refine (H3.out _ B2).mono ?_); rintro e w3 ⟨A3, c3, rfl, _, hr3, hb3⟩)))
    go_ret2
    exact ⟨_, by rw [HE.out]; rfl, by rw [HL.out]; exact ⟨some A3, c3, by rw [HZ.out]; rfl, hr3⟩, below_tr B2 hb3⟩
  · have HL := Lib.hid (show boL g r L = [] by unfold boL; rw [HE.out, if_neg h2])
    have h5 : (ldE r L != 0) = true := by simpa using h2
    generalize ldE r L = X at *
    clear h2
    go_enter Try.func28, Try.ntmps28
    go_wp2_with (first | (go_at_call 18; ((with_reducible refine (H1.out _ h).mono ?_); rintro e w1 ⟨rfl, hb1⟩; obtain ⟨hc1, hf1⟩ := bcell hb1; have hz1 := hb1.size; (try simp [sz_drew, sz_drewN] at hz1); (try simp only [sz_drew, sz_drewN] at hc1 hf1))) | (go_at_call 67; ((with_reducible refine (H2.out _ hb1).mono ?_); rintro e w2 ⟨rfl, hb2⟩; obtain ⟨hc2, hf2⟩ := bcell hb2; have hz2 := hb2.size; (try simp [sz_drew, sz_drewN] at hz2); (try simp only [sz_drew, sz_drewN] at hc2 hf2))))
    go_ret2
    exact ⟨_, by rw [HE.out]; rfl, by rw [HL.out]; exact gotW_nil _, by (repeat' (first | assumption | exact below_refl _ | refine bl_alloc ?_ _ | refine Below.setCell ?_ ?_ _ | refine below_draw ?_ | refine below_drewN ?_ _ | refine below_tr ?_ (by assumption))) <;> (first | omega | (simp; done) | (simp; omega))⟩

end Go.Proofs.Ytijlglanpgcdiaa
