/- Wind cards: Resumes of the program. -/
import Derived.Test.YtkigdjfagcnejaaDoorDe
set_option linter.unusedSimpArgs false
set_option linter.unusedVariables false
namespace Go.Proofs.YtkigdjfagcnejaaDoor
open Go.RowKit

/-- one minute of the watch -/
theorem w_next {b : Nat} {r : Ru} {st g : Int} {w : World} (h : Wt w b r st) (h1 : st < 1000) (hg : -1 ≤ g) : Calls Tryd.prog (wfn st) #[.pointer (some ⟨b, 0, none⟩), .int .i64 g] w fun e w' => e = .returned (.bool (gB r st g)) ∧ Wt w' b r (nx r st g) ∧ Stp (fun x => x = b) w w' := by
  unfold wfn
  split
  · exact p_going _ r _ g w h (by assumption) hg
  · exact p_stopped _ r _ g w h (by omega) h1 hg
theorem wfn_enters (st : Int) : ∀ args w, (callFunc (wfn st) args).run Tryd.prog w = .ok (.enter (wfn st) args) w := by
  intro args w
  unfold wfn
  split
  · exact enters_of Tryd.func84 (by kernel_rfl) rfl args w
  · exact enters_of Tryd.func94 (by kernel_rfl) rfl args w
theorem wt_next {w : World} {b : Nat} {r : Ru} {st : Int} (h : Wt w b r st) : w.cell? ⟨b, 4, none⟩ = some (.func (.func (wfn st)) #[.pointer (some ⟨b, 0, none⟩)] #[]) := h.cell 4
def rsE (r : Ru) (l : List Int) : Int := if aE r l = 0 then (if stA r l l.length < 0 then 10 else 0) else 1
def rsN (r : Ru) (l : List Int) : Int := if rsE r l = 0 then r.c - stA r l l.length else 0
set_option maxHeartbeats 4000000 in
set_option maxRecDepth 20000 in
theorem p_Resumes (A : Option Addr) (r : Ru) (l : List Int) (c : Nat) (w : World) (hl : l.length ≤ 100000) (hR : Rd zC 1 w A l) :
    Calls Tryd.prog 14 #[ruV r, .slice A l.length c] w fun e w' => e = .returned (.tuple #[.int .i64 (rsN r l), .int .i64 (rsE r l)]) ∧ Below w.heap.size w w' := by
  have H1 := Lib.hid (fun W (h : Below w.heap.size w W) => p_asked A r l c W hl (hR.on h))
  by_cases h1 : aE r l = 0
  rotate_left
  · have HE := Lib.hid (show rsE r l = 1 by unfold rsE; rw [if_neg h1])
    have HB := Lib.hid (show rsN r l = 0 by unfold rsN; rw [HE.out]; rfl)
    rw [aE_one h1] at H1
    clear h1
    go_enter Tryd.func14, Tryd.ntmps14
    go_wp2_with (go_at_call 50; ((with_reducible refine (H1.out _ (bl_alloc (below_refl _) _)).mono ?_); rintro e w1 ⟨rfl, hb1⟩; obtain ⟨hc1, hf1⟩ := bcell hb1; have hz1 := hb1.size; (try simp [sz_drew, sz_drewN] at hz1); (try simp only [sz_drew, sz_drewN] at hc1 hf1); have z1_0 : w.heap.size < w1.heap.size := (by omega)))
    go_ret2
    exact ⟨by rw [HE.out, HB.out]; rfl, by (repeat' (first | assumption | exact below_refl _ | refine bl_alloc ?_ _ | refine Below.setCell ?_ ?_ _ | refine below_draw ?_ | refine below_drewN ?_ _ | refine below_tr ?_ (by assumption))) <;> (first | omega | (simp; done) | (simp; omega))⟩
  rw [h1] at H1
  obtain ⟨hv, hg⟩ := a_z h1
  have HST := Lib.hid (stA_bd hv l)
  have HRC := Lib.hid (vru hv)
  have HGU := Lib.hid (vgu hg).2
  have HZ := Lib.hid h1
  clear h1 hv hg
  go_enter Tryd.func14, Tryd.ntmps14
  go_wp2_with fail
  have x0 := Blk.new w 23 #[.int .i64 r.s, .int .i64 r.g, .int .i64 r.c]
  have B0 := bl_alloc (below_refl w) (.cells #[.int .i64 r.s, .int .i64 r.g, .int .i64 r.c] 23)
  generalize w.alloc (.cells #[.int .i64 r.s, .int .i64 r.g, .int .i64 r.c] 23) = W0 at *
  refine (H1.out _ B0).mono ?_
  rintro e w1 ⟨rfl, hb1⟩
  have B1 := below_tr B0 hb1
  have x1 := x0.below hb1 x0.lt
  have q0 := x1.cell 0
  have q1 := x1.cell 1
  have q2 := x1.cell 2
  simp only [List.getElem?_toArray, List.getElem?_cons_zero, List.getElem?_cons_succ] at q0 q1 q2
  clear hb1 x0 B0 H1
  go_wp2_with fail
  refine (p_newWatch r w1).mono ?_
  rintro e w2 ⟨rfl, hw2, hb2, _⟩
  have B2 := below_tr B1 hb2
  have hD2 : w.heap.size ≤ w1.heap.size + 1 := by have := B1.size; omega
  clear q0 q1 q2 x1 hb2
  generalize w1.heap.size + 1 = D at *
  clear B1
  go_wp2_with fail
  go_loopw [21] (fun i wr => ∃ k : Nat, k ≤ l.length ∧ i = .int .i64 k ∧ Below w.heap.size w wr ∧ Wt wr D r (stA r l k)) (fun i _ => l.length - (intOf i).toNat)
  case atStart => exact ⟨0, by omega, rfl, B2, hw2⟩
  case round =>
    clear hw2 B2
    obtain ⟨k, hk, rfl, hbw, hw⟩ := hrel
    have k0 : (0 : Int) ≤ (k : Int) := Int.natCast_nonneg _
    by_cases hlt : k < l.length
    · have k1 : (k : Int) < (l.length : Int) := by omega
      obtain ⟨x, b, off, hx, rfl, hb, d0⟩ := rd_int (hR.on hbw) hlt
      have hlx : l.getD k 0 = x := getD_of hx
      have hsN : stA r l (k + 1) = nx r (stA r l k) x := by rw [stA, hlx]
      have HC := Lib.hid (w_next hw (by have := HST.out k; have := HRC.out; omega) (HGU.out k x hx).1)
      rw [← hsN] at HC
      have q4 := wt_next hw
      have hen := wfn_enters (stA r l k)
      generalize wfn (stA r l k) = wf at *
      clear hx hlx hsN hw
      go_wp2_with fail
      refine HC.out.mono ?_
      rintro e w3 ⟨rfl, hw3, hs3⟩
      have B3 := hbw.trans (hs3.toBelow hbw.size (fun b hb => by omega))
      go_wp2
      go_roundw
      case rel => exact ⟨k + 1, by omega, by go_num, B3, hw3⟩
      case measure => simp [intOf]; omega
    · obtain rfl : k = l.length := by omega
      have b0 := HST.out l.length
      have hrc := HRC.out
      by_cases hs : stA r l l.length < 0
      · have HE := Lib.hid (show rsE r l = 10 by unfold rsE; rw [if_pos HZ.out, if_pos hs])
        have HB := Lib.hid (show rsN r l = 0 by unfold rsN; rw [HE.out]; rfl)
        have HC := Lib.hid (w_next (g := 0) hw (by omega) (by omega))
        have hgb : gB r (stA r l l.length) 0 = true := by unfold gB; rw [decide_eq_true hs, decide_eq_true (by omega), decide_eq_true (by omega)]; rfl
        rw [hgb] at HC
        have q4 := wt_next hw
        have hen := wfn_enters (stA r l l.length)
        have hst := stA r l l.length
        generalize wfn (stA r l l.length) = wf at *
        clear hgb hw b0 hrc
        go_wp2_with fail
        go_loopw [32] (fun i wz => i = .int .i64 0 ∧ wz = wr) (fun i _ => 0)
        case atStart => exact ⟨rfl, rfl⟩
        case round =>
          obtain ⟨rfl, rfl⟩ := hrel
          go_wp2_with fail
          refine HC.out.mono ?_
          rintro e w3 ⟨rfl, hw3, hs3⟩
          have B3 := hbw.trans (hs3.toBelow hbw.size (fun b hb => by omega))
          go_wp2
          go_ret2
          exact ⟨by rw [HE.out, HB.out]; rfl, B3⟩
      · have HE := Lib.hid (show rsE r l = 0 by unfold rsE; rw [if_pos HZ.out, if_neg hs])
        have HB := Lib.hid (show rsN r l = r.c - stA r l l.length by unfold rsN; rw [if_pos HE.out])
        generalize stA r l l.length = σ at *
        go_wp2_with fail
        go_loopw [32] (fun i wz => ∃ n : Nat, (n : Int) + σ ≤ r.c ∧ i = .int .i64 n ∧ Below w.heap.size w wz ∧ Wt wz D r (if (n : Int) + σ < r.c then (n : Int) + σ else -1)) (fun i _ => 241 - (intOf i).toNat)
        case atStart => exact ⟨0, by simp; omega, rfl, hbw, by rw [if_pos (by simp; omega)]; simpa using hw⟩
        case round =>
          clear hbw hw
          rename World => wz
          obtain ⟨n, hn, rfl, hbz, hwz⟩ := hrel
          have n0 : (0 : Int) ≤ (n : Int) := Int.natCast_nonneg _
          have n1 : (n : Int) < 241 := by omega
          have hn1 : (n : Int) = 0 → σ < r.c := fun _ => by omega
          by_cases hlt : (n : Int) + σ < r.c
          · rw [if_pos hlt] at hwz
            have HC := Lib.hid (w_next (g := 0) hwz (by omega) (by omega))
            have hgb : gB r ((n : Int) + σ) 0 = false := by unfold gB; rw [decide_eq_false (by omega)]; rfl
            have hnx : nx r ((n : Int) + σ) 0 = if ((n + 1 : Nat) : Int) + σ < r.c then ((n + 1 : Nat) : Int) + σ else -1 := by
              unfold nx
              rw [if_neg (by omega), if_neg (by omega)]
              by_cases h : (n : Int) + σ + 1 = r.c
              · rw [if_pos h, if_neg (by omega)]
              · rw [if_neg h, if_pos (by omega)]; omega
            rw [hgb, hnx] at HC
            have q4 := wt_next hwz
            have hen := wfn_enters ((n : Int) + σ)
            generalize wfn ((n : Int) + σ) = wf at *
            clear hgb hnx hwz
            go_wp2_with fail
            refine HC.out.mono ?_
            rintro e w3 ⟨rfl, hw3, hs3⟩
            have B3 := hbz.trans (hs3.toBelow hbz.size (fun b hb => by omega))
            go_wp2
            go_roundw
            case rel => exact ⟨n + 1, by omega, by go_num, B3, hw3⟩
            case measure => simp [intOf]; omega
          · rw [if_neg hlt] at hwz
            have HC := Lib.hid (w_next (g := 0) hwz (by omega) (by omega))
            have hgb : gB r (-1) 0 = true := by unfold gB; rw [decide_eq_true (by omega), decide_eq_true (by omega), decide_eq_true (by omega)]; rfl
            rw [hgb] at HC
            have q4 := wt_next hwz
            have hen := wfn_enters (-1)
            have hnz : ¬ (n : Int) = 0 := by omega
            have hnz2 : ¬ n = 0 := by omega
            have HN := Lib.hid (show (n : Int) = r.c - σ by omega)
            generalize wfn (-1) = wf at *
            clear hgb hwz
            go_wp2_with fail
            refine HC.out.mono ?_
            rintro e w3 ⟨rfl, hw3, hs3⟩
            have B3 := hbz.trans (hs3.toBelow hbz.size (fun b hb => by omega))
            go_wp2
            go_ret2
            exact ⟨by rw [HE.out, HB.out, ← HN.out]; rfl, B3⟩
end Go.Proofs.YtkigdjfagcnejaaDoor
