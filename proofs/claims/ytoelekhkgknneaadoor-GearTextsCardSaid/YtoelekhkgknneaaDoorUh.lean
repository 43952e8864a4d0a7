/- Gear's texts: Format of the program. -/
import Derived.Test.YtoelekhkgknneaaDoorUd
set_option linter.unusedSimpArgs false
set_option linter.unusedVariables false
namespace Go.Proofs.YtoelekhkgknneaaDoor
open Go.RowKit Go.Lib

def fmG (g : List It) : ByteArray := if vldG g = true then bts (fmtZ lnI g) else ⟨#[]⟩
theorem snd_len {x : It} (h : Snd x) : x.nm.size ≤ 16 ∧ x.bt.size ≤ 16 := by
  have a := h.nm
  have b := h.bt
  unfold nmB at a b
  rw [Bool.and_eq_true, wn_iff] at a b
  omega
theorem lnI_len {x : It} (h : Snd x) : (lnI x).length ≤ 100 := by
  obtain ⟨a, b⟩ := snd_len h
  have c := itoa_len (n := x.ld) (by have := h.l0; omega) (by have := h.l1; omega)
  have d := itoa_len (n := x.du) (by have := h.d0; omega) (by have := h.d1; omega)
  have e : x.nm.data.toList.length = x.nm.size := Array.length_toList
  have f : x.bt.data.toList.length = x.bt.size := Array.length_toList
  unfold lnI
  simp only [List.length_append, List.length_cons]
  omega
theorem fmt_len {g : List It} (h : ∀ x ∈ g, Snd x) : (fmtZ lnI g).length ≤ 101 * g.length := by
  induction g with
  | nil => simp [fmtZ]
  | cons x g ih =>
    have h1 := ih fun y hy => h y (List.mem_cons_of_mem _ hy)
    have h2 := lnI_len (h x (List.mem_cons_self ..))
    rw [show x :: g = [x] ++ g from rfl, fmt_app, fmt_one]
    simp only [List.length_append, List.length_cons, List.length_nil]
    omega
theorem fmt_step {g : List It} {k : Nat} {x : It} (hx : g[k]? = some x) : fmtZ lnI (g.take (k + 1)) = fmtZ lnI (g.take k) ++ (lnI x ++ [10]) := by
  rw [List.take_add_one, hx, fmt_app]
  show _ ++ fmtZ lnI [x] = _
  rw [fmt_one]
theorem is_below {T e : TypeId} {B b : Nat} {bs : List Value} {w w' : World} (h : Lib.IsBuilder T e B b bs w) (hb : Below w.heap.size w w') : Lib.IsBuilder T e B b bs w' := by
  have q : ∀ p, Lib.BuilderAt T e B b p bs w → Lib.BuilderAt T e B b p bs w' := fun p h => by
    have hlt := h.lt
    obtain ⟨h1, v, h2, h3, h4⟩ := h
    exact ⟨h1, v, (hb.block b hlt).trans h2, own_on h3 hb, h4⟩
  rcases h with h | h
  · exact .inl (q _ h)
  · exact .inr (q _ h)
theorem p_ValidV {g : List It} {b : Bool} (h : vldG g = b) {A : Option Addr} {c : Nat} {w : World} (hl : g.length ≤ 100000) (hR : Rd It.cs 4 w A g) (hW : ∀ x ∈ g, IW x) :
    Calls Tryd.prog 38 #[.slice A g.length c] w fun e w' => e = .returned (.bool b) ∧ Below w.heap.size w w' := h ▸ p_Valid A g c w hl hR hW
set_option maxHeartbeats 2000000 in
set_option maxRecDepth 20000 in
theorem p_FormatG (A : Option Addr) (g : List It) (c : Nat) (w : World) (hl : g.length ≤ 100000) (hL : LdW w) (hR : Rd It.cs 4 w A g) (hW : ∀ x ∈ g, IW x) :
    Calls Tryd.prog 9 #[.slice A g.length c] w fun e w' => e = .returned (.string (fmG g)) ∧ Below w.heap.size w w' := by
  cases hv : vldG g
  · have H2 := Lib.hid (p_ValidV (c := c) hv hl hR hW)
    have HF := Lib.hid (show fmG g = ⟨#[]⟩ by unfold fmG; rw [hv]; rfl)
    rw [HF.out]
    clear hv
    go_enter Tryd.func9, Tryd.ntmps9
    go_wp2_with (go_at_call 38; ((with_reducible refine (H2.out).mono ?_); rintro e w1 ⟨rfl, hb1⟩; obtain ⟨hc1, hf1⟩ := bcell hb1; have hz1 := hb1.size; (try simp [sz_drew, sz_drewN] at hz1); (try simp only [sz_drew, sz_drewN] at hc1 hf1)))
    go_ret
    exact ⟨rfl, hb1⟩
  · have HF := Lib.hid (show fmG g = bts (fmtZ lnI g) by unfold fmG; rw [hv]; rfl)
    have H2 := Lib.hid (p_ValidV (c := c) hv hl hR hW)
    have HS := Lib.hid (vld_snd hv)
    have h64 : g.length ≤ 64 := by unfold vldG at hv; rw [Bool.and_eq_true, decide_eq_true_eq] at hv; exact hv.2
    rw [HF.out]
    clear hv HF hW
    go_enter Tryd.func9, Tryd.ntmps9
    go_wp2_with (go_at_call 38; ((with_reducible refine (H2.out).mono ?_); rintro e w1 ⟨rfl, hb1⟩; obtain ⟨hc1, hf1⟩ := bcell hb1; have hz1 := hb1.size; (try simp [sz_drew, sz_drewN] at hz1); (try simp only [sz_drew, sz_drewN] at hc1 hf1)))
    have hbs := hb1.size
    have HI := Lib.fresh_isBuilder 63 5 w1
    go_loopw [11] (fun i wr => ∃ k : Nat, k ≤ g.length ∧ i = .int .i64 k ∧ Lib.IsBuilder 63 5 w1.heap.size w1.heap.size (Lib.byteCells (fmtZ lnI (g.take k))) wr ∧ Below w1.heap.size w1 wr) (fun i _ => g.length - (RowKit.intOf i).toNat)
    case atStart => exact ⟨0, by omega, rfl, HI, bl_alloc (below_refl _) _⟩
    case round =>
      obtain ⟨k, hk, rfl, hbd, hbw⟩ := hrel
      have hbvs := hbw.size
      have hbw0 := below_tr hb1 hbw
      by_cases hlt : k < g.length
      · have k0 : (0 : Int) ≤ (k : Int) := Int.natCast_nonneg _
        have k1 : (k : Int) < (g.length : Int) := by omega
        obtain ⟨x, b, off, hx, rfl, hbl, c0, c1, c2, c3⟩ := rdI (hR.on hbw0) hlt
        have hsx := HS.out x (List.mem_of_getElem? hx)
        have HLN := Lib.hid (fun W (h : Below w.heap.size w W) => p_lineOf x W (by have := (snd_len hsx).1; omega) (by have := (snd_len hsx).2; omega) (by have := hsx.l0; omega) (by have := hsx.l1; omega) (by have := hsx.d0; omega) (by have := hsx.d1; omega) (hL.on h))
        have HST := Lib.hid (fmt_step hx)
        have hln := lnI_len hsx
        have hls : (bts (lnI x)).size ≤ 100 := by unfold bts; simpa [ByteArray.size] using hln
        have hlf : (fmtZ lnI (g.take k)).length ≤ 6464 := by
          have := fmt_len (g := g.take k) fun y hy => HS.out y (List.mem_of_mem_take hy)
          rw [List.length_take] at this; omega
        have z1 : ¬ 9223372036854775807 < (bts (lnI x)).size + 1 := by omega
        have HWS := Lib.hid (fun W (h : Below wr.heap.size wr W) => p_WriteString w1.heap.size w1.heap.size (Lib.byteCells (fmtZ lnI (g.take k))) (bts (lnI x) ++ ⟨#[10]⟩) W (is_below hbd h) (by simp only [Lib.byteCells, List.length_map, ByteArray.size_append]; show _ + (_ + 1) ≤ _; omega) (Nat.le_trans hbvs h.size))
        have HSB := Lib.hid (show Lib.byteCells (fmtZ lnI (g.take (k + 1))) = Lib.byteCells (fmtZ lnI (g.take k)) ++ Lib.strCells (bts (lnI x) ++ ⟨#[10]⟩) by
          rw [HST.out, Lib.byteCells_append]
          congr 1)
        clear hsx hx hbd
        go_wp2_with (first
          | (go_at_call 40; ((with_reducible refine (HLN.out _ (bl_alloc hbw0 _)).mono ?_); rintro e w3 ⟨rfl, hb3⟩; have hr3 := below_tr (bl_alloc (below_refl wr) _) hb3))
          | (go_at_call 39; ((with_reducible refine (HWS.out _ hr3).mono ?_); rintro e w4 ⟨rfl, hbd4, hb4⟩)))
        go_roundw
        case rel => exact ⟨k + 1, by omega, by go_num, HSB.out ▸ .inr hbd4, (hbw.trans (hr3.mono hbvs)).trans hb4⟩
        case measure => simp [RowKit.intOf]; omega
      · obtain rfl : k = g.length := by omega
        rw [List.take_length] at hbd
        have HSR := Lib.hid (Tryd.Builder_String_any w1.heap.size w1.heap.size (fmtZ lnI g) wr hbd hbw.size)
        go_wp2_with (go_at_call 41; ((with_reducible refine HSR.out.mono ?_); rintro e w3 ⟨rfl, hb3⟩))
        go_ret
        exact ⟨rfl, below_tr hb1 (hbw.trans hb3)⟩
end Go.Proofs.YtoelekhkgknneaaDoor
