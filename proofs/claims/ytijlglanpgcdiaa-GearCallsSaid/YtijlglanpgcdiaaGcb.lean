/- Gear: several and many; Touched by both. -/
import Derived.Test.YtijlglanpgcdiaaGca
set_option linter.unusedSimpArgs false
set_option linter.unusedVariables false
namespace Go.Proofs.Ytijlglanpgcdiaa
open Go.RowKit Go.Maps

/-- rigs that came in, none of them long -/
def RgS (w : World) (R : List Rg) : Prop := ∀ x ∈ R, RgOk w x ∧ x.l.length ≤ 40
theorem RgS.on {w w' : World} {R : List Rg} (h : RgS w R) (hb : Below w.heap.size w w') : RgS w' R := fun x hx => ⟨(h x hx).1.on hb, (h x hx).2⟩
theorem any_nvld (g : List It) (R : List Rg) : (R.any fun x => !vldR g x.l) = !R.all fun x => vldR g x.l := by induction R <;> simp_all
theorem p_several1 (x : Rg) (A : Option Addr) (g : List It) (c b : Nat) (w : World) (hl : g.length ≤ 100000) (hR : Rd It.cs 4 w A g) (hW : ∀ x ∈ g, IW x) (hx : RgOk w x) (hx40 : x.l.length ≤ 40) (hb : b < w.heap.size) (hc : w.cell? ⟨b, 0, none⟩ = some (.slice A g.length c)) :
    Calls Try.prog 92 #[.slice x.a x.l.length x.c, .pointer (some ⟨b, 0, none⟩)] w fun e w' => e = .returned (.bool (!vldR g x.l)) ∧ Below w.heap.size w w' := by
  have H1 := Lib.hid (p_validRig A x.a g x.l c x.c w hl (by omega) hR hW hx.rd hx.lw)
  clear hR hW hx
  go_enter Try.func92, Try.ntmps92
  go_wp2_with (go_at_call 58; ((with_reducible refine (H1.out).mono ?_); rintro e w1 ⟨rfl, hb1⟩; obtain ⟨hc1, hf1⟩ := bcell hb1; have hz1 := hb1.size; (try simp [sz_drew, sz_drewN] at hz1); (try simp only [sz_drew, sz_drewN] at hc1 hf1)))
  go_ret
  exact ⟨rfl, hb1⟩
set_option maxHeartbeats 1000000 in
set_option maxRecDepth 20000 in
theorem p_several (A B : Option Addr) (g : List It) (R : List Rg) (c d : Nat) (w : World) (hl : g.length ≤ 100000) (hr : R.length ≤ 100000) (hR : Rd It.cs 4 w A g) (hW : ∀ x ∈ g, IW x) (hB : Rd Rg.cs 1 w B R) (hO : RgS w R) :
    Calls Try.prog 80 #[.slice A g.length c, .slice B R.length d] w fun e w' => e = .returned (.int .i64 (svE g R)) ∧ Below w.heap.size w w' := by
  have H1 := Lib.hid (fun b (h : vldG g = b) W (hb : Below w.heap.size w W) => calls_bool h (p_Valid A g c W hl (hR.on hb) hW))
  have H2 := Lib.hid (fun W (hb : Below w.heap.size w W) (k : Blk W w.heap.size 22 #[.slice A g.length c]) => c_containsR B R d (fun x => !vldR g x.l) 92 #[.pointer (some ⟨w.heap.size, 0, none⟩)] W hr (hB.on hb) (fun _ _ => rfl) (fun V x hv hx => p_several1 x A g c w.heap.size V hl ((hR.on hb).on hv) hW (((hO x hx).1.on hb).on hv) (hO x hx).2 (k.below hv k.lt).lt ((k.below hv k.lt).cell 0)))
  rw [any_nvld] at H2
  have HE0 := Lib.hid (show svE g R = if vldG g = true then (if R.length ≤ 50 then (if (R.all fun x => vldR g x.l) = true then 0 else 1) else 4) else 1 from rfl)
  clear hR hW hB hO
  go_enter Try.func80, Try.ntmps80
  go_wp2_with fail
  have k0 := Blk.new w 22 #[.slice A g.length c]
  have B0 := bl_alloc (below_refl w) (.cells #[.slice A g.length c] 22)
  generalize w.alloc (.cells #[.slice A g.length c] 22) = W0 at *
  refine (H1.out _ rfl _ B0).mono ?_
  rintro e w1 ⟨rfl, hb1⟩
  have B1 := below_tr B0 hb1
  have k1 := k0.below hb1 k0.lt
  clear hb1 k0 B0
  cases h : vldG g
  · have HE := Lib.hid (show svE g R = 1 by rw [HE0.out, if_neg (by simp [h])])
    go_wp2
    go_ret
    exact ⟨ret_int (by rw [HE.out]), B1⟩
  by_cases h2 : 50 < (R.length : Int)
  · have HE := Lib.hid (show svE g R = 4 by rw [HE0.out, if_pos h, if_neg (by omega)])
    go_wp2
    go_ret
    exact ⟨ret_int (by rw [HE.out]), B1⟩
  have HE := Lib.hid (show svE g R = if (R.all fun x => vldR g x.l) = true then 0 else 1 by rw [HE0.out, if_pos h, if_pos (by omega)])
  cases h3 : R.all fun x => vldR g x.l
  all_goals
    rw [h3] at H2 HE
    have HC := Lib.hid (H2.out _ B1 k1)
    go_wp2_with (go_at_call 91; refine HC.out.mono ?_; rintro e w2 ⟨rfl, hb2⟩)
    go_ret
    exact ⟨ret_int (by rw [HE.out]; rfl), below_tr B1 hb2⟩
set_option maxHeartbeats 1000000 in
set_option maxRecDepth 20000 in
theorem r_many (A B : Option Addr) (g : List It) (R : List Rg) (c d : Nat) (w : World) (hl : g.length ≤ 100000) (hr : R.length ≤ 100000) (hR : Rd It.cs 4 w A g) (hW : ∀ x ∈ g, IW x) (hB : Rd Rg.cs 1 w B R) (hO : RgS w R) :
    Calls Try.prog 81 #[.slice A g.length c, .slice B R.length d] w fun e w' => e = .returned (.int .i64 (svE g R)) ∧ Below w.heap.size w w' := by
  have H1 := Lib.hid (fun b (h : vldG g = b) => calls_bool h (r_Valid A g c w hl hR hW))
  have H2 := Lib.hid (fun W (hb : Below w.heap.size w W) (x : Rg) (hx : x ∈ R) b (h : vldR g x.l = b) => calls_bool h (r_validRig A x.a g x.l c x.c W hl (by have := (hO x hx).2; omega) (hR.on hb) ((hO x hx).1.rd.on hb) (hO x hx).1.lw))
  have HE0 := Lib.hid (show svE g R = if vldG g = true then (if R.length ≤ 50 then (if (R.all fun x => vldR g x.l) = true then 0 else 1) else 4) else 1 from rfl)
  cases h : vldG g
  · have HE := Lib.hid (show svE g R = 1 by rw [HE0.out, if_neg (by simp [h])])
    go_enter Try.func81, Try.ntmps81
    go_wp2_with (go_at_call 16; ((with_reducible refine (H1.out _ h).mono ?_); rintro e w1 ⟨rfl, hb1⟩; obtain ⟨hc1, hf1⟩ := bcell hb1; have hz1 := hb1.size; (try simp [sz_drew, sz_drewN] at hz1); (try simp only [sz_drew, sz_drewN] at hc1 hf1)))
    go_ret
    exact ⟨ret_int (by rw [HE.out]), hb1⟩
  by_cases h2 : 50 < (R.length : Int)
  · have HE := Lib.hid (show svE g R = 4 by rw [HE0.out, if_pos h, if_neg (by omega)])
    go_enter Try.func81, Try.ntmps81
    go_wp2_with (go_at_call 16; ((with_reducible refine (H1.out _ h).mono ?_); rintro e w1 ⟨rfl, hb1⟩; obtain ⟨hc1, hf1⟩ := bcell hb1; have hz1 := hb1.size; (try simp [sz_drew, sz_drewN] at hz1); (try simp only [sz_drew, sz_drewN] at hc1 hf1)))
    go_ret
    exact ⟨ret_int (by rw [HE.out]), hb1⟩
  have HE := Lib.hid (show svE g R = if (R.all fun x => vldR g x.l) = true then 0 else 1 by rw [HE0.out, if_pos h, if_pos (by omega)])
  go_enter Try.func81, Try.ntmps81
  go_wp2_with (go_at_call 16; ((with_reducible refine (H1.out _ h).mono ?_); rintro e w1 ⟨rfl, hb1⟩; obtain ⟨hc1, hf1⟩ := bcell hb1; have hz1 := hb1.size; (try simp [sz_drew, sz_drewN] at hz1); (try simp only [sz_drew, sz_drewN] at hc1 hf1)))
  go_loopw [5] (fun i wr => ∃ k : Nat, k ≤ R.length ∧ i = .int .i64 k ∧ Below w.heap.size w wr ∧ Hid ((R.take k).all (fun x => vldR g x.l) = true)) (fun i _ => R.length - (intOf i).toNat)
  case atStart => exact ⟨0, by omega, rfl, hb1, Lib.hid rfl⟩
  case round =>
    clear hc1 hf1 hb1 hz1
    obtain ⟨k, hk, rfl, hbw, HI⟩ := hrel
    have k0 : (0 : Int) ≤ (k : Int) := Int.natCast_nonneg _
    by_cases hlt : k < R.length
    · have k1 : (k : Int) < (R.length : Int) := by omega
      obtain ⟨x, b, off, hx, rfl, hb, c0⟩ := rdG (hB.on hbw) hlt
      have hm := List.mem_of_getElem? hx
      have HX := Lib.hid hx
      clear hx
      cases he : vldR g x.l
      · have HC := Lib.hid (H2.out _ hbw x hm _ he)
        have HA := Lib.hid (show (R.all fun x => vldR g x.l) = false by rw [List.all_eq_false]; exact ⟨x, hm, by simp [he]⟩)
        clear he
        go_wp2_with (go_at_call 59; ((with_reducible refine (HC.out).mono ?_); rintro e w2 ⟨rfl, hb2⟩; obtain ⟨hc2, hf2⟩ := bcell hb2; have hz2 := hb2.size; (try simp [sz_drew, sz_drewN] at hz2); (try simp only [sz_drew, sz_drewN] at hc2 hf2)))
        go_ret
        exact ⟨ret_int (by rw [HE.out, HA.out]; rfl), below_tr hbw hb2⟩
      · have HC := Lib.hid (H2.out _ hbw x hm _ he)
        have HA := Lib.hid (show ((R.take (k + 1)).all fun x => vldR g x.l) = true by rw [List.take_add_one, HX.out, List.all_append, HI.out]; simp [he])
        clear he
        go_wp2_with (go_at_call 59; ((with_reducible refine (HC.out).mono ?_); rintro e w2 ⟨rfl, hb2⟩; obtain ⟨hc2, hf2⟩ := bcell hb2; have hz2 := hb2.size; (try simp [sz_drew, sz_drewN] at hz2); (try simp only [sz_drew, sz_drewN] at hc2 hf2)))
        go_roundw
        case rel => exact ⟨k + 1, by omega, by go_num, below_tr hbw hb2, HA⟩
        case measure => simp [intOf]; omega
    · obtain rfl : k = R.length := by omega
      have HA := Lib.hid (show (R.all fun x => vldR g x.l) = true by have := HI.out; rwa [List.take_length] at this)
      go_wp2
      go_ret
      exact ⟨ret_int (by rw [HE.out, HA.out]; rfl), hbw⟩
def rgAt (R : List Rg) (k : Nat) : Rg := R[k]?.getD ⟨none, [], 0⟩
theorem rgAt_of {R : List Rg} {k : Nat} {x : Rg} (h : R[k]? = some x) : rgAt R k = x := by simp [rgAt, h]
theorem sv_z {g : List It} {R : List Rg} (h : svE g R = 0) : vldG g = true ∧ R.length ≤ 50 ∧ ∀ x ∈ R, VR g x.l := by
  unfold svE at h
  split at h
  · rename_i h1
    split at h
    · rename_i h2
      split at h
      · rename_i h3
        rw [List.all_eq_true] at h3
        exact ⟨h1, h2, fun x hx => vr_of (by rw [Bool.and_eq_true]; exact ⟨h1, h3 x hx⟩)⟩
      · omega
    · omega
  · omega
/-- whether a rig has an item of a batch -/
def tcP (g : List It) (s : ByteArray) (x : Lk) : Bool := (itR g x).bt.toList == s.toList
def tcB (g : List It) (R : List Rg) (s : ByteArray) (k : Nat) : Bool := (rgAt R k).l.any (tcP g s)
def tcZ (g : List It) (R : List Rg) (s : ByteArray) : List Int := if svE g R = 0 then fZ (tcB g R s) R.length else []
set_option maxHeartbeats 2000000 in
set_option maxRecDepth 20000 in
theorem p_Touched1 (x : Lk) (k : Nat) (r : List Lk) (A : Option Addr) (g : List It) (c b1 b2 b3 bm : Nat) (s : ByteArray) (w : World) (hv : VR g r) (hx : r[k]? = some x) (hxw : LW x) (hR : Rd It.cs 4 w A g)
    (k1 : Blk w b1 22 #[.slice A g.length c]) (k2 : Blk w b2 64 #[.map (some bm)]) (k3 : Blk w b3 9 #[.string s]) (hom : OM w bm g.length (mkD g g.length)) :
    Calls Try.prog 82 #[.agg #[.string x.nm, .int .i64 x.fr], .pointer (some ⟨b1, 0, none⟩), .pointer (some ⟨b2, 0, none⟩), .pointer (some ⟨b3, 0, none⟩)] w fun e w' => e = .returned (.bool (tcP g s x)) ∧ Below w.heap.size w w' := by
  obtain ⟨hy, _⟩ := hv.it hx
  have f1 := hv.fnd k x hx
  have f2 := (fnd_bd g x.nm).2
  have HA := mkD_at (vldG_dst hv.vg) x.nm g.length (Nat.le_refl _)
  rw [if_pos (by omega)] at HA
  have hlg := hv.lg
  obtain ⟨cc, hlk, hat, _⟩ := (hom.alloc (.cells #[.string x.nm, .int .i64 x.fr] 41)).drew.lookup_int lawS und_map und_int (zeroN _) (keyS hxw.m)
  rw [HA] at hat
  obtain ⟨n, hn'⟩ := Int.eq_ofNat_of_zero_le f1
  rw [hn'] at f2 hy hat
  obtain rfl : (n : Int) = cc := by cases hat; rfl
  obtain ⟨it, gb, goff, hz, hA, hgb, d0, d1, d2, d3⟩ := rdI hR (show n < g.length by omega)
  rw [show ((n : Nat) : Int).toNat = n by omega, hz] at hy
  cases hy
  have hT : tcP g s x = ((itR g x).bt.toList == s.toList) := rfl
  have c1 := k1.cell 0
  have c2 := k2.cell 0
  have c3 := k3.cell 0
  simp only [List.getElem?_toArray, List.getElem?_cons_zero] at c1 c2 c3
  have l1 := k1.lt
  have l2 := k2.lt
  have l3 := k3.lt
  have n0 : (0 : Int) ≤ (n : Int) := Int.natCast_nonneg _
  have n1 : (n : Int) < (g.length : Int) := by omega
  subst hA
  generalize itR g x = I at *
  clear hx hz hn' HA hat hom hR d0 d1 d2 hv k1 k2 k3
  have HTT := Lib.hid hT
  clear hT
  have bA := bl_alloc (below_refl w) (.cells #[.string x.nm, .int .i64 x.fr] 41)
  go_enter Try.func82, Try.ntmps82
  go_wp2
  refine wp_region_still_tail 10 (by kernel_rfl) (by kernel_rfl) ?_
  change wpStill _ _ (World.drew _) _ _ _
  simp only [List.take_succ_cons, List.take_zero, List.drop_succ_cons, List.drop_zero]
  repeat still_step
  refine wpStill_nil ?_
  change wpList _ _ _ _ _ (World.drew _)
  go_wp2
  go_ret
  exact ⟨ret_bool (by rw [HTT.out]), below_draw bA⟩
end Go.Proofs.Ytijlglanpgcdiaa
