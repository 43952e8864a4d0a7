/- Gear: lists of rigs; Called by both; several, many. -/
import Derived.Test.YtijlglanpgcdiaaGvf
set_option linter.unusedSimpArgs false
set_option linter.unusedVariables false
namespace Go.Proofs.Ytijlglanpgcdiaa
open Go.RowKit Go.Maps

/-- a rig in a list of rigs: where its links lie -/
structure Rg where
  a : Option Addr
  l : List Lk
  c : Nat
def Rg.cs (x : Rg) : List Value := [.slice x.a x.l.length x.c]
structure RgOk (w : World) (x : Rg) : Prop where
  rd : Rd Lk.cs 2 w x.a x.l
  len : x.l.length ≤ maxLen
  lw : ∀ y ∈ x.l, LW y
theorem RgOk.on {w w' : World} {x : Rg} (h : RgOk w x) (hb : Below w.heap.size w w') : RgOk w' x := ⟨h.rd.on hb, h.len, h.lw⟩
theorem rdG {w : World} {A : Option Addr} {l : List Rg} (h : Rd Rg.cs 1 w A l) {k : Nat} (hk : k < l.length) :
    ∃ x b off, l[k]? = some x ∧ A = some ⟨b, off, none⟩ ∧ b < w.heap.size ∧ w.cell? ⟨b, off + k, none⟩ = some (.slice x.a x.l.length x.c) := by
  obtain ⟨x, hx⟩ := get_lt hk
  obtain ⟨b, off, e, hb, hc⟩ := h.get hx
  exact ⟨x, b, off, hx, e, hb, by simpa using hc 0 _ rfl⟩
/-- the numbers under k that a test takes -/
def fN (p : Nat → Bool) (k : Nat) : List Nat := (List.range k).filter p
def fZ (p : Nat → Bool) (k : Nat) : List Int := (fN p k).map fun n : Nat => (n : Int)
theorem fN_no {p : Nat → Bool} {k : Nat} (h : p k = false) : fN p (k + 1) = fN p k := by unfold fN; rw [List.range_succ, List.filter_append]; simp [h]
theorem fN_yes {p : Nat → Bool} {k : Nat} (h : p k = true) : fN p (k + 1) = fN p k ++ [k] := by unfold fN; rw [List.range_succ, List.filter_append]; simp [h]
theorem fN_len (p : Nat → Bool) (k : Nat) : (fN p k).length ≤ k := by have := List.length_filter_le p (List.range k); simpa [fN] using this
/-- what a function hands back that gathers numbers -/
theorem got_fN {w : World} {b : Nat} {A : Option Addr} {c n : Nat} {p : Nat → Bool} (h : w.ownsRow b 3 1 (.slice A (fN p n).length c) (fN p n).length (fl nC (fN p n))) : GotW w (.slice A (fN p n).length c) (fZ p n) := by
  have h1 := nz_own h
  obtain ⟨A', c', e, hr⟩ := own_ints h1
  exact ⟨A', c', e, hr⟩
def caB (g : List It) (s : ByteArray) (k : Nat) : Bool := (itAt g k).bt.toList == s.toList
def caE (g : List It) : Int := if vldG g = true then 0 else 1
def caZ (g : List It) (s : ByteArray) : List Int := if caE g = 0 then fZ (caB g s) g.length else []
set_option maxHeartbeats 2000000 in
set_option maxRecDepth 20000 in
theorem p_Called (A : Option Addr) (g : List It) (c : Nat) (s : ByteArray) (w : World) (hl : g.length ≤ 100000) (hR : Rd It.cs 4 w A g) (hW : ∀ x ∈ g, IW x) :
    Calls Try.prog 42 #[.slice A g.length c, .string s] w fun e w' => ∃ v, e = .returned (.tuple #[v, .int .i64 (caE g)]) ∧ GotW w' v (caZ g s) ∧ Below w.heap.size w w' := by
  have H1 := Lib.hid (fun b (h : vldG g = b) => calls_bool h (p_Valid A g c w hl hR hW))
  cases h : vldG g
  · have HE := Lib.hid (show caE g = 1 by unfold caE; rw [if_neg (by simp [h])])
    go_enter Try.func42, Try.ntmps42
    go_wp2_with (go_at_call 15; ((with_reducible refine (H1.out _ h).mono ?_); rintro e w1 ⟨rfl, hb1⟩; obtain ⟨hc1, hf1⟩ := bcell hb1; have hz1 := hb1.size; (try simp [sz_drew, sz_drewN] at hz1); (try simp only [sz_drew, sz_drewN] at hc1 hf1)))
    go_ret2
    exact ⟨_, by rw [HE.out]; rfl, by unfold caZ; rw [HE.out]; exact gotW_nil _, hb1⟩
  have HE := Lib.hid (show caE g = 0 by unfold caE; rw [if_pos h])
  have HZ := Lib.hid (show caZ g s = fZ (caB g s) g.length by unfold caZ; rw [if_pos HE.out])
  have HN := Lib.hid (fun k h => fN_no (p := caB g s) (k := k) h)
  have HY := Lib.hid (fun k h => fN_yes (p := caB g s) (k := k) h)
  have HLn := Lib.hid (fun k => fN_len (caB g s) k)
  obtain ⟨i0, hi, hi1, hi2, hi3⟩ := info_int2
  go_enter Try.func42, Try.ntmps42
  go_wp2_with (go_at_call 15; ((with_reducible refine (H1.out _ h).mono ?_); rintro e w1 ⟨rfl, hb1⟩; obtain ⟨hc1, hf1⟩ := bcell hb1; have hz1 := hb1.size; (try simp [sz_drew, sz_drewN] at hz1); (try simp only [sz_drew, sz_drewN] at hc1 hf1)))
  have hbs := hb1.size
  go_loopw [6, 14] (fun v i wr => ∃ k : Nat, k ≤ g.length ∧ i = .int .i64 k ∧ Below w.heap.size w wr ∧ w1.heap.size ≤ wr.heap.size ∧ wr.ownsRow w1.heap.size 3 1 v (fN (caB g s) k).length (fl nC (fN (caB g s) k))) (fun _ i _ => g.length - (intOf i).toNat)
  case atStart => exact ⟨0, by omega, rfl, hb1, Nat.le_refl _, World.ownsRow_nil w1 _ _ _⟩
  case round =>
    clear hc1 hf1 hb1 hz1
    obtain ⟨k, hk, rfl, hbw, hsz, hown⟩ := hrel
    obtain ⟨ad, cp, rfl⟩ := own_slice hown
    have hlen := HLn.out k
    by_cases hlt : k < g.length
    · have k0 : (0 : Int) ≤ (k : Int) := Int.natCast_nonneg _
      have k1 : (k : Int) < (g.length : Int) := by omega
      obtain ⟨x, b, off, hx, rfl, hb, c0, c1, c2, c3⟩ := rdI (hR.on hbw) hlt
      have hcb : caB g s k = (x.bt.toList == s.toList) := by unfold caB; rw [itAt_of hx]
      clear hx
      cases he : (x.bt.toList == s.toList)
      · have HST := Lib.hid (HN.out k (by rw [hcb]; exact he))
        have HE2 := Lib.hid he
        clear hcb
        go_wp2
        go_roundw
        case rel => exact ⟨k + 1, by omega, by go_num, bl_alloc hbw _, by simp; omega, by rw [HST.out]; exact hown.alloc _⟩
        case measure => simp [intOf]; omega
      · have HST := Lib.hid (HY.out k (by rw [hcb]; exact he))
        clear hcb
        have o1 := hown.alloc (.cells #[.string x.nm, .int .i64 x.ld, .int .i64 x.du, .string x.bt] 62)
        have bA := bl_alloc hbw (.cells #[.string x.nm, .int .i64 x.ld, .int .i64 x.du, .string x.bt] 62)
        go_wp2_with (at_builtin; refine wpList_append_own _ rfl _ _ 30 rfl w1.heap.size 3 i0 (.int .i64 0) 1 8 (by kernel_rfl) hi hi1 hi2 hi3 rfl (by omega) _ _ _ rfl (o1.alloc _) ⟨wr.heap.size + 1, 0, none⟩ 1 1 [.int .i64 k] rfl rfl (by have := cells_new (wr.alloc (.cells #[.string x.nm, .int .i64 x.ld, .int .i64 x.du, .string x.bt] 62)) [.int .i64 k] 3; simp only [World.size_alloc] at this; exact this) (fun u hu => by simp at hu; subst hu; rfl) (by unfold maxLen; omega) (by omega) (by simp; omega) ?_; intro v' w9 hown9 hgrow _)
        go_roundw
        case rel => exact ⟨k + 1, by omega, by go_num, bl_app bA o1 hgrow hbs bA.size, by have := hgrow.size; simp at this; omega, by rw [HST.out, fl_snoc, List.length_append]; exact hown9⟩
        case measure => simp [intOf]; omega
    · obtain rfl : k = g.length := by omega
      go_wp2
      go_ret2
      exact ⟨_, by rw [HE.out]; rfl, by rw [HZ.out]; exact got_fN hown, hbw⟩
set_option maxHeartbeats 2000000 in
set_option maxRecDepth 20000 in
theorem r_Called (A : Option Addr) (g : List It) (c : Nat) (s : ByteArray) (w : World) (hl : g.length ≤ 100000) (hR : Rd It.cs 4 w A g) (hW : ∀ x ∈ g, IW x) :
    Calls Try.prog 43 #[.slice A g.length c, .string s] w fun e w' => ∃ v, e = .returned (.tuple #[v, .int .i64 (caE g)]) ∧ GotW w' v (caZ g s) ∧ Below w.heap.size w w' := by
  have H1 := Lib.hid (fun b (h : vldG g = b) => calls_bool h (r_Valid A g c w hl hR hW))
  cases h : vldG g
  · have HE := Lib.hid (show caE g = 1 by unfold caE; rw [if_neg (by simp [h])])
    go_enter Try.func43, Try.ntmps43
    go_wp2_with (go_at_call 16; ((with_reducible refine (H1.out _ h).mono ?_); rintro e w1 ⟨rfl, hb1⟩; obtain ⟨hc1, hf1⟩ := bcell hb1; have hz1 := hb1.size; (try simp [sz_drew, sz_drewN] at hz1); (try simp only [sz_drew, sz_drewN] at hc1 hf1)))
    go_ret2
    exact ⟨_, by rw [HE.out]; rfl, by unfold caZ; rw [HE.out]; exact gotW_nil _, hb1⟩
  have HE := Lib.hid (show caE g = 0 by unfold caE; rw [if_pos h])
  have HZ := Lib.hid (show caZ g s = fZ (caB g s) g.length by unfold caZ; rw [if_pos HE.out])
  have HN := Lib.hid (fun k h => fN_no (p := caB g s) (k := k) h)
  have HY := Lib.hid (fun k h => fN_yes (p := caB g s) (k := k) h)
  have HLn := Lib.hid (fun k => fN_len (caB g s) k)
  obtain ⟨i0, hi, hi1, hi2, hi3⟩ := info_int2
  go_enter Try.func43, Try.ntmps43
  go_wp2_with (go_at_call 16; ((with_reducible refine (H1.out _ h).mono ?_); rintro e w1 ⟨rfl, hb1⟩; obtain ⟨hc1, hf1⟩ := bcell hb1; have hz1 := hb1.size; (try simp [sz_drew, sz_drewN] at hz1); (try simp only [sz_drew, sz_drewN] at hc1 hf1)))
  have hbs := hb1.size
  go_loopw [6, 7] (fun v i wr => ∃ k : Nat, k ≤ g.length ∧ i = .int .i64 k ∧ Below w.heap.size w wr ∧ w1.heap.size ≤ wr.heap.size ∧ wr.ownsRow w1.heap.size 3 1 v (fN (caB g s) k).length (fl nC (fN (caB g s) k))) (fun _ i _ => g.length - (intOf i).toNat)
  case atStart => exact ⟨0, by omega, rfl, hb1, Nat.le_refl _, World.ownsRow_nil w1 _ _ _⟩
  case round =>
    clear hc1 hf1 hb1 hz1
    obtain ⟨k, hk, rfl, hbw, hsz, hown⟩ := hrel
    obtain ⟨ad, cp, rfl⟩ := own_slice hown
    have hlen := HLn.out k
    by_cases hlt : k < g.length
    · have k0 : (0 : Int) ≤ (k : Int) := Int.natCast_nonneg _
      have k1 : (k : Int) < (g.length : Int) := by omega
      obtain ⟨x, b, off, hx, rfl, hb, c0, c1, c2, c3⟩ := rdI (hR.on hbw) hlt
      have hcb : caB g s k = (x.bt.toList == s.toList) := by unfold caB; rw [itAt_of hx]
      clear hx
      cases he : (x.bt.toList == s.toList)
      · have HST := Lib.hid (HN.out k (by rw [hcb]; exact he))
        clear hcb
        go_wp2
        go_roundw
        case rel => exact ⟨k + 1, by omega, by go_num, hbw, hsz, by rw [HST.out]; exact hown⟩
        case measure => simp [intOf]; omega
      · have HST := Lib.hid (HY.out k (by rw [hcb]; exact he))
        clear hcb
        go_wp2_with (at_builtin; refine wpList_append_own _ rfl _ _ 30 rfl w1.heap.size 3 i0 (.int .i64 0) 1 8 (by kernel_rfl) hi hi1 hi2 hi3 rfl (by omega) _ _ _ rfl (hown.alloc _) ⟨wr.heap.size, 0, none⟩ 1 1 [.int .i64 k] rfl rfl (cells_new wr [.int .i64 k] 3) (fun u hu => by simp at hu; subst hu; rfl) (by unfold maxLen; omega) (by omega) (by simp; omega) ?_; intro v' w9 hown9 hgrow _)
        go_roundw
        case rel => exact ⟨k + 1, by omega, by go_num, bl_app hbw hown hgrow hbs hbw.size, by have := hgrow.size; simp at this; omega, by rw [HST.out, fl_snoc, List.length_append]; exact hown9⟩
        case measure => simp [intOf]; omega
    · obtain rfl : k = g.length := by omega
      go_wp2
      go_ret2
      exact ⟨_, by rw [HE.out]; rfl, by rw [HZ.out]; exact got_fN hown, hbw⟩
/-- what several says -/
def svE (g : List It) (R : List Rg) : Int := if vldG g = true then (if R.length ≤ 50 then (if (R.all fun x => vldR g x.l) = true then 0 else 1) else 4) else 1
theorem c_indexR (A : Option Addr) (l : List (Rg)) (c : Nat) (p : Rg → Bool) (f : FuncId) (cap : Array Value) (w : World) (hl : l.length ≤ 100000) (hR : Rd Rg.cs 1 w A l)
    (he : ∀ args W, (callFunc f args).run Try.prog W = .ok (.enter f args) W)
    (hf : ∀ W x, Below w.heap.size w W → x ∈ l → Calls Try.prog f (#[.slice x.a x.l.length x.c] ++ cap) W fun e W' => e = .returned (.bool (p x)) ∧ Below W.heap.size W W') :
    Calls Try.prog 96 #[.slice A l.length c, .func (.func f) #[] cap] w fun e w' => e = .returned (.int .i64 (idxOf p l 0)) ∧ Below w.heap.size w w' := by
  have HF := Lib.hid hf
  clear hf
  go_enter Try.func96, Try.ntmps96
  go_wp2
  go_loopw [8] (fun i wr => ∃ k : Nat, k ≤ l.length ∧ i = .int .i64 k ∧ Below w.heap.size w wr ∧ Hid (idxOf p l 0 = idxOf p (l.drop k) k)) (fun i _ => l.length - (intOf i).toNat)
  case atStart => exact ⟨0, by omega, rfl, Below.refl _ _, rfl⟩
  case round =>
    obtain ⟨k, hk, rfl, hB, HI⟩ := hrel
    by_cases hlt : k < l.length
    · obtain ⟨x, b, off, hx, rfl, hb, c0⟩ := rdG (hR.on hB) hlt
      have HD := Lib.hid (idxOf_drop p l k x hx)
      have hm := List.mem_of_getElem? hx
      have HC := Lib.hid (HF.out wr x hB hm)
      clear hx hm
      cases hp : p x
      all_goals
        have HP := Lib.hid hp
        clear hp
        go_wp2_with fail
        refine HC.out.mono ?_
        rintro e w1 ⟨rfl, hb1⟩
        rw [HP.out]
        go_wp2
      · go_roundw
        case rel => exact ⟨k + 1, by omega, by go_num, hB.trans (hb1.mono hB.size), by rw [HI.out, HD.out, HP.out]; rfl⟩
        case measure => simp [intOf]; omega
      · go_ret
        exact ⟨ret_int (by rw [HI.out, HD.out, HP.out]; rfl), hB.trans (hb1.mono hB.size)⟩
    · go_wp2
      go_ret
      exact ⟨ret_int (by rw [HI.out, List.drop_of_length_le (by omega)]; rfl), hB⟩

theorem c_containsR (A : Option Addr) (l : List (Rg)) (c : Nat) (p : Rg → Bool) (f : FuncId) (cap : Array Value) (w : World) (hl : l.length ≤ 100000) (hR : Rd Rg.cs 1 w A l)
    (he : ∀ args W, (callFunc f args).run Try.prog W = .ok (.enter f args) W)
    (hf : ∀ W x, Below w.heap.size w W → x ∈ l → Calls Try.prog f (#[.slice x.a x.l.length x.c] ++ cap) W fun e W' => e = .returned (.bool (p x)) ∧ Below W.heap.size W W') :
    Calls Try.prog 91 #[.slice A l.length c, .func (.func f) #[] cap] w fun e w' => e = .returned (.bool (l.any p)) ∧ Below w.heap.size w w' := by
  have HC := Lib.hid (c_indexR A l c p f cap w hl hR he hf)
  have HA := Lib.hid (idxOf_nonneg p l 0)
  clear he hf hR
  go_enter Try.func91, Try.ntmps91
  go_wp2_with (go_at_call 96; refine HC.out.mono ?_; rintro e w' ⟨rfl, hb⟩)
  go_ret
  exact ⟨ret_bool (by rw [Bool.eq_iff_iff, ← HA.out]; simp), hb⟩

end Go.Proofs.Ytijlglanpgcdiaa
