/- Fell: sets of props by the program: has, full, all. -/
import Derived.Test.YtkeojokbpjdhpaaDoorFga
import Derived.Test.YtkeojokbpjdhpaaDoorFgr
import Derived.Shelf.Spec.TrailingZeros
import Derived.Laws.BitsAllLaws
set_option linter.unusedSimpArgs false
set_option linter.unusedVariables false
namespace Go.Proofs.YtkeojokbpjdhpaaDoor
open Go.RowKit Go.Shelf
attribute [local go_sem] Oper.semAt_some

theorem TabAt.on {g : Nat} {tab : List Nat} {w w' : World} (h : TabAt g tab w) (hb : Below w.heap.size w w') : TabAt g tab w' := fun j hj => by
  have h1 := h j hj
  rw [(bcell hb).1 _ _ (World.block_lt_of_cell? w _ h1)]; exact h1
theorem TabAt.stp {N : Nat → Prop} {g : Nat} {tab : List Nat} {w w' : World} (h : TabAt g tab w) (hb : Stp N w w') (hn : ¬ N g) : TabAt g tab w' := fun j hj => hb.cell (h j hj) hn
abbrev Tab (w : World) : Prop := TabAt 0 Lib.deBruijn32tab w
theorem Tab.lt {w : World} (h : Tab w) : 0 < w.heap.size := World.block_lt_of_cell? w _ (h 0 (by decide))
theorem has_val (x i : Nat) (hx : x < 2 ^ 32) : (bits BinOp.and IntKind.u32 ((x : Int) / 2 ^ i) 1 == 1) = x.testBit i := by
  have e : ((x : Int) / 2 ^ i) = ((x / 2 ^ i : Nat) : Int) := by simp
  have h1 : x / 2 ^ i < 4294967296 := Nat.lt_of_le_of_lt (Nat.div_le_self _ _) hx
  have h2 := u32_and_nat (x / 2 ^ i) 1 h1 (by omega)
  rw [e, show (1 : Int) = ((1 : Nat) : Int) from rfl, h2, Nat.and_one_is_mod, Nat.testBit_eq_decide_div_mod_eq]
  generalize x / 2 ^ i % 2 = y
  by_cases h : y = 1
  · subst h; rfl
  · have : ¬ ((y : Int) = 1) := by omega
    simp [h, this]
theorem p_has (x i : Nat) (w : World) (hx : x < 2 ^ 32) (hi : i < 32) :
    Calls Tryd.prog 66 #[.int .u32 x, .int .i64 i] w fun e w' => e = .returned (.bool (x.testBit i)) ∧ w = w' := by
  have i0 : (0 : Int) ≤ (i : Int) := Int.natCast_nonneg _
  have i1 : (i : Int) < 32 := by omega
  have HV := Lib.hid (has_val x i hx)
  go_enter Tryd.func66, Tryd.ntmps66
  go_wp2
  go_ret
  exact ⟨ret_bool HV.out, rfl⟩
theorem pow_val {n : Nat} (hn : n ≤ 24) : (((2 : Int) ^ n % 4294967296 - 1) % 4294967296) = ((2 ^ n - 1 : Nat) : Int) := by
  have h1 : 2 ^ n ≤ 2 ^ 24 := Nat.pow_le_pow_right (by omega) hn
  have h2 := Nat.two_pow_pos n
  have e : (2 : Int) ^ n = ((2 ^ n : Nat) : Int) := by simp
  rw [e]
  generalize 2 ^ n = y at *
  omega
theorem p_full (A : Option Addr) (n c : Nat) (w : World) (hn : n ≤ 24) :
    Calls Tryd.prog 46 #[.slice A n c] w fun e w' => e = .returned (.int .u32 ((2 ^ n - 1 : Nat) : Int)) ∧ w = w' := by
  have i0 : (0 : Int) ≤ (n : Int) := Int.natCast_nonneg _
  have i1 : (n : Int) < 32 := by omega
  have HV := Lib.hid (pow_val hn)
  go_enter Tryd.func46, Tryd.ntmps46
  go_wp2
  go_ret
  refine ⟨congrArg (fun v => Ending.returned (Value.int .u32 v)) HV.out, rfl⟩
theorem p_tz_core (x k idx : Nat) (w : World) (hx0 : ((x : Int) == 0) = false)
    (key : bits BinOp.and IntKind.u32 (x : Int) (-(x : Int) % 4294967296) * 125613361 % 4294967296 / 134217728 = (idx : Int))
    (hi : idx < 32) (hk : k < 32) (hcell : w.cell? ⟨0, idx, none⟩ = some (.int .u8 k)) :
    Calls Tryd.prog 69 #[.int .u32 x] w fun e w' => e = .returned (.int .i64 k) ∧ w = w' := by
  go_enter Tryd.func69, Tryd.ntmps69
  go_wp2_with (simp only [key])
  go_ret
  exact ⟨rfl, rfl⟩
theorem p_tz (x : Nat) (w : World) (hx0 : x ≠ 0) (hx : x < 4294967296) (hT : Tab w) :
    Calls Tryd.prog 69 #[.int .u32 x] w fun e w' => e = .returned (.int .i64 (Lib.ctz 32 x)) ∧ w = w' := by
  obtain ⟨hlow, hk⟩ := Lib.lowest_bit 32 x hx0 hx
  obtain ⟨hi, htab⟩ := Lib.deBruijn32_at _ hk
  have hcell := hT _ hi
  rw [htab] at hcell
  exact p_tz_core x _ _ w (by simp; omega) (tz32_key x _ hx hx0 hlow) hi hk hcell
theorem p_all (x : Nat) (w : World) :
    Calls Tryd.prog 37 #[.int .u32 x] w fun e w' => e = .returned (.func (.func 68) #[] #[.pointer (some ⟨w.heap.size, 0, none⟩)]) ∧ w' = w.alloc (.cells #[.int .u32 x] 58) := by
  go_enter Tryd.func37, Tryd.ntmps37
  go_wp2
  go_ret
  exact ⟨rfl, rfl⟩
def inI (i : Nat) : Array Value := #[.int .i64 i]
def meas (b1 : Nat) (w : World) : Nat := match w.cell? ⟨b1, 0, none⟩ with
  | some (.int _ n) => n.toNat
  | _ => 0
theorem enters_all : ∀ args w, (callFunc 68 args).run Tryd.prog w = .ok (.enter 68 args) w := enters_of Tryd.func68 (by kernel_rfl) rfl
set_option maxHeartbeats 4000000 in
set_option maxRecDepth 20000 in
theorem all_seq (n : Nat) (h1 : 2 ≤ n) (b1 : Nat) (x : Nat) (R K : Nat → Prop) (w0 : World) (hx : x < 4294967296)
    (hb1 : Blk w0 b1 58 #[.int .u32 x]) (hT : Tab w0) (hR1 : R b1) (hR0 : R 0) (hK1 : K b1) (h01 : b1 ≠ 0) :
    SeqIsK n Tryd.prog 68 #[.pointer (some ⟨b1, 0, none⟩)] inI (mL x) R K w0 := by
  intro L J Jx W hW hJ hJx hY h0
  have c1 := hW.blk hb1 (fun k => k hR1)
  have hTW := TabAt.stp hT hW (fun k => k hR0)
  have HJ := Lib.hid hJ
  have HY := Lib.hid hY
  have z1 := c1.lt
  clear hJ hJx hY hW hb1 hT
  have hn1 : 1 ≤ n := by omega
  refine callsIn_of_wp Tryd.func68 rfl trivial ?_
  simp only [Tryd.ntmps68, List.size_toArray, List.length_cons, List.length_nil, Nat.reduceAdd, Nat.reduceSub, Array.replicate_succ, Array.replicate_zero, List.push_toArray, List.append_toArray, List.nil_append, List.cons_append]
  gi_wp2
  gi_loopw [3] (fun _ wr => ∃ (pre : List Nat) (y : Nat) (M : Nat → Prop), mL x = pre ++ mL y ∧ y < 4294967296 ∧ J pre M wr ∧ (∀ b, M b → W.heap.size ≤ b ∧ b < wr.heap.size) ∧ W.heap.size ≤ wr.heap.size ∧ Blk wr b1 58 #[.int .u32 y] ∧ Tab wr) (fun _ wr => meas b1 wr)
  case atStart => exact ⟨[], x, (fun _ => False), rfl, hx, h0, fun b h => h.elim, Nat.le_refl _, c1, hTW⟩
  case round =>
    clear hTW h0 c1
    obtain ⟨pre, y, M, hp, hy, hj, hMW, hWs, cb, hTr⟩ := hrel
    have q0 := cb.cell 0
    have f0 := cb.frozen 0
    simp only [List.getElem?_toArray, List.getElem?_cons_zero] at q0
    have zb := cb.lt
    by_cases hz : y = 0
    · subst hz
      rw [mL_zero, List.append_nil] at hp
      gi_wp2
      go_end0
      exact ⟨⟨_, rfl⟩, .inl ⟨M, by rw [hp]; exact hj⟩⟩
    · have e1 : ((y : Int) == 0) = false := by simp; omega
      have hst := mL_step hz hy
      have htz := p_tz y wr hz hy hTr
      have hle : y &&& (y - 1) ≤ y - 1 := Nat.and_le_right
      have ea : bits BinOp.and IntKind.u32 (y : Int) ((y : Int) - 1) = ((y &&& (y - 1) : Nat) : Int) := by rw [show ((y : Int) - 1) = ((y - 1 : Nat) : Int) by omega]; exact u32_and_nat y (y - 1) hy (by omega)
      have hme : meas b1 wr = y := by unfold meas; rw [q0]; simp
      rw [hst] at hp
      generalize Lib.ctz 32 y = c at *
      generalize y &&& (y - 1) = z at *
      have HTZ := Lib.hid htz
      have HXS := Lib.hid hp
      have HY2 := Lib.hid (HY.out _ _ _ M wr hp hj)
      clear htz hp hst
      gi_wp2
      first | refine ⟨trivial, (callsIn_wide.2 HTZ.out).mono ?_⟩ | refine ⟨trivial, fun _ => by omega, (callsIn_wide.2 HTZ.out).mono ?_⟩
      rintro e w3 ⟨rfl, rfl⟩
      obtain ⟨fn', tmps, assign, body, hy', hRd⟩ := HY2.out
      dsimp only [inI] at hy' hRd
      have HRD := Lib.hid hRd
      clear hRd HY2 hj
      gi_wp2
      refine HRD.out.mono ?_
      rintro e W5 (⟨rfl, hj5, hk5⟩ | ⟨rfl, hjx⟩)
      · have cb5 := hk5.blk cb (fun k => k (.inr hR1))
        have hT5 := TabAt.stp hTr hk5 (fun k => k (.inr hR0))
        have hz5 := hk5.size
        have q5 := cb5.cell 0
        have f5 := cb5.frozen 0
        simp only [List.getElem?_toArray, List.getElem?_cons_zero] at q5
        have zb5 := cb5.lt
        have hst5 := (Stp.refl (fun b => M b ∨ K b) W5).setCell (p := ⟨b1, 0, none⟩) (.inl (.inr hK1)) (.int .u32 z)
        have hj6 := Lib.hid (HJ.out _ M M W5 _ hj5 (fun b h => (hMW b h).1) (fun _ h => h) (fun _ h => .inl h) (fun b h => by have := hMW b h; rw [World.size_setCell]; omega) hst5)
        have cb6 := Lib.hid (cb5.set_ 0 (.int .u32 (z : Int)))
        have hT6 := Lib.hid (TabAt.stp (N := fun b => b = b1) hT5 ((Stp.refl (fun b => b = b1) W5).setCell (p := ⟨b1, 0, none⟩) (.inl rfl) (.int .u32 z)) (fun h => h01 h.symm))
        clear hk5 hj5 hy' HRD hst5 cb cb5 hT5 hTr
        gi_wp2_with (simp only [ea])
        go_roundw
        case rel => exact ⟨pre ++ [c], z, M, by rw [List.append_assoc]; exact HXS.out, by omega, hj6.out, fun b h => by have := hMW b h; rw [World.size_setCell]; omega, by rw [World.size_setCell]; omega, cb6.out, hT6.out⟩
        case measure =>
          rw [hme]
          unfold meas
          rw [cb6.out.cell 0]
          simp; omega
      · gi_wp2
        refine bodyPost_ret (results_none rfl _ _ _) rfl ?_
        exact ⟨⟨_, rfl⟩, .inr ⟨pre ++ [c], mL z, _, by rw [List.append_assoc]; exact HXS.out, hjx⟩⟩
end Go.Proofs.YtkeojokbpjdhpaaDoor
