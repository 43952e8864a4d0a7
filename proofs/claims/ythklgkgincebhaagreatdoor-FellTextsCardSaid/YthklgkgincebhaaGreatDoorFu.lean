/- Fell: spots of both. -/
import Derived.Test.YthklgkgincebhaaGreatDoorFt
set_option linter.unusedSimpArgs false
set_option linter.unusedVariables false
namespace Go.Proofs.YthklgkgincebhaaGreatDoor
open Go.RowKit

def spL (l : List Pr) : List Sp := l.map Pr.a
theorem spL_len (l : List Pr) : (spL l).length = l.length := by simp [spL]
theorem spL_step {l : List Pr} {k : Nat} {x : Pr} (h : l[k]? = some x) : (spL l).take (k + 1) = (spL l).take k ++ [x.a] := by
  rw [List.take_add_one]; simp [spL, h]
set_option maxHeartbeats 4000000 in
set_option maxRecDepth 20000 in
theorem p_spots (A : Option Addr) (l : List Pr) (c : Nat) (w : World) (hl : l.length ≤ 100000) (hR : Rd Pr.cs 3 w A l) :
    Calls Tryz.prog 27 #[.slice A l.length c] w fun e w' => ∃ v, e = .returned v ∧ OwnP w.heap.size w' v (spL l) ∧ Below w.heap.size w w' := by
  have HK := Lib.hid (fun k x (h : l[k]? = some x) => spL_step h)
  have HEND := Lib.hid (show (spL l).take l.length = spL l by rw [← spL_len l, List.take_length])
  have HLN := Lib.hid (spL_len l)
  obtain ⟨i0, hi, hi1, hi2, hi3⟩ := info_spot
  go_enter Tryz.func27, Tryz.ntmps27
  go_wp2
  go_loopw [3, 8] (fun v i wr => ∃ k : Nat, k ≤ l.length ∧ i = .int .i64 k ∧ Below w.heap.size w wr ∧ wr.ownsRow w.heap.size 32 2 v k (fl Sp.cs ((spL l).take k))) (fun _ i _ => l.length - (intOf i).toNat)
  case atStart => exact ⟨0, by omega, rfl, below_refl _, World.ownsRow_nil w _ _ _⟩
  case round =>
    obtain ⟨k, hk, rfl, hbw, hown⟩ := hrel
    obtain ⟨ad, cp, rfl⟩ := own_slice hown
    have k0 : (0 : Int) ≤ (k : Int) := Int.natCast_nonneg _
    have hws := hbw.size
    by_cases hlt : k < l.length
    · have k1 : (k : Int) < (l.length : Int) := by omega
      obtain ⟨x, b, off, hx, rfl, hb, c0, c1, c2⟩ := rdP (hR.on hbw) hlt
      have HST := Lib.hid (HK.out k x hx)
      have HZ := Lib.hid (fun (w1 : World) (j : Nat) u (hu : (Sp.cs x.a)[j]? = some u) => cells_new w1 (Sp.cs x.a) 32 j u hu)
      clear hx
      have bA := bl_alloc hbw (.cells #[.int .i64 x.a.x, .int .i64 x.a.y, .bool x.wd] 34)
      have oA := own_on hown (below_alloc wr (.cells #[.int .i64 x.a.x, .int .i64 x.a.y, .bool x.wd] 34))
      go_wp2_with (at_builtin; go_loud (refine wpList_append_own _ rfl _ _ 63 rfl w.heap.size 32 i0 (.agg #[.int .i64 0, .int .i64 0]) 2 16 (by kernel_rfl) hi hi1 hi2 hi3 rfl (by omega) _ _ _ rfl (oA.alloc _) ⟨wr.heap.size + 1, 0, none⟩ 1 1 (Sp.cs x.a) rfl rfl (by have := HZ.out (wr.alloc (.cells #[.int .i64 x.a.x, .int .i64 x.a.y, .bool x.wd] 34)); rw [World.size_alloc] at this; exact this) (spC_one x.a) (by unfold maxLen; omega) (by omega) (by simp; omega) ?_; intro v' w9 hown9 hgrow _))
      go_roundw
      case rel => exact ⟨k + 1, by omega, by go_num, bl_app bA oA hgrow (Nat.le_refl _) bA.size, by rw [HST.out, fl_snoc]; exact hown9⟩
      case measure => simp [intOf]; omega
    · obtain rfl : k = l.length := by omega
      rw [HEND.out] at hown
      go_wp2
      go_ret
      exact ⟨_, rfl, by unfold OwnP; rw [HLN.out]; exact hown, hbw⟩
end Go.Proofs.YthklgkgincebhaaGreatDoor
