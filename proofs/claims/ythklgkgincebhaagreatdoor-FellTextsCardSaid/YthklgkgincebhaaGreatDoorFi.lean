/- Fell: a list's values as an iterator; collected. -/
import Derived.Test.YthklgkgincebhaaGreatDoorFe
import Derived.Test.YthklgkgincebhaaGreatDoorRoundReg
set_option linter.unusedSimpArgs false
set_option linter.unusedVariables false
namespace Go.Proofs.YthklgkgincebhaaGreatDoor
open Go.RowKit Go.Shelf
attribute [local go_sem] Oper.semAt_some

def spE (x : Sp) : Array Value := #[spV x]
theorem l_at {l : List Sp} {k : Nat} {x : Sp} (hx : l[k]? = some x) : l = l.take k ++ x :: l.drop (k + 1) := by
  have h2 : k < l.length := (List.getElem?_eq_some_iff.1 hx).1
  have h3 := List.drop_eq_getElem_cons h2
  rw [(List.getElem?_eq_some_iff.1 hx).2] at h3
  rw [← h3, List.take_append_drop]
theorem l_take {l : List Sp} {k : Nat} {x : Sp} (hx : l[k]? = some x) : l.take (k + 1) = l.take k ++ [x] := by rw [List.take_add_one, hx]; rfl
set_option maxHeartbeats 4000000 in
set_option maxRecDepth 20000 in
theorem val_seq (n : Nat) (h1 : 1 ≤ n) (b1 : Nat) (A : Option Addr) (l : List Sp) (c : Nat) (R : Nat → Prop) (w0 : World) (hl : l.length ≤ 100000)
    (hb1 : Blk w0 b1 63 #[.slice A l.length c]) (hR : Rd Sp.cs 2 w0 A l) (hR1 : R b1) (hRA : ∀ ad, A = some ad → l ≠ [] → R ad.block) :
    SeqIs n Tryz.prog 84 #[.pointer (some ⟨b1, 0, none⟩)] spE l R w0 := by
  intro L J Jx W hW hJ hJx hY h0
  have c1 := hW.blk hb1 (fun k => k hR1)
  have hRW : Rd Sp.cs 2 W A l := by
    by_cases hne : l = []
    · rw [hne]; exact Rd.nil_
    · exact hR.stp hW (fun ad e k => k (hRA ad e hne))
  have HJ := Lib.hid hJ
  have HY := Lib.hid hY
  have q1 := c1.cell 0
  simp only [List.getElem?_toArray, List.getElem?_cons_zero] at q1
  have z1 := c1.lt
  have HA := Lib.hid (show ∀ ad, A = some ad → l ≠ [] → ad.block < W.heap.size from fun ad e hne => by
    obtain ⟨b', off', e', hlt, _⟩ := hRW hne
    rw [e] at e'; cases e'; exact hlt)
  clear hJ hJx hY hW hb1 hR
  refine callsIn_of_wp Tryz.func84 rfl trivial ?_
  simp only [Tryz.ntmps84, List.size_toArray, List.length_cons, List.length_nil, Nat.reduceAdd, Nat.reduceSub, Array.replicate_succ, Array.replicate_zero, List.push_toArray, List.append_toArray, List.nil_append, List.cons_append]
  gi_wp2
  gi_loopw [7] (fun i wr => ∃ (k : Nat) (M : Nat → Prop), k ≤ l.length ∧ i = .int .i64 k ∧ J (l.take k) M wr ∧ (∀ b, M b → W.heap.size ≤ b ∧ b < wr.heap.size) ∧ W.heap.size ≤ wr.heap.size ∧ Rd Sp.cs 2 wr A l) (fun i _ => l.length - (intOf i).toNat)
  case atStart => exact ⟨0, (fun _ => False), by omega, rfl, by simpa using h0, fun b h => h.elim, Nat.le_refl _, hRW⟩
  case round =>
    clear hRW q1 h0 c1
    obtain ⟨k, M, hk, rfl, hj, hMW, hWs, hRr⟩ := hrel
    have k0 : (0 : Int) ≤ (k : Int) := Int.natCast_nonneg _
    by_cases hlt : k < l.length
    · have k1 : (k : Int) < (l.length : Int) := by omega
      obtain ⟨x, b, off, hx, rfl, hb, d0, d1⟩ := rdS hRr hlt
      have hbW : b < W.heap.size := HA.out _ rfl (by intro e; rw [e] at hlt; simp at hlt)
      have HXS := Lib.hid (l_at hx)
      have HTK := Lib.hid (l_take hx)
      have hj3 := HJ.out _ M M wr (wr.alloc (.cells (spA x) 32)) hj (fun b h => (hMW b h).1) (fun _ h => h) (fun _ h => .inl h) (fun b h => by have := (hMW b h).2; rw [World.size_alloc]; omega) ((Stp.refl _ _).alloc _)
      have r3 := hRr.on (bl_alloc (below_refl wr) (.cells (spA x) 32))
      have hY2 := HY.out _ _ _ M _ HXS.out hj3
      obtain ⟨fn', tmps, assign, body, hy, hRd⟩ := hY2
      dsimp only [spE] at hy hRd
      have HRD := Lib.hid hRd
      clear hRd hj3 hRr hj hx
      gi_wp2
      refine HRD.out.mono ?_
      rintro e W5 (⟨rfl, hj5, hk5⟩ | ⟨rfl, hjx⟩)
      · have r5 := r3.stp hk5 (fun ad e k => k (.inr (hRA ad e (by intro e0; rw [e0] at hlt; simp at hlt))))
        have hz5 := hk5.size
        rw [World.size_alloc] at hz5
        have HJ5 := Lib.hid hj5
        clear hk5 hj5 hy HRD
        gi_wp2
        go_roundw
        case rel => exact ⟨k + 1, M, by omega, by go_num, by rw [HTK.out]; exact HJ5.out, fun b h => by have := hMW b h; omega, by omega, r5⟩
        case measure => simp [intOf]; omega
      · gi_wp2
        refine bodyPost_ret (results_none rfl _ _ _) rfl ?_
        exact ⟨⟨_, rfl⟩, .inr ⟨l.take k ++ [x], l.drop (k + 1), _, by rw [List.append_assoc]; exact HXS.out, hjx⟩⟩
    · obtain rfl : k = l.length := by omega
      gi_wp2
      go_end0
      exact ⟨⟨_, rfl⟩, .inl ⟨M, by rw [List.take_length] at hj; exact hj⟩⟩
end Go.Proofs.YthklgkgincebhaaGreatDoor
