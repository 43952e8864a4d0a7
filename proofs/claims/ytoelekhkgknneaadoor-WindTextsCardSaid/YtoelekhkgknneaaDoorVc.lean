/- Wind: the minutes as an iterator. -/
import Derived.Test.YtoelekhkgknneaaDoorVb
set_option linter.unusedSimpArgs false
set_option linter.unusedVariables false
namespace Go.Proofs.YtoelekhkgknneaaDoor
open Go.RowKit Go.Shelf
attribute [local go_sem] Oper.semAt_some

/-- the state ahead of minute k -/
def stA (r : Ru) (l : List Int) : Nat → Int
  | 0 => -1
  | k + 1 => nx r (stA r l k) (l.getD k 0)
/-- whether work goes in minute k -/
def gA (r : Ru) (l : List Int) (k : Nat) : Bool := gB r (stA r l k) (l.getD k 0)
def mnL (r : Ru) (l : List Int) : List (Nat × Bool) := (List.range l.length).map fun k => (k, gA r l k)
def mnE (x : Nat × Bool) : Array Value := #[.int .i64 (x.1 : Int), .bool x.2]
theorem stA_bd {r : Ru} (h : vRu r = true) (l : List Int) : ∀ k, -1 ≤ stA r l k ∧ stA r l k < r.c
  | 0 => by have := vru h; unfold stA; omega
  | k + 1 => nx_bd h (stA_bd h l k).1 (stA_bd h l k).2 _
theorem mnL_at {r : Ru} {l : List Int} {k : Nat} (hk : k < l.length) : mnL r l = (mnL r l).take k ++ (k, gA r l k) :: (mnL r l).drop (k + 1) := by
  have h1 : (mnL r l)[k]? = some (k, gA r l k) := by unfold mnL; rw [List.getElem?_map, List.getElem?_range hk]; rfl
  have h2 : k < (mnL r l).length := (List.getElem?_eq_some_iff.1 h1).1
  have h3 := List.drop_eq_getElem_cons h2
  rw [(List.getElem?_eq_some_iff.1 h1).2] at h3
  rw [← h3, List.take_append_drop]
theorem mnL_take {r : Ru} {l : List Int} {k : Nat} (hk : k < l.length) : (mnL r l).take (k + 1) = (mnL r l).take k ++ [(k, gA r l k)] := by
  have h1 : (mnL r l)[k]? = some (k, gA r l k) := by unfold mnL; rw [List.getElem?_map, List.getElem?_range hk]; rfl
  rw [List.take_add_one, h1]; rfl
theorem mnL_len (r : Ru) (l : List Int) : (mnL r l).length = l.length := by unfold mnL; simp
theorem enters_min : ∀ args w, (callFunc 153 args).run Tryd.prog w = .ok (.enter 153 args) w := enters_of Tryd.func153 (by kernel_rfl) rfl
set_option maxHeartbeats 4000000 in
set_option maxRecDepth 20000 in
theorem min_seq (n : Nat) (h1 : 1 ≤ n) (b1 b2 : Nat) (A : Option Addr) (r : Ru) (l : List Int) (c : Nat) (R : Nat → Prop) (w0 : World) (hv : vRu r = true) (hg : vGu l = true)
    (hb1 : Blk w0 b1 82 #[.int .i64 r.s, .int .i64 r.g, .int .i64 r.c]) (hb2 : Blk w0 b2 32 #[.slice A l.length c]) (hR : Rd zC 1 w0 A l) (hR1 : R b1) (hR2 : R b2) (hRA : ∀ ad, A = some ad → l ≠ [] → R ad.block) :
    SeqIs n Tryd.prog 153 #[.pointer (some ⟨b1, 0, none⟩), .pointer (some ⟨b2, 0, none⟩)] mnE (mnL r l) R w0 := by
  intro L J Jx W hW hJ hJx hY h0
  have c1 := hW.blk hb1 (fun k => k hR1)
  have c2 := hW.blk hb2 (fun k => k hR2)
  have hRW : Rd zC 1 W A l := by
    by_cases hne : l = []
    · rw [hne]; exact Rd.nil_
    · exact hR.stp hW (fun ad e k => k (hRA ad e hne))
  obtain ⟨hl2, hgu⟩ := vgu hg
  have HGU := Lib.hid hgu
  have HJ := Lib.hid hJ
  have HY := Lib.hid hY
  have HST := Lib.hid (stA_bd hv l)
  have HRC := Lib.hid (vru hv)
  have q10 := c1.cell 0
  have q11 := c1.cell 1
  have q12 := c1.cell 2
  have q2 := c2.cell 0
  simp only [List.getElem?_toArray, List.getElem?_cons_zero, List.getElem?_cons_succ] at q10 q11 q12 q2
  have z1 := c1.lt
  have z2 := c2.lt
  have HA := Lib.hid (show ∀ ad, A = some ad → l ≠ [] → ad.block < W.heap.size from fun ad e hne => by
    obtain ⟨b', off', e', hlt, _⟩ := hRW hne
    rw [e] at e'; cases e'; exact hlt)
  clear hJ hJx hY hW hb1 hb2 hR hgu hg
  refine callsIn_of_wp Tryd.func153 rfl trivial ?_
  simp only [Tryd.ntmps153, List.size_toArray, List.length_cons, List.length_nil, Nat.reduceAdd, Nat.reduceSub, Array.replicate_succ, Array.replicate_zero, List.push_toArray, List.append_toArray, List.nil_append, List.cons_append]
  gi_wp2
  refine ⟨trivial, (callsIn_wide.2 (p_newWatch r W)).mono ?_⟩
  rintro e W1 ⟨rfl, hw1, hb1, hz1⟩
  have q2' := (hb1.cell (p := ⟨b2, 0, none⟩) z2).trans q2
  have HJ1 := Lib.hid (HJ.out [] _ (fun b => b = W.heap.size ∨ b = W.heap.size + 1) W W1 h0 (fun b h => by omega) (fun _ h => h.elim) (fun b h => .inr (by omega)) (fun b h => by omega) ((Stp.refl _ _).below hb1 (Nat.le_refl _)))
  have k2 := c2.below hb1 z2
  have hR1' := hRW.on hb1
  clear q10 q11 q12 q2 h0 hb1 c1 c2
  gi_wp2
  gi_loopw [11] (fun i wr => ∃ (k : Nat) (M : Nat → Prop), k ≤ l.length ∧ i = .int .i64 k ∧ J ((mnL r l).take k) M wr ∧ Wt wr (W.heap.size + 1) r (stA r l k) ∧ M (W.heap.size + 1) ∧ (∀ b, M b → W.heap.size ≤ b ∧ b < wr.heap.size) ∧ Blk wr b2 32 #[.slice A l.length c] ∧ Rd zC 1 wr A l) (fun i _ => l.length - (intOf i).toNat)
  case atStart => exact ⟨0, (fun b => b = W.heap.size ∨ b = W.heap.size + 1), by omega, rfl, by simpa using HJ1.out, hw1, Or.inr rfl, fun b h => by omega, k2, hR1'⟩
  case round =>
    clear hw1 k2 hR1' q2' HJ1
    obtain ⟨k, M, hk, rfl, hj, hw, hMa, hMW, hk2, hRr⟩ := hrel
    have k0 : (0 : Int) ≤ (k : Int) := Int.natCast_nonneg _
    by_cases hlt : k < l.length
    · have k1 : (k : Int) < (l.length : Int) := by omega
      obtain ⟨x, b, off, hx, rfl, hb, d0⟩ := rd_int hRr hlt
      obtain ⟨x0, x1⟩ := HGU.out k x hx
      have hlx : l.getD k 0 = x := getD_of hx
      obtain ⟨s0, s1⟩ := HST.out k
      have hrc := HRC.out
      have hsc : stA r l k < 1000 := by omega
      have hbW : b < W.heap.size := HA.out _ rfl (by intro e; rw [e] at hlt; simp at hlt)
      have hgA : gA r l k = gB r (stA r l k) x := by unfold gA; rw [hlx]
      have hsN : stA r l (k + 1) = nx r (stA r l k) x := by rw [stA, hlx]
      have hC : Calls Tryd.prog (wfn (stA r l k)) #[.pointer (some ⟨W.heap.size + 1, 0, none⟩), .int .i64 x] wr fun e w' => e = .returned (.bool (gA r l k)) ∧ Wt w' (W.heap.size + 1) r (stA r l (k + 1)) ∧ Stp (fun x => x = W.heap.size + 1) wr w' := by
        rw [hgA, hsN]
        unfold wfn
        split
        · exact p_going _ r _ x wr hw (by assumption) x0
        · exact p_stopped _ r _ x wr hw (by omega) hsc x0
      have q4 := hw.cell 4
      have hcs : (wcs (W.heap.size + 1) r (stA r l k))[4]? = some (.func (.func (wfn (stA r l k))) #[.pointer (some ⟨W.heap.size + 1, 0, none⟩)] #[]) := rfl
      rw [hcs] at q4
      have hxs := mnL_at (r := r) hlt
      have htk := mnL_take (r := r) hlt
      have hen : ∀ args w, (callFunc (wfn (stA r l k)) args).run Tryd.prog w = .ok (.enter (wfn (stA r l k)) args) w := by
        intro args w
        unfold wfn
        split <;> rfl
      have HC := Lib.hid hC
      have HXS := Lib.hid hxs
      have HTK := Lib.hid htk
      have HJK := Lib.hid hj
      have HH := Lib.hid (show Stp (fun b => b = W.heap.size + 1) wr wr from Stp.refl _ _)
      generalize wfn (stA r l k) = wf at *
      clear hC hxs htk hj hlx hgA hsN hx hrc hw hcs
      gi_wp2
      refine ⟨trivial, (callsIn_wide.2 HC.out).mono ?_⟩
      rintro e w3 ⟨rfl, hw3, hs3⟩
      have hsM : Stp M wr w3 := hs3.mono (fun b _ e => e ▸ hMa)
      have hz3 := hs3.size
      have hj3 := HJ.out _ M M wr w3 HJK.out (fun b h => (hMW b h).1) (fun _ h => h) (fun _ h => .inl h) (fun b h => by have := (hMW b h).2; omega) hsM
      have k3 := hs3.blk hk2 (by omega)
      have r3 := hRr.stp hs3 (fun ad e => by cases e; show ¬ b = _; omega)
      have hY2 := HY.out _ _ _ M w3 HXS.out hj3
      obtain ⟨fn', tmps, assign, body, hy, hRd⟩ := hY2
      dsimp only [mnE] at hy hRd
      have HRD := Lib.hid hRd
      clear hRd hj3 hsM hs3 hk2 hRr
      gi_wp2
      refine HRD.out.mono ?_
      rintro e W5 (⟨rfl, hj5, hk5⟩ | ⟨rfl, hjx⟩)
      · have hw5 := hk5.blk hw3 (fun k => k (.inl hMa))
        have k5 := hk5.blk k3 (fun k => k (.inr hR2))
        have r5 := r3.stp hk5 (fun ad e k => k (.inr (hRA ad e (by intro e0; rw [e0] at hlt; simp at hlt))))
        have hz5 := hk5.size
        have HJ5 := Lib.hid hj5
        clear hk5 hj5 hy HRD
        gi_wp2
        go_roundw
        case rel => exact ⟨k + 1, M, by omega, by go_num, by rw [HTK.out]; exact HJ5.out, hw5, hMa, fun b h => by have := hMW b h; omega, k5, r5⟩
        case measure => simp [intOf]; omega
      · gi_wp2
        refine bodyPost_ret (results_none rfl _ _ _) rfl ?_
        exact ⟨⟨_, rfl⟩, .inr ⟨(mnL r l).take k ++ [(k, gA r l k)], (mnL r l).drop (k + 1), _, by rw [List.append_assoc]; exact HXS.out, hjx⟩⟩
    · obtain rfl : k = l.length := by omega
      gi_wp2
      go_end0
      exact ⟨⟨_, rfl⟩, .inl ⟨M, by rw [List.take_of_length_le (by rw [mnL_len]; omega)] at hj; exact hj⟩⟩
end Go.Proofs.YtoelekhkgknneaaDoor
