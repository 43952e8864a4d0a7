/- Stack: the iterator over the beds, and what stands above a bed. -/
import Derived.Test.YtoelekhkgknneaaDoorSc
import Derived.Test.YtoelekhkgknneaaDoorRange
namespace Go.Proofs.YtoelekhkgknneaaDoor
open Go.RowKit Go.Shelf
attribute [local go_sem] Oper.semAt_some

def abv (s : List Course) : Value := .agg #[.int .i64 (wts s), .int .i64 (es s), .int .i64 (ns s), .int .i64 (hs s), .int .i64 (push s)]
def bedE (l : List Course) (i : Nat) : Array Value := #[.int .i64 i, .agg #[.int .i64 (wts (l.drop i)), .int .i64 (es (l.drop i)), .int .i64 (ns (l.drop i)), .int .i64 (hs (l.drop i)), .int .i64 (push (l.drop i))]]

theorem enters91 : ∀ args w, (callFunc 156 args).run Tryd.prog w = .ok (.enter 156 args) w := enters_of Tryd.func156 (by kernel_rfl) rfl

set_option maxHeartbeats 1000000 in
theorem beds_seq (n : Nat) (h1 : 1 ≤ n) (bb : Nat) (A : Option Addr) (l : List Course) (c : Nat) (R : Nat → Prop) (w0 : World) (hv : validC l = true) (hb : w0.cell? ⟨bb, 0, none⟩ = some (.slice A l.length c))
    (hR : Rd Course.cs 6 w0 A l) (hRb : R bb) (hRA : ∀ ad, A = some ad → R ad.block) :
    SeqIs n Tryd.prog 156 #[.pointer (some ⟨bb, 0, none⟩)] (bedE l) (List.range l.length).reverse R w0 := by
  intro L J Jx W hW hJ hJx hY h0
  have hbW := hW.cell hb (fun k => k hRb)
  have hRW := hR.stp hW (fun ad e k => k (hRA ad e))
  have hbl := World.block_lt_of_cell? W _ hbW
  obtain ⟨hall, hl1, hl2⟩ := valid_all hv
  have HA := Lib.hid hall
  clear hv hall hb hR hW
  have HJ := Lib.hid hJ
  have HY := Lib.hid hY
  clear hJ hJx hY
  refine callsIn_of_wp Tryd.func156 rfl trivial ?_
  simp only [Tryd.ntmps156, List.size_toArray, List.length_cons, List.length_nil, Nat.reduceAdd, Nat.reduceSub, Array.replicate_succ, Array.replicate_zero, List.push_toArray, List.append_toArray, List.nil_append, List.cons_append]
  gi_wp2
  gi_loopw [4, 5] (fun f i wr => ∃ (m : Nat) (pre : List Nat) (M : Nat → Prop), m ≤ l.length ∧ Hid ((List.range l.length).reverse = pre ++ (List.range m).reverse) ∧ f = .int .i64 (face (l.drop m)) ∧ i = .int .i64 ((m : Int) - 1) ∧ J pre M wr ∧
      Blk wr W.heap.size 133 #[.int .i64 (wts (l.drop m)), .int .i64 (es (l.drop m)), .int .i64 (ns (l.drop m)), .int .i64 (hs (l.drop m)), .int .i64 (push (l.drop m))] ∧
      M W.heap.size ∧ (∀ b, M b → W.heap.size ≤ b ∧ b < wr.heap.size) ∧ wr.cell? ⟨bb, 0, none⟩ = some (.slice A l.length c) ∧ Rd Course.cs 6 wr A l)
    (fun _ i _ => (intOf i + 1).toNat)
  case atStart =>
    refine ⟨l.length, [], fun b => b = W.heap.size, Nat.le_refl _, rfl, by simp [face], by simp, ?_, ?_, rfl, fun b h => ⟨by omega, by simp; omega⟩, ?_, ?_⟩
    · exact HJ.out [] _ _ W _ h0 (fun b h => by omega) (fun _ h => h.elim) (fun b h => .inr (by omega)) (fun b h => by simp; omega) ((Stp.refl _ _).alloc _)
    · simpa [wts, es, ns, hs, push] using Blk.new W 133 #[.int .i64 0, .int .i64 0, .int .i64 0, .int .i64 0, .int .i64 0]
    · rw [World.cell?_alloc_lt _ _ _ hbl]; exact hbW
    · exact hRW.on (below_alloc _ _)
  case round =>
    obtain ⟨m, pre, M, hm, HX, rfl, rfl, hj, ha, hMa, hMW, hcl, hrd⟩ := hrel
    cases m with
    | zero =>
      gi_wp2
      go_end0
      refine ⟨⟨_, rfl⟩, .inl ⟨M, ?_⟩⟩
      have := HX.out
      simp only [List.range_zero, List.reverse_nil, List.append_nil] at this
      rw [this]; exact hj
    | succ m =>
      rw [show (((m + 1 : Nat) : Int) - 1) = (m : Int) from by omega]
      obtain ⟨x, ab, off, hx, rfl, hab, c0, c1, c2, c3, c4, c5⟩ := rdC hrd (show m < l.length by omega)
      have hcb : CB x := cb_of (List.all_eq_true.1 HA.out x (List.mem_of_getElem? hx))
      have hd1 := sb_of (all_drop HA.out (m + 1))
      have hd2 := sb_of (all_drop HA.out m)
      rw [hs_drop hx] at hd2
      have hll : (l.drop (m + 1)).length ≤ 59 := by simp; omega
      obtain ⟨s1, s2, s3, s4, s5, s6, s7, s8, s9, s10, s11, s12⟩ := hd1
      obtain ⟨t1, t2, t3, t4, t5, t6, t7, t8, t9, t10, t11, t12⟩ := hd2
      have hq := mul_bd0 (a := ((l.drop (m + 1)).length : Int)) (b := (l.drop (m + 1)).length) (A := 59) (B := 59) (by omega) (by omega) (by omega) (by omega)
      have hq2 := mul_bd0 (a := ((x :: l.drop (m + 1)).length : Int)) (b := (x :: l.drop (m + 1)).length) (A := 60) (B := 60) (by omega) (by simp only [List.length_cons]; omega) (by omega) (by simp only [List.length_cons]; omega)
      simp only [hs, wts, es, ns, face, push] at t1 t2 t3 t4 t5 t6 t7 t8 t9 t10 t11 t12
      obtain ⟨d1, d2, d3, d4, d5, d6, d7, d8, d9, d10, d11⟩ := hcb
      have m1 := mul_bd (a := x.wt) (b := x.e) (A := 1000000) (B := 5000) (by omega) d7 d8 d9
      have m2 := mul_bd (a := x.wt) (b := x.n) (A := 1000000) (B := 5000) (by omega) d7 d10 d11
      have m3 := mul_bd0 (a := x.o) (b := x.h) (A := 5000) (B := 2000) (by omega) d5 (by omega) d2
      have m4 := mul_bd0 (a := x.o * x.h) (b := x.h) (A := 5000 * 2000) (B := 2000) m3.1 m3.2 (by omega) d2
      have m5 := mul_bd0 (a := 2 * face (l.drop (m + 1))) (b := x.h) (A := 2 * 590000000) (B := 2000) (by omega) (by omega) (by omega) d2
      obtain ⟨m11, m12⟩ := m1
      obtain ⟨m21, m22⟩ := m2
      obtain ⟨m31, m32⟩ := m3
      obtain ⟨m41, m42⟩ := m4
      obtain ⟨m51, m52⟩ := m5
      obtain ⟨q11, q12⟩ := hq
      obtain ⟨q21, q22⟩ := hq2
      have habW : ab < W.heap.size := by
        obtain ⟨b', off', e, hlt, _⟩ := hRW (by rintro rfl; simp at hl1)
        cases e; exact hlt
      have hbE : bedE l m = #[.int .i64 m, .agg #[.int .i64 (wts (l.drop (m + 1)) + x.wt), .int .i64 (es (l.drop (m + 1)) + x.wt * x.e), .int .i64 (ns (l.drop (m + 1)) + x.wt * x.n), .int .i64 (hs (l.drop (m + 1)) + x.h), .int .i64 (push (l.drop (m + 1)) + (2 * face (l.drop (m + 1)) * x.h + x.o * x.h * x.h))]] := by
        unfold bedE; rw [hs_drop hx]; rfl
      have hface : face (l.drop m) = face (l.drop (m + 1)) + x.o * x.h := by rw [hs_drop hx]; rfl
      have HXX := Lib.hid hx
      clear hx
      generalize hS : l.drop (m + 1) = S at *
      have HS := Lib.hid hS
      have HF := Lib.hid hface
      clear hS hface
      have e0 := ha.cell 0
      have e1 := ha.cell 1
      have e2 := ha.cell 2
      have e3 := ha.cell 3
      have e4 := ha.cell 4
      have f0 := ha.frozen 0
      have f1 := ha.frozen 1
      have f2 := ha.frozen 2
      have f3 := ha.frozen 3
      have f4 := ha.frozen 4
      simp only [List.getElem?_toArray, List.getElem?_cons_zero, List.getElem?_cons_succ] at e0 e1 e2 e3 e4
      have hsz := ha.lt
      have hxs : (List.range l.length).reverse = pre ++ m :: (List.range m).reverse := by rw [HX.out, List.range_succ]; simp
      have hst : Stp M wr ((((((wr.setCell ⟨W.heap.size, 4, none⟩ (.int .i64 (push S + (2 * face S * x.h + x.o * x.h * x.h)))).setCell ⟨W.heap.size, 0, none⟩ (.int .i64 (wts S + x.wt))).setCell ⟨W.heap.size, 1, none⟩ (.int .i64 (es S + x.wt * x.e))).setCell
        ⟨W.heap.size, 2, none⟩ (.int .i64 (ns S + x.wt * x.n))).setCell ⟨W.heap.size, 3, none⟩ (.int .i64 (hs S + x.h))).alloc (.cells #[.int .i64 x.h, .int .i64 x.o, .int .i64 x.i, .int .i64 x.wt, .int .i64 x.e, .int .i64 x.n] 91)) :=
        ((((((Stp.refl M wr).setCell (.inl hMa) _).setCell (.inl hMa) _).setCell (.inl hMa) _).setCell (.inl hMa) _).setCell (.inl hMa) _).alloc _
      have hbk : Blk ((((((wr.setCell ⟨W.heap.size, 4, none⟩ (.int .i64 (push S + (2 * face S * x.h + x.o * x.h * x.h)))).setCell ⟨W.heap.size, 0, none⟩ (.int .i64 (wts S + x.wt))).setCell ⟨W.heap.size, 1, none⟩ (.int .i64 (es S + x.wt * x.e))).setCell
        ⟨W.heap.size, 2, none⟩ (.int .i64 (ns S + x.wt * x.n))).setCell ⟨W.heap.size, 3, none⟩ (.int .i64 (hs S + x.h))).alloc (.cells #[.int .i64 x.h, .int .i64 x.o, .int .i64 x.i, .int .i64 x.wt, .int .i64 x.e, .int .i64 x.n] 91)) W.heap.size 133
        #[.int .i64 (wts S + x.wt), .int .i64 (es S + x.wt * x.e), .int .i64 (ns S + x.wt * x.n), .int .i64 (hs S + x.h), .int .i64 (push S + (2 * face S * x.h + x.o * x.h * x.h))] := (((((ha.set_ 4 _).set_ 0 _).set_ 1 _).set_ 2 _).set_ 3 _).alloc _
      have HMW2 : ∀ b, (M b ∨ b = wr.heap.size) → b < ((((((wr.setCell ⟨W.heap.size, 4, none⟩ (.int .i64 (push S + (2 * face S * x.h + x.o * x.h * x.h)))).setCell ⟨W.heap.size, 0, none⟩ (.int .i64 (wts S + x.wt))).setCell ⟨W.heap.size, 1, none⟩ (.int .i64 (es S + x.wt * x.e))).setCell
        ⟨W.heap.size, 2, none⟩ (.int .i64 (ns S + x.wt * x.n))).setCell ⟨W.heap.size, 3, none⟩ (.int .i64 (hs S + x.h))).alloc (.cells #[.int .i64 x.h, .int .i64 x.o, .int .i64 x.i, .int .i64 x.wt, .int .i64 x.e, .int .i64 x.n] 91)).heap.size := fun b h => by
        have hs5 : ((((((wr.setCell ⟨W.heap.size, 4, none⟩ (.int .i64 (push S + (2 * face S * x.h + x.o * x.h * x.h)))).setCell ⟨W.heap.size, 0, none⟩ (.int .i64 (wts S + x.wt))).setCell ⟨W.heap.size, 1, none⟩ (.int .i64 (es S + x.wt * x.e))).setCell
        ⟨W.heap.size, 2, none⟩ (.int .i64 (ns S + x.wt * x.n))).setCell ⟨W.heap.size, 3, none⟩ (.int .i64 (hs S + x.h))).alloc (.cells #[.int .i64 x.h, .int .i64 x.o, .int .i64 x.i, .int .i64 x.wt, .int .i64 x.e, .int .i64 x.n] 91)).heap.size = wr.heap.size + 1 := by simp [World.setCell]
        rw [hs5]
        rcases h with h | h
        · have := (hMW b h).2; omega
        · omega
      have hj2 := HJ.out pre M (fun b => M b ∨ b = wr.heap.size) wr _ hj (fun b h => by rcases h with h | h; exact (hMW b h).1; omega) (fun b h => .inl h) (fun b h => by rcases h with h | h; exact .inl h; exact .inr (by omega)) HMW2 hst
      have HMW : Hid (∀ b, (M b ∨ b = wr.heap.size) → W.heap.size ≤ b ∧ b < wr.heap.size + 1) := fun b h => by
        rcases h with h | h
        · have := hMW b h; omega
        · omega
      have hY2 := HY.out pre m _ _ _ hxs hj2
      rw [hbE] at hY2
      have hcl2 := hst.cell hcl (fun k => by have := (hMW _ k).1; omega)
      have hrd2 := hrd.stp hst (fun ad e k => by cases e; have : W.heap.size ≤ ab := (hMW _ k).1; omega)
      obtain ⟨fn, tmps, assign, body, hy, hRd⟩ := hY2
      have HRD := Lib.hid hRd
      have HST := Lib.hid hst
      have HBK := Lib.hid hbk
      have HJ2 := Lib.hid hj2
      have HXS := Lib.hid hxs
      have HCL := Lib.hid hcl2
      clear hRd hst hbk hj2 hj hxs hbE hcl2
      gi_wp2
      refine HRD.out.mono ?_
      rintro e W3 (⟨rfl, hj3, hk3⟩ | ⟨rfl, hjx⟩)
      · have hcl3 := hk3.cell HCL.out (fun k => k (.inr hRb))
        have hbk3 := hk3.blk HBK.out (fun k => k (.inl (.inl hMa)))
        have hrd3 := hrd2.stp hk3 (fun ad e k => k (.inr (hRA ad e)))
        have H3 := Lib.hid hcl3
        have HZ3 : Hid (wr.heap.size + 1 ≤ W3.heap.size) := by have := hk3.size; simp [World.setCell] at this; exact this
        clear hk3 hcl3
        gi_wp2
        go_roundw
        case rel =>
          refine ⟨m, pre ++ [m], _, by omega, ?_, ?_, rfl, hj3, ?_, .inl hMa, fun b h => ⟨(HMW.out b h).1, by have := (HMW.out b h).2; have := HZ3.out; omega⟩, H3.out, hrd3⟩
          · show _ = _; rw [HXS.out]; simp
          · rw [HF.out]
          · rw [hs_drop HXX.out, HS.out]; simpa [wts, es, ns, hs, push] using hbk3
        case measure => simp [intOf]
      · gi_wp2
        refine bodyPost_ret (results_none rfl _ _ _) rfl ?_
        exact ⟨⟨_, rfl⟩, .inr ⟨pre ++ [m], (List.range m).reverse, _, by rw [HXS.out]; simp, hjx⟩⟩

theorem load_above {W : World} {b : Nat} {x0 x1 x2 x3 x4 : Value} (h : Blk W b 133 #[x0, x1, x2, x3, x4]) : (loadVar 133 ⟨b, 0, none⟩).run Tryd.prog W = .ok (.agg #[x0, x1, x2, x3, x4]) W := by
  have c0 := h.cell 0
  have c1 := h.cell 1
  have c2 := h.cell 2
  have c3 := h.cell 3
  have c4 := h.cell 4
  simp only [List.getElem?_toArray, List.getElem?_cons_zero, List.getElem?_cons_succ] at c0 c1 c2 c3 c4
  go_simp

end Go.Proofs.YtoelekhkgknneaaDoor
