/- Lean: the iterator over three indexes. -/
import Derived.Test.YtoelekhkgknneaaDoorLd
import Derived.Test.YtoelekhkgknneaaDoorRange
namespace Go.Proofs.YtoelekhkgknneaaDoor
open Go.RowKit Go.Shelf

abbrev Trip := Nat × Nat × Nat
def tI (a b : Nat) (m : Nat) : List Trip := (List.range' (b + 1) m).map fun k => (a, b, k)
def tM (n a : Nat) (m : Nat) : List Trip := (List.range' (a + 1) m).flatMap fun b => tI a b (n - (b + 1))
def tL (n : Nat) (a : Nat) : List Trip := (List.range a).flatMap fun a => tM n a (n - (a + 1))
def trips (n : Nat) : List Trip := tL n n
theorem tI_succ (a b m : Nat) : tI a b (m + 1) = tI a b m ++ [(a, b, b + 1 + m)] := by
  simp [tI, List.range'_concat]
theorem tM_succ (n a m : Nat) : tM n a (m + 1) = tM n a m ++ tI a (a + 1 + m) (n - (a + 1 + m + 1)) := by
  simp [tM, List.range'_concat]
theorem tL_succ (n a : Nat) : tL n (a + 1) = tL n a ++ tM n a (n - (a + 1)) := by
  simp [tL, List.range_succ]
theorem tI_pre {a b m m' : Nat} (h : m ≤ m') : ∃ r, tI a b m' = tI a b m ++ r := by
  obtain ⟨d, rfl⟩ : ∃ d, m' = m + d := ⟨m' - m, by omega⟩
  induction d with
  | zero => exact ⟨[], by simp⟩
  | succ d ih =>
    obtain ⟨r, hr⟩ := ih (by omega)
    exact ⟨r ++ [_], by rw [← Nat.add_assoc, tI_succ, hr, List.append_assoc]⟩
theorem tM_pre {n a m m' : Nat} (h : m ≤ m') : ∃ r, tM n a m' = tM n a m ++ r := by
  obtain ⟨d, rfl⟩ : ∃ d, m' = m + d := ⟨m' - m, by omega⟩
  induction d with
  | zero => exact ⟨[], by simp⟩
  | succ d ih =>
    obtain ⟨r, hr⟩ := ih (by omega)
    exact ⟨r ++ _, by rw [← Nat.add_assoc, tM_succ, hr, List.append_assoc]⟩
theorem tL_pre {n a a' : Nat} (h : a ≤ a') : ∃ r, tL n a' = tL n a ++ r := by
  obtain ⟨d, rfl⟩ : ∃ d, a' = a + d := ⟨a' - a, by omega⟩
  induction d with
  | zero => exact ⟨[], by simp⟩
  | succ d ih =>
    obtain ⟨r, hr⟩ := ih (by omega)
    exact ⟨r ++ _, by rw [← Nat.add_assoc, tL_succ, hr, List.append_assoc]⟩
theorem trips_split {n a b c : Nat} (hab : a < b) (hbc : b < c) (hc : c < n) : ∃ rest, trips n = (tL n a ++ (tM n a (b - (a + 1)) ++ tI a b (c - (b + 1)))) ++ (a, b, c) :: rest := by
  obtain ⟨r1, h1⟩ := tL_pre (n := n) (a := a + 1) (a' := n) (by omega)
  obtain ⟨r2, h2⟩ := tM_pre (n := n) (a := a) (m := b - (a + 1) + 1) (m' := n - (a + 1)) (by omega)
  obtain ⟨r3, h3⟩ := tI_pre (a := a) (b := b) (m := c - (b + 1) + 1) (m' := n - (b + 1)) (by omega)
  refine ⟨r3 ++ (r2 ++ r1), ?_⟩
  unfold trips
  rw [h1, tL_succ, h2, tM_succ, show a + 1 + (b - (a + 1)) = b by omega, h3, tI_succ, show b + 1 + (c - (b + 1)) = c by omega]
  simp [List.append_assoc]
def tripE (t : Trip) : Array Value := #[.agg #[.int .i64 t.1, .int .i64 t.2.1, .int .i64 t.2.2]]

theorem enters_trips : ∀ args w, (callFunc 158 args).run Tryd.prog w = .ok (.enter 158 args) w := enters_of Tryd.func158 (by kernel_rfl) rfl
attribute [local go_sem] Oper.semAt_some

set_option maxHeartbeats 1000000 in
set_option maxRecDepth 20000 in
theorem trip_seq (fn : Nat) (h1 : 1 ≤ fn) (bb n : Nat) (hn : n ≤ 1000) (R : Nat → Prop) (w0 : World) (hb : w0.cell? ⟨bb, 0, none⟩ = some (.int .i64 n)) (hRb : R bb) :
    SeqIs fn Tryd.prog 158 #[.pointer (some ⟨bb, 0, none⟩)] tripE (trips n) R w0 := by
  intro L J Jx W hW hJ hJx hY h0
  have hbW := hW.cell hb (fun k => k hRb)
  have HY := Lib.hid hY
  clear hJ hJx hY hb hW
  refine callsIn_of_wp Tryd.func158 rfl trivial ?_
  simp only [Tryd.ntmps158, List.size_toArray, List.length_cons, List.length_nil, Nat.reduceAdd, Nat.reduceSub, Array.replicate_succ, Array.replicate_zero, List.push_toArray, List.append_toArray, List.nil_append, List.cons_append]
  gi_wp2
  gi_loopw [3, 4, 5] (fun i _ _ wr => ∃ a : Nat, a ≤ n ∧ i = .int .i64 a ∧ J (tL n a) (fun _ => False) wr ∧ wr.cell? ⟨bb, 0, none⟩ = some (.int .i64 n)) (fun i _ _ _ => n - (intOf i).toNat)
  case atStart => exact ⟨0, by omega, rfl, h0, hbW⟩
  case round =>
    obtain ⟨a, ha, rfl, hj, hc⟩ := hrel
    obtain ⟨wo, rfl⟩ : ∃ wo : World, wo = wr := ⟨_, rfl⟩
    by_cases hlt : a < n
    · have HJ := Lib.hid hj
      clear hj
      gi_wp2
      gi_loopw [4, 5] (fun j _ wr => ∃ b : Nat, a + 1 ≤ b ∧ b ≤ n ∧ j = .int .i64 b ∧ Hid (J (tL n a ++ tM n a (b - (a + 1))) (fun _ => False) wr) ∧ wr.cell? ⟨bb, 0, none⟩ = some (.int .i64 n)) (fun j _ _ => n - (intOf j).toNat)
      case atStart => exact ⟨a + 1, by omega, by omega, by go_num, by show J _ _ _; rw [Nat.sub_self]; simpa [tM] using HJ.out, hc⟩
      case round =>
        obtain ⟨b, hb0, hb1, rfl, hj2, hc2⟩ := hrel
        obtain ⟨wp, rfl⟩ : ∃ wp : World, wp = wr := ⟨_, rfl⟩
        by_cases hlt2 : b < n
        · gi_wp2
          gi_loopw [5] (fun k wr => ∃ c : Nat, b + 1 ≤ c ∧ c ≤ n ∧ k = .int .i64 c ∧ Hid (J (tL n a ++ (tM n a (b - (a + 1)) ++ tI a b (c - (b + 1)))) (fun _ => False) wr) ∧ wr.cell? ⟨bb, 0, none⟩ = some (.int .i64 n)) (fun k _ => n - (intOf k).toNat)
          case atStart => exact ⟨b + 1, by omega, by omega, by go_num, by show J _ _ _; rw [Nat.sub_self]; simpa [tI] using hj2.out, hc2⟩
          case round =>
            obtain ⟨c, hc0, hc1, rfl, hj3, hc3⟩ := hrel
            by_cases hlt3 : c < n
            · obtain ⟨rest, hr⟩ := trips_split (n := n) (a := a) (b := b) (c := c) (by omega) (by omega) hlt3
              have hY2 := HY.out _ _ _ _ _ hr hj3.out
              obtain ⟨fn', tmps, assign, body, hy, hRd⟩ := hY2
              dsimp only [tripE] at hy hRd
              have HRD := Lib.hid hRd
              have HR := Lib.hid hr
              clear hRd hr
              gi_wp2
              refine HRD.out.mono ?_
              rintro e W3 (⟨rfl, hj4, hk3⟩ | ⟨rfl, hjx⟩)
              · have hc4 := hk3.cell hc3 (fun k => k (.inr hRb))
                have HJ4 := Lib.hid hj4
                clear hk3 hj4
                gi_wp2
                go_roundw
                case rel => exact ⟨c + 1, by omega, by omega, by go_num, by show J _ _ _; rw [show c + 1 - (b + 1) = c - (b + 1) + 1 by omega, tI_succ, show b + 1 + (c - (b + 1)) = c by omega]; simpa [List.append_assoc] using HJ4.out, hc4⟩
                case measure => simp [intOf]; omega
              · gi_wp2
                refine bodyPost_ret (results_none rfl _ _ _) rfl ?_
                exact ⟨⟨_, rfl⟩, .inr ⟨_, rest, _, by rw [HR.out]; simp, hjx⟩⟩
            · obtain rfl : c = n := by omega
              gi_wp2
              go_roundw
              case rel => exact ⟨b + 1, by omega, by omega, by go_num, by show J _ _ _; rw [show b + 1 - (a + 1) = b - (a + 1) + 1 by omega, tM_succ, show a + 1 + (b - (a + 1)) = b by omega]; exact hj3.out, hc3⟩
              case measure => simp [intOf]; omega
        · obtain rfl : b = n := by omega
          gi_wp2
          go_roundw
          case rel => exact ⟨a + 1, by omega, by go_num, by rw [tL_succ]; exact hj2.out, hc2⟩
          case measure => simp [intOf]; omega
    · obtain rfl : a = n := by omega
      gi_wp2
      go_end0
      exact ⟨⟨_, rfl⟩, .inl ⟨_, hj⟩⟩
end Go.Proofs.YtoelekhkgknneaaDoor
