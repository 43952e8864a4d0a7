/- The parts of the proof, part 38. -/
import Derived.Test.YtmjgljdmjpabdaaGreatDoorP0
import Derived.Test.YtmjgljdmjpabdaaGreatDoorP1
import Derived.Test.YtmjgljdmjpabdaaGreatDoorP12
import Derived.Test.YtmjgljdmjpabdaaGreatDoorP37
set_option linter.unusedSimpArgs false
set_option linter.unusedVariables false
namespace Go.Proofs.YtmjgljdmjpabdaaGreatDoor.Fi
open Go.RowKit Go.Lib Tx
set_option maxHeartbeats 2000000 in
set_option maxRecDepth 20000 in
theorem r_LineNil (w : World) : Calls Tryz.prog 24 #[.slice none 0 0, .int .i64 0, .string ⟨#[100, 111, 103, 32, 48]⟩] w fun e w' => e = .returned (enV ⟨0, 0, ⟨#[100, 111, 103, 32, 48]⟩, hsh [48, 32, 48, 32, 48, 32, 100, 111, 103, 32, 48]⟩) ∧ Below w.heap.size w w' := by
  have HD := Lib.hid (fun W => r_Digits0 W)
  have HH := Lib.hid (fun W => (show Calls Tryz.prog 68 #[.string ((⟨#[48]⟩ : ByteArray) ++ ⟨#[32]⟩ ++ ⟨#[48]⟩ ++ ⟨#[32]⟩ ++ ⟨#[48]⟩ ++ ⟨#[32]⟩ ++ ⟨#[100, 111, 103, 32, 48]⟩)] W fun e w' => e = .returned (.int .u64 (hsh [48, 32, 48, 32, 48, 32, 100, 111, 103, 32, 48] : Nat)) ∧ W = w' from by
    rw [show ((⟨#[48]⟩ : ByteArray) ++ ⟨#[32]⟩ ++ ⟨#[48]⟩ ++ ⟨#[32]⟩ ++ ⟨#[48]⟩ ++ ⟨#[32]⟩ ++ ⟨#[100, 111, 103, 32, 48]⟩) = ⟨#[48, 32, 48, 32, 48, 32, 100, 111, 103, 32, 48]⟩ from by rfl]
    exact r_Hash _ W (by decide)))
  generalize hsh [48, 32, 48, 32, 48, 32, 100, 111, 103, 32, 48] = H at *
  go_enter Tryz.func24, Tryz.ntmps24
  go_upto_region 5 with fail
  have x0 := (Blk.new w 66 #[.int .i64 0, .int .i64 0, .string ⟨#[]⟩, .int .u64 0]).alloc (.cells #[.int .i64 0, .int .i64 0, .string ⟨#[100, 111, 103, 32, 48]⟩, .int .u64 0] 66)
  have x1 := Blk.new (w.alloc (.cells #[.int .i64 0, .int .i64 0, .string ⟨#[]⟩, .int .u64 0] 66)) 66 #[.int .i64 0, .int .i64 0, .string ⟨#[100, 111, 103, 32, 48]⟩, .int .u64 0]
  rw [World.size_alloc] at x1
  have BW := bl_alloc (bl_alloc (below_refl w) (.cells #[.int .i64 0, .int .i64 0, .string ⟨#[]⟩, .int .u64 0] 66)) (.cells #[.int .i64 0, .int .i64 0, .string ⟨#[100, 111, 103, 32, 48]⟩, .int .u64 0] 66)
  generalize (w.alloc (.cells #[.int .i64 0, .int .i64 0, .string ⟨#[]⟩, .int .u64 0] 66)).alloc (.cells #[.int .i64 0, .int .i64 0, .string ⟨#[100, 111, 103, 32, 48]⟩, .int .u64 0] 66) = w1 at *
  have e0 : w1.cell? ⟨w.heap.size + 1, 0, none⟩ = some (.int .i64 0) := (x1.cell 0).trans rfl
  go_wp2_with (first | (go_at_call 69; ((with_reducible refine (HD.out _).mono ?_); rintro e w9 ⟨rfl, hb9⟩; replace x0 := x0.below hb9 x0.lt; replace x1 := x1.below hb9 x1.lt; replace BW := below_tr BW hb9)) | (go_at_call 68; ((with_reducible refine (HH.out _).mono ?_); rintro e w' ⟨rfl, rfl⟩; have hf0 := x0.frozen 0; have hf1 := x0.frozen 1; have hf2 := x0.frozen 2; have hf3 := x0.frozen 3; have hg3 := x1.frozen 3; have k0 := (x1.cell 0).trans (show _ = some (.int .i64 0) from rfl); have k1 := (x1.cell 1).trans (show _ = some (.int .i64 0) from rfl); have k2 := (x1.cell 2).trans (show _ = some (.string ⟨#[100, 111, 103, 32, 48]⟩) from rfl); have k3 := (x1.cell 3).trans (show _ = some (.int .u64 0) from rfl); have j0 := (x0.cell 0).trans (show _ = some (.int .i64 0) from rfl); have j1 := (x0.cell 1).trans (show _ = some (.int .i64 0) from rfl); have j2 := (x0.cell 2).trans (show _ = some (.string ⟨#[]⟩) from rfl); have j3 := (x0.cell 3).trans (show _ = some (.int .u64 0) from rfl))))
  have HB := (((((x0.far (p := ⟨w.heap.size + 1, 3, none⟩) (fun e => by have e' : w.heap.size = w.heap.size + 1 := e; omega) (.int .u64 (H : Nat))).set_ 0 (.int .i64 0)).set_ 1 (.int .i64 0)).set_ 2 (.string ⟨#[100, 111, 103, 32, 48]⟩)).set_ 3 (.int .u64 (H : Nat)))
  refine bodyPost_ret (v := enV ⟨0, 0, ⟨#[100, 111, 103, 32, 48]⟩, H⟩) (res_c rfl rfl (load_en HB)) rfl ⟨rfl, ?_⟩
  (repeat' (first | assumption | exact below_refl _ | refine bl_alloc ?_ _ | refine Below.setCell ?_ ?_ _ | refine below_draw ?_ | refine below_drewN ?_ _ | refine below_tr ?_ (by assumption))) <;> (first | omega | (simp; done) | (simp; omega))
end Go.Proofs.YtmjgljdmjpabdaaGreatDoor.Fi
set_option linter.unusedSimpArgs false
set_option linter.unusedVariables false
namespace Go.Proofs.YtmjgljdmjpabdaaGreatDoor.Fi
open Go.Lib Tx
def scrT : List UInt8 := [117, 112, 32, 48, 32, 50, 10, 100, 111, 103, 32, 48, 10, 114, 105, 103, 32, 48, 32, 115, 108, 105, 110, 103, 58, 45, 49, 10, 117, 112, 32, 48, 32, 50, 10, 108, 105, 102, 116, 32, 48, 32, 53, 48, 49, 10, 108, 105, 102, 116, 32, 48, 32, 53, 48, 48, 10, 103, 117, 115, 116, 32, 54, 48, 10, 100, 111, 119, 110, 32, 48, 32, 49, 10, 100, 111, 119, 110, 32, 48, 32, 50, 10, 103, 117, 115, 116, 32, 54, 48, 10, 117, 112, 32, 48, 32, 50, 10, 100, 97, 121, 10, 98, 105, 108, 108, 32, 48, 10, 109, 111, 110, 101, 121, 10, 104, 101, 105, 103, 104, 116, 32, 48, 10, 110, 111, 119, 10, 103, 111, 101, 115, 10]
def outT : List UInt8 := [101, 114, 114, 111, 114, 32, 49, 48, 10, 111, 107, 10, 48, 10, 111, 107, 10, 101, 114, 114, 111, 114, 32, 49, 50, 10, 111, 107, 10, 101, 114, 114, 111, 114, 32, 49, 49, 10, 101, 114, 114, 111, 114, 32, 49, 48, 10, 111, 107, 10, 111, 107, 10, 101, 114, 114, 111, 114, 32, 49, 49, 10, 111, 107, 10, 111, 107, 10, 49, 48, 55, 10, 49, 48, 48, 48, 10, 49, 10, 121, 101, 115, 10]
def noBr : St → Int → List UInt8 := fun _ _ => []
set_option maxRecDepth 100000 in
theorem awake_ev : (doR noBr (new smallU) scrT).1 = outT ∧ (doR noBr (new smallU) scrT).2.lines.length = 8 ∧ ((doR noBr (new smallU) scrT).2.lines.map fun e => (e.n, e.d, e.t.data.toList, e.s)).head? = some (0, 0, [100, 111, 103, 32, 48], hsh [48, 32, 48, 32, 48, 32, 100, 111, 103, 32, 48]) := by decide +kernel
end Go.Proofs.YtmjgljdmjpabdaaGreatDoor.Fi
set_option linter.unusedSimpArgs false
set_option linter.unusedVariables false
namespace Go.Proofs.YtmjgljdmjpabdaaGreatDoor.Fi
open Go.RowKit Go.Lib Tx
theorem small_ok : vSu smallU = true := by decide +kernel
theorem f_NewS {x : LSu} (w w1 : World) (hL : LdW w) (hb : Below w.heap.size w w1) (hv : x.val = smallU) (hS : SuOk (fun _ => True) w1 x) (hW : SuW x) :
    Calls Tryz.prog 7 #[.agg x.cs.toArray] w1 fun e w2 => ∃ b L T, e = .returned (.tuple #[.pointer (some ⟨b, 0, none⟩), .int .i64 0]) ∧ FirmAt w2 b L T ∧ L.val = new smallU ∧ Inv L.val ∧ Env w2 b L ∧ Below w.heap.size w w2 ∧ ∀ g, Foot b L g → w.heap.size ≤ g := by
  refine (f_New x w1 hS hW).mono ?_
  rintro e w2 ⟨hb2, hn⟩
  rw [hv, small_ok] at hn
  obtain ⟨b, L, T, rfl, hF, hval, _, hft⟩ := hn
  exact ⟨b, L, T, rfl, hF, hval, by rw [hval]; exact inv_new small_ok, ⟨w1, hL.on hb, hb2, hft⟩, below_tr hb hb2, fun g hg => Nat.le_trans hb.size (hft g hg)⟩
theorem no_bears : ((cutZ 10 scrT).all fun t => !((cut t [32]).1 == [98, 101, 97, 114, 115])) = true := by decide +kernel
theorem f_DoS {b : Nat} {L : LS} {T : Nat → Prop} {w : World} (hF : FirmAt w b L T) (hI : Inv L.val) (hE : Env w b L) :
    Calls Tryz.prog 8 #[.pointer (some ⟨b, 0, none⟩), .string (bts scrT)] w (ScrP noBr b L T scrT w) :=
  f_Do scrT hF hI hE (fun _ _ => by simp [noBr]) (fun ⟨t, ht, h⟩ => by
    have := List.all_eq_true.1 no_bears t ht
    rw [h] at this
    exact absurd this (by decide))
end Go.Proofs.YtmjgljdmjpabdaaGreatDoor.Fi
set_option linter.unusedSimpArgs false
set_option linter.unusedVariables false
namespace Go.Proofs.YtmjgljdmjpabdaaGreatDoor.Fi
open Go.RowKit Go.Lib Tx
structure Op where
  k : Nat
  st : Int
  n : Int
  nm : ByteArray
  lk : Sl G.Lk
  ld : Sl Int
abbrev Op.cs (o : Op) : List Value := [.int .u8 (o.k : Nat), .int .i64 o.st, .int .i64 o.n, .string o.nm, o.lk.v, o.ld.v]
theorem Op.cs_len (o : Op) : o.cs.length = 6 := rfl
def nmS (l : List G.Lk) : Nat := l.foldl (fun a k => a + k.nm.size) 0
theorem nmS_step {l : List G.Lk} {j : Nat} {k : G.Lk} (h : l[j]? = some k) : nmS (l.take (j + 1)) = nmS (l.take j) + k.nm.size := by
  rw [List.take_add_one, h]; unfold nmS; rw [List.foldl_append]; rfl
def nW (o : Op) (j : Nat) : Int := IntKind.i64.wrap ((o.nm.size + nmS (o.lk.l.take j) : Nat) : Int)
def bigO (o : Op) : Bool := decide (500 < nW o 100) || (decide (40 < o.lk.l.length) || decide (40 < o.ld.l.length))
theorem nW_zero {o : Op} (h : o.nm.size ≤ maxLen) : nW o 0 = (o.nm.size : Int) := by
  unfold maxLen at h
  unfold nW; simp only [List.take_zero]; rw [show nmS [] = 0 from rfl, IntKind.wrap_i64]; omega
theorem nW_step {o : Op} {j : Nat} {k : G.Lk} (h : o.lk.l[j]? = some k) : IntKind.i64.wrap (nW o j + (k.nm.size : Int)) = nW o (j + 1) := by
  unfold nW; rw [nmS_step h, IntKind.wrap_i64, IntKind.wrap_i64, IntKind.wrap_i64]; omega
theorem nW_all {o : Op} {j : Nat} (h : ¬ (j < o.lk.l.length ∧ j < 100)) (h1 : j ≤ 100) : nW o j = nW o 100 := by
  have : o.lk.l.take j = o.lk.l.take 100 := by
    by_cases h2 : j < o.lk.l.length
    · have : j = 100 := by omega
      rw [this]
    · rw [List.take_of_length_le (by omega), List.take_of_length_le (by omega)]
  unfold nW; rw [this]
def manyB (l : List Op) : Bool := decide (40 < l.length) || l.any bigO
structure OpOk (w : World) (o : Op) : Prop where
  rd : Rd G.Lk.cs 2 w o.lk.a o.lk.l
  ll : o.lk.l.length ≤ maxLen
  ln : ∀ k ∈ o.lk.l, k.nm.size ≤ maxLen
  nm : o.nm.size ≤ maxLen
  rl : Rd zC 1 w o.ld.a o.ld.l
  dl : o.ld.l.length ≤ maxLen
theorem rdO {w : World} {A : Option Addr} {l : List Op} (h : Rd Op.cs 6 w A l) {k : Nat} (hk : k < l.length) :
    ∃ o b off, l[k]? = some o ∧ A = some ⟨b, off, none⟩ ∧ b < w.heap.size ∧ w.cell? ⟨b, off + k * 6 + 3, none⟩ = some (.string o.nm) ∧ w.cell? ⟨b, off + k * 6 + 4, none⟩ = some (.slice o.lk.a o.lk.l.length o.lk.c) ∧ w.cell? ⟨b, off + k * 6 + 5, none⟩ = some (.slice o.ld.a o.ld.l.length o.ld.c) := by
  obtain ⟨o, ho⟩ := get_lt hk
  obtain ⟨b, off, e, hb, hc⟩ := h (by intro e; rw [e] at hk; simp at hk)
  exact ⟨o, b, off, ho, e, hb, hc k o ho 3 _ rfl, hc k o ho 4 _ rfl, hc k o ho 5 _ rfl⟩
theorem rdK {w : World} {A : Option Addr} {l : List G.Lk} (h : Rd G.Lk.cs 2 w A l) {k : Nat} (hk : k < l.length) :
    ∃ o b off, l[k]? = some o ∧ A = some ⟨b, off, none⟩ ∧ b < w.heap.size ∧ w.cell? ⟨b, off + k * 2, none⟩ = some (.string o.nm) := by
  obtain ⟨o, ho⟩ := get_lt hk
  obtain ⟨b, off, e, hb, hc⟩ := h (by intro e; rw [e] at hk; simp at hk)
  exact ⟨o, b, off, ho, e, hb, hc k o ho 0 _ rfl⟩
theorem any_step {α : Type} {p : α → Bool} {l : List α} {k : Nat} {x : α} (h : (l.take k).any p = false) (hx : l[k]? = some x) (hp : p x = false) : (l.take (k + 1)).any p = false := by
  rw [List.take_add_one, hx]; simp [h, hp]
theorem any_yes {α : Type} {p : α → Bool} {l : List α} {k : Nat} {x : α} (hx : l[k]? = some x) (hp : p x = true) : l.any p = true := List.any_eq_true.2 ⟨x, List.mem_of_getElem? hx, hp⟩
set_option maxHeartbeats 4000000 in
set_option maxRecDepth 20000 in
theorem f_many (A : Option Addr) (l : List Op) (c : Nat) (w : World) (hl : l.length ≤ maxLen) (hR : Rd Op.cs 6 w A l) (hO : ∀ o ∈ l, OpOk w o) :
    Calls Tryz.prog 10 #[.slice A l.length c] w fun e w' => e = .returned (.bool (manyB l)) ∧ w = w' := by
  obtain ⟨R, hR0⟩ : ∃ R, R = manyB l := ⟨_, rfl⟩
  rw [← hR0]
  have HR := Lib.hid hR0
  clear hR0
  have hl' := hl
  unfold maxLen at hl'
  by_cases h40 : 40 < l.length
  · have HE := Lib.hid (show manyB l = true by unfold manyB; rw [decide_eq_true h40]; rfl)
    have h41 : (40 : Int) < (l.length : Int) := by omega
    clear hR hO h40
    go_enter Tryz.func10, Tryz.ntmps10
    go_wp2
    go_ret
    exact ⟨ret_bool (by rw [HR.out, HE.out]), rfl⟩
  have h41 : ¬ (40 : Int) < (l.length : Int) := by omega
  have HE := Lib.hid (show manyB l = l.any bigO by unfold manyB; rw [decide_eq_false h40]; rfl)
  have HO := Lib.hid hO
  clear hO
  go_enter Tryz.func10, Tryz.ntmps10
  go_wp2
  go_loop [3] (fun i => ∃ k : Nat, k ≤ l.length ∧ i = .int .i64 k ∧ (l.take k).any bigO = false) (fun i => l.length - (RowKit.intOf i).toNat)
  case atStart => exact ⟨0, by omega, rfl, by simp⟩
  case round =>
    obtain ⟨k, hk, rfl, hany⟩ := hrel
    have k0 : (0 : Int) ≤ (k : Int) := Int.natCast_nonneg _
    have HA := Lib.hid hany
    clear hany
    by_cases hlt : k < l.length
    · have k1 : (k : Int) < (l.length : Int) := by omega
      obtain ⟨o, b, off, ho, rfl, hb, c3, c4, c5⟩ := rdO hR hlt
      obtain ⟨hr, hll, hln, hnm, _, hdl⟩ := HO.out o (List.mem_of_getElem? ho)
      have HOO := Lib.hid ho
      have HZ := Lib.hid (nW_zero hnm)
      have HST := Lib.hid (fun j k h => nW_step (o := o) (j := j) (k := k) h)
      have HAL := Lib.hid (fun j h h1 => nW_all (o := o) (j := j) h h1)
      have HBG := Lib.hid (show bigO o = (decide (500 < nW o 100) || (decide (40 < o.lk.l.length) || decide (40 < o.ld.l.length))) from rfl)
      have HY := Lib.hid (fun h => any_yes (p := bigO) ho h)
      have HN := Lib.hid (fun h => any_step (p := bigO) HA.out ho h)
      generalize bigO o = BG at *
      generalize nW o = NW at *
      obtain ⟨ok, ost, on, onm, ⟨la, ll, lc⟩, ⟨da, dl, dc⟩⟩ := o
      dsimp only at *
      clear ho hln
      unfold maxLen at hll hnm hdl
      go_wp2
      go_loop [4, 5] (fun n i => ∃ j : Nat, j ≤ ll.length ∧ j ≤ 100 ∧ i = .int .i64 j ∧ n = .int .i64 (NW j)) (fun _ i => ll.length - (RowKit.intOf i).toNat)
      case atStart => exact ⟨0, by omega, by omega, rfl, by rw [HZ.out]⟩
      case round =>
        obtain ⟨j, hj, hj1, rfl, rfl⟩ := hrel
        have j0 : (0 : Int) ≤ (j : Int) := Int.natCast_nonneg _
        by_cases hjl : j < ll.length ∧ j < 100
        · obtain ⟨g1, g2⟩ := hjl
          have j1 : (j : Int) < (ll.length : Int) := by omega
          have j2 : (j : Int) < 100 := by omega
          obtain ⟨x, xb, xo, hx, rfl, hxb, d0⟩ := rdK hr g1
          have hs := HST.out j x hx
          clear hx
          go_wp2
          go_round
          case rel => exact ⟨j + 1, by omega, by omega, by go_num, by first | rfl | rw [hs]⟩
          case measure => simp [RowKit.intOf]; omega
        · have HT := Lib.hid (HAL.out j hjl hj1)
          rw [HT.out]
          generalize NW 100 = N at *
          clear HT HST HAL HZ
          have g3 : ¬ (j : Int) < (ll.length : Int) ∨ ((j : Int) < (ll.length : Int) ∧ ¬ (j : Int) < 100) := by omega
          clear hjl
          rcases g3 with g3 | ⟨g3, g4⟩
          · rcases (by omega : (500 : Int) < N ∨ (¬ (500 : Int) < N ∧ (40 : Int) < (ll.length : Int)) ∨ (¬ (500 : Int) < N ∧ ¬ (40 : Int) < (ll.length : Int) ∧ (40 : Int) < (dl.length : Int)) ∨ (¬ (500 : Int) < N ∧ ¬ (40 : Int) < (ll.length : Int) ∧ ¬ (40 : Int) < (dl.length : Int))) with h1 | ⟨h1, h2⟩ | ⟨h1, h2, h3⟩ | ⟨h1, h2, h3⟩
            · have HB1 := Lib.hid (HY.out (by rw [HBG.out]; simp only [Bool.or_eq_true, decide_eq_true_eq]; omega))
              clear HBG HY HN
              go_wp2
              go_ret
              exact ⟨ret_bool (by rw [HR.out, HE.out, HB1.out]), rfl⟩
            · have HB1 := Lib.hid (HY.out (by rw [HBG.out]; simp only [Bool.or_eq_true, decide_eq_true_eq]; omega))
              clear HBG HY HN
              go_wp2
              go_ret
              exact ⟨ret_bool (by rw [HR.out, HE.out, HB1.out]), rfl⟩
            · have HB1 := Lib.hid (HY.out (by rw [HBG.out]; simp only [Bool.or_eq_true, decide_eq_true_eq]; omega))
              clear HBG HY HN
              go_wp2
              go_ret
              exact ⟨ret_bool (by rw [HR.out, HE.out, HB1.out]), rfl⟩
            · have HB1 := Lib.hid (HN.out (by rw [HBG.out]; simp only [Bool.or_eq_false_iff, decide_eq_false_iff_not]; omega))
              clear HBG HY HN
              go_wp2
              go_round
              case rel => exact ⟨k + 1, by omega, by go_num, HB1.out⟩
              case measure => simp [RowKit.intOf]; omega
          · rcases (by omega : (500 : Int) < N ∨ (¬ (500 : Int) < N ∧ (40 : Int) < (ll.length : Int))) with h1 | ⟨h1, h2⟩
            · have HB1 := Lib.hid (HY.out (by rw [HBG.out]; simp only [Bool.or_eq_true, decide_eq_true_eq]; omega))
              clear HBG HY HN
              go_wp2
              go_ret
              exact ⟨ret_bool (by rw [HR.out, HE.out, HB1.out]), rfl⟩
            · have HB1 := Lib.hid (HY.out (by rw [HBG.out]; simp only [Bool.or_eq_true, decide_eq_true_eq]; omega))
              clear HBG HY HN
              go_wp2
              go_ret
              exact ⟨ret_bool (by rw [HR.out, HE.out, HB1.out]), rfl⟩
    · obtain rfl : k = l.length := by omega
      have HE1 := Lib.hid (show l.any bigO = false by have := HA.out; rwa [List.take_length] at this)
      go_wp2
      go_ret
      exact ⟨ret_bool (by rw [HR.out, HE.out, HE1.out]), rfl⟩
set_option maxHeartbeats 4000000 in
set_option maxRecDepth 20000 in
theorem f_madeNil (o : Op) (w : World) (hk : o.k < 12) : Calls Tryz.prog 11 #[.pointer none, .agg o.cs.toArray] w fun e w' => e = .returned (.int .i64 1) ∧ Below w.heap.size w w' := by
  have x0 := Blk.new w 45 o.cs.toArray
  have d0 := x0.cell 0
  have d1 := x0.cell 1
  have d2 := x0.cell 2
  have d3 := x0.cell 3
  have d4 := x0.cell 4
  have d5 := x0.cell 5
  have B0 := bl_alloc (below_refl w) (.cells o.cs.toArray 45)
  simp only [List.getElem?_toArray, List.getElem?_cons_zero, List.getElem?_cons_succ] at d0 d1 d2 d3 d4 d5
  obtain hk0 | hk0 | hk0 | hk0 | hk0 | hk0 | hk0 | hk0 | hk0 | hk0 | hk0 | hk0 : o.k = 0 ∨ o.k = 1 ∨ o.k = 2 ∨ o.k = 3 ∨ o.k = 4 ∨ o.k = 5 ∨ o.k = 6 ∨ o.k = 7 ∨ o.k = 8 ∨ o.k = 9 ∨ o.k = 10 ∨ o.k = 11 := by omega
  all_goals rw [hk0] at d0
  · go_enter Tryz.func11, Tryz.ntmps11
    go_wp2_with (go_at_call 45; ((with_reducible refine (f_GustNil _ _).mono ?_); rintro e w3 ⟨rfl, hb3⟩))
    go_ret
    exact ⟨rfl, below_tr B0 hb3⟩
  · go_enter Tryz.func11, Tryz.ntmps11
    go_wp2_with (go_at_call 46; ((with_reducible refine (f_DayNil _).mono ?_); rintro e w3 ⟨rfl, hb3⟩))
    go_ret
    exact ⟨rfl, below_tr B0 hb3⟩
  · go_enter Tryz.func11, Tryz.ntmps11
    go_wp2_with (go_at_call 47; ((with_reducible refine (f_DogNil _ _).mono ?_); rintro e w3 ⟨rfl, hb3⟩))
    go_ret
    exact ⟨rfl, below_tr B0 hb3⟩
  · go_enter Tryz.func11, Tryz.ntmps11
    go_wp2_with (go_at_call 48; ((with_reducible refine (f_RigNil _ _ _ _ _).mono ?_); rintro e w3 ⟨rfl, hb3⟩))
    go_ret
    exact ⟨rfl, below_tr B0 hb3⟩
  · go_enter Tryz.func11, Tryz.ntmps11
    go_wp2_with (go_at_call 49; ((with_reducible refine (f_StrikeNil _ _).mono ?_); rintro e w3 ⟨rfl, hb3⟩))
    go_ret
    exact ⟨rfl, below_tr B0 hb3⟩
  · go_enter Tryz.func11, Tryz.ntmps11
    go_wp2_with (go_at_call 50; ((with_reducible refine (f_UpNil _ _ _).mono ?_); rintro e w3 ⟨rfl, hb3⟩))
    go_ret
    exact ⟨rfl, below_tr B0 hb3⟩
  · go_enter Tryz.func11, Tryz.ntmps11
    go_wp2_with (go_at_call 51; ((with_reducible refine (f_DownNil _ _ _).mono ?_); rintro e w3 ⟨rfl, hb3⟩))
    go_ret
    exact ⟨rfl, below_tr B0 hb3⟩
  · go_enter Tryz.func11, Tryz.ntmps11
    go_wp2_with (go_at_call 52; ((with_reducible refine (f_LiftNil _ _ _ _ _).mono ?_); rintro e w3 ⟨rfl, hb3⟩))
    go_ret
    exact ⟨rfl, below_tr B0 hb3⟩
  · go_enter Tryz.func11, Tryz.ntmps11
    go_wp2_with (go_at_call 53; ((with_reducible refine (f_LookNil _ _).mono ?_); rintro e w3 ⟨rfl, hb3⟩))
    go_ret
    exact ⟨rfl, below_tr B0 hb3⟩
  · go_enter Tryz.func11, Tryz.ntmps11
    go_wp2_with (go_at_call 54; ((with_reducible refine (f_CallNil _ _).mono ?_); rintro e w3 ⟨rfl, hb3⟩))
    go_ret
    exact ⟨rfl, below_tr B0 hb3⟩
  · go_enter Tryz.func11, Tryz.ntmps11
    go_wp2_with (go_at_call 55; ((with_reducible refine (f_FellNil _ _).mono ?_); rintro e w3 ⟨rfl, hb3⟩))
    go_ret
    exact ⟨rfl, below_tr B0 hb3⟩
  · go_enter Tryz.func11, Tryz.ntmps11
    go_wp2_with (go_at_call 56; ((with_reducible refine (f_BillNil _ _).mono ?_); rintro e w3 ⟨rfl, hb3⟩))
    go_ret
    exact ⟨rfl, below_tr B0 hb3⟩
end Go.Proofs.YtmjgljdmjpabdaaGreatDoor.Fi
set_option linter.unusedSimpArgs false
set_option linter.unusedVariables false
namespace Go.Proofs.YtmjgljdmjpabdaaGreatDoor.Fi
open Go.RowKit Go.Lib Tx
theorem small_first {L : LS} (h : L.val = (doR noBr (new smallU) scrT).2) : L.lines.l.length = 8 ∧ ∃ e, L.lines.l[0]? = some e ∧ e = ⟨0, 0, ⟨#[100, 111, 103, 32, 48]⟩, hsh [48, 32, 48, 32, 48, 32, 100, 111, 103, 32, 48]⟩ := by
  obtain ⟨_, h2, h3⟩ := awake_ev
  have hl : L.lines.l = (doR noBr (new smallU) scrT).2.lines := by rw [← h]; rfl
  rw [← hl] at h2 h3
  refine ⟨h2, ?_⟩
  rw [List.head?_map] at h3
  cases hl0 : L.lines.l with
  | nil => rw [hl0] at h2; simp at h2
  | cons e r =>
    rw [hl0] at h3
    obtain ⟨n, d, t, s⟩ := e
    simp only [List.head?_cons, Option.map_some, Option.some.injEq, Prod.mk.injEq] at h3
    obtain ⟨e1, e2, e3, e4⟩ := h3
    refine ⟨_, rfl, ?_⟩
    subst e1 e2 e4
    rw [En.mk.injEq]
    refine ⟨rfl, rfl, ?_, rfl⟩
    obtain ⟨⟨l⟩⟩ := t
    dsimp only at e3
    subst e3
    rfl
theorem small_out : bts (doR noBr (new smallU) scrT).1 = ({ data := ([101, 114, 114, 111, 114, 32, 49, 48, 10, 111, 107, 10, 48, 10, 111, 107, 10, 101, 114, 114, 111, 114, 32, 49, 50, 10, 111, 107, 10, 101, 114, 114, 111, 114, 32, 49, 49, 10, 101, 114, 114].append [111, 114, 32, 49, 48, 10, 111, 107, 10, 111, 107, 10, 101, 114, 114, 111, 114, 32, 49, 49, 10, 111, 107, 10, 111, 107, 10, 49, 48, 55, 10, 49, 48, 48, 48, 10, 49, 10, 121, 101, 115, 10]).toArray } : ByteArray) := by rw [awake_ev.1]; rfl
set_option maxHeartbeats 4000000 in
set_option maxRecDepth 20000 in
theorem f_awake (w : World) (hL : LdW w) : Calls Tryz.prog 5 #[] w fun e w' => e = .returned (.bool true) ∧ Below w.heap.size w w' := by
  have HSM := Lib.hid (f_small w)
  have HNW := Lib.hid (fun (x : LSu) (w1 : World) hb hv hS hW => f_NewS (x := x) w w1 hL hb hv hS hW)
  have HDO := Lib.hid (fun (b : Nat) (L : LS) (T : Nat → Prop) (W : World) hF hI hE => f_DoS (b := b) (L := L) (T := T) (w := W) hF hI hE)
  have HLI := Lib.hid (fun W => r_LineNil W)
  have HOUT := Lib.hid small_out
  have HFST := Lib.hid (fun (L : LS) h => small_first (L := L) h)
  generalize hH : hsh [48, 32, 48, 32, 48, 32, 100, 111, 103, 32, 48] = H at *
  clear hH
  go_enter Tryz.func5, Tryz.ntmps5
  go_upto_region 6 with (first
    | (go_at_call 23; ((with_reducible refine HSM.out.mono ?_); rintro e w1 ⟨x, rfl, hv, hS, hW, hb1⟩))
    | (go_at_call 7; ((with_reducible refine (HNW.out _ _ hb1 hv hS hW).mono ?_); rintro e w2 ⟨b, L, T, rfl, hF, hval, hI, hE, hb2, hft⟩))
    | (go_at_call 8; (refine (HDO.out _ _ _ _ hF hI hE).mono ?_; rintro e w3 ⟨rfl, L3, T3, hv3, hf3⟩; rw [hval] at hv3 ⊢; rw [HOUT.out]))
    | (go_at_call 21; ((with_reducible refine (f_Lines hf3.at_ (by have := (HFST.out _ hv3).1; omega)).mono ?_); rintro e w4 ⟨y, rfl, hy, ho, _, _, hb4⟩)))
  have BW : Below w.heap.size w w4 := below_tr (below_stp hb2 hf3.stp (fun g hg e => by have := hft g e; omega) hb2.size) hb4
  obtain ⟨h8, e, he, heq⟩ := HFST.out _ hv3
  rw [← hy] at h8 he
  subst heq
  obtain ⟨b2, o2, hya, hbl, hc⟩ := (own_rd' En.cs_len ho).get he
  have c0 := hc 0 _ rfl
  have c1 := hc 1 _ rfl
  have c2 := hc 2 _ rfl
  have c3 := hc 3 _ rfl
  clear hc ho hy hv3 hf3 hF hE hI hS hW hv HFST HDO HNW HSM HOUT he
  obtain ⟨yA, yl, yc⟩ := y
  dsimp only [Sl.v] at *
  subst hya
  rw [h8]
  have lb2 : b2 < w4.heap.size := hbl
  simp only [Nat.zero_mul, Nat.add_zero] at c0 c1 c2 c3
  refine wp_region_noPanic ?_
  refine wp_region_held_drew (S := (fun w' => (∀ b o, b < w4.heap.size → w'.cell? ⟨b, o, none⟩ = w4.cell? ⟨b, o, none⟩) ∧ (∀ b o, b < w4.heap.size → w'.frozen? ⟨b, o, none⟩ = w4.frozen? ⟨b, o, none⟩) ∧ Below w4.heap.size w4 w')) (by kernel_rfl) (kq_draw kq_refl) (fun hS0 => ?_)
  refine tk 0 16 ?gv1 rfl (by kernel_rfl) (fun _ _ _ h => h) ?gy1 (by assumption) ?_
  case gy1 => (intro w' hSw; go_simp; try with_reducible rfl)
  try simp only [AP]
  refine tk 1 17 ?gv2 rfl (by kernel_rfl) (fun _ _ _ h => h) ?gy2 (by assumption) ?_
  case gy2 => (intro w' hSw; go_simp; try with_reducible rfl)
  try simp only [AP]
  refine tk 2 18 ?gv3 rfl (by kernel_rfl) (fun _ _ _ h => h) ?gy3 (by assumption) ?_
  case gy3 => (intro w' hSw; go_simp; try with_reducible rfl)
  try simp only [AP]
  refine tg 3 19 2 true ?gv4 rfl (by kernel_rfl) (fun _ _ _ h => h) (by rfl) ?gy4 (by assumption) ?_
  case gy4 => (intro w' hSw; go_simp; try with_reducible rfl)
  try simp only [AP]
  refine tg 4 20 2 true ?gv5 rfl (by kernel_rfl) (fun _ _ _ h => h) (by rfl) ?gy5 (by assumption) ?_
  case gy5 => (intro w' hSw; go_simp; try with_reducible rfl)
  try simp only [AP]
  refine tg 5 21 2 true ?gv6 rfl (by kernel_rfl) (fun _ _ _ h => h) (by rfl) ?gy6 (by assumption) ?_
  case gy6 => (intro w' hSw; go_simp; try with_reducible rfl)
  try simp only [AP]
  refine tk 6 22 ?gv7 rfl (by kernel_rfl) (fun _ _ _ h => h) ?gy7 (by assumption) ?_
  case gy7 => (intro w' hSw; go_simp; try with_reducible rfl)
  try simp only [AP]
  refine tk 7 23 ?gv8 rfl (by kernel_rfl) (fun _ _ _ h => h) ?gy8 (by assumption) ?_
  case gy8 => (intro w' hSw; go_simp; try with_reducible rfl)
  try simp only [AP]
  refine tg 8 24 7 true ?gv9 rfl (by kernel_rfl) (fun _ _ _ h => h) (by rfl) ?gy9 (by assumption) ?_
  case gy9 => (intro w' hSw; go_simp; try with_reducible rfl)
  try simp only [AP]
  refine tg 9 25 7 true ?gv10 rfl (by kernel_rfl) (fun _ _ _ h => h) (by rfl) ?gy10 (by assumption) ?_
  case gy10 => (intro w' hSw; go_simp; try with_reducible rfl)
  try simp only [AP]
  refine tg 10 26 7 true ?gv11 rfl (by kernel_rfl) (fun _ _ _ h => h) (by rfl) ?gy11 (by assumption) ?_
  case gy11 => (intro w' hSw; go_simp; try with_reducible rfl)
  try simp only [AP]
  refine wpAnyH_ready (rs := [11]) (by kernel_rfl) (by simp) ?_
  refine AllReadyH.cons rfl (fun K hK => ?_) AllReadyH.nil
  go_simp
  (go_at_call 24; ((with_reducible refine (HLI.out _).mono ?_); rintro e w5 ⟨rfl, hb5⟩; obtain ⟨hc5, hf5⟩ := bcell hb5; have hz5 := hb5.size; (try simp [sz_drew, sz_drewN] at hz5); (try simp only [sz_drew, sz_drewN] at hc5 hf5)))
  refine hK.out _ _ (by ((show Kq w4 _); (repeat' (first | assumption | exact kq_refl | refine kq_draw ?_ | refine kq_drewN ?_ | refine kq_alloc ?_ | refine kq_set ?_ ?_ | refine kq_step ?_ (by assumption))); (all_goals (first | omega | (simp; omega))))) (fun hS1 => ?_)
  clear hK K
  try simp only [AP]
  refine tg 12 28 7 true ?gv12 rfl (by kernel_rfl) (fun _ _ _ h => h) (by rfl) ?gy12 (by assumption) ?_
  case gy12 => (intro w' hSw; go_simp; try with_reducible rfl)
  try simp only [AP]
  refine tk 13 29 ?gv13 rfl (by kernel_rfl) (fun _ _ _ h => h) ?gy13 (by assumption) ?_
  case gy13 => (intro w' hSw; go_simp; try with_reducible rfl)
  try simp only [AP]
  refine tk 14 0 ?gv14 rfl (by kernel_rfl) (fun _ _ _ h => h) ?gy14 (by assumption) ?_
  case gy14 => (intro w' hSw; go_simp; try with_reducible rfl)
  try simp only [AP]
  refine wpAnyH_done (by kernel_rfl) (NoPanic.normal ?_) _
  go_wp2
  go_ret
  exact ⟨rfl, below_tr BW (by (repeat' (first | assumption | exact below_refl _ | refine bl_alloc ?_ _ | refine Below.setCell ?_ ?_ _ | refine below_draw ?_ | refine below_drewN ?_ _ | refine below_tr ?_ (by assumption))) <;> (first | omega | (simp; done) | (simp; omega)))⟩
end Go.Proofs.YtmjgljdmjpabdaaGreatDoor.Fi
set_option linter.unusedSimpArgs false
set_option linter.unusedVariables false
namespace Go.Proofs.YtmjgljdmjpabdaaGreatDoor.Fi
open Go.RowKit Go.Lib Tx
theorem rd_one {α : Type} {enc : α → List Value} {sz g : Nat} {W : World} {t : TypeId} {x : α} (h : Blk W g t (enc x).toArray) : Rd enc sz W (some ⟨g, 0, none⟩) [x] := fun _ => by
  refine ⟨g, 0, rfl, h.lt, fun k y hy j v hv => ?_⟩
  cases k with
  | zero =>
    cases hy
    rw [h.cell, Nat.zero_mul, Nat.zero_add]; simpa using hv
  | succ k => simp at hy
theorem OpOk.on {w w' : World} {o : Op} (h : OpOk w o) (hb : Below w.heap.size w w') : OpOk w' o := ⟨h.rd.on hb, h.ll, h.ln, h.nm, h.rl.on hb, h.dl⟩
set_option maxHeartbeats 8000000 in
set_option maxRecDepth 20000 in
theorem l_FirmNothing (o : Op) (s : ByteArray) (w : World) (hL : LdW w) (hO : OpOk w o) :
    Calls Tryz.prog 4 #[.agg o.cs.toArray, .string s] w fun e w' => e = .returned (.bool true) ∧ Below w.heap.size w w' := by
  have x0 := Blk.new w 45 o.cs.toArray
  have B0 := bl_alloc (below_refl w) (.cells o.cs.toArray 45)
  have HAW := Lib.hid (fun W (h : Below w.heap.size w W) => f_awake W (hL.on h))
  have HMY := Lib.hid (fun g W (h : Below w.heap.size w W) (hg : Blk W g 45 o.cs.toArray) => (show Calls Tryz.prog 10 #[.slice (some ⟨g, 0, none⟩) 1 1] W fun e w' => e = .returned (.bool (manyB [o])) ∧ W = w' from f_many (some ⟨g, 0, none⟩) [o] 1 W (by simp [maxLen]) (rd_one hg) (fun q hq => by rw [List.mem_singleton] at hq; subst hq; exact hO.on h)))
  have HMD := Lib.hid (fun k W (hk : k < 12) => f_madeNil { o with k := k } W hk)
  have HDO := Lib.hid (fun W (h : Below w.heap.size w W) => f_DoNil s W (hL.on h))
  obtain ⟨MB, hMB⟩ : ∃ b, b = manyB [o] := ⟨_, rfl⟩
  rw [← hMB] at HMY
  clear hMB
  go_enter Tryz.func4, Tryz.ntmps4
  go_upto_region 3 with (go_at_call 5; ((with_reducible refine (HAW.out _ B0).mono ?_); rintro e w1 ⟨rfl, hb1⟩))
  have x1 := x0.below hb1 x0.lt
  have B1 := below_tr B0 hb1
  clear x0 B0 hb1
  have d0 := x1.cell 0
  have d1 := x1.cell 1
  have d2 := x1.cell 2
  have d3 := x1.cell 3
  have d4 := x1.cell 4
  have d5 := x1.cell 5
  simp only [List.getElem?_toArray, List.getElem?_cons_zero, List.getElem?_cons_succ] at d0 d1 d2 d3 d4 d5
  have x2 := Blk.new w1 45 #[.int .u8 (o.k : Nat), .int .i64 o.st, .int .i64 o.n, .string o.nm, .slice o.lk.a o.lk.l.length o.lk.c, .slice o.ld.a o.ld.l.length o.ld.c]
  have B2 := bl_alloc B1 (.cells #[.int .u8 (o.k : Nat), .int .i64 o.st, .int .i64 o.n, .string o.nm, .slice o.lk.a o.lk.l.length o.lk.c, .slice o.ld.a o.ld.l.length o.ld.c] 45)
  have hm := HMY.out _ _ B2 x2
  cases MB
  rotate_left
  · go_wp2_with (go_at_call 10; ((with_reducible refine hm.mono ?_); rintro e w' ⟨rfl, rfl⟩))
    go_ret
    exact ⟨rfl, B2⟩
  by_cases hs : (1000 : Int) < (s.size : Int)
  · go_wp2_with (go_at_call 10; ((with_reducible refine hm.mono ?_); rintro e w' ⟨rfl, rfl⟩))
    go_ret
    exact ⟨rfl, B2⟩
  go_upto_region 5 with (go_at_call 10; ((with_reducible refine hm.mono ?_); rintro e w' ⟨rfl, rfl⟩))
  have x3 := x1.alloc (.cells #[.int .u8 (o.k : Nat), .int .i64 o.st, .int .i64 o.n, .string o.nm, .slice o.lk.a o.lk.l.length o.lk.c, .slice o.ld.a o.ld.l.length o.ld.c] 45)
  clear hm x1 x2 d0 d1 d2 d3 d4 d5 B1
  generalize w1.alloc (.cells #[.int .u8 (o.k : Nat), .int .i64 o.st, .int .i64 o.n, .string o.nm, .slice o.lk.a o.lk.l.length o.lk.c, .slice o.ld.a o.ld.l.length o.ld.c] 45) = w3 at *
  go_wp2
  go_loopw [6] (fun i wr => ∃ k q : Nat, k ≤ 12 ∧ i = .int .u8 (k : Nat) ∧ Blk wr w.heap.size 45 { o with k := q }.cs.toArray ∧ Below w.heap.size w wr) (fun i _ => 12 - (RowKit.intOf i).toNat)
  case atStart => exact ⟨0, o.k, by omega, rfl, x3, B2⟩
  case round =>
    obtain ⟨k, q, hk, rfl, hx, hbw⟩ := hrel
    have k0 : (0 : Int) ≤ (k : Int) := Int.natCast_nonneg _
    by_cases hlt : k < 12
    · have k1 : (k : Int) < 12 := by omega
      have fz := hx.frozen 0
      have c0 : wr.cell? ⟨w.heap.size, 0, none⟩ = some (.int .u8 (q : Nat)) := hx.cell 0
      have y0 := hx.set_ 0 (.int .u8 (k : Nat))
      have hw8 : IntKind.u8.wrap ((k : Int) + 1) = (k : Int) + 1 := by rw [IntKind.wrap_u8]; omega
      have BS : Below w.heap.size w (wr.setCell ⟨w.heap.size, 0, none⟩ (.int .u8 (k : Nat))) := by (repeat' (first | assumption | exact below_refl _ | refine bl_alloc ?_ _ | refine Below.setCell ?_ ?_ _ | refine below_draw ?_ | refine below_drewN ?_ _ | refine below_tr ?_ (by assumption))) <;> (first | omega | (simp; done) | (simp; omega))
      go_upto_region 10 with fail
      have y1 : Blk (wr.setCell ⟨w.heap.size, 0, none⟩ (.int .u8 (k : Nat))) w.heap.size 45 { o with k := k }.cs.toArray := y0
      clear y0 fz hx hbw c0
      generalize wr.setCell ⟨w.heap.size, 0, none⟩ (.int .u8 (k : Nat)) = wq at *
      have d0 : wq.cell? ⟨w.heap.size, 0, none⟩ = some (.int .u8 (k : Nat)) := y1.cell 0
      have d1 : wq.cell? ⟨w.heap.size, 1, none⟩ = some (.int .i64 o.st) := y1.cell 1
      have d2 : wq.cell? ⟨w.heap.size, 2, none⟩ = some (.int .i64 o.n) := y1.cell 2
      have d3 : wq.cell? ⟨w.heap.size, 3, none⟩ = some (.string o.nm) := y1.cell 3
      have d4 : wq.cell? ⟨w.heap.size, 4, none⟩ = some (.slice o.lk.a o.lk.l.length o.lk.c) := y1.cell 4
      have d5 : wq.cell? ⟨w.heap.size, 5, none⟩ = some (.slice o.ld.a o.ld.l.length o.ld.c) := y1.cell 5
      have hm : Calls Tryz.prog 11 #[.pointer none, .agg #[.int .u8 (k : Nat), .int .i64 o.st, .int .i64 o.n, .string o.nm, .slice o.lk.a o.lk.l.length o.lk.c, .slice o.ld.a o.ld.l.length o.ld.c]] wq fun e w' => e = .returned (.int .i64 1) ∧ Below wq.heap.size wq w' := HMD.out k wq hlt
      go_wp2_with (go_at_call 11; ((with_reducible refine hm.mono ?_); rintro e w5 ⟨rfl, hb5⟩))
      go_roundw
      case rel => exact ⟨k + 1, k, by omega, by congr 1, y1.below hb5 y1.lt, below_tr BS hb5⟩
      case measure => simp [RowKit.intOf]; omega
    · obtain rfl : k = 12 := by omega
      clear x3 HMD
      go_wp2_with (first
        | (go_at_call 12; ((with_reducible refine (f_NowNil _).mono ?_); rintro e w' ⟨rfl, rfl⟩))
        | (go_at_call 13; ((with_reducible refine (f_GoesNil _).mono ?_); rintro e wa ⟨rfl, hba⟩))
        | (go_at_call 14; ((with_reducible refine (f_AloftNil _).mono ?_); rintro e wb ⟨rfl, hbb⟩))
        | (go_at_call 15; ((with_reducible refine (f_FelledNil _).mono ?_); rintro e wc ⟨rfl, hbc⟩))
        | (go_at_call 16; ((with_reducible refine (f_MoneyNil _).mono ?_); rintro e w' ⟨rfl, rfl⟩))
        | (go_at_call 9; ((with_reducible refine (f_SameNil _).mono ?_); rintro e w' ⟨rfl, rfl⟩))
        | (go_at_call 8; ((with_reducible refine (HDO.out _ (by (repeat' (first | assumption | exact below_refl _ | refine bl_alloc ?_ _ | refine Below.setCell ?_ ?_ _ | refine below_draw ?_ | refine below_drewN ?_ _ | refine below_tr ?_ (by assumption))) <;> (first | omega | (simp; done) | (simp; omega)))).mono ?_); rintro e wd ⟨rfl, hbd⟩))
        | (go_at_call 17; ((with_reducible refine (f_DogsNil _).mono ?_); rintro e we ⟨⟨dA, dC, rfl⟩, hbe⟩))
        | (go_at_call 18; ((with_reducible refine (f_RigsNil _).mono ?_); rintro e w' ⟨rfl, rfl⟩))
        | (go_at_call 19; ((with_reducible refine (f_GearNil _).mono ?_); rintro e w' ⟨rfl, rfl⟩))
        | (go_at_call 20; ((with_reducible refine (f_BackNil _).mono ?_); rintro e w' ⟨rfl, rfl⟩))
        | (go_at_call 21; ((with_reducible refine (f_LinesNil _).mono ?_); rintro e w' ⟨rfl, rfl⟩))
        | (go_at_call 22; ((with_reducible refine (f_BytesNil _).mono ?_); rintro e w' ⟨rfl, rfl⟩)))
      go_ret
      exact ⟨rfl, by (repeat' (first | assumption | exact below_refl _ | refine bl_alloc ?_ _ | refine Below.setCell ?_ ?_ _ | refine below_draw ?_ | refine below_drewN ?_ _ | refine below_tr ?_ (by assumption))) <;> (first | omega | (simp; done) | (simp; omega))⟩
end Go.Proofs.YtmjgljdmjpabdaaGreatDoor.Fi
set_option linter.unusedSimpArgs false
set_option linter.unusedVariables false
namespace Go.Proofs.YtmjgljdmjpabdaaGreatDoor.Fi
open Go.ChangeShapes Go.WideShapes Go.ChangeAt Go.RowKit Go.Deep Go.Joins Tx
theorem i64_of {n : Int} (h : (Lit.int .i64 n).wf = true) : -9223372036854775808 ≤ n ∧ n ≤ 9223372036854775807 := by
  have h1 : (decide (IntKind.i64.min ≤ n) && decide (n ≤ IntKind.i64.max)) = true := h
  rw [show IntKind.i64.min = -9223372036854775808 from rfl, show IntKind.i64.max = 9223372036854775807 from rfl, Bool.and_eq_true, decide_eq_true_eq, decide_eq_true_eq] at h1
  exact ⟨h1.1, h1.2⟩
theorem u8_of {n : Int} (h : (Lit.int .u8 n).wf = true) : 0 ≤ n ∧ n ≤ 255 := by
  have h1 : (decide (IntKind.u8.min ≤ n) && decide (n ≤ IntKind.u8.max)) = true := h
  rw [show IntKind.u8.min = 0 from rfl, show IntKind.u8.max = 255 from rfl, Bool.and_eq_true, decide_eq_true_eq, decide_eq_true_eq] at h1
  exact ⟨h1.1, h1.2⟩
section
variable {H : Type} {enc : TypeId × Value → H} {P : Program} {w : World} {base : Nat} {spare : Nat → Bool} {held : Bool}
theorem open_rdin {α : Type} (encα : α → List Value) (ok : α → Prop) (sz : Nat) {t e : TypeId} {n0 : Nat} {cs : List Value} {x : DataW H × List MemPlace} (ht : P.underlying t = some (.slice e)) (hC : P.cellsOf e = sz) (hz : 0 < sz)
    (hdec : ∀ n cs x, DataW.trod enc P w base spare held n e cs = some x → ∃ a : α, cs = encα a ∧ ok a)
    (hf : DataW.trod enc P w base spare held n0 t cs = some x) :
    ∃ (A : Option Addr) (l : List α) (c : Nat), cs = [.slice A l.length c] ∧ Rd encα sz w A l ∧ l.length ≤ maxLen ∧ (∀ a ∈ l, ok a) ∧ l.length ≤ c ∧ c ≤ maxLen := by
  rcases open_slice ht hf with ⟨hcs, _⟩ | ⟨a, n, c, m, n', D, Pl, hcs, _, hl, hm, hmm, _, hi⟩
  · exact ⟨none, [], 0, hcs, Rd.nil_, by simp, by simp, by simp, by simp⟩
  · rw [hC] at hi
    have hlm : n ≤ m := by rw [hmm]; split <;> omega
    have hex : ∀ i, i < n → ∃ y : α, ok y ∧ ∀ j u, (encα y)[j]? = some u → w.cell? (a.add (i * sz + j)) = some u := fun i hin => by
      obtain ⟨cs', hc, htr⟩ := hi i (by omega)
      obtain ⟨y, rfl, hy⟩ := hdec _ _ _ htr
      obtain ⟨_, hlen, hat⟩ := World.cells?_some hc
      refine ⟨y, hy, fun j u hu => ?_⟩
      have hj : j < sz := by
        rcases Nat.lt_or_ge j sz with h1 | h1
        · exact h1
        · rw [List.getElem?_eq_none (by omega)] at hu; cases hu
      have := hat j hj
      rw [hu] at this
      rwa [Go.Deep.add_add] at this
    obtain ⟨l, hll, hlp⟩ := list_of n hex
    subst hll
    refine ⟨some a, l, c, hcs, fun hne => ?_, by omega, fun y hy => ?_, hl, hm⟩
    · have hl0 : 0 < l.length := List.length_pos_iff.2 hne
      obtain ⟨cs', hc, htr⟩ := hi 0 (by omega)
      obtain ⟨_, hlen, hat⟩ := World.cells?_some hc
      have hc0 := hat 0 hz
      rw [List.getElem?_eq_getElem (by omega)] at hc0
      simp only [Nat.zero_mul] at hc0
      have hspot : a.spot = none := by
        have hs := World.cell?_spot hc0
        simpa [Addr.add] using hs
      obtain ⟨b, off, spot⟩ := a
      simp only at hspot
      subst hspot
      have hb := World.block_lt_of_cell? w _ hc0
      refine ⟨b, off, rfl, by simpa [Addr.add] using hb, fun k x hx j v hv => ?_⟩
      have := (hlp k x hx).2 j v hv
      rw [addr_add0] at this
      rw [Nat.add_assoc]; exact this
    · obtain ⟨i, hi', hiy⟩ := List.getElem_of_mem hy
      exact (hlp i y (by rw [List.getElem?_eq_getElem hi', hiy])).1
end
section
variable {H : Type} {enc : TypeId × Value → H} {w : World} {base : Nat} {spare : Nat → Bool} {held : Bool}
theorem dec_link (n : Nat) (cs : List Value) (x) (h : DataW.trod enc Tryz.prog w base spare held n 102 cs = some x) : ∃ a : G.Lk, cs = a.cs ∧ G.LW a := by
  obtain ⟨hl, hf⟩ := dec_fields Tryz.underlying102 (by kernel_rfl) (by kernel_rfl) n cs x h
  match cs, hl with
  | [c0, c1], _ =>
    obtain ⟨m0, y0, e0⟩ := hf 0 _ c0 rfl rfl
    obtain ⟨m1, y1, e1⟩ := hf 1 _ c1 rfl rfl
    obtain ⟨a0, g0, _, f0⟩ := DataW.trod_string Tryz.underlying9 e0
    obtain ⟨a1, g1, f1⟩ := dec_int Tryz.underlying3 _ _ _ e1
    cases g0; cases g1
    exact ⟨⟨a0, a1⟩, rfl, f0, (i64_of f1).1, (i64_of f1).2⟩
theorem dec_int1 (n : Nat) (cs : List Value) (x) (h : DataW.trod enc Tryz.prog w base spare held n 3 cs = some x) : ∃ a : Int, cs = zC a ∧ I64 a := by
  obtain ⟨a, e, f⟩ := dec_int Tryz.underlying3 _ _ _ h
  exact ⟨a, e, i64_of f⟩
structure OpIn (w : World) (o : Op) : Prop where
  k : o.k < 256
  st : I64 o.st
  n : I64 o.n
  nm : o.nm.size ≤ maxLen
  rk : Rd G.Lk.cs 2 w o.lk.a o.lk.l
  lk : ∀ k ∈ o.lk.l, G.LW k
  lc : o.lk.l.length ≤ o.lk.c ∧ o.lk.c ≤ maxLen
  rd : Rd zC 1 w o.ld.a o.ld.l
  ld : ∀ z ∈ o.ld.l, I64 z
  dc : o.ld.l.length ≤ o.ld.c ∧ o.ld.c ≤ maxLen
theorem dec_op (n : Nat) (cs : List Value) (x) (h : DataW.trod enc Tryz.prog w base spare held n 45 cs = some x) : ∃ a : Op, cs = a.cs ∧ OpIn w a := by
  obtain ⟨hl, hf⟩ := dec_fields Tryz.underlying45 (by kernel_rfl) (by kernel_rfl) n cs x h
  match cs, hl with
  | [c0, c1, c2, c3, c4, c5], _ =>
    obtain ⟨m0, y0, e0⟩ := hf 0 _ c0 rfl rfl
    obtain ⟨m1, y1, e1⟩ := hf 1 _ c1 rfl rfl
    obtain ⟨m2, y2, e2⟩ := hf 2 _ c2 rfl rfl
    obtain ⟨m3, y3, e3⟩ := hf 3 _ c3 rfl rfl
    obtain ⟨m4, y4, e4⟩ := hf 4 _ c4 rfl rfl
    obtain ⟨m5, y5, e5⟩ := hf 5 _ c5 rfl rfl
    obtain ⟨a0, g0, f0⟩ := dec_int Tryz.underlying5 _ _ _ e0
    obtain ⟨a1, g1, f1⟩ := dec_int Tryz.underlying3 _ _ _ e1
    obtain ⟨a2, g2, f2⟩ := dec_int Tryz.underlying3 _ _ _ e2
    obtain ⟨a3, g3, _, f3⟩ := DataW.trod_string Tryz.underlying9 e3
    obtain ⟨A4, l4, d4, g4, h41, h42, h43, h44, h45⟩ := open_rdin G.Lk.cs G.LW 2 Tryz.underlying42 (by kernel_rfl) (by decide) (fun n cs x h => dec_link n cs x h) e4
    obtain ⟨A5, l5, d5, g5, h51, h52, h53, h54, h55⟩ := open_rdin zC I64 1 Tryz.underlying43 (by kernel_rfl) (by decide) (fun n cs x h => dec_int1 n cs x h) e5
    cases g0; cases g1; cases g2; cases g3; cases g4; cases g5
    have hu := u8_of f0
    obtain ⟨k, rfl⟩ := Int.eq_ofNat_of_zero_le hu.1
    exact ⟨⟨k, a1, a2, a3, ⟨A4, l4, d4⟩, ⟨A5, l5, d5⟩⟩, rfl, by have := hu.2; show k < 256; omega, i64_of f1, i64_of f2, f3, h41, h43, ⟨h44, h45⟩, h51, h53, ⟨h54, h55⟩⟩
end
theorem OpIn.ok {w : World} {o : Op} (h : OpIn w o) : OpOk w o := ⟨h.rk, Nat.le_trans h.lc.1 h.lc.2, fun k hk => (h.lk k hk).1, h.nm, h.rd, Nat.le_trans h.dc.1 h.dc.2⟩
end Go.Proofs.YtmjgljdmjpabdaaGreatDoor.Fi
set_option linter.unusedSimpArgs false
set_option linter.unusedVariables false
namespace Go.Proofs.YtmjgljdmjpabdaaGreatDoor
open Go.RowKit
theorem f_FirmNothing (o : Fi.Op) (s : ByteArray) (w : World) (hL : Tx.LdW w) (hO : Fi.OpIn w o) (_ : s.size ≤ maxLen) :
    Calls Tryz.prog 4 #[.agg o.cs.toArray, .string s] w fun e w' => e = .returned (.bool true) ∧ Below w.heap.size w w' := Fi.l_FirmNothing o s w hL hO.ok
end Go.Proofs.YtmjgljdmjpabdaaGreatDoor
