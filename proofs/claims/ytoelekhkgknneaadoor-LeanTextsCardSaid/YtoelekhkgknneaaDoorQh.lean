/- Texts: Numbers and Listed of the reference of chapter 1. -/
import Derived.Test.YtoelekhkgknneaaDoorQf
import Derived.Test.YtoelekhkgknneaaDoorQg
set_option linter.unusedSimpArgs false
set_option linter.unusedVariables false
namespace Go.Proofs.YtoelekhkgknneaaDoor.Tx
open Go.RowKit Go.Lib

theorem rd_txt {w : World} {A : Option Addr} {P : List (List UInt8)} (h : Rd stG 1 w A P) {k : Nat} (hk : k < P.length) :
    ∃ p b off, P[k]? = some p ∧ A = some ⟨b, off, none⟩ ∧ b < w.heap.size ∧ w.cell? ⟨b, off + k, none⟩ = some (.string (bts p)) := by
  obtain ⟨p, hp⟩ := get_lt hk
  obtain ⟨b, off, e, hb, hc⟩ := h.get hp
  have := hc 0 _ (show (stG p)[0]? = some (.string (bts p)) from rfl)
  rw [Nat.mul_one, Nat.add_zero] at this
  exact ⟨p, b, off, hp, e, hb, this⟩
def NumsP (P : List (List UInt8)) (w : World) (e : Ending) (w' : World) : Prop := ∃ A k c, e = .returned (.tuple #[.slice A k c, .bool (P.all numB)]) ∧ (P.all numB = true → k = P.length ∧ Rd zC 1 w' A (P.map numV) ∧ ∀ g o, A = some ⟨g, o, none⟩ → w.heap.size ≤ g) ∧ Below w.heap.size w w'
theorem nums_no {P : List (List UInt8)} {w w' : World} (h : P.all numB = false) (hb : Below w.heap.size w w') : NumsP P w (.returned (.tuple #[.slice none 0 0, .bool false])) w' := ⟨none, 0, 0, by rw [h], fun q => (by rw [h] at q; cases q), hb⟩
theorem nums_yes {P : List (List UInt8)} {w w' : World} {A : Option Addr} {c : Nat} (h : P.all numB = true) (hr : Rd zC 1 w' A (P.map numV)) (hg : ∀ g o, A = some ⟨g, o, none⟩ → w.heap.size ≤ g) (hb : Below w.heap.size w w') : NumsP P w (.returned (.tuple #[.slice A P.length c, .bool true])) w' := ⟨A, P.length, c, by rw [h], fun _ => ⟨rfl, hr, hg⟩, hb⟩
set_option maxHeartbeats 2000000 in
set_option maxRecDepth 20000 in
theorem r1_Numbers (A : Option Addr) (P : List (List UInt8)) (c : Nat) (w : World) (hl : P.length ≤ 100000) (hR : Rd stG 1 w A P) (hs : ∀ p ∈ P, p.length ≤ 100000) :
    Calls Tryd.prog 61 #[.slice A P.length c] w (NumsP P w) := by
  obtain ⟨i0, hi, hi1, hi2, hi3⟩ := info_int1
  go_enter Tryd.func61, Tryd.ntmps61
  go_wp2
  go_loopw [4, 5] (fun v i wr => ∃ k : Nat, k ≤ P.length ∧ i = .int .i64 k ∧ Below w.heap.size w wr ∧ wr.ownsRow w.heap.size 3 1 v k (fl zC ((P.take k).map numV)) ∧ Hid ((P.take k).all numB = true)) (fun _ i _ => P.length - (RowKit.intOf i).toNat)
  case atStart => exact ⟨0, by omega, rfl, below_refl _, World.ownsRow_nil w _ _ _, Lib.hid (by simp)⟩
  case round =>
    obtain ⟨k, hk, rfl, hbw, hown, HI⟩ := hrel
    obtain ⟨ad, cp, rfl⟩ := own_slice hown
    rename World => wr
    have hbvs := hbw.size
    have k0 : (0 : Int) ≤ (k : Int) := Int.natCast_nonneg _
    by_cases hlt : k < P.length
    · have k1 : (k : Int) < (P.length : Int) := by omega
      obtain ⟨p, b, off, hp, rfl, hbl, c0⟩ := rd_txt (hR.on hbw) hlt
      have hps := hs p (List.mem_of_getElem? hp)
      have HNM := Lib.hid (fun W => r1_Number (bts p) W (by rw [bts_size]; omega))
      rw [bts_list] at HNM
      have HTK := Lib.hid (show P.take (k + 1) = P.take k ++ [p] by rw [List.take_add_one, hp]; rfl)
      cases hb : numB p
      · have HN := Lib.hid (show P.all numB = false from List.all_eq_false.2 ⟨p, List.mem_of_getElem? hp, by rw [hb]; simp⟩)
        have HP := Lib.hid hb
        clear hp hps hb HI hown
        generalize bts p = SP at *
        go_wp2_with (go_at_call 102; ((with_reducible refine (HNM.out _).mono ?_); rintro e w3 ⟨n3, rfl, _, hb3⟩; rw [HP.out]))
        go_ret2
        exact nums_no HN.out (below_tr hbw hb3)
      · have HP := Lib.hid hb
        have HN := Lib.hid (show (P.take (k + 1)).all numB = true by rw [HTK.out, List.all_append, HI.out]; simp [hb])
        have HF := Lib.hid (show fl zC ((P.take (k + 1)).map numV) = fl zC ((P.take k).map numV) ++ zC (numV p) by rw [HTK.out]; simp [fl])
        clear hp hps hb HI
        generalize bts p = SP at *
        go_wp2_with (first
          | (go_at_call 102; ((with_reducible refine (HNM.out _).mono ?_); rintro e w3 ⟨n3, rfl, hn3, hb3⟩; obtain rfl := hn3 HP.out; rw [HP.out]; have hz3 := hb3.size))
          | (at_builtin; (refine wpList_append_own _ rfl _ _ 32 rfl w.heap.size 3 i0 (.int .i64 0) 1 8 (by kernel_rfl) hi hi1 hi2 hi3 rfl (by omega) _ _ _ rfl ((own_on hown hb3).alloc _) ⟨w3.heap.size, 0, none⟩ 1 1 (zC (numV p)) rfl rfl (cells_new w3 (zC (numV p)) 3) (fun u hu => by simp [zC] at hu; rcases hu with rfl; rfl) (by unfold maxLen; omega) (by omega) (by simp; omega) ?_; intro v' w4 hown4 hgrow _)))
        go_roundw
        case rel => exact ⟨k + 1, by omega, by go_num, bl_app (below_tr hbw hb3) (own_on hown hb3) hgrow (Nat.le_refl _) (Nat.le_trans hbw.size hb3.size), by rw [HF.out]; exact hown4, Lib.hid HN.out⟩
        case measure => simp [RowKit.intOf]; omega
    · obtain rfl : k = P.length := by omega
      have HA := Lib.hid (show P.all numB = true by have := HI.out; rwa [List.take_length] at this)
      have HRD := Lib.hid (show Rd zC 1 wr ad (P.map numV) from own_rd' (c := cp) zC_len (by rw [List.take_length] at hown; rw [List.length_map]; exact hown))
      have HGE := Lib.hid (show ∀ b o, ad = some ⟨b, o, none⟩ → w.heap.size ≤ b from fun b o h => (own_ge hown b (by rw [h]; rfl)).1)
      clear HI hown
      go_wp2
      go_ret2
      exact nums_yes HA.out HRD.out HGE.out hbw
/-- numbers, each with a blank before it -/
def lstZ (l : List Int) : List UInt8 := (l.map fun n => 32 :: itoa n).flatten
theorem lstZ_app (l m : List Int) : lstZ (l ++ m) = lstZ l ++ lstZ m := by unfold lstZ; simp
theorem lstZ_ln : ∀ {l : List Int}, l ≠ [] → lstZ l = 32 :: lnN l
  | [], h => absurd rfl h
  | [n], _ => by simp [lstZ, lnN, joinZ]
  | n :: m :: r, _ => by
    have ih := lstZ_ln (l := m :: r) (by simp)
    have e : lstZ (n :: m :: r) = lstZ [n] ++ lstZ (m :: r) := lstZ_app [n] (m :: r)
    rw [e, ih]
    simp [lstZ, lnN, joinZ]
theorem lstZ_len {l : List Int} (h : ∀ n ∈ l, -9223372036854775808 ≤ n ∧ n ≤ 9223372036854775807) : (lstZ l).length ≤ 21 * l.length := by
  induction l with
  | nil => simp [lstZ]
  | cons n l ih =>
    have h1 := ih fun m hm => h m (List.mem_cons_of_mem _ hm)
    have h2 := itoa_len (h n (List.mem_cons_self ..)).1 (h n (List.mem_cons_self ..)).2
    have e : lstZ (n :: l) = lstZ [n] ++ lstZ l := lstZ_app [n] l
    rw [e, List.length_append, List.length_cons]
    have : (lstZ [n]).length = (itoa n).length + 1 := by simp [lstZ]
    omega
set_option maxHeartbeats 2000000 in
set_option maxRecDepth 20000 in
theorem r1_Listed (A : Option Addr) (l : List Int) (c : Nat) (w : World) (hl : l.length ≤ 1000) (hR : Rd zC 1 w A l) (hv : ∀ n ∈ l, -9223372036854775808 ≤ n ∧ n ≤ 9223372036854775807) :
    Calls Tryd.prog 63 #[.slice A l.length c] w fun e w' => e = .returned (.string (bts (lstZ l))) ∧ Below w.heap.size w w' := by
  go_enter Tryd.func63, Tryd.ntmps63
  go_wp2
  go_loopw [3, 4] (fun v i wr => ∃ k : Nat, k ≤ l.length ∧ i = .int .i64 k ∧ v = .string (bts (lstZ (l.take k))) ∧ Below w.heap.size w wr) (fun _ i _ => l.length - (RowKit.intOf i).toNat)
  case atStart => exact ⟨0, by omega, rfl, rfl, below_refl _⟩
  case round =>
    obtain ⟨k, hk, rfl, rfl, hbw⟩ := hrel
    rename World => wr
    have hbvs := hbw.size
    have k0 : (0 : Int) ≤ (k : Int) := Int.natCast_nonneg _
    by_cases hlt : k < l.length
    · have k1 : (k : Int) < (l.length : Int) := by omega
      obtain ⟨x, b, off, hx, rfl, hbl, c0⟩ := rd_int (hR.on hbw) hlt
      have hxb := hv x (List.mem_of_getElem? hx)
      have HD := Lib.hid (fun W => r1_Digits x W hxb.1 hxb.2)
      have hxl := itoa_len hxb.1 hxb.2
      have HST := Lib.hid (show bts (lstZ (l.take (k + 1))) = bts (lstZ (l.take k)) ++ ⟨#[32]⟩ ++ bts (itoa x) by
        have e : (⟨#[32]⟩ : ByteArray) = bts [32] := rfl
        rw [List.take_add_one, hx, e, ba_app, ba_app]
        congr 1
        rw [lstZ_app]
        simp [lstZ])
      have hsz : (bts (lstZ (l.take k))).size ≤ 21000 := by
        have := lstZ_len (l := l.take k) fun n hn => hv n (List.mem_of_mem_take hn)
        rw [List.length_take] at this
        rw [bts_size]; omega
      have hsx : (bts (itoa x)).size ≤ 20 := by rw [bts_size]; exact hxl
      clear hx hxb hxl
      generalize bts (itoa x) = SX at *
      generalize bts (lstZ (l.take k)) = ST at *
      have z1 : ¬ 9223372036854775807 < ST.size + 1 := by omega
      have z2 : ¬ 9223372036854775807 < ST.size + 1 + SX.size := by omega
      clear hsz hsx
      go_wp2_with (go_at_call 105; ((with_reducible refine (HD.out _).mono ?_); rintro e w3 ⟨rfl, hb3⟩))
      go_roundw
      case rel => exact ⟨k + 1, by omega, by go_num, by rw [HST.out], below_tr hbw hb3⟩
      case measure => simp [RowKit.intOf]; omega
    · obtain rfl : k = l.length := by omega
      have HT := Lib.hid (show l.take l.length = l from List.take_length)
      go_wp2
      go_ret
      exact ⟨by rw [HT.out]; rfl, hbw⟩
end Go.Proofs.YtoelekhkgknneaaDoor.Tx
