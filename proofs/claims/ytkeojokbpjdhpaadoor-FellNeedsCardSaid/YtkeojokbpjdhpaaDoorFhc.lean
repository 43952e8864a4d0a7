/- Fell: Burnt and Needed of both. -/
import Derived.Test.YtkeojokbpjdhpaaDoorFha
import Derived.Laws.StructEq
set_option linter.unusedSimpArgs false
set_option linter.unusedVariables false
namespace Go.Proofs.YtkeojokbpjdhpaaDoor
open Go.RowKit Go.Shelf

def brL (l : List Pr) : List Pr := if vP l = true then l.filter (fun y => !y.wd) else []
def brE (l : List Pr) : Int := if vP l = true then 0 else 1
def BurP (l : List Pr) (w : World) (e : Ending) (w' : World) : Prop := ∃ A c, e = .returned (.tuple #[.slice A (brL l).length c, .int .i64 (brE l)]) ∧ Rd Pr.cs 3 w' A (brL l) ∧ Below w.heap.size w w'
theorem br_no {l : List Pr} (h : vP l = false) : brL l = [] ∧ brE l = 1 := by unfold brL brE; rw [h]; exact ⟨rfl, rfl⟩
theorem br_yes {l : List Pr} (h : vP l = true) : brL l = l.filter (fun y => !y.wd) ∧ brE l = 0 := by unfold brL brE; rw [if_pos h, if_pos h]; exact ⟨rfl, rfl⟩
theorem c_DeleteNil (A : Option Addr) (c : Nat) (f : FuncId) (cap : Array Value) (w : World)
    (he : ∀ args W, (callFunc f args).run Tryd.prog W = .ok (.enter f args) W) (p : Pr → Bool)
    (hf : ∀ W x, Calls Tryd.prog f (#[prV x] ++ cap) W fun e W' => e = .returned (.bool (p x)) ∧ Below W.heap.size W W') :
    Calls Tryd.prog 48 #[.slice A 0 c, .func (.func f) #[] cap] w fun e w' => e = .returned (.slice A 0 c) ∧ Below w.heap.size w w' := by
  have HI := Lib.hid (c_indexP A [] c p f cap w (by simp) (fun h => absurd rfl h) he hf)
  clear hf
  go_enter Tryd.func48, Tryd.ntmps48
  go_wp2_with fail
  refine HI.out.mono ?_
  rintro e w1 ⟨rfl, hb1⟩
  go_wp2
  go_ret
  exact ⟨rfl, hb1⟩
set_option maxHeartbeats 1000000 in
theorem p_Burnt (A : Option Addr) (l : List Pr) (c : Nat) (w : World) (hl : l.length ≤ 100000) (hR : Rd Pr.cs 3 w A l) :
    Calls Tryd.prog 17 #[.slice A l.length c] w (BurP l w) := by
  have HV := Lib.hid (p_Valid A l c w hl hR)
  have HC := Lib.hid (fun (W : World) (hb : Below w.heap.size w W) => c_CloneP A l c W hl (hR.on hb))
  unfold BurP
  cases hv : vP l
  · obtain ⟨h1, h2⟩ := br_no hv
    rw [h1, h2]
    rw [hv] at HV
    clear hv h1 h2
    go_enter Tryd.func17, Tryd.ntmps17
    go_wp2_with fail
    refine HV.out.mono ?_
    rintro e w1 ⟨rfl, hb1⟩
    go_wp2
    go_ret2
    exact ⟨none, 0, rfl, fun h => absurd rfl h, hb1⟩
  · obtain ⟨h1, h2⟩ := br_yes hv
    rw [h1, h2]
    rw [hv] at HV
    clear hv h1 h2
    have he50 := enters_of Tryd.func50 (by kernel_rfl) rfl
    by_cases hn : l = []
    · subst hn
      go_enter Tryd.func17, Tryd.ntmps17
      go_wp2_with fail
      refine HV.out.mono ?_
      rintro e w1 ⟨rfl, hb1⟩
      go_wp2_with fail
      refine (HC.out _ hb1).mono ?_
      rintro e w2 ⟨v2, rfl, ho2, hb2⟩
      obtain ⟨A2, c2, rfl⟩ := own_slice ho2
      have B2 := below_tr hb1 hb2
      go_wp2_with fail
      refine (c_DeleteNil A2 c2 50 #[] w2 he50 (fun x => x.wd) (fun W x => p_burnt1 x W)).mono ?_
      rintro e w3 ⟨rfl, hb3⟩
      go_wp2
      go_ret2
      exact ⟨A2, c2, rfl, fun h => absurd rfl h, below_tr B2 hb3⟩
    · have h0 : 0 < l.length := List.length_pos_iff.2 hn
      go_enter Tryd.func17, Tryd.ntmps17
      go_wp2_with fail
      refine HV.out.mono ?_
      rintro e w1 ⟨rfl, hb1⟩
      go_wp2_with fail
      refine (HC.out _ hb1).mono ?_
      rintro e w2 ⟨v2, rfl, ho2, hb2⟩
      obtain ⟨g, cap, rfl, hg, hlc, hcm, hrow⟩ := own_rowP ho2 h0
      have B2 := below_tr hb1 hb2
      have hz1 := hb1.size
      go_wp2_with fail
      refine (c_DeleteP g l cap (fun x => x.wd) 50 #[] w2 hl hlc hcm hrow he50 (fun W x => p_burnt1 x W)).mono ?_
      rintro e w3 ⟨n, c3, rfl, rfl, hR3, hb3⟩
      go_wp2
      go_ret2
      exact ⟨some ⟨g, 0, none⟩, c3, rfl, hR3, B2.trans (hb3.mono (by omega))⟩
theorem flt_yes {l : List Pr} {k : Nat} {x : Pr} (hx : l[k]? = some x) (h : x.wd = false) : (l.take (k + 1)).filter (fun y => !y.wd) = (l.take k).filter (fun y => !y.wd) ++ [x] := by
  rw [List.take_add_one, hx, List.filter_append]; simp [h]
theorem flt_no {l : List Pr} {k : Nat} {x : Pr} (hx : l[k]? = some x) (h : x.wd = true) : (l.take (k + 1)).filter (fun y => !y.wd) = (l.take k).filter (fun y => !y.wd) := by
  rw [List.take_add_one, hx, List.filter_append]; simp [h]
theorem flt_len (l : List Pr) (k : Nat) : ((l.take k).filter (fun y => !y.wd)).length ≤ k := by
  have h1 := List.length_filter_le (fun y : Pr => !y.wd) (l.take k)
  have h2 := List.length_take_le k l
  omega
set_option maxHeartbeats 2000000 in
theorem r_Burnt (A : Option Addr) (l : List Pr) (c : Nat) (w : World) (hl : l.length ≤ 100000) (hR : Rd Pr.cs 3 w A l) :
    Calls Tryd.prog 18 #[.slice A l.length c] w (BurP l w) := by
  have HV := Lib.hid (r_Valid A l c w hl hR)
  unfold BurP
  cases hv : vP l
  · obtain ⟨h1, h2⟩ := br_no hv
    rw [h1, h2]
    rw [hv] at HV
    clear hv h1 h2
    go_enter Tryd.func18, Tryd.ntmps18
    go_wp2_with fail
    refine HV.out.mono ?_
    rintro e w1 ⟨rfl, hb1⟩
    go_wp2
    go_ret2
    exact ⟨none, 0, rfl, fun h => absurd rfl h, hb1⟩
  · obtain ⟨h1, h2⟩ := br_yes hv
    rw [h1, h2]
    rw [hv] at HV
    obtain ⟨i0, hi, hi1, hi2, hi3⟩ := info_prop
    have HL := Lib.hid (flt_len l)
    obtain ⟨F, hF⟩ : ∃ F, F = l.filter (fun y => !y.wd) := ⟨_, rfl⟩
    have HFF := Lib.hid (show (l.take l.length).filter (fun y => !y.wd) = F by rw [List.take_length, hF])
    rw [← hF]
    clear hv h1 h2 hF
    go_enter Tryd.func18, Tryd.ntmps18
    go_wp2_with fail
    refine HV.out.mono ?_
    rintro e w1 ⟨rfl, hb1⟩
    go_wp2_with fail
    go_loopw [4, 5] (fun v i wr => ∃ k : Nat, k ≤ l.length ∧ i = .int .i64 k ∧ Below w1.heap.size w1 wr ∧ wr.ownsRow w1.heap.size 43 3 v ((l.take k).filter (fun y => !y.wd)).length (fl Pr.cs ((l.take k).filter (fun y => !y.wd)))) (fun _ i _ => l.length - (intOf i).toNat)
    case atStart => exact ⟨0, by omega, rfl, below_refl _, World.ownsRow_nil w1 _ _ _⟩
    case round =>
      obtain ⟨k, hk, rfl, hbw, hown⟩ := hrel
      obtain ⟨ad, cp, rfl⟩ := own_slice hown
      have k0 : (0 : Int) ≤ (k : Int) := Int.natCast_nonneg _
      have hws := hbw.size
      have hln := HL.out k
      by_cases hlt : k < l.length
      · have k1 : (k : Int) < (l.length : Int) := by omega
        obtain ⟨x, b, off, hx, rfl, hb, c0, c1, c2⟩ := rdP (hR.on (below_tr hb1 hbw)) hlt
        rename World => wr
        cases hw : x.wd
        · have HS := Lib.hid (flt_yes hx hw)
          rw [hw] at c2
          have HW := Lib.hid hw
          clear hx
          clear hw
          go_wp2_with (at_builtin; refine wpList_append_own _ rfl _ _ 22 rfl w1.heap.size 43 i0 (.agg #[.int .i64 0, .int .i64 0, .bool false]) 3 24 (by kernel_rfl) hi hi1 hi2 hi3 rfl (by omega) _ _ _ rfl (hown.alloc _) ⟨wr.heap.size, 0, none⟩ 1 1 (Pr.cs ⟨x.a, false⟩) rfl rfl (cells_new wr (Pr.cs ⟨x.a, false⟩) 43) (prC_oneP ⟨x.a, false⟩) (by unfold maxLen; omega) (by omega) (by simp; omega) ?_; intro v' w9 hown9 hgrow _)
          go_roundw
          case rel => exact ⟨k + 1, by omega, by go_num, bl_app hbw hown hgrow (Nat.le_refl _) hbw.size, by
            rw [HS.out, fl_snocPr, List.length_append]
            have e : x.cs = Pr.cs ⟨x.a, false⟩ := by unfold Pr.cs; rw [HW.out]
            rw [e]; exact hown9⟩
          case measure => simp [intOf]; omega
        · have HS := Lib.hid (flt_no hx hw)
          rw [hw] at c2
          clear hw hx
          go_wp2
          go_roundw
          case rel => exact ⟨k + 1, by omega, by go_num, hbw, by rw [HS.out]; exact hown⟩
          case measure => simp [intOf]; omega
      · obtain rfl : k = l.length := by omega
        rw [HFF.out] at hown
        obtain ⟨A9, c9, e9, hR9⟩ := own_rd Pr.cs_len hown
        rw [HFF.out]
        cases e9
        go_wp2
        go_ret2
        exact ⟨_, _, rfl, hR9, below_tr hb1 hbw⟩
set_option maxHeartbeats 1000000 in
theorem l_props (A B : Option Addr) (l : List Pr) (c d : Nat) (w : World) (hl : l.length ≤ 100000) (hA : Rd Pr.cs 3 w A l) (hB : Rd Pr.cs 3 w B l) :
    Calls Tryd.prog 19 #[.slice A l.length c, .slice B l.length d] w fun e w' => e = .returned (.bool true) ∧ Below w.heap.size w w' := by
  go_enter Tryd.func19, Tryd.ntmps19
  go_wp2
  go_loopw [5] (fun i wr => ∃ k : Nat, k ≤ l.length ∧ i = .int .i64 k ∧ Below w.heap.size w wr) (fun i _ => l.length - (intOf i).toNat)
  case atStart => exact ⟨0, by omega, rfl, below_refl _⟩
  case round =>
    obtain ⟨k, hk, rfl, hbw⟩ := hrel
    have k0 : (0 : Int) ≤ (k : Int) := Int.natCast_nonneg _
    by_cases hlt : k < l.length
    · have k1 : (k : Int) < (l.length : Int) := by omega
      obtain ⟨x, b, off, hx, rfl, hb, c0, c1, c2⟩ := rdP (hA.on hbw) hlt
      obtain ⟨y, b2, off2, hy, rfl, hb2, d0, d1, d2⟩ := rdP (hB.on hbw) hlt
      obtain rfl : y = x := by have := hy.symm.trans hx; exact Option.some.inj this
      clear hx hy
      go_wp2_with fail
      go_region
      go_wp2
      go_roundw
      case rel => exact ⟨k + 1, by omega, by go_num, by (repeat' (first | assumption | exact below_refl _ | refine bl_alloc ?_ _ | refine Below.setCell ?_ ?_ _ | refine below_draw ?_ | refine below_drewN ?_ _ | refine below_tr ?_ (by assumption))) <;> (first | omega | (simp; done) | (simp; omega))⟩
      case measure => simp [intOf]; omega
    · obtain rfl : k = l.length := by omega
      go_wp2
      go_ret
      exact ⟨rfl, hbw⟩
end Go.Proofs.YtkeojokbpjdhpaaDoor
namespace Go.Proofs.YtkeojokbpjdhpaaDoor
open Go.RowKit Go.Shelf

/-- without prop i -/
def woM (l : List Pr) (i : Nat) : List Bool := (List.replicate l.length true).set i false
def ndB (l : List Pr) (s : Sp) (i : Nat) : Bool := !heldB (lfS l (woM l i)) s
def ndK (l : List Pr) (s : Sp) (k : Nat) : List Int := nZ ((List.range k).filter (ndB l s))
def ndE (l : List Pr) (s : Sp) : Int := if stE l s = 0 then (if heldB (spL l) s = true then 0 else 10) else stE l s
def ndL (l : List Pr) (s : Sp) : List Int := if ndE l s = 0 then ndK l s l.length else []
def NedP (l : List Pr) (s : Sp) (w : World) (e : Ending) (w' : World) : Prop := ∃ v, e = .returned (.tuple #[v, .int .i64 (ndE l s)]) ∧ w'.ownsRow w.heap.size 3 1 v (ndL l s).length (fl zC (ndL l s)) ∧ Below w.heap.size w w'
theorem ndK_yes {l : List Pr} {s : Sp} {k : Nat} (h : ndB l s k = true) : ndK l s (k + 1) = ndK l s k ++ [(k : Int)] := by
  unfold ndK nZ; rw [List.range_succ, List.filter_append, List.map_append, List.filter_cons_of_pos h, List.filter_nil, List.map_cons, List.map_nil]
theorem ndK_no {l : List Pr} {s : Sp} {k : Nat} (h : ndB l s k = false) : ndK l s (k + 1) = ndK l s k := by
  unfold ndK nZ; rw [List.range_succ, List.filter_append, List.map_append, List.filter_cons_of_neg (by rw [h]; simp), List.filter_nil, List.map_nil, List.append_nil]
theorem ndK_len (l : List Pr) (s : Sp) (k : Nat) : (ndK l s k).length ≤ k := by
  unfold ndK nZ; rw [List.length_map]
  have := List.length_filter_le (ndB l s) (List.range k)
  simpa using this
theorem woM_len (l : List Pr) (i : Nat) : (woM l i).length = l.length := by unfold woM; simp
theorem wo_step {l : List Pr} {i : Nat} (hi : i < l.length) : dsB (List.replicate l.length true) (2 * (i : Int)) = some (woM l i) := dsB_even (by simp [List.getD, hi])
set_option maxHeartbeats 4000000 in
set_option maxRecDepth 20000 in
theorem p_Needed (A : Option Addr) (l : List Pr) (c : Nat) (s : Sp) (w : World) (hl : l.length ≤ 100000) (h12 : vP l = true → l.length ≤ 24) (hT : Tab w) (hR : Rd Pr.cs 3 w A l) :
    Calls Tryd.prog 15 #[.slice A l.length c, spV s] w (NedP l s w) := by
  have x0 := Blk.new w 24 (spA s)
  have B0 := bl_alloc (below_refl w) (.cells (spA s) 24)
  have z0 : (w.alloc (.cells (spA s) 24)).heap.size = w.heap.size + 1 := by simp
  have HA := Lib.hid (fun (W : World) (hb : Below w.heap.size w W) (b : Nat) (hS : Rd Sp.cs 2 W (some ⟨b, 0, none⟩) [s]) => p_askedOne A l s c b W hl (hR.on hb) hS)
  have HO1 := Lib.hid (rd_one (w.alloc (.cells (spA s) 24)) s)
  rw [z0] at HO1
  have B1 := bl_alloc B0 (.cells (spA s) 24)
  have x1 := x0.alloc (.cells (spA s) 24)
  unfold NedP
  by_cases he : stE l s = 0
  · obtain ⟨hv, hs⟩ := stE_z he
    have hl24 := h12 hv
    have HS := Lib.hid (fun (W : World) (A : Option Addr) (c : Nat) (hR : Rd Sp.cs 2 W A (spL l)) => p_stands A (spL l) c s W (by rw [spL_len]; exact hl24) (vP_bd hv) (vP_nodup hv) (isS_bd hs) hR)
    have HP := Lib.hid (fun (W : World) (hb : Below w.heap.size w W) => p_spots A l c W hl (hR.on hb))
    rw [he] at HA
    cases hh : heldB (spL l) s
    · have hE : ndE l s = 10 := by unfold ndE; rw [if_pos he, hh]; rfl
      have hL : ndL l s = [] := by unfold ndL; rw [hE]; rfl
      rw [hE, hL]
      rw [hh] at HS
      clear he hv hs hh hE hL
      go_enter Tryd.func15, Tryd.ntmps15
      go_wp2_with fail
      refine (HA.out _ B1 _ HO1.out).mono ?_
      rintro e w1 ⟨rfl, hb1⟩
      have B2 := below_tr B1 hb1
      have x2 := x1.below hb1 x1.lt
      have e0 := x2.cell 0
      have e1 := x2.cell 1
      simp only [List.getElem?_toArray, List.getElem?_cons_zero, List.getElem?_cons_succ] at e0 e1
      have zx := x2.lt
      clear B0 B1 x0 x1 hb1 HA HO1 z0
      go_wp2_with fail
      go_region_held3 (fun w' => (∀ b o, b < w1.heap.size → w'.cell? ⟨b, o, none⟩ = w1.cell? ⟨b, o, none⟩) ∧ (∀ b o, b < w1.heap.size → w'.frozen? ⟨b, o, none⟩ = w1.frozen? ⟨b, o, none⟩) ∧ Below w1.heap.size w1 w') ((first | assumption | (refine kp_of ?_; (repeat' (first | assumption | exact below_refl _ | refine bl_alloc ?_ _ | refine Below.setCell ?_ ?_ _ | refine below_draw ?_ | refine below_drewN ?_ _ | refine below_tr ?_ (by assumption))) <;> (first | omega | (simp; done) | (simp; omega))))) ((first | (go_at_call 45; ((with_reducible refine (HP.out _ (by (repeat' (first | assumption | exact below_refl _ | refine bl_alloc ?_ _ | refine Below.setCell ?_ ?_ _ | refine below_draw ?_ | refine below_drewN ?_ _ | refine below_tr ?_ (by assumption))) <;> (first | omega | (simp; done) | (simp; omega)))).mono ?_); rintro e w3 ⟨v3, rfl, ho3, hb3⟩; obtain ⟨A3, c3, rfl, hR3⟩ := own_rd Sp.cs_len ho3; obtain ⟨hc3, hf3⟩ := bcell hb3; have hz3 := hb3.size; (try simp [sz_drew, sz_drewN] at hz3); (try simp only [sz_drew, sz_drewN] at hc3 hf3))) | (go_at_call 41; ((with_reducible refine (HS.out _ _ _ hR3).mono ?_); rintro e w4 ⟨rfl, hb4⟩; obtain ⟨hc4, hf4⟩ := bcell hb4; have hz4 := hb4.size; (try simp [sz_drew, sz_drewN] at hz4); (try simp only [sz_drew, sz_drewN] at hc4 hf4)))))
      all_goals
        go_wp2
        go_ret2
        exact ⟨_, rfl, ownZ_nil _ _, by (repeat' (first | assumption | exact below_refl _ | refine bl_alloc ?_ _ | refine Below.setCell ?_ ?_ _ | refine below_draw ?_ | refine below_drewN ?_ _ | refine below_tr ?_ (by assumption))) <;> (first | omega | (simp; done) | (simp; omega))⟩
    · have hE : ndE l s = 0 := by unfold ndE; rw [if_pos he, hh]; rfl
      have hL : ndL l s = ndK l s l.length := by unfold ndL; rw [hE]; rfl
      rw [hE, hL]
      rw [hh] at HS
      have HNO := Lib.hid (fun i (hi : i < l.length) => (show bits BinOp.andNot IntKind.u32 (encM (List.replicate l.length true) : Int) ((2 : Int) ^ i % 4294967296) = (encM (woM l i) : Nat) from away_val (encM_set (by simpa using hl24)) (by simpa using hi)))
      have HFU := Lib.hid (fun W => p_full A l.length c W hl24)
      have hfull : (2 ^ l.length - 1) = encM (List.replicate l.length true) := set_enc (set_full hl24)
      rw [hfull] at HFU
      have HOF := Lib.hid (fun i (W : World) (hb : Below w.heap.size w W) => p_of A l c (encM (woM l i)) (woM l i) W (encM_set (by rw [woM_len]; exact hl24)) (woM_len l i) (TabAt.on hT hb) (hR.on hb))
      have HST := Lib.hid (fun i (W : World) (A : Option Addr) (c : Nat) (hR : Rd Sp.cs 2 W A (lfS l (woM l i))) => (let h := lfS_ok hv (woM_len l i); p_stands A (lfS l (woM l i)) c s W h.1 h.2.1 h.2.2 (isS_bd hs) hR))
      have HNB := Lib.hid (fun i => (show ndB l s i = !heldB (lfS l (woM l i)) s from rfl))
      have HLN := Lib.hid (ndK_len l s)
      obtain ⟨i9, hi, hi1, hi2, hi3⟩ := info_int4
      clear he hv hs hh hE hL hfull h12 hR hT
      generalize encM (List.replicate l.length true) = F at *
      go_enter Tryd.func15, Tryd.ntmps15
      go_wp2_with fail
      refine (HA.out _ B1 _ HO1.out).mono ?_
      rintro e w1 ⟨rfl, hb1⟩
      have B2 := below_tr B1 hb1
      have x2 := x1.below hb1 x1.lt
      have e0 := x2.cell 0
      have e1 := x2.cell 1
      simp only [List.getElem?_toArray, List.getElem?_cons_zero, List.getElem?_cons_succ] at e0 e1
      have zx := x2.lt
      clear B0 B1 x0 x1 hb1 HA HO1 z0
      go_wp2_with fail
      go_region_held3 (fun w' => (∀ b o, b < w1.heap.size → w'.cell? ⟨b, o, none⟩ = w1.cell? ⟨b, o, none⟩) ∧ (∀ b o, b < w1.heap.size → w'.frozen? ⟨b, o, none⟩ = w1.frozen? ⟨b, o, none⟩) ∧ Below w1.heap.size w1 w') ((first | assumption | (refine kp_of ?_; (repeat' (first | assumption | exact below_refl _ | refine bl_alloc ?_ _ | refine Below.setCell ?_ ?_ _ | refine below_draw ?_ | refine below_drewN ?_ _ | refine below_tr ?_ (by assumption))) <;> (first | omega | (simp; done) | (simp; omega))))) ((first | (go_at_call 45; ((with_reducible refine (HP.out _ (by (repeat' (first | assumption | exact below_refl _ | refine bl_alloc ?_ _ | refine Below.setCell ?_ ?_ _ | refine below_draw ?_ | refine below_drewN ?_ _ | refine below_tr ?_ (by assumption))) <;> (first | omega | (simp; done) | (simp; omega)))).mono ?_); rintro e w3 ⟨v3, rfl, ho3, hb3⟩; obtain ⟨A3, c3, rfl, hR3⟩ := own_rd Sp.cs_len ho3; obtain ⟨hc3, hf3⟩ := bcell hb3; have hz3 := hb3.size; (try simp [sz_drew, sz_drewN] at hz3); (try simp only [sz_drew, sz_drewN] at hc3 hf3))) | (go_at_call 41; ((with_reducible refine (HS.out _ _ _ hR3).mono ?_); rintro e w4 ⟨rfl, hb4⟩; obtain ⟨hc4, hf4⟩ := bcell hb4; have hz4 := hb4.size; (try simp [sz_drew, sz_drewN] at hz4); (try simp only [sz_drew, sz_drewN] at hc4 hf4)))))
      all_goals go_wp2_with fail
      all_goals
        have B5 : Below w1.heap.size w1 w4 := by (repeat' (first | assumption | exact below_refl _ | refine bl_alloc ?_ _ | refine Below.setCell ?_ ?_ _ | refine below_draw ?_ | refine below_drewN ?_ _ | refine below_tr ?_ (by assumption))) <;> (first | omega | (simp; done) | (simp; omega))
        obtain ⟨W5, hW5⟩ : ∃ W5, W5 = w4 := ⟨_, rfl⟩
        rw [← hW5] at B5 ⊢
        have x5 := x2.below B5 x2.lt
        have B6 := below_tr B2 B5
        clear e0 e1 zx hW5 HS HP
        go_loopw [7, 23] (fun v i wr => ∃ k : Nat, k ≤ l.length ∧ i = .int .i64 k ∧ Below W5.heap.size W5 wr ∧ wr.ownsRow W5.heap.size 3 1 v (ndK l s k).length (fl zC (ndK l s k))) (fun _ i _ => l.length - (intOf i).toNat)
        case atStart => exact ⟨0, by omega, rfl, below_refl _, World.ownsRow_nil W5 _ _ _⟩
        case round =>
          obtain ⟨k, hk, rfl, hbw, hown⟩ := hrel
          obtain ⟨ad, cp, rfl⟩ := own_slice hown
          have k0 : (0 : Int) ≤ (k : Int) := Int.natCast_nonneg _
          have hws := hbw.size
          have hln := HLN.out k
          by_cases hlt : k < l.length
          · have k1 : (k : Int) < (l.length : Int) := by omega
            have k2 : (k : Int) < 32 := by omega
            have hwk : IntKind.i64.wrap (k : Int) = k := fits_wrap (by omega)
            have xb := x5.below hbw x5.lt
            have B7 := below_tr B6 hbw
            have q0 := xb.cell 0
            have q1 := xb.cell 1
            simp only [List.getElem?_toArray, List.getElem?_cons_zero, List.getElem?_cons_succ] at q0 q1
            have zx := xb.lt
            have HO := Lib.hid (HOF.out k)
            have HS := Lib.hid (HST.out k)
            have hno := HNO.out k hlt
            have hno2 : bits BinOp.andNot IntKind.u32 (F : Int) (IntKind.u32.wrap ((2 : Int) ^ k)) = (encM (woM l k) : Nat) := by rw [wrap_u32']; exact hno
            have hnb := HNB.out k
            rename World => wr
            generalize encM (woM l k) = E at *
            cases hV : heldB (lfS l (woM l k)) s
            · rw [hV] at HS hnb
              have HSS := Lib.hid (ndK_yes hnb)
              clear hV hnb
              go_wp2_with fail
              go_region_held3 (fun w' => (∀ b o, b < wr.heap.size → w'.cell? ⟨b, o, none⟩ = wr.cell? ⟨b, o, none⟩) ∧ (∀ b o, b < wr.heap.size → w'.frozen? ⟨b, o, none⟩ = wr.frozen? ⟨b, o, none⟩) ∧ Below wr.heap.size wr w') ((first | assumption | (refine kp_of ?_; (repeat' (first | assumption | exact below_refl _ | refine bl_alloc ?_ _ | refine Below.setCell ?_ ?_ _ | refine below_draw ?_ | refine below_drewN ?_ _ | refine below_tr ?_ (by assumption))) <;> (first | omega | (simp; done) | (simp; omega))))) ((first | (go_at_call 46; ((with_reducible refine (HFU.out _).mono ?_); rintro e w' ⟨rfl, rfl⟩)) | (go_at_call 42; ((with_reducible refine (HO.out _ (by (repeat' (first | assumption | exact below_refl _ | refine bl_alloc ?_ _ | refine Below.setCell ?_ ?_ _ | refine below_draw ?_ | refine below_drewN ?_ _ | refine below_tr ?_ (by assumption))) <;> (first | omega | (simp; done) | (simp; omega)))).mono ?_); rintro e w3 ⟨v3, rfl, ho3, hb3⟩; obtain ⟨A3, c3, rfl, hR3⟩ := own_rd Sp.cs_len ho3; obtain ⟨hc3, hf3⟩ := bcell hb3; have hz3 := hb3.size; (try simp [sz_drew, sz_drewN] at hz3); (try simp only [sz_drew, sz_drewN] at hc3 hf3))) | (go_at_call 41; ((with_reducible refine (HS.out _ _ _ hR3).mono ?_); rintro e w4 ⟨rfl, hb4⟩; obtain ⟨hc4, hf4⟩ := bcell hb4; have hz4 := hb4.size; (try simp [sz_drew, sz_drewN] at hz4); (try simp only [sz_drew, sz_drewN] at hc4 hf4)))))
              all_goals (
                have B8 : Below wr.heap.size wr w4 := by (repeat' (first | assumption | exact below_refl _ | refine bl_alloc ?_ _ | refine Below.setCell ?_ ?_ _ | refine below_draw ?_ | refine below_drewN ?_ _ | refine below_tr ?_ (by assumption))) <;> (first | omega | (simp; done) | (simp; omega))
                obtain ⟨W8, hW8⟩ : ∃ W8, W8 = w4 := ⟨_, rfl⟩
                rw [← hW8] at B8 ⊢
                have hown8 := own_on hown B8
                have hz8 := B8.size
                have B9 := below_tr hbw B8
                clear hW8
                go_wp2_with (at_builtin; refine wpList_append_own _ rfl _ _ 25 rfl W5.heap.size 3 i9 (.int .i64 0) 1 8 (by kernel_rfl) hi hi1 hi2 hi3 rfl (by omega) _ _ _ rfl (hown8.alloc _) ⟨W8.heap.size, 0, none⟩ 1 1 (zC (k : Int)) rfl rfl (cells_new W8 (zC (k : Int)) 3) (zC_oneI k) (by unfold maxLen; omega) (by omega) (by simp; omega) ?_; intro v' w9 hown9 hgrow _)
                go_roundw
                case rel => exact ⟨k + 1, by omega, by go_num, bl_app B9 hown8 hgrow (Nat.le_refl _) B9.size, by rw [HSS.out, fl_snocZ, List.length_append]; exact hown9⟩
                case measure => simp [intOf]; omega)
            · rw [hV] at HS hnb
              have HSS := Lib.hid (ndK_no hnb)
              clear hV hnb
              go_wp2_with fail
              go_region_held3 (fun w' => (∀ b o, b < wr.heap.size → w'.cell? ⟨b, o, none⟩ = wr.cell? ⟨b, o, none⟩) ∧ (∀ b o, b < wr.heap.size → w'.frozen? ⟨b, o, none⟩ = wr.frozen? ⟨b, o, none⟩) ∧ Below wr.heap.size wr w') ((first | assumption | (refine kp_of ?_; (repeat' (first | assumption | exact below_refl _ | refine bl_alloc ?_ _ | refine Below.setCell ?_ ?_ _ | refine below_draw ?_ | refine below_drewN ?_ _ | refine below_tr ?_ (by assumption))) <;> (first | omega | (simp; done) | (simp; omega))))) ((first | (go_at_call 46; ((with_reducible refine (HFU.out _).mono ?_); rintro e w' ⟨rfl, rfl⟩)) | (go_at_call 42; ((with_reducible refine (HO.out _ (by (repeat' (first | assumption | exact below_refl _ | refine bl_alloc ?_ _ | refine Below.setCell ?_ ?_ _ | refine below_draw ?_ | refine below_drewN ?_ _ | refine below_tr ?_ (by assumption))) <;> (first | omega | (simp; done) | (simp; omega)))).mono ?_); rintro e w3 ⟨v3, rfl, ho3, hb3⟩; obtain ⟨A3, c3, rfl, hR3⟩ := own_rd Sp.cs_len ho3; obtain ⟨hc3, hf3⟩ := bcell hb3; have hz3 := hb3.size; (try simp [sz_drew, sz_drewN] at hz3); (try simp only [sz_drew, sz_drewN] at hc3 hf3))) | (go_at_call 41; ((with_reducible refine (HS.out _ _ _ hR3).mono ?_); rintro e w4 ⟨rfl, hb4⟩; obtain ⟨hc4, hf4⟩ := bcell hb4; have hz4 := hb4.size; (try simp [sz_drew, sz_drewN] at hz4); (try simp only [sz_drew, sz_drewN] at hc4 hf4)))))
              all_goals go_wp2
              all_goals (
                go_roundw
                case rel => exact ⟨k + 1, by omega, by go_num, below_tr hbw (by (repeat' (first | assumption | exact below_refl _ | refine bl_alloc ?_ _ | refine Below.setCell ?_ ?_ _ | refine below_draw ?_ | refine below_drewN ?_ _ | refine below_tr ?_ (by assumption))) <;> (first | omega | (simp; done) | (simp; omega))), by rw [HSS.out]; exact own_on hown (by (repeat' (first | assumption | exact below_refl _ | refine bl_alloc ?_ _ | refine Below.setCell ?_ ?_ _ | refine below_draw ?_ | refine below_drewN ?_ _ | refine below_tr ?_ (by assumption))) <;> (first | omega | (simp; done) | (simp; omega)))⟩
                case measure => simp [intOf]; omega)
          · obtain rfl : k = l.length := by omega
            go_wp2
            go_ret2
            exact ⟨_, rfl, own_base hown B6.size, below_tr B6 hbw⟩
  · have hE : ndE l s = stE l s := by unfold ndE; rw [if_neg he]
    have hL : ndL l s = [] := by unfold ndL; rw [hE, if_neg he]
    rw [hE, hL]
    have hg := he
    obtain ⟨E, hEE⟩ : ∃ E : Int, E = stE l s := ⟨_, rfl⟩
    rw [← hEE] at HA hg ⊢
    clear he hE hL hEE
    go_enter Tryd.func15, Tryd.ntmps15
    go_wp2_with fail
    refine (HA.out _ B1 _ HO1.out).mono ?_
    rintro e w1 ⟨rfl, hb1⟩
    go_wp2
    go_ret2
    exact ⟨_, rfl, ownZ_nil _ _, below_tr B1 hb1⟩
end Go.Proofs.YtkeojokbpjdhpaaDoor
