/- Fell: Valid of the program: a map of spots. -/
import Derived.Test.YthklgkgincebhaaGreatDoorFd
import Derived.Maps.OwnOps
import Derived.Maps.OwnSet
import Derived.DeepKeys4
set_option linter.unusedSimpArgs false
set_option linter.unusedVariables false
namespace Go.Proofs.YthklgkgincebhaaGreatDoor
open Go.RowKit Go.Maps Go.WideShapes Go.WideMaps
set_option maxRecDepth 50000

def fsOf (P : Program) (t : TypeId) : Array Field := match P.underlying t with | some (.struct fs) => fs | _ => #[]
theorem und_spot : Tryz.prog.underlying 32 = some (.struct (fsOf Tryz.prog 32)) := by kernel_rfl
theorem und_int6 : Tryz.prog.underlying 3 = some (.int .i64) := by kernel_rfl
theorem und_bool6 : Tryz.prog.underlying 4 = some .bool := by kernel_rfl
theorem und_seen : Tryz.prog.underlying 69 = some (.map 32 4) := by kernel_rfl
theorem laid6 : laidOutB Tryz.prog = true := by kernel_rfl
theorem row6 : (32 : TypeId) < Tryz.prog.types.size := of_decide_eq_true (by kernel_rfl)
theorem wide6 : (match Tryz.prog.underlying 32 with | some (.array _ _) | some (.struct _) => true | _ => false) = true := by kernel_rfl
theorem kta6 : Tryz.prog.keyTypeAt 2 32 = true := by kernel_rfl
theorem klP : KeyLaw Tryz.prog 32 := deep_law_laid laid6 (m := 2) (by omega) row6 kta6 wide6
theorem lawP : Keyed Tryz.prog 32 := Keyed.of_law klP
theorem kt6 : Tryz.prog.keyType 32 = true := by kernel_rfl
theorem cells6 : Tryz.prog.cellsOf 32 = 2 := by kernel_rfl
theorem cells6i : Tryz.prog.cellsOf 3 = 1 := by kernel_rfl
theorem fs6 : (fsOf Tryz.prog 32).toList.map (fun f => (f.type, f.offset)) = [(3, 0), (3, 1)] := by kernel_rfl
theorem fn6 : (fsOf Tryz.prog 32).all (·.name != "_") = true := by kernel_rfl
theorem lits_int (d : Nat) {n : Int} (hw : (Lit.int .i64 n).wf = true) : Tryz.prog.keyLits (d + 1) 3 [.int .i64 n] = some [.int .i64 n] := by
  unfold Program.keyLits
  rw [und_int6]
  simp [hw]
theorem lits_spot (d : Nat) (s : Sp) (hx : (Lit.int .i64 s.x).wf = true) (hy : (Lit.int .i64 s.y).wf = true) : Tryz.prog.keyLits (d + 2) 32 [.int .i64 s.x, .int .i64 s.y] = some [.int .i64 s.x, .int .i64 s.y] := by
  unfold Program.keyLits
  rw [und_spot]
  have e : ((fsOf Tryz.prog 32).toList.mapM fun f => Tryz.prog.keyLits (d + 1) f.type (([Value.int .i64 s.x, .int .i64 s.y].drop f.offset).take (Tryz.prog.cellsOf f.type)))
      = ((fsOf Tryz.prog 32).toList.map (fun f => (f.type, f.offset))).mapM fun p => Tryz.prog.keyLits (d + 1) p.1 (([Value.int .i64 s.x, .int .i64 s.y].drop p.2).take (Tryz.prog.cellsOf p.1)) := by
    rw [List.mapM_map]; rfl
  simp only [List.length_cons, List.length_nil, cells6, fn6, and_self, if_true, Nat.reduceAdd]
  rw [e, fs6]
  simp [cells6i, lits_int d hx, lits_int d hy]
def kyP (s : Sp) : Lit := .string (keyBytes [.int .i64 s.x, .int .i64 s.y])
theorem sp_size : ∃ n, Tryz.prog.types.size + 1 = n + 2 := ⟨Tryz.prog.types.size - 1, by have h1 : 0 < Tryz.prog.types.size := Nat.lt_of_le_of_lt (Nat.zero_le _) row6; omega⟩
theorem keyP {s : Sp} (h : isS s = true) : keyOf Tryz.prog 32 (spV s) = some (kyP s) := by
  have hb := isS_bd h
  unfold Bd at hb
  obtain ⟨n, hn⟩ := sp_size
  unfold keyOf
  rw [und_spot]
  simp only [kt6, hn]
  rw [if_pos (by simp [Value.formed, und_spot, cells6])]
  rw [show (spV s).cells.toList = [.int .i64 s.x, .int .i64 s.y] from rfl, lits_spot n s (WalkArith.wf_i64 (by omega)) (WalkArith.wf_i64 (by omega))]
  rfl
theorem kyP_inj {a b : Sp} (ha : isS a = true) (hb : isS b = true) (h : kyP a = kyP b) : a = b := by
  have := lawP.inj (h ▸ keyP ha) (keyP hb)
  simp at this
  exact Sp.ext' this.1 this.2
theorem kyPL (s : Sp) : WideAt.IsKeyLit (kyP s) := by unfold kyP WideAt.IsKeyLit; trivial
abbrev blD (b : Bool) : DataW Unit := .lit (.bool b)
def mkV (l : List Pr) : Nat → DataW Unit
  | 0 => .map []
  | k + 1 => (mkV l k).put (kyP (prAt l k).a) (blD true)
theorem mkV_tidy (l : List Pr) : ∀ k, Tidy (mkV l k)
  | 0 => tidy_empty
  | k + 1 => (mkV_tidy l k).put (kyPL _) _
theorem mkV_at {l : List Pr} {s : Sp} (hs : isS s = true) : ∀ k, (List.range k).all (okP l) = true → (mkV l k).atKey (kyP s) (blD false) = blD (!(List.range k).all fun j => decide ((prAt l j).a ≠ s))
  | 0, _ => rfl
  | k + 1, h => by
    rw [List.range_succ, List.all_append, Bool.and_eq_true] at h
    obtain ⟨h1, h2⟩ := h
    have hk : isS (prAt l k).a = true := by
      simp only [List.all_cons, List.all_nil, Bool.and_true] at h2
      unfold okP at h2
      rw [Bool.and_eq_true] at h2
      exact h2.1
    rw [List.range_succ, List.all_append]
    unfold mkV
    by_cases he : (prAt l k).a = s
    · rw [he, atKey_put_same (mkV_tidy l k).isMap (kyPL _)]
      simp [he]
    · rw [atKey_put_other (fun h => he (kyP_inj hk hs h.symm)), mkV_at hs k h1]
      simp [he]
abbrev OV (w : World) (b n : Nat) (D : DataW Unit) : Prop := w.ownsMap Tryz.prog 32 (plainElem Tryz.prog 4) b n D
theorem zeroB (w : World) : (zeroValue 4).run Tryz.prog w = .ok (.bool false) w := by kernel_rfl
theorem ov_on {w w' : World} {b n : Nat} {D : DataW Unit} (h : OV w b n D) (hB : Below w.heap.size w w') : OV w' b n D := by
  have hlt := h.lt
  obtain ⟨es, cl, hb, r⟩ := h
  exact ⟨es, cl, (hB.block b hlt).trans hb, r⟩
theorem plain_bool {v : Value} {c : Bool} {ps : List MemPlace} (h : plainElem (H := Unit) Tryz.prog 4 v = some (blD c, ps)) : v = .bool c := by
  unfold plainElem at h
  rw [und_bool6] at h
  cases v <;> simp at h
  obtain ⟨rfl, _⟩ := h
  rfl
theorem ov_look {w : World} {b n : Nat} {l : List Pr} {k : Nat} {s : Sp} (h : OV w b n (mkV l k)) (hs : isS s = true) (hk : (List.range k).all (okP l) = true) :
    (Instr.lookup 69 (.map (some b)) (spV s) false).run Tryz.prog w = .ok (.bool (!(List.range k).all fun j => decide ((prAt l j).a ≠ s))) w := by
  obtain ⟨v, ps, hr, hv⟩ := h.lookup lawP und_seen (zeroB w) (plainElem_bool und_bool6 false) (keyP hs)
  rw [mkV_at hs k hk] at hv
  rw [hr, plain_bool hv]
theorem frP_eq (l : List Pr) (k : Nat) : (List.range k).all (frP l k) = (List.range k).all fun j => decide ((prAt l j).a ≠ (prAt l k).a) := rfl
theorem okP_no3 {l : List Pr} {k : Nat} (h : (List.range k).all (frP l k) = false) : okP l k = false := by unfold okP; rw [h]; simp
set_option maxHeartbeats 4000000 in
set_option maxRecDepth 20000 in
theorem p_Valid (A : Option Addr) (l : List Pr) (c : Nat) (w : World) (hl : l.length ≤ 100000) (hR : Rd Pr.cs 3 w A l) :
    Calls Tryz.prog 14 #[.slice A l.length c] w fun e w' => e = .returned (.bool (vP l)) ∧ Below w.heap.size w w' := by
  have hmm := @run_makeMap Tryz.prog
  go_enter Tryz.func14, Tryz.ntmps14
  go_wp2
  go_loopw [9] (fun i wr => ∃ k : Nat, k ≤ l.length ∧ i = .int .i64 k ∧ OV wr w.heap.size k (mkV l k) ∧ Below w.heap.size w wr ∧ Hid ((List.range k).all (okP l) = true)) (fun i _ => l.length - (intOf i).toNat)
  case atStart => exact ⟨0, Nat.zero_le _, rfl, World.ownsMap_made _ _ _ _, (Below.refl _ _).alloc (Nat.le_refl _) _, Lib.hid rfl⟩
  case round =>
    clear hmm
    obtain ⟨k, hk, rfl, hown, hbw, HI⟩ := hrel
    have k0 : (0 : Int) ≤ (k : Int) := Int.natCast_nonneg _
    by_cases hlt : k < l.length
    · have k1 : (k : Int) < (l.length : Int) := by omega
      obtain ⟨x, b, off, hx, rfl, hb, c0, c1, c2⟩ := rdP (hR.on hbw) hlt
      have HX := Lib.hid (prAt_of hx)
      clear hx
      have xA := Blk.new wr 34 #[.int .i64 x.a.x, .int .i64 x.a.y, .bool x.wd]
      have bA := bl_alloc hbw (.cells #[.int .i64 x.a.x, .int .i64 x.a.y, .bool x.wd] 34)
      have oA := ov_on hown (below_alloc wr (.cells #[.int .i64 x.a.x, .int .i64 x.a.y, .bool x.wd] 34))
      have hws := hbw.size
      have hbm := hown.lt
      cases h1 : isS x.a
      · have Q := Lib.hid (p_isSpotV h1)
        have HE := Lib.hid (vP_no hlt (okP_no1 (by rw [HX.out]; exact h1)))
        clear h1 hown
        go_wp2_with (go_at_call 31; ((with_reducible refine (Q.out _).mono ?_); rintro e w1 ⟨rfl, hb1⟩))
        go_ret
        exact ⟨ret_bool HE.out.symm, below_tr bA hb1⟩
      · have Q := Lib.hid (p_isSpotV h1)
        have HS := Lib.hid (fun (h : (List.range k).all (frP l k) = true) => all_step HI.out (okP_yes (by rw [HX.out]; exact h1) h))
        have HN := Lib.hid (fun (h : (List.range k).all (frP l k) = false) => vP_no hlt (okP_no3 h))
        have HLK := Lib.hid (fun (W : World) (h : OV W w.heap.size k (mkV l k)) => ov_look h h1 HI.out)
        have HPUT := Lib.hid (show mkV l (k + 1) = (mkV l k).put (kyP x.a) (blD true) by rw [mkV, HX.out])
        have hkey := keyP h1
        have HFR := Lib.hid (show (List.range k).all (frP l k) = (List.range k).all (fun j => decide ((prAt l j).a ≠ x.a)) by rw [frP_eq, HX.out])
        clear h1 HI
        obtain ⟨B, hB⟩ : ∃ B, B = (List.range k).all (fun j => decide ((prAt l j).a ≠ x.a)) := ⟨_, rfl⟩
        rw [← hB] at HLK HFR
        clear hB
        cases B
        · have HE := Lib.hid (HN.out HFR.out)
          clear HN HS HFR HPUT hkey hown
          go_wp2_with (go_at_call 31; ((with_reducible refine (Q.out _).mono ?_); rintro e w1 ⟨rfl, hb1⟩; have q1 := (xA.below hb1 xA.lt); have d0 := q1.cell 0; have d1 := q1.cell 1; (simp only [List.getElem?_toArray, List.getElem?_cons_zero, List.getElem?_cons_succ] at d0 d1); have hl9 := HLK.out w1 (ov_on oA hb1); (simp only [Bool.not_false, Bool.not_true] at hl9)))
          go_ret
          exact ⟨ret_bool HE.out.symm, below_tr bA hb1⟩
        · have HT := Lib.hid (HS.out HFR.out)
          clear HN HS HFR hown
          go_wp2_with (first
            | (at_mapUpdate; refine wpList_mapUpdate_own _ rfl _ _ _ 69 rfl 32 4 lawP und_seen _ w.heap.size k _ rfl (ov_on oA (by assumption)) (by unfold maxLen; omega) _ _ _ rfl rfl hkey _ [] (plainElem_bool und_bool6 true) ?_)
            | (go_at_call 31; ((with_reducible refine (Q.out _).mono ?_); rintro e w1 ⟨rfl, hb1⟩; have q1 := (xA.below hb1 xA.lt); have d0 := q1.cell 0; have d1 := q1.cell 1; (simp only [List.getElem?_toArray, List.getElem?_cons_zero, List.getElem?_cons_succ] at d0 d1); have hl9 := HLK.out w1 (ov_on oA hb1); (simp only [Bool.not_false, Bool.not_true] at hl9))))
          intro w2 hown2 hgrow2
          have b1 := below_tr bA hb1
          have R2 := b1.grown hgrow2 b1.size (fun j hj => by cases hj; exact Nat.le_refl _)
          rw [← HPUT.out] at hown2
          go_wp2
          go_roundw
          case rel => exact ⟨k + 1, by omega, by go_num, hown2, R2, HT.out⟩
          case measure => simp [intOf]; omega
    · obtain rfl : k = l.length := by omega
      have HE := Lib.hid (vP_yes HI.out)
      clear HI
      go_wp2
      go_ret
      exact ⟨ret_bool (by rw [HE.out]; simp; omega), hbw⟩
end Go.Proofs.YthklgkgincebhaaGreatDoor
