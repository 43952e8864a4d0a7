/- Gear: Taken by both. -/
import Derived.Test.YtijlglanpgcdiaaGcc
set_option linter.unusedSimpArgs false
set_option linter.unusedVariables false
namespace Go.Proofs.Ytijlglanpgcdiaa
open Go.RowKit Go.Maps Go.WideShapes Go.WideMaps

/-- how often a text stands in a list -/
def cL (l : List ByteArray) (s : ByteArray) : Int := (l.countP (fun n => n.toList == s.toList) : Nat)
theorem cL_nn (l : List ByteArray) (s : ByteArray) : 0 ≤ cL l s := Int.natCast_nonneg _
theorem cL_le (l : List ByteArray) (s : ByteArray) : cL l s ≤ l.length := by
  unfold cL; have := List.countP_le_length (p := fun n : ByteArray => n.toList == s.toList) (l := l); omega
theorem cL_snoc (l : List ByteArray) (n s : ByteArray) : cL (l ++ [n]) s = cL l s + if n.toList = s.toList then 1 else 0 := by
  unfold cL
  rw [List.countP_append, List.countP_singleton]
  by_cases h : n.toList = s.toList
  · simp [h]
  · simp [h]
def cDL : List ByteArray → DataW Unit
  | [] => .map []
  | s :: l => (cDL l).put (kyS s) (i64d (cL l.reverse s + 1))
def cD (l : List ByteArray) : DataW Unit := cDL l.reverse
theorem cD_nil : cD [] = .map [] := rfl
theorem cD_snoc (l : List ByteArray) (s : ByteArray) : cD (l ++ [s]) = (cD l).put (kyS s) (i64d (cL l s + 1)) := by
  unfold cD; rw [List.reverse_append]; show (cDL l.reverse).put _ (i64d (cL l.reverse.reverse s + 1)) = _; rw [List.reverse_reverse]
theorem cDL_tidy : ∀ l, Tidy (cDL l)
  | [] => tidy_empty
  | _ :: l => (cDL_tidy l).put (kyL _) _
theorem cDL_at (s : ByteArray) : ∀ l : List ByteArray, (cDL l).atKey (kyS s) (i64d 0) = i64d (cL l.reverse s)
  | [] => rfl
  | n :: l => by
    unfold cDL
    rw [List.reverse_cons, cL_snoc]
    by_cases he : n.toList = s.toList
    · rw [kyS_inj.2 he, atKey_put_same (cDL_tidy l).isMap (kyL _), if_pos he]
      unfold cL; rw [he]
    · rw [atKey_put_other (fun h => he (kyS_inj.1 h.symm)), if_neg he, Int.add_zero, cDL_at s l]
theorem cD_at (l : List ByteArray) (s : ByteArray) : (cD l).atKey (kyS s) (i64d 0) = i64d (cL l s) := by
  unfold cD; rw [cDL_at, List.reverse_reverse]
/-- the names of the first k rigs -/
def nmR (R : List Rg) (k : Nat) : List ByteArray := (R.take k).flatMap fun x => x.l.map Lk.nm
theorem nmR_step {R : List Rg} {k : Nat} {x : Rg} (h : R[k]? = some x) : nmR R (k + 1) = nmR R k ++ x.l.map Lk.nm := by
  unfold nmR; rw [List.take_add_one, h, List.flatMap_append]; simp
theorem nmR_len {R : List Rg} (h : ∀ x ∈ R, x.l.length ≤ 32) : ∀ k, (nmR R k).length ≤ 32 * k
  | 0 => by simp [nmR]
  | k + 1 => by
    have ih := nmR_len h k
    cases hx : R[k]? with
    | none =>
      have : nmR R (k + 1) = nmR R k := by unfold nmR; rw [List.take_add_one, hx]; simp
      rw [this]; omega
    | some x =>
      rw [nmR_step hx, List.length_append, List.length_map]
      have := h x (List.mem_of_getElem? hx)
      omega
def tkB (g : List It) (R : List Rg) (k : Nat) : Bool := decide (1 < cL (nmR R R.length) (itAt g k).nm)
def tkZ (g : List It) (R : List Rg) : List Int := if svE g R = 0 then fZ (tkB g R) g.length else []
set_option maxHeartbeats 4000000 in
set_option maxRecDepth 20000 in
theorem p_Taken (A B : Option Addr) (g : List It) (R : List Rg) (c d : Nat) (w : World) (hl : g.length ≤ 100000) (hr : R.length ≤ 100000) (hR : Rd It.cs 4 w A g) (hW : ∀ x ∈ g, IW x) (hB : Rd Rg.cs 1 w B R) (hO : RgS w R) :
    Calls Try.prog 44 #[.slice A g.length c, .slice B R.length d] w fun e w' => ∃ v, e = .returned (.tuple #[v, .int .i64 (svE g R)]) ∧ GotW w' v (tkZ g R) ∧ Below w.heap.size w w' := by
  have H1 := Lib.hid (p_several A B g R c d w hl hr hR hW hB hO)
  have HZ0 := Lib.hid (show tkZ g R = if svE g R = 0 then fZ (tkB g R) g.length else [] from rfl)
  have hmm := @run_makeMap Try.prog
  obtain ⟨i0, hi, hi1, hi2, hi3⟩ := info_int2
  by_cases hE : svE g R = 0
  rotate_left
  · have hE' : (svE g R != 0) = true := by simpa using hE
    have HZ := Lib.hid (show tkZ g R = [] by rw [HZ0.out, if_neg hE])
    clear hE
    go_enter Try.func44, Try.ntmps44
    go_wp2_with (go_at_call 80; ((with_reducible refine (H1.out).mono ?_); rintro e w1 ⟨rfl, hb1⟩; obtain ⟨hc1, hf1⟩ := bcell hb1; have hz1 := hb1.size; (try simp [sz_drew, sz_drewN] at hz1); (try simp only [sz_drew, sz_drewN] at hc1 hf1)))
    go_ret2
    exact ⟨_, rfl, by rw [HZ.out]; exact gotW_nil _, hb1⟩
  have HZ := Lib.hid (show tkZ g R = fZ (tkB g R) g.length by rw [HZ0.out, if_pos hE])
  obtain ⟨_, hR50, hvr⟩ := sv_z hE
  have HL32 := Lib.hid (show ∀ x ∈ R, x.l.length ≤ 32 from fun x hx => (hvr x hx).l1)
  have HNL := Lib.hid (nmR_len HL32.out)
  have HTB := Lib.hid (fun k => show tkB g R k = decide (1 < cL (nmR R R.length) (itAt g k).nm) from rfl)
  have HN := Lib.hid (fun k h => fN_no (p := tkB g R) (k := k) h)
  have HY := Lib.hid (fun k h => fN_yes (p := tkB g R) (k := k) h)
  have HLn := Lib.hid (fun k => fN_len (tkB g R) k)
  rw [hE] at H1 ⊢
  clear hE hvr
  go_enter Try.func44, Try.ntmps44
  go_wp2_with (go_at_call 80; ((with_reducible refine (H1.out).mono ?_); rintro e w1 ⟨rfl, hb1⟩; obtain ⟨hc1, hf1⟩ := bcell hb1; have hz1 := hb1.size; (try simp [sz_drew, sz_drewN] at hz1); (try simp only [sz_drew, sz_drewN] at hc1 hf1)))
  have B1s := hb1.size
  go_loopw [24] (fun i wr => ∃ k : Nat, k ≤ R.length ∧ i = .int .i64 k ∧ Below w.heap.size w wr ∧ w1.heap.size < wr.heap.size ∧ OM wr w1.heap.size (nmR R k).length (cD (nmR R k))) (fun i _ => R.length - (intOf i).toNat)
  case atStart => exact ⟨0, by omega, rfl, bl_alloc hb1 _, by simp, World.ownsMap_made _ _ _ _⟩
  case round =>
    clear hb1 hc1 hf1 hz1
    obtain ⟨k, hk, rfl, hbw, hsz, hom⟩ := hrel
    have k0 : (0 : Int) ≤ (k : Int) := Int.natCast_nonneg _
    by_cases hlt : k < R.length
    · have k1 : (k : Int) < (R.length : Int) := by omega
      obtain ⟨x, b, off, hx, rfl, hb, q0⟩ := rdG (hB.on hbw) hlt
      have hm := List.mem_of_getElem? hx
      have HOK := Lib.hid (hO x hm).1
      have hxl := HL32.out x hm
      have HNS := Lib.hid (nmR_step hx)
      have HNK := HNL.out k
      clear hx
      go_wp2
      go_loopw [30] (fun i wr => ∃ j : Nat, j ≤ x.l.length ∧ i = .int .i64 j ∧ Below w.heap.size w wr ∧ w1.heap.size < wr.heap.size ∧ OM wr w1.heap.size (nmR R k ++ (x.l.take j).map Lk.nm).length (cD (nmR R k ++ (x.l.take j).map Lk.nm))) (fun i _ => x.l.length - (intOf i).toNat)
      case atStart => exact ⟨0, by omega, rfl, hbw, hsz, by simp; exact hom⟩
      case round =>
        clear hbw hsz hom q0
        obtain ⟨j, hj, rfl, hbw, hsz, hom⟩ := hrel
        have j0 : (0 : Int) ≤ (j : Int) := Int.natCast_nonneg _
        by_cases hjl : j < x.l.length
        · have j1 : (j : Int) < (x.l.length : Int) := by omega
          obtain ⟨y, yb, yo, hy, e5, hyb, r0, r1⟩ := rdL ((HOK.out.on (w' := wr) hbw).rd) hjl
          have iw := HOK.out.lw y (List.mem_of_getElem? hy)
          have iw1 := iw.f0
          have iw2 := iw.f1
          have hkey := keyS iw.m
          have hom' := hom.alloc (Obj.cells #[Value.string y.nm, Value.int IntKind.i64 y.fr] 41)
          have HAT := Lib.hid (cD_at (nmR R k ++ (x.l.take j).map Lk.nm) y.nm)
          have HST := Lib.hid (show nmR R k ++ (x.l.take (j + 1)).map Lk.nm = (nmR R k ++ (x.l.take j).map Lk.nm) ++ [y.nm] by
            rw [List.take_add_one, hy, List.map_append, List.append_assoc]; rfl)
          have HPU := Lib.hid (cD_snoc (nmR R k ++ (x.l.take j).map Lk.nm) y.nm)
          have hcn := cL_nn (nmR R k ++ (x.l.take j).map Lk.nm) y.nm
          have hcl := cL_le (nmR R k ++ (x.l.take j).map Lk.nm) y.nm
          have hll : (nmR R k ++ (x.l.take j).map Lk.nm).length ≤ 100000 := by rw [List.length_append, List.length_map, List.length_take]; omega
          generalize nmR R k ++ (x.l.take j).map Lk.nm = M at *
          generalize cL M y.nm = N at *
          have hw1 : IntKind.i64.wrap (N + 1) = N + 1 := fits_wrap ⟨by omega, by omega⟩
          rw [e5] 
          clear hy iw hom
          go_wp2_with (first
            | (at_lookup; refine wpList_lookup_own_int _ rfl _ _ 64 rfl 9 3 .i64 lawS und_map und_int (zeroN _) _ M.length _ rfl hom' _ _ rfl hkey ?_; intro cc hat hwc; rw [HAT.out] at hat; obtain rfl : N = cc := by (cases hat; rfl))
            | (at_mapUpdate; refine wpList_mapUpdate_own _ rfl _ _ _ 64 rfl 9 3 lawS und_map _ w1.heap.size M.length _ rfl hom' (by unfold maxLen; omega) _ _ _ rfl rfl hkey _ [] (plainElem_int und_int (WalkArith.wf_i64 (by omega))) ?_)
            | go_in)
          intro w3 hown3 hgrow3
          have bA := bl_alloc hbw (Obj.cells #[Value.string y.nm, Value.int IntKind.i64 y.fr] 41)
          have R2 := bA.grown hgrow3 bA.size (fun j hj => by cases hj; exact B1s)
          have R3 := hgrow3.size
          rw [← HPU.out] at hown3
          clear hgrow3 hom' bA
          go_wp2
          go_roundw
          case rel => exact ⟨j + 1, by omega, by go_num, R2, by simp at R3; omega, by rw [HST.out]; simpa using hown3⟩
          case measure => simp [intOf]; omega
        · obtain rfl : j = x.l.length := by omega
          rw [List.take_length, ← HNS.out] at hom
          go_wp2
          go_roundw
          case rel => exact ⟨k + 1, by omega, by go_num, hbw, hsz, hom⟩
          case measure => simp [intOf]; omega
    · obtain rfl : k = R.length := by omega
      have HCM := Lib.hid (fun s => cD_at (nmR R R.length) s)
      have hnl := HNL.out R.length
      generalize nmR R R.length = M at *
      have W3s : w1.heap.size < wr.heap.size := hsz
      go_wp2
      go_loopw [12, 43] (fun v i wv => ∃ k : Nat, k ≤ g.length ∧ i = .int .i64 k ∧ Below w.heap.size w wv ∧ w1.heap.size + 1 ≤ wv.heap.size ∧ OM wv w1.heap.size M.length (cD M) ∧ wv.ownsRow (w1.heap.size + 1) 3 1 v (fN (tkB g R) k).length (fl nC (fN (tkB g R) k))) (fun _ i _ => g.length - (intOf i).toNat)
      case atStart => exact ⟨0, by omega, rfl, hbw, by omega, hom, World.ownsRow_nil wr _ _ _⟩
      case round =>
        clear hbw hsz hom W3s
        obtain ⟨k, hk, rfl, hbw, hsz, hom, hown⟩ := hrel
        obtain ⟨ad, cp, rfl⟩ := own_slice hown
        have hlen := HLn.out k
        by_cases hlt : k < g.length
        · have k0 : (0 : Int) ≤ (k : Int) := Int.natCast_nonneg _
          have k1 : (k : Int) < (g.length : Int) := by omega
          obtain ⟨x, b, off, hx, rfl, hb, c0, c1, c2, c3⟩ := rdI (hR.on hbw) hlt
          have iw := hW x (List.mem_of_getElem? hx)
          have hkey := keyS iw.m
          have hT : tkB g R k = decide (1 < cL M x.nm) := by rw [HTB.out, itAt_of hx]
          have HAT := Lib.hid (HCM.out x.nm)
          have o1 := hown.alloc (.cells #[.string x.nm, .int .i64 x.ld, .int .i64 x.du, .string x.bt] 62)
          have bA := bl_alloc hbw (.cells #[.string x.nm, .int .i64 x.ld, .int .i64 x.du, .string x.bt] 62)
          have hom' := hom.alloc (.cells #[.string x.nm, .int .i64 x.ld, .int .i64 x.du, .string x.bt] 62)
          generalize cL M x.nm = N at *
          clear hx iw hom
          by_cases hN : 1 < N
          · have HST := Lib.hid (HY.out k (by rw [hT]; exact decide_eq_true hN))
            clear hT
            go_wp2_with (first
              | (at_lookup; refine wpList_lookup_own_int _ rfl _ _ 64 rfl 9 3 .i64 lawS und_map und_int (zeroN _) _ M.length _ rfl hom' _ _ rfl hkey ?_; intro cc hat hwc; rw [HAT.out] at hat; obtain rfl : N = cc := by (cases hat; rfl))
              | (at_builtin; refine wpList_append_own _ rfl _ _ 30 rfl (w1.heap.size + 1) 3 i0 (.int .i64 0) 1 8 (by kernel_rfl) hi hi1 hi2 hi3 rfl (by omega) _ _ _ rfl (o1.alloc _) ⟨wr.heap.size + 1, 0, none⟩ 1 1 [.int .i64 k] rfl rfl (by have := cells_new (wr.alloc (.cells #[.string x.nm, .int .i64 x.ld, .int .i64 x.du, .string x.bt] 62)) [.int .i64 k] 3; simp only [World.size_alloc] at this; exact this) (fun u hu => by simp at hu; subst hu; rfl) (by unfold maxLen; omega) (by omega) (by simp; omega) ?_; intro v' w9 hown9 hgrow _))
            go_roundw
            case rel => exact ⟨k + 1, by omega, by go_num, bl_app bA o1 hgrow (by omega) bA.size, by have := hgrow.size; simp at this; omega, (hom'.alloc _).kept hgrow (own_ne o1 (by omega)), by rw [HST.out, fl_snoc, List.length_append]; exact hown9⟩
            case measure => simp [intOf]; omega
          · have HST := Lib.hid (HN.out k (by rw [hT]; exact decide_eq_false hN))
            clear hT
            go_wp2_with (at_lookup; refine wpList_lookup_own_int _ rfl _ _ 64 rfl 9 3 .i64 lawS und_map und_int (zeroN _) _ M.length _ rfl hom' _ _ rfl hkey ?_; intro cc hat hwc; rw [HAT.out] at hat; obtain rfl : N = cc := by (cases hat; rfl))
            go_roundw
            case rel => exact ⟨k + 1, by omega, by go_num, bA, by simp; omega, hom', by rw [HST.out]; exact o1⟩
            case measure => simp [intOf]; omega
        · obtain rfl : k = g.length := by omega
          go_wp2
          go_ret2
          exact ⟨_, rfl, by rw [HZ.out]; exact got_fN hown, hbw⟩
end Go.Proofs.Ytijlglanpgcdiaa
