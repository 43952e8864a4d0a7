/- Fell: ContainsFunc over numbers. -/
import Derived.Test.YtkeojokbpjdhpaaDoorFCom
import Derived.Test.YtkeojokbpjdhpaaDoorFgo
import Derived.WalkMore
set_option linter.unusedSimpArgs false
set_option linter.unusedVariables false
namespace Go.Proofs.YtkeojokbpjdhpaaDoor
open Go.RowKit

theorem c_indexZ (A : Option Addr) (l : List (Int)) (c : Nat) (p : Int → Bool) (f : FuncId) (cap : Array Value) (w : World) (hl : l.length ≤ 100000) (hR : Rd zC 1 w A l)
    (he : ∀ args W, (callFunc f args).run Tryd.prog W = .ok (.enter f args) W)
    (hf : ∀ W x, Below w.heap.size w W → x ∈ l → Calls Tryd.prog f (#[.int .i64 x] ++ cap) W fun e W' => e = .returned (.bool (p x)) ∧ Below W.heap.size W W') :
    Calls Tryd.prog 88 #[.slice A l.length c, .func (.func f) #[] cap] w fun e w' => e = .returned (.int .i64 (idxOf p l 0)) ∧ Below w.heap.size w w' := by
  have HF := Lib.hid hf
  clear hf
  go_enter Tryd.func88, Tryd.ntmps88
  go_wp2
  go_loopw [8] (fun i wr => ∃ k : Nat, k ≤ l.length ∧ i = .int .i64 k ∧ Below w.heap.size w wr ∧ Hid (idxOf p l 0 = idxOf p (l.drop k) k)) (fun i _ => l.length - (intOf i).toNat)
  case atStart => exact ⟨0, by omega, rfl, Below.refl _ _, rfl⟩
  case round =>
    obtain ⟨k, hk, rfl, hB, HI⟩ := hrel
    by_cases hlt : k < l.length
    · obtain ⟨x, b, off, hx, rfl, hb, c0⟩ := rd_int (hR.on hB) hlt
      have HD := Lib.hid (idxOf_drop p l k x hx)
      have hm := List.mem_of_getElem? hx
      have HC := Lib.hid (HF.out wr x hB hm)
      clear hx hm
      cases hp : p x
      all_goals
        have HP := Lib.hid hp
        clear hp
        go_wp2_with fail
        refine HC.out.mono ?_
        rintro e w1 ⟨rfl, hb1⟩
        rw [HP.out]
        go_wp2
      · go_roundw
        case rel => exact ⟨k + 1, by omega, by go_num, hB.trans (hb1.mono hB.size), by rw [HI.out, HD.out, HP.out]; rfl⟩
        case measure => simp [intOf]; omega
      · go_ret
        exact ⟨ret_int (by rw [HI.out, HD.out, HP.out]; rfl), hB.trans (hb1.mono hB.size)⟩
    · go_wp2
      go_ret
      exact ⟨ret_int (by rw [HI.out, List.drop_of_length_le (by omega)]; rfl), hB⟩
theorem c_containsZ (A : Option Addr) (l : List (Int)) (c : Nat) (p : Int → Bool) (f : FuncId) (cap : Array Value) (w : World) (hl : l.length ≤ 100000) (hR : Rd zC 1 w A l)
    (he : ∀ args W, (callFunc f args).run Tryd.prog W = .ok (.enter f args) W)
    (hf : ∀ W x, Below w.heap.size w W → x ∈ l → Calls Tryd.prog f (#[.int .i64 x] ++ cap) W fun e W' => e = .returned (.bool (p x)) ∧ Below W.heap.size W W') :
    Calls Tryd.prog 63 #[.slice A l.length c, .func (.func f) #[] cap] w fun e w' => e = .returned (.bool (l.any p)) ∧ Below w.heap.size w w' := by
  have HC := Lib.hid (c_indexZ A l c p f cap w hl hR he hf)
  have HA := Lib.hid (idxOf_nonneg p l 0)
  clear he hf hR
  go_enter Tryd.func63, Tryd.ntmps63
  go_wp2_with (go_at_call 88; refine HC.out.mono ?_; rintro e w' ⟨rfl, hb⟩)
  go_ret
  exact ⟨ret_bool (by rw [Bool.eq_iff_iff, ← HA.out]; simp), hb⟩
end Go.Proofs.YtkeojokbpjdhpaaDoor
namespace Go.Proofs.YtkeojokbpjdhpaaDoor
open Go.RowKit Go.Shelf

theorem p_listed1 (d : Int) (A : Option Addr) (n c b : Nat) (w : World) (hn : n ≤ 100) (hb : Blk w b 22 #[.slice A n c]) :
    Calls Tryd.prog 64 #[.int .i64 d, .pointer (some ⟨b, 0, none⟩)] w fun e w' => e = .returned (.bool (!wn d 0 (2 * (n : Int) - 1))) ∧ w = w' := by
  have c0 := hb.cell 0
  simp only [List.getElem?_toArray, List.getElem?_cons_zero] at c0
  have hw1 : IntKind.i64.wrap (2 * (n : Int)) = 2 * (n : Int) := fits_wrap (by omega)
  have hw2 : IntKind.i64.wrap (2 * (n : Int) - 1) = 2 * (n : Int) - 1 := fits_wrap (by omega)
  cases h : wn d 0 (2 * (n : Int) - 1)
  all_goals
    have Q := Lib.hid (p_withinV h)
    clear h
    go_enter Tryd.func64, Tryd.ntmps64
    go_wp2_with (go_at_call 65; ((with_reducible refine (Q.out _).mono ?_); rintro e w' ⟨rfl, rfl⟩))
    go_ret
    exact ⟨rfl, rfl⟩
theorem any_lsB (n : Nat) (ds : List Int) : (ds.any fun d => !wn d 0 (2 * (n : Int) - 1)) = !ds.all fun d => wn d 0 (2 * (n : Int) - 1) := by induction ds <;> simp_all
theorem p_listed (A B : Option Addr) (n c d : Nat) (ds : List Int) (w : World) (hn : n ≤ 100) (hd : ds.length ≤ 100000) (hB : Rd zC 1 w B ds) :
    Calls Tryd.prog 33 #[.slice A n c, .slice B ds.length d] w fun e w' => e = .returned (.bool (lsB n ds)) ∧ Below w.heap.size w w' := by
  have x0 := Blk.new w 22 #[.slice A n c]
  have B0 := bl_alloc (below_refl w) (.cells #[.slice A n c] 22)
  have HC := Lib.hid (c_containsZ B ds d (fun x => !wn x 0 (2 * (n : Int) - 1)) 64 #[.pointer (some ⟨w.heap.size, 0, none⟩)] (w.alloc (.cells #[.slice A n c] 22)) hd (hB.on B0) (enters_of Tryd.func64 (by kernel_rfl) rfl)
    (fun W x hW _ => (p_listed1 x A n c w.heap.size W hn (x0.below hW x0.lt)).mono fun e w' ⟨h1, h2⟩ => ⟨h1, h2 ▸ below_refl _⟩))
  rw [any_lsB] at HC
  have HL := Lib.hid (show lsB n ds = (decide (ds.length ≤ 100) && ds.all fun d => wn d 0 (2 * (n : Int) - 1)) from rfl)
  generalize (ds.all fun d => wn d 0 (2 * (n : Int) - 1)) = V at *
  by_cases h1 : ds.length ≤ 100
  · have h1' : (ds.length : Int) ≤ 100 := by omega
    have d1 : decide ((ds.length : Int) ≤ 100) = true := decide_eq_true h1'
    have HE := Lib.hid (show lsB n ds = V by rw [HL.out]; simp [h1])
    cases V
    all_goals
      go_enter Tryd.func33, Tryd.ntmps33
      go_wp2_with fail
      refine HC.out.mono ?_
      rintro e w1 ⟨rfl, hb1⟩
      go_wp2
      go_ret
      exact ⟨ret_bool HE.out.symm, below_tr B0 hb1⟩
  · have h1' : ¬ (ds.length : Int) ≤ 100 := by omega
    have d1 : decide ((ds.length : Int) ≤ 100) = false := decide_eq_false h1'
    have HE := Lib.hid (show lsB n ds = false by rw [HL.out]; simp [h1])
    go_enter Tryd.func33, Tryd.ntmps33
    go_wp2
    go_ret
    exact ⟨ret_bool HE.out.symm, B0⟩
/-- marks as a number -/
def encM : List Bool → Nat
  | [] => 0
  | b :: t => b.toNat + 2 * encM t
theorem encM_bit : ∀ (M : List Bool) (i : Nat), (encM M).testBit i = M.getD i false
  | [], i => by simp [encM]
  | b :: t, 0 => by
    simp only [encM, Nat.testBit_zero]
    cases b <;> simp <;> omega
  | b :: t, i + 1 => by
    rw [Nat.testBit_succ]
    have : encM (b :: t) / 2 = encM t := by simp only [encM]; cases b <;> simp <;> omega
    rw [this, encM_bit t i]
    simp [List.getD]
theorem encM_set {M : List Bool} (h : M.length ≤ 24) : SetOf (encM M) M := ⟨h, encM_bit M⟩
theorem set_enc {x : Nat} {M : List Bool} (h : SetOf x M) : x = encM M := Nat.eq_of_testBit_eq fun i => by rw [h.2, encM_bit]
/-- the marks behind k deeds, as long as each is shown and not refused -/
def doM (sh : Nat → List Bool → Bool) (M : List Bool) (ds : List Int) : Nat → Option (List Bool)
  | 0 => some M
  | k + 1 => (doM sh M ds k).bind fun m => (dsB m (ds.getD k 0)).bind fun m' => if sh k m' = true then some m' else none
theorem doM_none {sh : Nat → List Bool → Bool} {M : List Bool} {ds : List Int} {k : Nat} (h : doM sh M ds k = none) : ∀ j, doM sh M ds (k + j) = none
  | 0 => h
  | j + 1 => by show (doM sh M ds (k + j)).bind _ = none; rw [doM_none h j]; rfl
theorem doM_len {sh : Nat → List Bool → Bool} {M m : List Bool} {ds : List Int} : ∀ (k : Nat), doM sh M ds k = some m → m.length = M.length := by
  intro k
  induction k generalizing m with
  | zero => intro h; cases h; rfl
  | succ k ih =>
    intro h
    simp only [doM] at h
    cases h1 : doM sh M ds k with
    | none => rw [h1] at h; cases h
    | some m1 =>
      rw [h1] at h
      simp only [Option.bind_some] at h
      cases h2 : dsB m1 (ds.getD k 0) with
      | none => rw [h2] at h; cases h
      | some m2 =>
        rw [h2] at h
        simp only [Option.bind_some] at h
        split at h
        · cases h; rw [dsB_len h2, ih h1]
        · cases h
def doneV (o : Option (List Bool)) : Value := match o with
  | some m => .tuple #[.int .u32 (encM m), .bool true]
  | none => .tuple #[.int .u32 0, .bool false]
theorem testBit_not32 (i j : Nat) (hi : i < 32) (hj : j < 32) : (4294967295 - 2 ^ i).testBit j = decide (j ≠ i) := by
  have h := Nat.testBit_two_pow_sub_succ (n := 32) (x := 2 ^ i) (Nat.pow_lt_pow_right (by omega) hi) j
  rw [show 2 ^ 32 - (2 ^ i + 1) = 4294967295 - 2 ^ i by omega] at h
  rw [h, Nat.testBit_two_pow]
  simp [hj, eq_comm]
theorem away_val {x i : Nat} {M : List Bool} (h : SetOf x M) (hi : i < M.length) : bits BinOp.andNot IntKind.u32 (x : Int) ((2 : Int) ^ i % 4294967296) = (encM (M.set i false) : Nat) := by
  have hi24 := h.1
  have h2 : 2 ^ i < 4294967296 := by have := Nat.pow_lt_pow_right (a := 2) (by omega) (show i < 32 by omega); simpa using this
  have e : ((2 : Int) ^ i % 4294967296) = ((2 ^ i : Nat) : Int) := by
    have e1 : (2 : Int) ^ i = ((2 ^ i : Nat) : Int) := by simp
    rw [e1]; exact (fun (y : Nat) (hy : y < 4294967296) => (by omega : ((y : Int) % 4294967296) = y)) _ h2
  have hx := h.lt
  rw [e, u32_andNot_nat x (2 ^ i) (by omega) h2]
  congr 1
  refine set_enc (set_away h hi fun j => ?_)
  rw [Nat.testBit_and]
  by_cases hj : j < 32
  · rw [testBit_not32 i j (by omega) hj]
  · have : x.testBit j = false := by rw [h.2]; exact gd_out (by omega)
    rw [this]; simp
theorem add_val {x i : Nat} {M : List Bool} (h : SetOf x M) (hi : i < M.length) : bits BinOp.or IntKind.u32 (x : Int) ((2 : Int) ^ i % 4294967296) = (encM (M.set i true) : Nat) := by
  have hi24 := h.1
  have h2 : 2 ^ i < 4294967296 := by have := Nat.pow_lt_pow_right (a := 2) (by omega) (show i < 32 by omega); simpa using this
  have e : ((2 : Int) ^ i % 4294967296) = ((2 ^ i : Nat) : Int) := by
    have e1 : (2 : Int) ^ i = ((2 ^ i : Nat) : Int) := by simp
    rw [e1]; exact (fun (y : Nat) (hy : y < 4294967296) => (by omega : ((y : Int) % 4294967296) = y)) _ h2
  have hx := h.lt
  rw [e, u32_or_nat x (2 ^ i) (by omega) h2]
  congr 1
  exact set_enc (set_add h hi)
theorem dsB_even {m : List Bool} {i : Nat} (h : m.getD i false = true) : dsB m (2 * (i : Int)) = some (m.set i false) := by
  unfold dsB
  have e1 : (2 * (i : Int) / 2).toNat = i := by omega
  have e2 : (2 * (i : Int)) % 2 = 0 := by omega
  rw [e1, e2, h]; simp
theorem dsB_even0 {m : List Bool} {i : Nat} (h : m.getD i false = false) : dsB m (2 * (i : Int)) = none := by
  unfold dsB
  have e1 : (2 * (i : Int) / 2).toNat = i := by omega
  have e2 : (2 * (i : Int)) % 2 = 0 := by omega
  rw [e1, e2, h]; simp
theorem dsB_odd {m : List Bool} {i : Nat} (h : m.getD i false = false) : dsB m (2 * (i : Int) + 1) = some (m.set i true) := by
  unfold dsB
  have e1 : ((2 * (i : Int) + 1) / 2).toNat = i := by omega
  have e2 : ¬ (2 * (i : Int) + 1) % 2 = 0 := by omega
  rw [e1, h]; simp [e2]
theorem dsB_odd0 {m : List Bool} {i : Nat} (h : m.getD i false = true) : dsB m (2 * (i : Int) + 1) = none := by
  unfold dsB
  have e1 : ((2 * (i : Int) + 1) / 2).toNat = i := by omega
  have e2 : ¬ (2 * (i : Int) + 1) % 2 = 0 := by omega
  rw [e1, h]; simp [e2]
set_option maxHeartbeats 4000000 in
set_option maxRecDepth 20000 in
theorem p_done (A B : Option Addr) (l : List Pr) (ds : List Int) (c d : Nat) (f : FuncId) (cap : Array Value) (sh : Nat → List Bool → Bool) (w : World) (hl : l.length ≤ 24) (hd : ds.length ≤ 100000) (hls : ∀ x ∈ ds, 0 ≤ x ∧ x < 2 * (l.length : Int)) (hB : Rd zC 1 w B ds)
    (he : ∀ args W, (callFunc f args).run Tryd.prog W = .ok (.enter f args) W)
    (hf : ∀ (W : World) (k : Nat) (m : List Bool), Below w.heap.size w W → k < ds.length → m.length = l.length → Calls Tryd.prog f (#[.int .i64 k, .int .u32 (encM m)] ++ cap) W fun e W' => e = .returned (.bool (sh k m)) ∧ Below W.heap.size W W') :
    Calls Tryd.prog 34 #[.slice A l.length c, .slice B ds.length d, .func (.func f) #[] cap] w fun e w' => e = .returned (doneV (doM sh (List.replicate l.length true) ds ds.length)) ∧ Below w.heap.size w w' := by
  have HF := Lib.hid hf
  have HLS := Lib.hid hls
  have HFU := Lib.hid (fun W => p_full A l.length c W hl)
  have hfull : (2 ^ l.length - 1) = encM (List.replicate l.length true) := set_enc (set_full hl)
  rw [hfull] at HFU
  obtain ⟨M0, hM0⟩ : ∃ M0, M0 = List.replicate l.length true := ⟨_, rfl⟩
  rw [← hM0] at HFU ⊢
  have hM0l : M0.length = l.length := by rw [hM0]; simp
  clear hf hls hfull hM0
  obtain ⟨R, hR⟩ : ∃ R, R = doM sh M0 ds ds.length := ⟨_, rfl⟩
  have HNO := Lib.hid (fun k (hk : k < ds.length) (h : doM sh M0 ds (k + 1) = none) => (show R = none from by
    rw [hR]; have := doM_none h (ds.length - (k + 1)); rwa [show k + 1 + (ds.length - (k + 1)) = ds.length by omega] at this))
  have HRR := Lib.hid hR
  rw [← hR]
  have HST := Lib.hid (fun k m (h : doM sh M0 ds k = some m) d (hd : ds[k]? = some d) => (show doM sh M0 ds (k + 1) = (dsB m d).bind fun m' => if sh k m' = true then some m' else none by
    simp only [doM, h, Option.bind_some]; rw [show ds.getD k 0 = d by simp [List.getD, hd]]))
  have HLN := Lib.hid (fun k m (h : doM sh M0 ds k = some m) => (doM_len k h).trans hM0l)
  clear hR
  go_enter Tryd.func34, Tryd.ntmps34
  go_wp2
  go_step3
  go_wp2_with (go_at_call 46; ((with_reducible refine (HFU.out _).mono ?_); rintro e w' ⟨rfl, rfl⟩))
  go_step3
  go_wp2
  go_loopw [8, 16] (fun s i wr => ∃ (k : Nat) (m : List Bool), k ≤ ds.length ∧ i = .int .i64 k ∧ s = .int .u32 (encM m) ∧ Hid (doM sh M0 ds k = some m) ∧ Below w.heap.size w wr) (fun _ i _ => ds.length - (intOf i).toNat)
  case atStart => exact ⟨0, M0, by omega, rfl, rfl, Lib.hid rfl, below_refl _⟩
  case round =>
    obtain ⟨k, m, hk, rfl, rfl, HD, hbw⟩ := hrel
    have k0 : (0 : Int) ≤ (k : Int) := Int.natCast_nonneg _
    by_cases hlt : k < ds.length
    · have k1 : (k : Int) < (ds.length : Int) := by omega
      obtain ⟨x, b, off, hx, rfl, hb, c0⟩ := rd_int (hB.on hbw) hlt
      obtain ⟨x0, x1⟩ := HLS.out x (List.mem_of_getElem? hx)
      have HN := Lib.hid (HNO.out k hlt)
      have hstp := HST.out k m HD.out x hx
      have hml := HLN.out k m HD.out
      have hset := encM_set (show m.length ≤ 24 by omega)
      rename World => wr
      have hpar : (∃ i : Nat, x = 2 * (i : Int)) ∨ ∃ i : Nat, x = 2 * (i : Int) + 1 := by
        rcases Int.emod_two_eq x with h | h
        · exact .inl ⟨(x / 2).toNat, by omega⟩
        · exact .inr ⟨(x / 2).toNat, by omega⟩
      clear hx HST HNO
      rcases hpar with ⟨i, hxe⟩ | ⟨i, hxe⟩
      · have hi0 : (0 : Int) ≤ (i : Int) := Int.natCast_nonneg _
        have hi1 : (i : Int) < 32 := by omega
        have hq : x / 2 = (i : Int) := by omega
        have hr : x % 2 = 0 := by omega
        have hq2 : x.tdiv 2 = (i : Int) := by rw [Int.tdiv_eq_ediv_of_nonneg x0]; exact hq
        have hr2 : x.tmod 2 = 0 := by rw [Int.tmod_eq_emod_of_nonneg x0]; exact hr
        have hwi : IntKind.i64.wrap (i : Int) = i := fits_wrap (by omega)
        have hil : i < l.length := by omega
        cases hmi : m.getD i false
        · have HE := Lib.hid (show doneV R = .tuple #[.int .u32 0, .bool false] by rw [HN.out (by rw [hstp, hxe, dsB_even0 hmi]; rfl)]; rfl)
          have HH := Lib.hid (fun W => p_has (encM m) i W (by have := hset.lt; omega) (by omega))
          rw [encM_bit, hmi] at HH
          clear hstp hset HN hxe
          go_wp2_with (go_at_call 66; ((with_reducible refine (HH.out _).mono ?_); rintro e w' ⟨rfl, rfl⟩))
          rw [Exit.noGoto_ret]
          go_ret2
          exact ⟨by rw [HE.out]; rfl, hbw⟩
        · have hst2 := hstp
          rw [hxe, dsB_even hmi] at hst2
          simp only [Option.bind_some] at hst2
          have ha := away_val hset (show i < m.length by omega)
          have hlen2 : (m.set i false).length = l.length := by rw [List.length_set]; exact hml
          have HH := Lib.hid (fun W => p_has (encM m) i W (by have := hset.lt; omega) (by omega))
          rw [encM_bit, hmi] at HH
          have HC := Lib.hid (HF.out wr k (m.set i false) hbw hlt hlen2)
          generalize m.set i false = m2 at *
          clear hstp hset hxe
          cases hsh : sh k m2
          · rw [hsh] at HC hst2
            have HE := Lib.hid (show doneV R = .tuple #[.int .u32 0, .bool false] by rw [HN.out (by rw [hst2]; rfl)]; rfl)
            clear hst2 hsh HN
            go_wp2_with (go_at_call 66; ((with_reducible refine (HH.out _).mono ?_); rintro e w' ⟨rfl, rfl⟩))
            refine HC.out.mono ?_
            rintro e w5 ⟨rfl, hb5⟩
            go_wp2
            rw [Exit.noGoto_ret]
            go_ret2
            exact ⟨by rw [HE.out]; rfl, below_tr hbw hb5⟩
          · rw [hsh] at HC hst2
            have HD2 := Lib.hid (show doM sh M0 ds (k + 1) = some m2 by rw [hst2]; rfl)
            clear hst2 hsh HN
            go_wp2_with (go_at_call 66; ((with_reducible refine (HH.out _).mono ?_); rintro e w' ⟨rfl, rfl⟩))
            refine HC.out.mono ?_
            rintro e w5 ⟨rfl, hb5⟩
            go_wp2
            go_roundw
            case rel => exact ⟨k + 1, m2, by omega, by go_num, rfl, HD2.out, below_tr hbw hb5⟩
            case measure => simp [intOf]; omega
      · have hi0 : (0 : Int) ≤ (i : Int) := Int.natCast_nonneg _
        have hi1 : (i : Int) < 32 := by omega
        have hq : x / 2 = (i : Int) := by omega
        have hr : x % 2 = 1 := by omega
        have hq2 : x.tdiv 2 = (i : Int) := by rw [Int.tdiv_eq_ediv_of_nonneg x0]; exact hq
        have hr2 : x.tmod 2 = 1 := by rw [Int.tmod_eq_emod_of_nonneg x0]; exact hr
        have hwi : IntKind.i64.wrap (i : Int) = i := fits_wrap (by omega)
        have hil : i < l.length := by omega
        cases hmi : m.getD i false
        · have hst2 := hstp
          rw [hxe, dsB_odd hmi] at hst2
          simp only [Option.bind_some] at hst2
          have ha := add_val hset (show i < m.length by omega)
          have hlen2 : (m.set i true).length = l.length := by rw [List.length_set]; exact hml
          have HH := Lib.hid (fun W => p_has (encM m) i W (by have := hset.lt; omega) (by omega))
          rw [encM_bit, hmi] at HH
          have HC := Lib.hid (HF.out wr k (m.set i true) hbw hlt hlen2)
          generalize m.set i true = m2 at *
          clear hstp hset hxe
          cases hsh : sh k m2
          · rw [hsh] at HC hst2
            have HE := Lib.hid (show doneV R = .tuple #[.int .u32 0, .bool false] by rw [HN.out (by rw [hst2]; rfl)]; rfl)
            clear hst2 hsh HN
            go_wp2_with (go_at_call 66; ((with_reducible refine (HH.out _).mono ?_); rintro e w' ⟨rfl, rfl⟩))
            refine HC.out.mono ?_
            rintro e w5 ⟨rfl, hb5⟩
            go_wp2
            rw [Exit.noGoto_ret]
            go_ret2
            exact ⟨by rw [HE.out]; rfl, below_tr hbw hb5⟩
          · rw [hsh] at HC hst2
            have HD2 := Lib.hid (show doM sh M0 ds (k + 1) = some m2 by rw [hst2]; rfl)
            clear hst2 hsh HN
            go_wp2_with (go_at_call 66; ((with_reducible refine (HH.out _).mono ?_); rintro e w' ⟨rfl, rfl⟩))
            refine HC.out.mono ?_
            rintro e w5 ⟨rfl, hb5⟩
            go_wp2
            go_roundw
            case rel => exact ⟨k + 1, m2, by omega, by go_num, rfl, HD2.out, below_tr hbw hb5⟩
            case measure => simp [intOf]; omega
        · have HE := Lib.hid (show doneV R = .tuple #[.int .u32 0, .bool false] by rw [HN.out (by rw [hstp, hxe, dsB_odd0 hmi]; rfl)]; rfl)
          have HH := Lib.hid (fun W => p_has (encM m) i W (by have := hset.lt; omega) (by omega))
          rw [encM_bit, hmi] at HH
          clear hstp hset HN hxe
          go_wp2_with (go_at_call 66; ((with_reducible refine (HH.out _).mono ?_); rintro e w' ⟨rfl, rfl⟩))
          rw [Exit.noGoto_ret]
          go_ret2
          exact ⟨by rw [HE.out]; rfl, hbw⟩
    · obtain rfl : k = ds.length := by omega
      have HE := Lib.hid (show doneV R = .tuple #[.int .u32 (encM m), .bool true] by rw [HRR.out, HD.out]; rfl)
      go_wp2
      rw [Exit.noGoto_ret]
      go_ret2
      exact ⟨by rw [HE.out]; rfl, hbw⟩
end Go.Proofs.YtkeojokbpjdhpaaDoor
