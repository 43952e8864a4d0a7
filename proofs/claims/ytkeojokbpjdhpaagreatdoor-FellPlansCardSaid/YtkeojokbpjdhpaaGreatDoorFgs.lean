/- Sets as numbers, plain. -/
import Derived.Test.YtkeojokbpjdhpaaGreatDoorKit
import Derived.Lib.TrailingZeros
import Derived.Test.YtkeojokbpjdhpaaGreatDoorFm1
import Derived.Test.YtkeojokbpjdhpaaGreatDoorFgr
import Derived.Shelf.Spec.TrailingZeros
import Derived.Laws.BitsAllLaws
set_option linter.unusedSimpArgs false
set_option linter.unusedVariables false
namespace Go.Proofs.YtkeojokbpjdhpaaGreatDoor
open Go.RowKit

/-- the members of a set, ascending -/
def mL (x : Nat) : List Nat := (List.range 32).filter fun i => x.testBit i
theorem mL_zero : mL 0 = [] := by unfold mL; simp
theorem flt_first (p q : Nat → Bool) (c : Nat) (hp : p c = true) (hq : q c = false) (h : ∀ i, i ≠ c → q i = p i) : ∀ (n a : Nat), a ≤ c → c < a + n → (∀ i, a ≤ i → i < c → p i = false) → (List.range' a n).filter p = c :: (List.range' a n).filter q
  | 0, a, h1, h2, _ => absurd h2 (by omega)
  | n + 1, a, h1, h2, h3 => by
    rw [List.range'_succ]
    by_cases e : a = c
    · subst e
      rw [List.filter_cons_of_pos hp, List.filter_cons_of_neg (by simp [hq])]
      congr 1
      refine List.filter_congr fun i hi => ?_
      have := (List.mem_range'_1.1 hi).1
      exact (h i (by omega)).symm
    · have := h3 a (Nat.le_refl _) (by omega)
      rw [List.filter_cons_of_neg (by simp [this]), List.filter_cons_of_neg (by rw [h a e]; simp [this])]
      exact flt_first p q c hp hq h n (a + 1) (by omega) (by omega) fun i h4 h5 => h3 i (by omega) h5
theorem bit_low {x : Nat} (h0 : x ≠ 0) (h : x < 2 ^ 32) : x.testBit (Lib.ctz 32 x) = true ∧ Lib.ctz 32 x < 32 ∧ (∀ i, i < Lib.ctz 32 x → x.testBit i = false) ∧ ∀ i, (x &&& (x - 1)).testBit i = (x.testBit i && decide (i ≠ Lib.ctz 32 x)) := by
  have hc : Lib.ctz 32 x = Lib.ctzFrom 32 x := by unfold Lib.ctz; rw [if_neg h0]
  obtain ⟨m, hm, hl⟩ := Lib.ctzFrom_spec 32 x (by omega) h
  rw [hc]
  generalize Lib.ctzFrom 32 x = c at *
  have e1 : x - 1 = 2 ^ c * (2 * m) + (2 ^ c - 1) := by
    have := Nat.two_pow_pos c
    rw [hm, Nat.mul_add, Nat.mul_one]; omega
  have t1 : ∀ i, x.testBit i = (decide (c ≤ i) && (2 * m + 1).testBit (i - c)) := fun i => by rw [hm, Nat.testBit_two_pow_mul]
  have t2 : ∀ i, (x - 1).testBit i = if i < c then true else (2 * m).testBit (i - c) := fun i => by
    rw [e1, Nat.testBit_two_pow_mul_add _ (by have := Nat.two_pow_pos c; omega)]
    by_cases hi : i < c
    · rw [if_pos hi, if_pos hi, Nat.testBit_two_pow_sub_one]; simpa using hi
    · rw [if_neg hi, if_neg hi]
  have o1 : ∀ i, (2 * m + 1).testBit (i + 1) = (2 * m).testBit (i + 1) := fun i => by
    rw [Nat.testBit_succ, Nat.testBit_succ]; congr 1; omega
  refine ⟨by rw [t1]; simp, hl, fun i hi => by rw [t1]; simp; omega, fun i => ?_⟩
  rw [Nat.testBit_and, t2, t1]
  by_cases h1 : i < c
  · have : ¬ c ≤ i := by omega
    simp [this]
  · by_cases h2 : i = c
    · subst h2; simp
    · obtain ⟨j, rfl⟩ : ∃ j, i = c + (j + 1) := ⟨i - c - 1, by omega⟩
      rw [if_neg h1, show c + (j + 1) - c = j + 1 by omega, o1]
      have h3 : c ≤ c + (j + 1) := by omega
      have h4 : c + (j + 1) ≠ c := by omega
      simp
theorem mL_step {x : Nat} (h0 : x ≠ 0) (h : x < 2 ^ 32) : mL x = Lib.ctz 32 x :: mL (x &&& (x - 1)) := by
  obtain ⟨b1, b2, b3, b4⟩ := bit_low h0 h
  unfold mL
  rw [List.range_eq_range']
  exact flt_first _ _ _ b1 (by rw [b4]; simp) (fun i hi => by rw [b4]; simp [hi]) 32 0 (by omega) (by omega) (fun i _ hi => b3 i hi)
theorem mL_lt {x i : Nat} (h : i ∈ mL x) : i < 32 ∧ x.testBit i = true := by
  unfold mL at h; rw [List.mem_filter] at h; exact ⟨by simpa using h.1, h.2⟩
/-- a set as marks -/
def SetOf (x : Nat) (M : List Bool) : Prop := M.length ≤ 24 ∧ ∀ i, x.testBit i = M.getD i false
theorem gd_out {M : List Bool} {i : Nat} (h : M.length ≤ i) : M.getD i false = false := by simp [List.getD_eq_getElem?_getD, List.getElem?_eq_none h]
theorem SetOf.lt {x : Nat} {M : List Bool} (h : SetOf x M) : x < 2 ^ 24 := by
  refine Nat.lt_pow_two_of_testBit x fun i hi => ?_
  rw [h.2, gd_out (by have := h.1; omega)]
def mM (M : List Bool) : List Nat := (List.range M.length).filter fun i => M.getD i false
theorem set_mL {x : Nat} {M : List Bool} (h : SetOf x M) : mL x = mM M := by
  unfold mL mM
  obtain ⟨n, hn⟩ : ∃ n, 32 = M.length + n := ⟨32 - M.length, by have := h.1; omega⟩
  rw [hn, List.range_add, List.filter_append, List.filter_congr fun i _ => h.2 i]
  have : List.filter (fun i => x.testBit i) (List.map (fun x => M.length + x) (List.range n)) = [] := by
    rw [List.filter_eq_nil_iff]
    intro i hi
    obtain ⟨j, _, rfl⟩ := List.mem_map.1 hi
    rw [h.2, gd_out (by omega)]; simp
  rw [this, List.append_nil]
theorem set_full {n : Nat} (h : n ≤ 24) : SetOf (2 ^ n - 1) (List.replicate n true) := by
  refine ⟨by simpa using h, fun i => ?_⟩
  rw [Nat.testBit_two_pow_sub_one]
  by_cases hi : i < n
  · simp [List.getD, hi]
  · simp [List.getD, hi]
theorem getD_set {M : List Bool} {i j : Nat} {b : Bool} (hi : i < M.length) : (M.set i b).getD j false = if j = i then b else M.getD j false := by
  simp only [List.getD_eq_getElem?_getD, List.getElem?_set]
  by_cases e : j = i
  · subst e; simp [hi]
  · rw [if_neg (fun q => e q.symm), if_neg e]
theorem set_add {x i : Nat} {M : List Bool} (h : SetOf x M) (hi : i < M.length) : SetOf (x ||| 2 ^ i) (M.set i true) := by
  refine ⟨by rw [List.length_set]; exact h.1, fun j => ?_⟩
  rw [Nat.testBit_or, Nat.testBit_two_pow, getD_set hi, h.2]
  by_cases e : j = i
  · subst e; simp
  · rw [if_neg e]; simp [Ne.symm e]
theorem set_away {x y i : Nat} {M : List Bool} (h : SetOf x M) (hi : i < M.length) (hy : ∀ j, y.testBit j = (x.testBit j && decide (j ≠ i))) : SetOf y (M.set i false) := by
  refine ⟨by rw [List.length_set]; exact h.1, fun j => ?_⟩
  rw [hy, getD_set hi, h.2]
  by_cases e : j = i
  · subst e; simp
  · rw [if_neg e]; simp [e]
end Go.Proofs.YtkeojokbpjdhpaaGreatDoor
namespace Go.Proofs.YtkeojokbpjdhpaaGreatDoor
open Go.RowKit

/-- the spots of the marked props -/
def lfS (l : List Pr) (M : List Bool) : List Sp := (mM M).map fun i => (prAt l i).a
/-- the marks behind deeds -/
def dsB (M : List Bool) (d : Int) : Option (List Bool) := if M.getD (d / 2).toNat false = decide (d % 2 = 0) then some (M.set (d / 2).toNat (!decide (d % 2 = 0))) else none
def thM (M : List Bool) (ds : List Int) : Option (List Bool) := ds.foldl (fun o d => o.bind fun m => dsB m d) (some M)
theorem thM_nil (M : List Bool) : thM M [] = some M := rfl
theorem thM_step {M : List Bool} {ds : List Int} {k : Nat} {d : Int} (hd : ds[k]? = some d) : thM M (ds.take (k + 1)) = (thM M (ds.take k)).bind fun m => dsB m d := by
  unfold thM; rw [List.take_add_one, hd, List.foldl_append]; rfl
theorem thM_none (M : List Bool) (k : Nat) : ∀ (ds : List Int), thM M (ds.take k) = none → thM M ds = none := fun ds h => by
  have e : ds = ds.take k ++ ds.drop k := (List.take_append_drop k ds).symm
  rw [e]; unfold thM at *
  rw [List.foldl_append, h]
  clear e h
  generalize ds.drop k = r
  induction r with
  | nil => rfl
  | cons a r ih => exact ih
theorem dsB_len {M m : List Bool} {d : Int} (h : dsB M d = some m) : m.length = M.length := by
  unfold dsB at h; split at h
  · cases h; rw [List.length_set]
  · cases h
theorem thM_len {M m : List Bool} {ds : List Int} : ∀ (k : Nat), thM M (ds.take k) = some m → m.length = M.length := by
  intro k
  induction k generalizing m with
  | zero => intro h; simp [thM] at h; rw [h]
  | succ k ih =>
    intro h
    cases hd : ds[k]? with
    | none =>
      have hk : ds.length ≤ k := List.getElem?_eq_none_iff.1 hd
      refine ih ?_
      rw [List.take_of_length_le (by omega)] at h ⊢; exact h
    | some d =>
      rw [thM_step hd] at h
      cases h1 : thM M (ds.take k) with
      | none => rw [h1] at h; cases h
      | some m1 => rw [h1] at h; exact (dsB_len h).trans (ih h1)
def lsB (n : Nat) (ds : List Int) : Bool := decide (ds.length ≤ 100) && ds.all fun d => wn d 0 (2 * (n : Int) - 1)
/-- deeds are right -/
def riB (l : List Pr) (s : Sp) (ds : List Int) (k : Nat) : Bool := match thM (List.replicate l.length true) (ds.take (k + 1)) with
  | none => false
  | some m => decide (k + 1 = ds.length) || heldB (lfS l m) s
def riA (l : List Pr) (s : Sp) (ds : List Int) : Bool := vP l && (isS s && (lsB l.length ds && (List.range ds.length).all (riB l s ds)))
/-- what stands behind all deeds -/
def afM (l : List Pr) (ds : List Int) : List Bool := (thM (List.replicate l.length true) ds).getD []
def feB (l : List Pr) (s : Sp) (ds : List Int) : Bool := riA l s ds && (decide (0 < ds.length) && !heldB (lfS l (afM l ds)) s)
end Go.Proofs.YtkeojokbpjdhpaaGreatDoor
namespace Go.Proofs.YtkeojokbpjdhpaaGreatDoor
open Go.RowKit Go.Shelf
attribute [local go_sem] Oper.semAt_some

theorem TabAt.on {g : Nat} {tab : List Nat} {w w' : World} (h : TabAt g tab w) (hb : Below w.heap.size w w') : TabAt g tab w' := fun j hj => by
  have h1 := h j hj
  rw [(bcell hb).1 _ _ (World.block_lt_of_cell? w _ h1)]; exact h1
theorem TabAt.stp {N : Nat → Prop} {g : Nat} {tab : List Nat} {w w' : World} (h : TabAt g tab w) (hb : Stp N w w') (hn : ¬ N g) : TabAt g tab w' := fun j hj => hb.cell (h j hj) hn
abbrev Tab (w : World) : Prop := TabAt 0 Lib.deBruijn32tab w
theorem Tab.lt {w : World} (h : Tab w) : 0 < w.heap.size := World.block_lt_of_cell? w _ (h 0 (by decide))
theorem has_val (x i : Nat) (hx : x < 2 ^ 32) : (bits BinOp.and IntKind.u32 ((x : Int) / 2 ^ i) 1 == 1) = x.testBit i := by
  have e : ((x : Int) / 2 ^ i) = ((x / 2 ^ i : Nat) : Int) := by simp
  have h1 : x / 2 ^ i < 4294967296 := Nat.lt_of_le_of_lt (Nat.div_le_self _ _) hx
  have h2 := u32_and_nat (x / 2 ^ i) 1 h1 (by omega)
  rw [e, show (1 : Int) = ((1 : Nat) : Int) from rfl, h2, Nat.and_one_is_mod, Nat.testBit_eq_decide_div_mod_eq]
  generalize x / 2 ^ i % 2 = y
  by_cases h : y = 1
  · subst h; rfl
  · have : ¬ ((y : Int) = 1) := by omega
    simp [h, this]
theorem p_has (x i : Nat) (w : World) (hx : x < 2 ^ 32) (hi : i < 32) :
    Calls Tryz.prog 78 #[.int .u32 x, .int .i64 i] w fun e w' => e = .returned (.bool (x.testBit i)) ∧ w = w' := by
  have i0 : (0 : Int) ≤ (i : Int) := Int.natCast_nonneg _
  have i1 : (i : Int) < 32 := by omega
  have HV := Lib.hid (has_val x i hx)
  go_enter Tryz.func78, Tryz.ntmps78
  go_wp2
  go_ret
  exact ⟨ret_bool HV.out, rfl⟩
theorem pow_val {n : Nat} (hn : n ≤ 24) : (((2 : Int) ^ n % 4294967296 - 1) % 4294967296) = ((2 ^ n - 1 : Nat) : Int) := by
  have h1 : 2 ^ n ≤ 2 ^ 24 := Nat.pow_le_pow_right (by omega) hn
  have h2 := Nat.two_pow_pos n
  have e : (2 : Int) ^ n = ((2 ^ n : Nat) : Int) := by simp
  rw [e]
  generalize 2 ^ n = y at *
  omega
theorem p_full (A : Option Addr) (n c : Nat) (w : World) (hn : n ≤ 24) :
    Calls Tryz.prog 16 #[.slice A n c] w fun e w' => e = .returned (.int .u32 ((2 ^ n - 1 : Nat) : Int)) ∧ w = w' := by
  have i0 : (0 : Int) ≤ (n : Int) := Int.natCast_nonneg _
  have i1 : (n : Int) < 32 := by omega
  have HV := Lib.hid (pow_val hn)
  go_enter Tryz.func16, Tryz.ntmps16
  go_wp2
  go_ret
  refine ⟨congrArg (fun v => Ending.returned (Value.int .u32 v)) HV.out, rfl⟩
theorem p_tz_core (x k idx : Nat) (w : World) (hx0 : ((x : Int) == 0) = false)
    (key : bits BinOp.and IntKind.u32 (x : Int) (-(x : Int) % 4294967296) * 125613361 % 4294967296 / 134217728 = (idx : Int))
    (hi : idx < 32) (hk : k < 32) (hcell : w.cell? ⟨0, idx, none⟩ = some (.int .u8 k)) :
    Calls Tryz.prog 42 #[.int .u32 x] w fun e w' => e = .returned (.int .i64 k) ∧ w = w' := by
  go_enter Tryz.func42, Tryz.ntmps42
  go_wp2_with (simp only [key])
  go_ret
  exact ⟨rfl, rfl⟩
theorem p_tz (x : Nat) (w : World) (hx0 : x ≠ 0) (hx : x < 4294967296) (hT : Tab w) :
    Calls Tryz.prog 42 #[.int .u32 x] w fun e w' => e = .returned (.int .i64 (Lib.ctz 32 x)) ∧ w = w' := by
  obtain ⟨hlow, hk⟩ := Lib.lowest_bit 32 x hx0 hx
  obtain ⟨hi, htab⟩ := Lib.deBruijn32_at _ hk
  have hcell := hT _ hi
  rw [htab] at hcell
  exact p_tz_core x _ _ w (by simp; omega) (tz32_key x _ hx hx0 hlow) hi hk hcell
theorem p_all (x : Nat) (w : World) :
    Calls Tryz.prog 17 #[.int .u32 x] w fun e w' => e = .returned (.func (.func 41) #[] #[.pointer (some ⟨w.heap.size, 0, none⟩)]) ∧ w' = w.alloc (.cells #[.int .u32 x] 47) := by
  go_enter Tryz.func17, Tryz.ntmps17
  go_wp2
  go_ret
  exact ⟨rfl, rfl⟩
def inI (i : Nat) : Array Value := #[.int .i64 i]
def meas (b1 : Nat) (w : World) : Nat := match w.cell? ⟨b1, 0, none⟩ with
  | some (.int _ n) => n.toNat
  | _ => 0
theorem enters_all : ∀ args w, (callFunc 41 args).run Tryz.prog w = .ok (.enter 41 args) w := enters_of Tryz.func41 (by kernel_rfl) rfl
set_option maxHeartbeats 4000000 in
set_option maxRecDepth 20000 in
theorem all_seq (n : Nat) (h1 : 2 ≤ n) (b1 : Nat) (x : Nat) (R K : Nat → Prop) (w0 : World) (hx : x < 4294967296)
    (hb1 : Blk w0 b1 47 #[.int .u32 x]) (hT : Tab w0) (hR1 : R b1) (hR0 : R 0) (hK1 : K b1) (h01 : b1 ≠ 0) :
    SeqIsK n Tryz.prog 41 #[.pointer (some ⟨b1, 0, none⟩)] inI (mL x) R K w0 := by
  intro L J Jx W hW hJ hJx hY h0
  have c1 := hW.blk hb1 (fun k => k hR1)
  have hTW := TabAt.stp hT hW (fun k => k hR0)
  have HJ := Lib.hid hJ
  have HY := Lib.hid hY
  have z1 := c1.lt
  clear hJ hJx hY hW hb1 hT
  have hn1 : 1 ≤ n := by omega
  refine callsIn_of_wp Tryz.func41 rfl trivial ?_
  simp only [Tryz.ntmps41, List.size_toArray, List.length_cons, List.length_nil, Nat.reduceAdd, Nat.reduceSub, Array.replicate_succ, Array.replicate_zero, List.push_toArray, List.append_toArray, List.nil_append, List.cons_append]
  gi_wp2
  gi_loopw [3] (fun _ wr => ∃ (pre : List Nat) (y : Nat) (M : Nat → Prop), mL x = pre ++ mL y ∧ y < 4294967296 ∧ J pre M wr ∧ (∀ b, M b → W.heap.size ≤ b ∧ b < wr.heap.size) ∧ W.heap.size ≤ wr.heap.size ∧ Blk wr b1 47 #[.int .u32 y] ∧ Tab wr) (fun _ wr => meas b1 wr)
  case atStart => exact ⟨[], x, (fun _ => False), rfl, hx, h0, fun b h => h.elim, Nat.le_refl _, c1, hTW⟩
  case round =>
    clear hTW h0 c1
    obtain ⟨pre, y, M, hp, hy, hj, hMW, hWs, cb, hTr⟩ := hrel
    have q0 := cb.cell 0
    have f0 := cb.frozen 0
    simp only [List.getElem?_toArray, List.getElem?_cons_zero] at q0
    have zb := cb.lt
    by_cases hz : y = 0
    · subst hz
      rw [mL_zero, List.append_nil] at hp
      gi_wp2
      go_end0
      exact ⟨⟨_, rfl⟩, .inl ⟨M, by rw [hp]; exact hj⟩⟩
    · have e1 : ((y : Int) == 0) = false := by simp; omega
      have hst := mL_step hz hy
      have htz := p_tz y wr hz hy hTr
      have hle : y &&& (y - 1) ≤ y - 1 := Nat.and_le_right
      have ea : bits BinOp.and IntKind.u32 (y : Int) ((y : Int) - 1) = ((y &&& (y - 1) : Nat) : Int) := by rw [show ((y : Int) - 1) = ((y - 1 : Nat) : Int) by omega]; exact u32_and_nat y (y - 1) hy (by omega)
      have hme : meas b1 wr = y := by unfold meas; rw [q0]; simp
      rw [hst] at hp
      generalize Lib.ctz 32 y = c at *
      generalize y &&& (y - 1) = z at *
      have HTZ := Lib.hid htz
      have HXS := Lib.hid hp
      have HY2 := Lib.hid (HY.out _ _ _ M wr hp hj)
      clear htz hp hst
      gi_wp2
      first | refine ⟨trivial, (callsIn_wide.2 HTZ.out).mono ?_⟩ | refine ⟨trivial, fun _ => by omega, (callsIn_wide.2 HTZ.out).mono ?_⟩
      rintro e w3 ⟨rfl, rfl⟩
      obtain ⟨fn', tmps, assign, body, hy', hRd⟩ := HY2.out
      dsimp only [inI] at hy' hRd
      have HRD := Lib.hid hRd
      clear hRd HY2 hj
      gi_wp2
      refine HRD.out.mono ?_
      rintro e W5 (⟨rfl, hj5, hk5⟩ | ⟨rfl, hjx⟩)
      · have cb5 := hk5.blk cb (fun k => k (.inr hR1))
        have hT5 := TabAt.stp hTr hk5 (fun k => k (.inr hR0))
        have hz5 := hk5.size
        have q5 := cb5.cell 0
        have f5 := cb5.frozen 0
        simp only [List.getElem?_toArray, List.getElem?_cons_zero] at q5
        have zb5 := cb5.lt
        have hst5 := (Stp.refl (fun b => M b ∨ K b) W5).setCell (p := ⟨b1, 0, none⟩) (.inl (.inr hK1)) (.int .u32 z)
        have hj6 := Lib.hid (HJ.out _ M M W5 _ hj5 (fun b h => (hMW b h).1) (fun _ h => h) (fun _ h => .inl h) (fun b h => by have := hMW b h; rw [World.size_setCell]; omega) hst5)
        have cb6 := Lib.hid (cb5.set_ 0 (.int .u32 (z : Int)))
        have hT6 := Lib.hid (TabAt.stp (N := fun b => b = b1) hT5 ((Stp.refl (fun b => b = b1) W5).setCell (p := ⟨b1, 0, none⟩) (.inl rfl) (.int .u32 z)) (fun h => h01 h.symm))
        clear hk5 hj5 hy' HRD hst5 cb cb5 hT5 hTr
        gi_wp2_with (simp only [ea])
        go_roundw
        case rel => exact ⟨pre ++ [c], z, M, by rw [List.append_assoc]; exact HXS.out, by omega, hj6.out, fun b h => by have := hMW b h; rw [World.size_setCell]; omega, by rw [World.size_setCell]; omega, cb6.out, hT6.out⟩
        case measure =>
          rw [hme]
          unfold meas
          rw [cb6.out.cell 0]
          simp; omega
      · gi_wp2
        refine bodyPost_ret (results_none rfl _ _ _) rfl ?_
        exact ⟨⟨_, rfl⟩, .inr ⟨pre ++ [c], mL z, _, by rw [List.append_assoc]; exact HXS.out, hjx⟩⟩
end Go.Proofs.YtkeojokbpjdhpaaGreatDoor
