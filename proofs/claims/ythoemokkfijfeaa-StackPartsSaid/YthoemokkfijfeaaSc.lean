/- Stack, walks over the reference's answers. -/
import Derived.Test.YthoemokkfijfeaaSb
import Derived.Deep.RegionHeld3
namespace Go.Proofs.Ythoemokkfijfeaa
open Go.RowKit

theorem wn_iff {n a b : Int} : wn n a b = true ↔ a ≤ n ∧ n ≤ b := by simp [wn]
theorem windy_zero {l : List Course} {bed p side : Int} (h : windyE l bed p side = 0) : ∃ n : Nat, bed = n ∧ n < l.length ∧ validC l = true ∧ 0 ≤ p ∧ p ≤ 10000 ∧ 0 ≤ side ∧ side ≤ 3 := by
  unfold windyE at h
  split at h
  · split at h
    · rename_i hv hb
      simp only [Bool.and_eq_true, wn_iff] at hb
      exact ⟨bed.toNat, by omega, by omega, hv, by omega, by omega, by omega, by omega⟩
    · omega
  · omega
theorem asked_windy (l : List Course) (bed : Int) : windyE l bed 0 0 = askedE l bed := by
  unfold windyE askedE wn; simp
theorem asked_zero {l : List Course} {bed : Int} (h : askedE l bed = 0) : ∃ n : Nat, bed = n ∧ n < l.length ∧ validC l = true := by
  rw [← asked_windy] at h
  obtain ⟨n, h1, h2, h3, _⟩ := windy_zero h
  exact ⟨n, h1, h2, h3⟩
/-- a value, or nothing beside an error -/
def heightR (l : List Course) : Int × Int := if validC l then (hs l, 0) else (0, 1)
def weightR (l : List Course) (bed : Int) : Int × Int := if askedE l bed = 0 then (wts (l.drop bed.toNat), 0) else (0, askedE l bed)

theorem r_height (A : Option Addr) (l : List Course) (c : Nat) (w : World) (hl : l.length ≤ 100000) (hR : Rd Course.cs 6 w A l) :
    Calls Try.prog 16 #[.slice A l.length c] w fun e w' => e = .returned (.tuple #[.int .i64 (heightR l).1, .int .i64 (heightR l).2]) ∧ Below w.heap.size w w' := by
  cases hv : validC l
  all_goals
    have HV := Lib.hid hv
    have HC := Lib.hid (r_valid A l c w hl hR)
    rw [hv] at HC
    clear hv
    go_enter Try.func16, Try.ntmps16
    go_wp2_with (go_at_call 18; refine HC.out.mono ?_; rintro e w' ⟨rfl, hb⟩)
  · go_ret2
    exact ⟨by simp [heightR, HV.out], hb⟩
  · have hz := valid_all HV.out
    have HA := Lib.hid hz.1
    obtain ⟨_, hl1, hl2⟩ := hz
    go_loopw [4, 5] (fun s i wr => ∃ (k : Nat) (a : Int), k ≤ l.length ∧ i = .int .i64 k ∧ s = .int .i64 a ∧ 0 ≤ a ∧ a ≤ 2000 * k ∧ Below w.heap.size w wr ∧ Hid (a + hs (l.drop k) = hs l)) (fun _ i _ => l.length - (intOf i).toNat)
    case atStart => exact ⟨0, 0, by omega, rfl, rfl, by omega, by omega, hb, by show _ = _; simp⟩
    case round =>
      obtain ⟨k, a, hk, rfl, rfl, ha0, ha1, hB, HS⟩ := hrel
      by_cases hlt : k < l.length
      · obtain ⟨x, b, off, hx, rfl, hab, c0, c1, c2, c3, c4, c5⟩ := rdC (hR.on hB) hlt
        obtain ⟨d1, d2, _⟩ := cb_of (List.all_eq_true.1 HA.out x (List.mem_of_getElem? hx))
        have HX := Lib.hid hx
        clear hx
        go_wp2
        go_roundw
        case rel => exact ⟨k + 1, a + x.h, by omega, by go_num, rfl, by omega, by omega, hB, by show _ = _; rw [← HS.out, hs_drop HX.out]; simp only [hs]; omega⟩
        case measure => simp [intOf]; omega
      · have hz : a = hs l := by have := HS.out; rw [List.drop_of_length_le (by omega)] at this; simpa [hs] using this
        have HZ := Lib.hid hz
        clear hz
        go_wp2
        go_ret2
        exact ⟨by simp [heightR, HV.out, HZ.out], hB⟩

theorem run_over0 (a b c d : Value) (W : World) : (Instr.field 70 (.agg #[a, b, c, d]) 0).run Try.prog W = .ok a W := by kernel_rfl
set_option maxRecDepth 10000 in
theorem r_weight (A : Option Addr) (l : List Course) (c : Nat) (bed : Int) (w : World) (hl : l.length ≤ 100000) (hR : Rd Course.cs 6 w A l) :
    Calls Try.prog 20 #[.slice A l.length c, .int .i64 bed] w fun e w' => e = .returned (.tuple #[.int .i64 (weightR l bed).1, .int .i64 (weightR l bed).2]) ∧ Below w.heap.size w w' := by
  have HC := Lib.hid (r_bedError A l c bed 0 0 w hl hR)
  rw [asked_windy] at HC
  by_cases h0 : askedE l bed = 0
  · obtain ⟨n, rfl, hn, hv⟩ := asked_zero h0
    rw [h0] at HC
    have H0 := Lib.hid h0
    have HV := Lib.hid hv
    clear h0 hv
    have fld := fun a b c d W => run_over0 a b c d W
    go_enter Try.func20, Try.ntmps20
    go_wp2_with (first
      | (go_at_call 62; refine HC.out.mono ?_; rintro e w1 ⟨rfl, hb⟩)
      | (go_at_call 63; refine (r_over A l c n _ HV.out hn (hR.on hb)).mono ?_; rintro e w2 ⟨rfl, hb2⟩))
    go_ret2
    exact ⟨by simp [weightR, H0.out], below_tr hb hb2⟩
  · have H0 := Lib.hid h0
    have t1 : (askedE l bed != 0) = true := by simpa using h0
    clear h0
    go_enter Try.func20, Try.ntmps20
    go_wp2_with (go_at_call 62; refine HC.out.mono ?_; rintro e w1 ⟨rfl, hb⟩)
    go_ret2
    exact ⟨by simp [weightR, H0.out], hb⟩

theorem drop_fits {l : List Course} {bed : Nat} (hv : validC l = true) (hb : bed < l.length) : Fits (wts (l.drop bed)) ∧ Fits (es (l.drop bed)) ∧ Fits (ns (l.drop bed)) ∧ 0 < wts (l.drop bed) := by
  obtain ⟨hall, hl1, hl2⟩ := valid_all hv
  obtain ⟨s1, s2, s3, s4, s5, s6, s7, s8, s9, s10, s11, s12⟩ := sb_of (all_drop hall bed)
  have hle : (l.drop bed).length = l.length - bed := by simp
  unfold Fits
  refine ⟨⟨?_, ?_⟩, ⟨?_, ?_⟩, ⟨?_, ?_⟩, ?_⟩ <;> omega

def centreR (l : List Course) (bed : Int) : (Int × Int) × (Int × Int) × Int :=
  if askedE l bed = 0 then
    ((gN (es (l.drop bed.toNat)) (wts (l.drop bed.toNat)), gD (es (l.drop bed.toNat)) (wts (l.drop bed.toNat))), (gN (ns (l.drop bed.toNat)) (wts (l.drop bed.toNat)), gD (ns (l.drop bed.toNat)) (wts (l.drop bed.toNat))), 0)
  else ((0, 0), (0, 0), askedE l bed)
def rat (q : Int × Int) : Value := .agg #[.int .i64 q.1, .int .i64 q.2]

set_option maxHeartbeats 1000000 in
theorem r_centre (A : Option Addr) (l : List Course) (c : Nat) (bed : Int) (w : World) (hl : l.length ≤ 100000) (hR : Rd Course.cs 6 w A l) :
    Calls Try.prog 22 #[.slice A l.length c, .int .i64 bed] w fun e w' => e = .returned (.tuple #[rat (centreR l bed).1, rat (centreR l bed).2.1, .int .i64 (centreR l bed).2.2]) ∧ Below w.heap.size w w' := by
  have HC := Lib.hid (fun W (h : Below w.heap.size w W) => r_bedError A l c bed 0 0 W hl (hR.on h))
  rw [asked_windy] at HC
  by_cases h0 : askedE l bed = 0
  · obtain ⟨n, rfl, hn, hv⟩ := asked_zero h0
    rw [h0] at HC
    have H0 := Lib.hid h0
    have HV := Lib.hid hv
    clear h0 hv
    go_enter Try.func22, Try.ntmps22
    go_wp2_with (first
      | (go_at_call 62; refine (HC.out _ (below_tr (below_alloc _ _) (below_alloc _ _))).mono ?_; rintro e w1 ⟨rfl, hb⟩; obtain ⟨hc, hf⟩ := bcell hb)
      | (go_at_call 63; refine (r_over A l c n _ HV.out hn (hR.on (below_tr (below_tr (below_alloc _ _) (below_alloc _ _)) hb))).mono ?_; rintro e w2 ⟨rfl, hb2⟩; obtain ⟨hc2, hf2⟩ := bcell hb2))
    obtain ⟨f1, f2, f3, f4⟩ := drop_fits HV.out (bed := n) hn
    have z1 := hb.size
    have z2 := hb2.size
    rw [World.size_alloc, World.size_alloc] at z1
    have y1 : w.heap.size + 1 < w2.heap.size := by omega
    have y2 : w.heap.size < w2.heap.size := by omega
    have n1 : w.heap.size ≠ w2.heap.size := by omega
    have n2 : w.heap.size + 1 ≠ w2.heap.size := by omega
    have y21 : w.heap.size + 1 < w1.heap.size := by omega
    have y22 : w.heap.size < w1.heap.size := by omega
    go_region_held3 (fun w' => w'.cell? ⟨w2.heap.size, 0, none⟩ = some (.int .i64 (wts (l.drop n))) ∧ w'.cell? ⟨w2.heap.size, 1, none⟩ = some (.int .i64 (es (l.drop n))) ∧ w'.cell? ⟨w2.heap.size, 2, none⟩ = some (.int .i64 (ns (l.drop n))))
      (refine ⟨?_, ?_, ?_⟩ <;> (first | (go_keep; done) | (rw [hc3 _ _ (by simp; omega)]; first | assumption | go_simp)))
      (first
        | (go_at_call 24; refine (r_lowest _ _ _ (by assumption) (by assumption) (by assumption)).mono ?_; rintro e w3 ⟨rfl, hb3⟩; obtain ⟨hc3, hf3⟩ := bcell hb3; have y3 : w.heap.size + 1 < w3.heap.size := (by have := hb3.size; (try simp at this); omega); have y4 : w2.heap.size < w3.heap.size := (by have := hb3.size; (try simp at this); omega); have y5 : w.heap.size < w3.heap.size := (by omega)))
    go_wp2
    have B1 := (((Blk.new w 30 #[.int .i64 0, .int .i64 0]).alloc (.cells #[.int .i64 0, .int .i64 0] 30)).below hb (by simp <;> omega)).below hb2 y22
    have B2 := ((Blk.new (w.alloc (.cells #[.int .i64 0, .int .i64 0] 30)) 30 #[.int .i64 0, .int .i64 0]).below hb (by simp <;> omega)).below hb2 (by simpa using y21)
    rw [World.size_alloc] at B2
    have C1 := (((B1.alloc _).drew.below (by assumption) (by simp; omega)).below hb3 (by assumption))
    have C2 := (((B2.alloc _).drew.below (by assumption) (by simp; omega)).below hb3 (by assumption))
    refine bodyPost_ret (res_cct rfl rfl (load_ratio (((((C1.set_ 0 _).set_ 1 _).far (by simp) _).far (by simp) _))) rfl (load_ratio (((((C2.far (by simp) _).far (by simp) _).set_ 0 _).set_ 1 _)))) rfl ⟨by simp [centreR, H0.out, rat], ?_⟩
    have hB3 := (below_tr (below_tr (below_tr (below_tr (below_alloc _ _) (below_alloc _ _)) hb) hb2) (below_alloc w2 (.cells #[.int .i64 (wts (l.drop n)), .int .i64 (es (l.drop n)), .int .i64 (ns (l.drop n)), .int .i64 (push (l.drop n))] 70))).drew
    exact ((((below_tr (below_tr hB3 (by assumption)) hb3).setCell (by simp) _).setCell (by simp) _).setCell (by simp) _).setCell (by simp) _
  · have H0 := Lib.hid h0
    have t1 : (askedE l bed != 0) = true := by simpa using h0
    clear h0
    go_enter Try.func22, Try.ntmps22
    go_wp2_with (go_at_call 62; refine (HC.out _ (below_tr (below_alloc _ _) (below_alloc _ _))).mono ?_; rintro e w1 ⟨rfl, hb⟩; obtain ⟨hc, hf⟩ := bcell hb)
    have z1 := hb.size
    rw [World.size_alloc, World.size_alloc] at z1
    have y21 : w.heap.size + 1 < w1.heap.size := by omega
    have y22 : w.heap.size < w1.heap.size := by omega
    have C1 := ((Blk.new w 30 #[.int .i64 0, .int .i64 0]).alloc (.cells #[.int .i64 0, .int .i64 0] 30)).below hb (by simp <;> omega)
    have C2 := ((Blk.new (w.alloc (.cells #[.int .i64 0, .int .i64 0] 30)) 30 #[.int .i64 0, .int .i64 0]).below hb (by simp <;> omega))
    rw [World.size_alloc] at C2
    refine bodyPost_ret (res_cct rfl rfl (load_ratio (((((C1.set_ 0 _).set_ 1 _).far (by simp) _).far (by simp) _))) rfl (load_ratio (((((C2.far (by simp) _).far (by simp) _).set_ 0 _).set_ 1 _)))) rfl ⟨by simp [centreR, H0.out, rat], ?_⟩
    exact ((((below_tr (below_tr (below_alloc _ _) (below_alloc _ _)) hb).setCell (by simp) _).setCell (by simp) _).setCell (by simp) _).setCell (by simp) _
end Go.Proofs.Ythoemokkfijfeaa
