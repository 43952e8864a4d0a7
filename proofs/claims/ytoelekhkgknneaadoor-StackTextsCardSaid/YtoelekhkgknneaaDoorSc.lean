/- Stack, walks over the reference's answers. -/
import Derived.Test.YtoelekhkgknneaaDoorSb
import Derived.Deep.RegionHeld3
namespace Go.Proofs.YtoelekhkgknneaaDoor
open Go.RowKit

theorem wn_iff {n a b : Int} : wn n a b = true ↔ a ≤ n ∧ n ≤ b := by simp [wn]
theorem windy_zero {l : List Course} {bed p side : Int} (h : windyE l bed p side = 0) : ∃ n : Nat, bed = n ∧ n < l.length ∧ validC l = true ∧ 0 ≤ p ∧ p ≤ 10000 ∧ 0 ≤ side ∧ side ≤ 3 := by
  unfold windyE at h
  split at h
  · split at h
    · rename_i hv hb
      simp only [Bool.and_eq_true, wn_iff] at hb
      exact ⟨bed.toNat, by omega, by omega, hv, by omega, by omega, by omega, by omega⟩
    · omega
  · omega
theorem asked_windy (l : List Course) (bed : Int) : windyE l bed 0 0 = askedE l bed := by
  unfold windyE askedE wn; simp
theorem asked_zero {l : List Course} {bed : Int} (h : askedE l bed = 0) : ∃ n : Nat, bed = n ∧ n < l.length ∧ validC l = true := by
  rw [← asked_windy] at h
  obtain ⟨n, h1, h2, h3, _⟩ := windy_zero h
  exact ⟨n, h1, h2, h3⟩
/-- a value, or nothing beside an error -/
def heightR (l : List Course) : Int × Int := if validC l then (hs l, 0) else (0, 1)
def weightR (l : List Course) (bed : Int) : Int × Int := if askedE l bed = 0 then (wts (l.drop bed.toNat), 0) else (0, askedE l bed)

theorem drop_fits {l : List Course} {bed : Nat} (hv : validC l = true) (hb : bed < l.length) : Fits (wts (l.drop bed)) ∧ Fits (es (l.drop bed)) ∧ Fits (ns (l.drop bed)) ∧ 0 < wts (l.drop bed) := by
  obtain ⟨hall, hl1, hl2⟩ := valid_all hv
  obtain ⟨s1, s2, s3, s4, s5, s6, s7, s8, s9, s10, s11, s12⟩ := sb_of (all_drop hall bed)
  have hle : (l.drop bed).length = l.length - bed := by simp
  unfold Fits
  refine ⟨⟨?_, ?_⟩, ⟨?_, ?_⟩, ⟨?_, ?_⟩, ?_⟩ <;> omega

def centreR (l : List Course) (bed : Int) : (Int × Int) × (Int × Int) × Int :=
  if askedE l bed = 0 then
    ((gN (es (l.drop bed.toNat)) (wts (l.drop bed.toNat)), gD (es (l.drop bed.toNat)) (wts (l.drop bed.toNat))), (gN (ns (l.drop bed.toNat)) (wts (l.drop bed.toNat)), gD (ns (l.drop bed.toNat)) (wts (l.drop bed.toNat))), 0)
  else ((0, 0), (0, 0), askedE l bed)
def rat (q : Int × Int) : Value := .agg #[.int .i64 q.1, .int .i64 q.2]

end Go.Proofs.YtoelekhkgknneaaDoor
