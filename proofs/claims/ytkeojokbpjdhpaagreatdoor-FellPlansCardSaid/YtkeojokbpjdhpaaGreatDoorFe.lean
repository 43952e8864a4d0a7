/- Fell: asked and listed of the reference; things of the program. -/
import Derived.Test.YtkeojokbpjdhpaaGreatDoorFd
set_option linter.unusedSimpArgs false
set_option linter.unusedVariables false
namespace Go.Proofs.YtkeojokbpjdhpaaGreatDoor
open Go.RowKit

def askE (l : List Pr) (s : List Sp) : Int := if vP l = true then (if s.all isS = true then 0 else 7) else 1
theorem askE_z {l : List Pr} {s : List Sp} (h : askE l s = 0) : vP l = true ∧ s.all isS = true := by
  unfold askE at h
  split at h
  · split at h
    · exact ⟨by assumption, by assumption⟩
    · omega
  · omega
theorem askE_ok {l : List Pr} {s : List Sp} (h1 : vP l = true) (h2 : s.all isS = true) : askE l s = 0 := by unfold askE; rw [if_pos h1, if_pos h2]
theorem askE_one {l : List Pr} {s : List Sp} (h1 : vP l = false) : askE l s = 1 := by unfold askE; rw [h1]; rfl
theorem askE_seven {l : List Pr} {s : List Sp} (h1 : vP l = true) (h2 : s.all isS = false) : askE l s = 7 := by unfold askE; rw [h1, h2]; rfl
theorem take_step {s : List Sp} {k : Nat} {x : Sp} (hx : s[k]? = some x) (h : (s.take k).all isS = true) (h1 : isS x = true) : (s.take (k + 1)).all isS = true := by
  rw [List.take_add_one, hx, List.all_append, h]; simp [h1]
theorem all_no {s : List Sp} {k : Nat} {x : Sp} (hx : s[k]? = some x) (h1 : isS x = false) : s.all isS = false := by
  rw [List.all_eq_false]; exact ⟨x, List.mem_of_getElem? hx, by simp [h1]⟩
set_option maxHeartbeats 2000000 in
theorem r_asked (A B : Option Addr) (l : List Pr) (s : List Sp) (c d : Nat) (w : World) (hl : l.length ≤ 100000) (hs : s.length ≤ 100000) (hR : Rd Pr.cs 3 w A l) (hS : Rd Sp.cs 2 w B s) :
    Calls Tryz.prog 22 #[.slice A l.length c, .slice B s.length d] w fun e w' => e = .returned (.int .i64 (askE l s)) ∧ Below w.heap.size w w' := by
  have HV := Lib.hid (r_Valid A l c w hl hR)
  cases hv : vP l
  · have HE := Lib.hid (askE_one (s := s) hv)
    rw [hv] at HV
    clear hv
    go_enter Tryz.func22, Tryz.ntmps22
    go_wp2_with fail
    refine HV.out.mono ?_
    rintro e w1 ⟨rfl, hb1⟩
    go_wp2
    go_ret
    exact ⟨ret_int HE.out.symm, hb1⟩
  · have H0 := Lib.hid (askE_ok (s := s) hv)
    have H7 := Lib.hid (askE_seven (s := s) hv)
    rw [hv] at HV
    clear hv
    go_enter Tryz.func22, Tryz.ntmps22
    go_wp2_with fail
    refine HV.out.mono ?_
    rintro e w1 ⟨rfl, hb1⟩
    clear HV
    go_wp2_with fail
    go_loopw [5] (fun i wr => ∃ k : Nat, k ≤ s.length ∧ i = .int .i64 k ∧ Below w.heap.size w wr ∧ Hid ((s.take k).all isS = true)) (fun i _ => s.length - (intOf i).toNat)
    case atStart => exact ⟨0, by omega, rfl, hb1, Lib.hid rfl⟩
    case round =>
      clear hb1
      obtain ⟨k, hk, rfl, hbw, HI⟩ := hrel
      have k0 : (0 : Int) ≤ (k : Int) := Int.natCast_nonneg _
      by_cases hlt : k < s.length
      · have k1 : (k : Int) < (s.length : Int) := by omega
        obtain ⟨x, b, off, hx, rfl, hb, c0, c1⟩ := rdS (hS.on hbw) hlt
        cases h1 : isS x
        · have Q := Lib.hid (r_IsSpotV h1)
          have HE := Lib.hid (H7.out (all_no hx h1))
          clear h1 hx H0 H7 HI
          go_wp2_with fail
          refine (Q.out _).mono ?_
          rintro e w2 ⟨rfl, hb2⟩
          go_wp2
          go_ret
          exact ⟨ret_int HE.out.symm, below_tr hbw hb2⟩
        · have Q := Lib.hid (r_IsSpotV h1)
          have HT := Lib.hid (take_step hx HI.out h1)
          clear h1 hx H0 H7 HI
          go_wp2_with fail
          refine (Q.out _).mono ?_
          rintro e w2 ⟨rfl, hb2⟩
          go_wp2
          go_roundw
          case rel => exact ⟨k + 1, by omega, by go_num, below_tr hbw hb2, HT.out⟩
          case measure => simp [intOf]; omega
      · obtain rfl : k = s.length := by omega
        have HE := Lib.hid (H0.out (by have := HI.out; rwa [List.take_length] at this))
        go_wp2
        go_ret
        exact ⟨ret_int HE.out.symm, hbw⟩
theorem vP_nil : vP [] = true := by decide
def thB (s : List Sp) : Bool := decide (s.length ≤ 40) && s.all isS
theorem any_nisS (s : List Sp) : (s.any fun x => !isS x) = !s.all isS := by induction s <;> simp_all
def szI (n : Int) : Int := max n (-n)
theorem r_size (n : Int) (w : World) (h1 : -1000000000000 ≤ n) (h2 : n ≤ 1000000000000) : Calls Tryz.prog 90 #[.int .i64 n] w fun e w' => e = .returned (.int .i64 (szI n)) ∧ w = w' := by
  by_cases h : n < 0
  · go_enter Tryz.func90, Tryz.ntmps90
    go_wp2
    go_ret
    exact ⟨ret_int (by unfold szI; omega), rfl⟩
  · have h' : 0 ≤ n := by omega
    go_enter Tryz.func90, Tryz.ntmps90
    go_wp2
    go_ret
    exact ⟨ret_int (by unfold szI; omega), rfl⟩
end Go.Proofs.YtkeojokbpjdhpaaGreatDoor
