/- Gear: what hangs from a link: hanging, below. -/
import Derived.Test.YtijlglanpgcdiaaGp
import Derived.Test.YtijlglanpgcdiaaRange
set_option linter.unusedSimpArgs false
set_option linter.unusedVariables false
namespace Go.Proofs.Ytijlglanpgcdiaa
open Go.RowKit Go.Shelf Go.Maps

theorem fm_congr {α β : Type} {f g : α → List β} : ∀ {l : List α}, (∀ x ∈ l, f x = g x) → l.flatMap f = l.flatMap g
  | [], _ => rfl
  | a :: l, h => by rw [List.flatMap_cons, List.flatMap_cons, h a (List.mem_cons_self ..), fm_congr fun x hx => h x (List.mem_cons_of_mem _ hx)]
def kids (r : List Lk) (i k : Nat) : List Nat := (List.range k).filter fun j => (lkAt r j).fr == (i : Int)
def dsF (r : List Lk) : Nat → Nat → List Nat
  | 0, _ => []
  | f + 1, i => i :: (kids r i r.length).flatMap (dsF r f)
/-- a link and all that hang from it, in the program's order -/
def ds (r : List Lk) (i : Nat) : List Nat := dsF r (r.length - i) i
theorem dsF_s (r : List Lk) (f i : Nat) : dsF r (f + 1) i = i :: (kids r i r.length).flatMap (dsF r f) := rfl
theorem kid_gt {g : List It} {r : List Lk} (hv : VR g r) {i j : Nat} (h : j ∈ kids r i r.length) : i < j ∧ j < r.length := by
  unfold kids at h
  rw [List.mem_filter] at h
  have hj : j < r.length := by simpa using h.1
  obtain ⟨x, hx⟩ := get_lt hj
  have hf := hv.frs hx
  have h2 := h.2
  rw [lkAt_of hx] at h2
  have : x.fr = (i : Int) := by simpa using h2
  omega
theorem dsF_any {g : List It} {r : List Lk} (hv : VR g r) : ∀ (f i : Nat), i < r.length → r.length - i ≤ f → dsF r f i = ds r i
  | 0, i, hi, hf => by omega
  | f + 1, i, hi, hf => by
    obtain ⟨q, hq⟩ : ∃ q, r.length - i = q + 1 := ⟨r.length - i - 1, by omega⟩
    rw [ds, hq, dsF_s, dsF_s]
    congr 1
    have hin : ∀ j ∈ kids r i r.length, dsF r f j = dsF r q j := fun j hj => by
      obtain ⟨h1, h2⟩ := kid_gt hv hj
      rw [dsF_any hv f j h2 (by omega), dsF_any hv q j h2 (by omega)]
    exact fm_congr hin
termination_by f i => (f, r.length - i)
decreasing_by all_goals simp_wf; omega
theorem ds_eq {g : List It} {r : List Lk} (hv : VR g r) {i : Nat} (hi : i < r.length) : ds r i = i :: (kids r i r.length).flatMap (ds r) := by
  obtain ⟨q, hq⟩ : ∃ q, r.length - i = q + 1 := ⟨r.length - i - 1, by omega⟩
  rw [ds, hq, dsF_s]
  congr 1
  exact fm_congr fun j hj => by
    obtain ⟨h1, h2⟩ := kid_gt hv hj
    exact dsF_any hv q j h2 (by omega)
theorem kids_yes {r : List Lk} {i k : Nat} (h : ((lkAt r k).fr == (i : Int)) = true) : kids r i (k + 1) = kids r i k ++ [k] := by
  unfold kids; rw [List.range_succ, List.filter_append]; simp [h]
theorem kids_no {r : List Lk} {i k : Nat} (h : ((lkAt r k).fr == (i : Int)) = false) : kids r i (k + 1) = kids r i k := by
  unfold kids; rw [List.range_succ, List.filter_append]; simp [h]
theorem kids_pre (r : List Lk) (i : Nat) {k n : Nat} (h : k ≤ n) : ∃ t, kids r i n = kids r i k ++ t := by
  obtain ⟨d, rfl⟩ : ∃ d, n = k + d := ⟨n - k, by omega⟩
  clear h
  induction d with
  | zero => exact ⟨[], by simp⟩
  | succ d ih =>
    obtain ⟨t, ht⟩ := ih
    rw [← Nat.add_assoc]
    cases hh : ((lkAt r (k + d)).fr == (i : Int))
    · exact ⟨t, by rw [kids_no hh, ht]⟩
    · exact ⟨t ++ [k + d], by rw [kids_yes hh, ht, List.append_assoc]⟩
theorem yield_any {m m' : Nat} {P : Program} {l : Nat} {args : Array Value} {W : World} {R : Ending → World → Prop} (h : YieldAt Fence.wide m P l args W R) : YieldAt Fence.wide m' P l args W R := by
  obtain ⟨fn, tmps, assign, body, hy, hr⟩ := h
  exact ⟨fn, tmps, assign, body, hy, hr.1, fun c cs _ => hr.2 c cs (room_wide _)⟩
attribute [local go_sem] Oper.semAt_some
abbrev noB : Nat → Prop := fun _ => False
set_option maxHeartbeats 2000000 in
set_option maxRecDepth 20000 in
theorem hang {g : List It} {r : List Lk} (hv : VR g r) (B : Option Addr) (d : Nat) (R : Nat → Prop) (hRr : ∀ ad, B = some ad → R ad.block) (L : Nat) (B0 : Nat) (J Jx : List Nat → (Nat → Prop) → World → Prop) (hJ : AbideIt B0 J) (xs : List Nat) (n : Nat)
    (hY : ∀ pre x rest W1, xs = pre ++ x :: rest → J pre noB W1 → YieldAt Fence.wide n Try.prog L #[.int .i64 (x : Nat)] W1 fun e W' =>
      (e = .returned (.bool true) ∧ J (pre ++ [x]) noB W' ∧ Stp (fun b => ¬ (noB b ∨ R b)) W1 W') ∨ (e = .returned (.bool false) ∧ Jx (pre ++ [x]) noB W')) :
    ∀ (f i : Nat) (pre rest : List Nat) (W1 : World), i < r.length → r.length - i ≤ f → xs = pre ++ (ds r i ++ rest) → J pre noB W1 → Rd Lk.cs 2 W1 B r →
      CallsIn Fence.wide 1 Try.prog 95 #[.slice B r.length d, .int .i64 (i : Nat), .func (.yield L) #[] #[]] W1 fun e W' =>
        (e = .returned (.bool true) ∧ J (pre ++ ds r i) noB W' ∧ Stp (fun b => ¬ (noB b ∨ R b)) W1 W') ∨ (e = .returned (.bool false) ∧ ∃ pre' rest', xs = pre' ++ rest' ∧ Jx pre' noB W') := by
  intro f
  induction f with
  | zero => intro i pre rest W1 hi hf; omega
  | succ f ih =>
    intro i pre rest W1 hi hf hxs hj hS
    have hr32 := hv.l1
    have hY1 := yield_any (m' := 1 - 1) (hY pre i ((kids r i r.length).flatMap (ds r) ++ rest) W1 (by rw [hxs, ds_eq hv hi]; rfl) hj)
    obtain ⟨fn', tmps, assign, body, hy, hRd⟩ := hY1
    have HRD := Lib.hid hRd
    have HXS := Lib.hid hxs
    have HIH := Lib.hid ih
    have HVV := Lib.hid hv
    have HJA := Lib.hid hJ
    have HRR := Lib.hid hRr
    have HDS := Lib.hid (ds_eq hv hi)
    have i0 : (0 : Int) ≤ (i : Int) := Int.natCast_nonneg _
    clear hRd hxs ih hv hY hj hJ hRr
    refine callsIn_of_wp Try.func95 rfl trivial ?_
    simp only [Try.ntmps95, List.size_toArray, List.length_cons, List.length_nil, Nat.reduceAdd, Nat.reduceSub, Array.replicate_succ, Array.replicate_zero, List.push_toArray, List.append_toArray, List.nil_append, List.cons_append]
    gi_wp2
    refine HRD.out.mono ?_
    rintro e W3 (⟨rfl, hj3, hk3⟩ | ⟨rfl, hjx⟩)
    rotate_left
    · gi_wp2
      go_ret
      exact .inr ⟨rfl, pre ++ [i], (kids r i r.length).flatMap (ds r) ++ rest, by rw [HXS.out, HDS.out]; simp, hjx⟩
    · have HJ3 := Lib.hid hj3
      clear hj3 hy HRD
      gi_wp2
      gi_loopw [15] (fun k wr => ∃ m : Nat, m ≤ r.length ∧ k = .int .i64 m ∧ Hid (J (pre ++ i :: (kids r i m).flatMap (ds r)) noB wr) ∧ Hid (Stp (fun b => ¬ (noB b ∨ R b)) W1 wr)) (fun k _ => r.length - (intOf k).toNat)
      case atStart => exact ⟨0, by omega, rfl, Lib.hid (by have := HJ3.out; simpa [kids] using this), Lib.hid hk3⟩
      case round =>
        clear hk3 HJ3
        obtain ⟨m, hm, rfl, HJ, HST⟩ := hrel
        have m0 : (0 : Int) ≤ (m : Int) := Int.natCast_nonneg _
        by_cases hlt : m < r.length
        · have m1 : (m : Int) < (r.length : Int) := by omega
          obtain ⟨x, b, off, hx, rfl, hb, c0, c1⟩ := rdL (Rd.stp hS HST.out (fun ad e k => k (.inr (HRR.out ad e)))) hlt
          have hfr := HVV.out.frs hx
          have HXA := Lib.hid (lkAt_of hx)
          have HJB := Lib.hid (fun o => HJA.out _ noB noB wr (wr.alloc o) HJ.out (fun _ h => h.elim) (fun _ h => h) (fun _ h => .inl h) (fun _ h => h.elim) ((Stp.refl _ _).alloc _))
          have HSB := Lib.hid (fun o => HST.out.alloc o)
          clear hx
          by_cases he : x.fr = (i : Int)
          · have HK := Lib.hid (kids_yes (r := r) (i := i) (k := m) (by rw [HXA.out, he]; simp))
            obtain ⟨t, ht⟩ := kids_pre r i (show m + 1 ≤ r.length by omega)
            have HT := Lib.hid ht
            clear ht
            have HC := Lib.hid (fun o => callsIn_wide.1 (HIH.out m (pre ++ i :: (kids r i m).flatMap (ds r)) (t.flatMap (ds r) ++ rest) (wr.alloc o) hlt (by omega)
              (by rw [HXS.out, HDS.out, HT.out, HK.out]; simp [List.flatMap_append]) (HJB.out o) (Rd.stp hS (HSB.out o) (fun ad e k => k (.inr (HRR.out ad e))))))
            have he1 : (x.fr == (i : Int)) = true := by simpa using he
            clear he hfr
            gi_wp2
            refine ⟨trivial, ?_⟩
            refine (callsIn_wide.2 (HC.out _)).mono ?_
            rintro e W4 (⟨rfl, hj4, hk4⟩ | ⟨rfl, pre', rest', hxx, hjx⟩)
            · have HJ4 := Lib.hid hj4
              have HS4 := Lib.hid ((HSB.out _).trans hk4)
              clear hj4 hk4
              gi_wp2
              go_roundw
              case rel => exact ⟨m + 1, by omega, by go_num, Lib.hid (by have := HJ4.out; rw [HK.out]; simpa [List.flatMap_append, List.append_assoc] using this), HS4⟩
              case measure => simp [intOf]; omega
            · have HXX := Lib.hid hxx
              clear hxx
              gi_wp2
              go_ret
              exact .inr ⟨rfl, pre', rest', HXX.out, hjx⟩
          · have HK := Lib.hid (kids_no (r := r) (i := i) (k := m) (by rw [HXA.out]; simpa using he))
            have he1 : (x.fr == (i : Int)) = false := by simpa using he
            have HE1 := Lib.hid he1
            clear hfr he1
            gi_wp2
            refine ⟨trivial, ?_⟩
            rw [HE1.out]
            gi_wp2
            go_roundw
            case rel => exact ⟨m + 1, by omega, by go_num, Lib.hid (by rw [HK.out]; exact HJB.out _), Lib.hid (HSB.out _)⟩
            case measure => simp [intOf]; omega
        · obtain rfl : m = r.length := by omega
          gi_wp2
          go_ret
          exact .inl ⟨rfl, by rw [HDS.out]; exact HJ.out, HST.out⟩
end Go.Proofs.Ytijlglanpgcdiaa
