/- The parts of the proof, part 35. -/
import Derived.Test.YtgemlddincnfcaaGreatDoorP0
import Derived.Test.YtgemlddincnfcaaGreatDoorP34
set_option linter.unusedSimpArgs false
set_option linter.unusedVariables false
namespace Go.Proofs.YtgemlddincnfcaaGreatDoor.Fi
open Go.RowKit Go.Lib Tx
section
variable {b : Nat} {L : LS} {T : Nat → Prop} {w : World}
theorem f_GustA (hF : FirmAt w b L T) (hI : Inv L.val) (hL : LdW w) (g : Int) (h1 : I64 g) : Calls Tryz.prog 37 #[.pointer (some ⟨b, 0, none⟩), .int .i64 g] w (DoP (.gust g) b L T w) := by
 have HD := Lib.hid (f_doV (w := w) hF hI hL (show CmV w (.gust g) (.iface 153 (.agg #[.int .i64 g])) from And.intro h1 rfl))
 clear hF hI hL
 go_enter Tryz.func37, Tryz.ntmps37
 go_wp2_with (go_at_call 63; ((with_reducible refine HD.out.mono ?_); rintro e w3 ⟨rfl, h9⟩; replace h9 := Lib.hid h9))
 go_ret
 exact ⟨rfl, h9.out⟩
theorem f_DayA (hF : FirmAt w b L T) (hI : Inv L.val) (hL : LdW w)  : Calls Tryz.prog 27 #[.pointer (some ⟨b, 0, none⟩)] w (DoP (.day) b L T w) := by
 have HD := Lib.hid (f_doV (w := w) hF hI hL (show CmV w (.day) (.iface 135 (.agg #[])) from rfl))
 clear hF hI hL
 go_enter Tryz.func27, Tryz.ntmps27
 go_wp2_with (go_at_call 63; ((with_reducible refine HD.out.mono ?_); rintro e w3 ⟨rfl, h9⟩; replace h9 := Lib.hid h9))
 go_ret
 exact ⟨rfl, h9.out⟩
theorem f_DogA (hF : FirmAt w b L T) (hI : Inv L.val) (hL : LdW w) (g : Int) (h1 : I64 g) : Calls Tryz.prog 38 #[.pointer (some ⟨b, 0, none⟩), .int .i64 g] w (DoP (.dog g) b L T w) := by
 have HD := Lib.hid (f_doV (w := w) hF hI hL (show CmV w (.dog g) (.iface 154 (.agg #[.int .i64 g])) from And.intro h1 rfl))
 clear hF hI hL
 go_enter Tryz.func38, Tryz.ntmps38
 go_wp2_with (go_at_call 63; ((with_reducible refine HD.out.mono ?_); rintro e w3 ⟨rfl, h9⟩; replace h9 := Lib.hid h9))
 go_ret
 exact ⟨rfl, h9.out⟩
theorem f_RigA (hF : FirmAt w b L T) (hI : Inv L.val) (hL : LdW w) (g : Int) (h1 : I64 g) (A : Option Addr) (l : List G.Lk) (c : Nat) (h2 : l.length ≤ 100000) (h3 : ∀ k ∈ l, G.LW k) (h4 : Rd G.Lk.cs 2 w A l) : Calls Tryz.prog 39 #[.pointer (some ⟨b, 0, none⟩), .int .i64 g, .slice A l.length c] w (DoP (.rig g l) b L T w) := by
 have HD := Lib.hid (f_doV (w := w) hF hI hL (show CmV w (.rig g l) (.iface 155 (.agg #[.int .i64 g, .slice A l.length c])) from And.intro h1 (And.intro h2 (And.intro h3 ⟨A, c, rfl, h4⟩))))
 clear hF hI hL
 go_enter Tryz.func39, Tryz.ntmps39
 go_wp2_with (go_at_call 63; ((with_reducible refine HD.out.mono ?_); rintro e w3 ⟨rfl, h9⟩; replace h9 := Lib.hid h9))
 go_ret
 exact ⟨rfl, h9.out⟩
theorem f_StrikeA (hF : FirmAt w b L T) (hI : Inv L.val) (hL : LdW w) (g : Int) (h1 : I64 g) : Calls Tryz.prog 28 #[.pointer (some ⟨b, 0, none⟩), .int .i64 g] w (DoP (.strike g) b L T w) := by
 have HD := Lib.hid (f_doV (w := w) hF hI hL (show CmV w (.strike g) (.iface 137 (.agg #[.int .i64 g])) from And.intro h1 rfl))
 clear hF hI hL
 go_enter Tryz.func28, Tryz.ntmps28
 go_wp2_with (go_at_call 63; ((with_reducible refine HD.out.mono ?_); rintro e w3 ⟨rfl, h9⟩; replace h9 := Lib.hid h9))
 go_ret
 exact ⟨rfl, h9.out⟩
theorem f_UpA (hF : FirmAt w b L T) (hI : Inv L.val) (hL : LdW w) (g m : Int) (h1 : I64 g) (h2 : I64 m) : Calls Tryz.prog 40 #[.pointer (some ⟨b, 0, none⟩), .int .i64 g, .int .i64 m] w (DoP (.up g m) b L T w) := by
 have HD := Lib.hid (f_doV (w := w) hF hI hL (show CmV w (.up g m) (.iface 156 (.agg #[.int .i64 g, .int .i64 m])) from And.intro h1 (And.intro h2 rfl)))
 clear hF hI hL
 go_enter Tryz.func40, Tryz.ntmps40
 go_wp2_with (go_at_call 63; ((with_reducible refine HD.out.mono ?_); rintro e w3 ⟨rfl, h9⟩; replace h9 := Lib.hid h9))
 go_ret
 exact ⟨rfl, h9.out⟩
theorem f_DownA (hF : FirmAt w b L T) (hI : Inv L.val) (hL : LdW w) (g m : Int) (h1 : I64 g) (h2 : I64 m) : Calls Tryz.prog 26 #[.pointer (some ⟨b, 0, none⟩), .int .i64 g, .int .i64 m] w (DoP (.down g m) b L T w) := by
 have HD := Lib.hid (f_doV (w := w) hF hI hL (show CmV w (.down g m) (.iface 133 (.agg #[.int .i64 g, .int .i64 m])) from And.intro h1 (And.intro h2 rfl)))
 clear hF hI hL
 go_enter Tryz.func26, Tryz.ntmps26
 go_wp2_with (go_at_call 63; ((with_reducible refine HD.out.mono ?_); rintro e w3 ⟨rfl, h9⟩; replace h9 := Lib.hid h9))
 go_ret
 exact ⟨rfl, h9.out⟩
theorem f_LiftA (hF : FirmAt w b L T) (hI : Inv L.val) (hL : LdW w) (g : Int) (h1 : I64 g) (A : Option Addr) (l : List Int) (c : Nat) (h2 : l.length ≤ 100000) (h3 : ∀ k ∈ l, I64 k) (h4 : Rd zC 1 w A l) : Calls Tryz.prog 41 #[.pointer (some ⟨b, 0, none⟩), .int .i64 g, .slice A l.length c] w (DoP (.lift g l) b L T w) := by
 have HD := Lib.hid (f_doV (w := w) hF hI hL (show CmV w (.lift g l) (.iface 158 (.agg #[.int .i64 g, .slice A l.length c])) from And.intro h1 (And.intro h2 (And.intro h3 ⟨A, c, rfl, h4⟩))))
 clear hF hI hL
 go_enter Tryz.func41, Tryz.ntmps41
 go_wp2_with (go_at_call 63; ((with_reducible refine HD.out.mono ?_); rintro e w3 ⟨rfl, h9⟩; replace h9 := Lib.hid h9))
 go_ret
 exact ⟨rfl, h9.out⟩
theorem f_LookA (hF : FirmAt w b L T) (hI : Inv L.val) (hL : LdW w) (s : ByteArray) (h1 : s.size ≤ maxLen) : Calls Tryz.prog 42 #[.pointer (some ⟨b, 0, none⟩), .string s] w (DoP (.look s) b L T w) := by
 have HD := Lib.hid (f_doV (w := w) hF hI hL (show CmV w (.look s) (.iface 160 (.agg #[.string s])) from And.intro h1 rfl))
 clear hF hI hL
 go_enter Tryz.func42, Tryz.ntmps42
 go_wp2_with (go_at_call 63; ((with_reducible refine HD.out.mono ?_); rintro e w3 ⟨rfl, h9⟩; replace h9 := Lib.hid h9))
 go_ret
 exact ⟨rfl, h9.out⟩
theorem f_CallA (hF : FirmAt w b L T) (hI : Inv L.val) (hL : LdW w) (s : ByteArray) (h1 : s.size ≤ maxLen) : Calls Tryz.prog 43 #[.pointer (some ⟨b, 0, none⟩), .string s] w (DoP (.call s) b L T w) := by
 have HD := Lib.hid (f_doV (w := w) hF hI hL (show CmV w (.call s) (.iface 162 (.agg #[.string s])) from And.intro h1 rfl))
 clear hF hI hL
 go_enter Tryz.func43, Tryz.ntmps43
 go_wp2_with (go_at_call 63; ((with_reducible refine HD.out.mono ?_); rintro e w3 ⟨rfl, h9⟩; replace h9 := Lib.hid h9))
 go_ret
 exact ⟨rfl, h9.out⟩
theorem f_FellA (hF : FirmAt w b L T) (hI : Inv L.val) (hL : LdW w) (g : Int) (h1 : I64 g) : Calls Tryz.prog 29 #[.pointer (some ⟨b, 0, none⟩), .int .i64 g] w (DoP (.cut g) b L T w) := by
 have HD := Lib.hid (f_doV (w := w) hF hI hL (show CmV w (.cut g) (.iface 139 (.agg #[.int .i64 g])) from And.intro h1 rfl))
 clear hF hI hL
 go_enter Tryz.func29, Tryz.ntmps29
 go_wp2_with (go_at_call 63; ((with_reducible refine HD.out.mono ?_); rintro e w3 ⟨rfl, h9⟩; replace h9 := Lib.hid h9))
 go_ret
 exact ⟨rfl, h9.out⟩
theorem f_BillA (hF : FirmAt w b L T) (hI : Inv L.val) (hL : LdW w) (g : Int) (h1 : I64 g) : Calls Tryz.prog 44 #[.pointer (some ⟨b, 0, none⟩), .int .i64 g] w (DoP (.bill g) b L T w) := by
 have HD := Lib.hid (f_doV (w := w) hF hI hL (show CmV w (.bill g) (.iface 163 (.agg #[.int .i64 g])) from And.intro h1 rfl))
 clear hF hI hL
 go_enter Tryz.func44, Tryz.ntmps44
 go_wp2_with (go_at_call 63; ((with_reducible refine HD.out.mono ?_); rintro e w3 ⟨rfl, h9⟩; replace h9 := Lib.hid h9))
 go_ret
 exact ⟨rfl, h9.out⟩
end
def opC (o : Op) : Cm :=
 if o.k % 12 = 0 then .gust o.n
 else if o.k % 12 = 1 then .day
 else if o.k % 12 = 2 then .dog o.st
 else if o.k % 12 = 3 then .rig o.st o.lk.l
 else if o.k % 12 = 4 then .strike o.n
 else if o.k % 12 = 5 then .up o.st o.n
 else if o.k % 12 = 6 then .down o.st o.n
 else if o.k % 12 = 7 then .lift o.n o.ld.l
 else if o.k % 12 = 8 then .look o.nm
 else if o.k % 12 = 9 then .call o.nm
 else if o.k % 12 = 10 then .cut o.st
 else .bill o.st
structure OpA (w : World) (o : Op) : Prop where
 k : o.k < 256
 st : I64 o.st
 n : I64 o.n
 nm : o.nm.size ≤ maxLen
 ll : o.lk.l.length ≤ 100000
 lk : ∀ k ∈ o.lk.l, G.LW k
 rl : Rd G.Lk.cs 2 w o.lk.a o.lk.l
 dl : o.ld.l.length ≤ 100000
 ld : ∀ k ∈ o.ld.l, I64 k
 rd : Rd zC 1 w o.ld.a o.ld.l
theorem DoP.on {c : Cm} {b : Nat} {L : LS} {T : Nat → Prop} {w w1 w' : World} {e : Ending} (h : DoP c b L T w1 e w') (hF : FirmAt w b L T) (hb : Below w.heap.size w w1) : DoP c b L T w e w' := by
 obtain ⟨he, L', T', hv, hf⟩ := h
 exact ⟨he, L', T', hv, (Fut.of_below hF hb).trans hf⟩
set_option maxHeartbeats 8000000 in
set_option maxRecDepth 20000 in
theorem f_madeA {b : Nat} {L : LS} {T : Nat → Prop} {w : World} (hF : FirmAt w b L T) (hI : Inv L.val) (hL : LdW w) (o : Op) (h : OpA w o) : Calls Tryz.prog 12 #[.pointer (some ⟨b, 0, none⟩), .agg o.cs.toArray] w (DoP (opC o) b L T w) := by
 have x0 := Blk.new w 50 o.cs.toArray
 have d0 := x0.cell 0
 have d1 := x0.cell 1
 have d2 := x0.cell 2
 have d3 := x0.cell 3
 have d4 := x0.cell 4
 have d5 := x0.cell 5
 have B0 := bl_alloc (below_refl w) (.cells o.cs.toArray 50)
 simp only [GA] at d0 d1 d2 d3 d4 d5
 have hk8 := h.k
 have hkm : (o.k : Int) % 12 = ((o.k % 12 : Nat) : Int) := by omega
 have HC := Lib.hid (show opC o = opC o from rfl)
 obtain hk0 | hk0 | hk0 | hk0 | hk0 | hk0 | hk0 | hk0 | hk0 | hk0 | hk0 | hk0 : o.k % 12 = 0 ∨ o.k % 12 = 1 ∨ o.k % 12 = 2 ∨ o.k % 12 = 3 ∨ o.k % 12 = 4 ∨ o.k % 12 = 5 ∨ o.k % 12 = 6 ∨ o.k % 12 = 7 ∨ o.k % 12 = 8 ∨ o.k % 12 = 9 ∨ o.k % 12 = 10 ∨ o.k % 12 = 11 := by omega
 ·have HD := Lib.hid (show Calls Tryz.prog 37 #[.pointer (some ⟨b, 0, none⟩), .int .i64 o.n] _ (DoP (opC o) b L T _) from by rw [show opC o = (.gust o.n) by simp [opC, hk0]]; exact f_GustA (hF.on B0) hI (hL.on B0) o.n h.n)
  rw [hk0] at hkm
  generalize opC o = C at *
  clear hL hI h HC
  replace hF := Lib.hid hF
  go_enter Tryz.func12, Tryz.ntmps12
  go_wp2_with (go_at_call 37; ((with_reducible refine HD.out.mono ?_); rintro e w3 ⟨rfl, h9⟩; replace h9 := Lib.hid h9))
  go_ret
  exact DoP.on ⟨rfl, h9.out⟩ hF.out B0
 ·have HD := Lib.hid (show Calls Tryz.prog 27 #[.pointer (some ⟨b, 0, none⟩)] _ (DoP (opC o) b L T _) from by rw [show opC o = .day by simp [opC, hk0]]; exact f_DayA (hF.on B0) hI (hL.on B0) )
  rw [hk0] at hkm
  generalize opC o = C at *
  clear hL hI h HC
  replace hF := Lib.hid hF
  go_enter Tryz.func12, Tryz.ntmps12
  go_wp2_with (go_at_call 27; ((with_reducible refine HD.out.mono ?_); rintro e w3 ⟨rfl, h9⟩; replace h9 := Lib.hid h9))
  go_ret
  exact DoP.on ⟨rfl, h9.out⟩ hF.out B0
 ·have HD := Lib.hid (show Calls Tryz.prog 38 #[.pointer (some ⟨b, 0, none⟩), .int .i64 o.st] _ (DoP (opC o) b L T _) from by rw [show opC o = (.dog o.st) by simp [opC, hk0]]; exact f_DogA (hF.on B0) hI (hL.on B0) o.st h.st)
  rw [hk0] at hkm
  generalize opC o = C at *
  clear hL hI h HC
  replace hF := Lib.hid hF
  go_enter Tryz.func12, Tryz.ntmps12
  go_wp2_with (go_at_call 38; ((with_reducible refine HD.out.mono ?_); rintro e w3 ⟨rfl, h9⟩; replace h9 := Lib.hid h9))
  go_ret
  exact DoP.on ⟨rfl, h9.out⟩ hF.out B0
 ·have HD := Lib.hid (show Calls Tryz.prog 39 #[.pointer (some ⟨b, 0, none⟩), .int .i64 o.st, .slice o.lk.a o.lk.l.length o.lk.c] _ (DoP (opC o) b L T _) from by rw [show opC o = (.rig o.st o.lk.l) by simp [opC, hk0]]; exact f_RigA (hF.on B0) hI (hL.on B0) o.st h.st _ o.lk.l _ h.ll h.lk (h.rl.on B0))
  rw [hk0] at hkm
  generalize opC o = C at *
  clear hL hI h HC
  replace hF := Lib.hid hF
  go_enter Tryz.func12, Tryz.ntmps12
  go_wp2_with (go_at_call 39; ((with_reducible refine HD.out.mono ?_); rintro e w3 ⟨rfl, h9⟩; replace h9 := Lib.hid h9))
  go_ret
  exact DoP.on ⟨rfl, h9.out⟩ hF.out B0
 ·have HD := Lib.hid (show Calls Tryz.prog 28 #[.pointer (some ⟨b, 0, none⟩), .int .i64 o.n] _ (DoP (opC o) b L T _) from by rw [show opC o = (.strike o.n) by simp [opC, hk0]]; exact f_StrikeA (hF.on B0) hI (hL.on B0) o.n h.n)
  rw [hk0] at hkm
  generalize opC o = C at *
  clear hL hI h HC
  replace hF := Lib.hid hF
  go_enter Tryz.func12, Tryz.ntmps12
  go_wp2_with (go_at_call 28; ((with_reducible refine HD.out.mono ?_); rintro e w3 ⟨rfl, h9⟩; replace h9 := Lib.hid h9))
  go_ret
  exact DoP.on ⟨rfl, h9.out⟩ hF.out B0
 ·have HD := Lib.hid (show Calls Tryz.prog 40 #[.pointer (some ⟨b, 0, none⟩), .int .i64 o.st, .int .i64 o.n] _ (DoP (opC o) b L T _) from by rw [show opC o = (.up o.st o.n) by simp [opC, hk0]]; exact f_UpA (hF.on B0) hI (hL.on B0) o.st o.n h.st h.n)
  rw [hk0] at hkm
  generalize opC o = C at *
  clear hL hI h HC
  replace hF := Lib.hid hF
  go_enter Tryz.func12, Tryz.ntmps12
  go_wp2_with (go_at_call 40; ((with_reducible refine HD.out.mono ?_); rintro e w3 ⟨rfl, h9⟩; replace h9 := Lib.hid h9))
  go_ret
  exact DoP.on ⟨rfl, h9.out⟩ hF.out B0
 ·have HD := Lib.hid (show Calls Tryz.prog 26 #[.pointer (some ⟨b, 0, none⟩), .int .i64 o.st, .int .i64 o.n] _ (DoP (opC o) b L T _) from by rw [show opC o = (.down o.st o.n) by simp [opC, hk0]]; exact f_DownA (hF.on B0) hI (hL.on B0) o.st o.n h.st h.n)
  rw [hk0] at hkm
  generalize opC o = C at *
  clear hL hI h HC
  replace hF := Lib.hid hF
  go_enter Tryz.func12, Tryz.ntmps12
  go_wp2_with (go_at_call 26; ((with_reducible refine HD.out.mono ?_); rintro e w3 ⟨rfl, h9⟩; replace h9 := Lib.hid h9))
  go_ret
  exact DoP.on ⟨rfl, h9.out⟩ hF.out B0
 ·have HD := Lib.hid (show Calls Tryz.prog 41 #[.pointer (some ⟨b, 0, none⟩), .int .i64 o.n, .slice o.ld.a o.ld.l.length o.ld.c] _ (DoP (opC o) b L T _) from by rw [show opC o = (.lift o.n o.ld.l) by simp [opC, hk0]]; exact f_LiftA (hF.on B0) hI (hL.on B0) o.n h.n _ o.ld.l _ h.dl h.ld (h.rd.on B0))
  rw [hk0] at hkm
  generalize opC o = C at *
  clear hL hI h HC
  replace hF := Lib.hid hF
  go_enter Tryz.func12, Tryz.ntmps12
  go_wp2_with (go_at_call 41; ((with_reducible refine HD.out.mono ?_); rintro e w3 ⟨rfl, h9⟩; replace h9 := Lib.hid h9))
  go_ret
  exact DoP.on ⟨rfl, h9.out⟩ hF.out B0
 ·have HD := Lib.hid (show Calls Tryz.prog 42 #[.pointer (some ⟨b, 0, none⟩), .string o.nm] _ (DoP (opC o) b L T _) from by rw [show opC o = (.look o.nm) by simp [opC, hk0]]; exact f_LookA (hF.on B0) hI (hL.on B0) o.nm h.nm)
  rw [hk0] at hkm
  generalize opC o = C at *
  clear hL hI h HC
  replace hF := Lib.hid hF
  go_enter Tryz.func12, Tryz.ntmps12
  go_wp2_with (go_at_call 42; ((with_reducible refine HD.out.mono ?_); rintro e w3 ⟨rfl, h9⟩; replace h9 := Lib.hid h9))
  go_ret
  exact DoP.on ⟨rfl, h9.out⟩ hF.out B0
 ·have HD := Lib.hid (show Calls Tryz.prog 43 #[.pointer (some ⟨b, 0, none⟩), .string o.nm] _ (DoP (opC o) b L T _) from by rw [show opC o = (.call o.nm) by simp [opC, hk0]]; exact f_CallA (hF.on B0) hI (hL.on B0) o.nm h.nm)
  rw [hk0] at hkm
  generalize opC o = C at *
  clear hL hI h HC
  replace hF := Lib.hid hF
  go_enter Tryz.func12, Tryz.ntmps12
  go_wp2_with (go_at_call 43; ((with_reducible refine HD.out.mono ?_); rintro e w3 ⟨rfl, h9⟩; replace h9 := Lib.hid h9))
  go_ret
  exact DoP.on ⟨rfl, h9.out⟩ hF.out B0
 ·have HD := Lib.hid (show Calls Tryz.prog 29 #[.pointer (some ⟨b, 0, none⟩), .int .i64 o.st] _ (DoP (opC o) b L T _) from by rw [show opC o = (.cut o.st) by simp [opC, hk0]]; exact f_FellA (hF.on B0) hI (hL.on B0) o.st h.st)
  rw [hk0] at hkm
  generalize opC o = C at *
  clear hL hI h HC
  replace hF := Lib.hid hF
  go_enter Tryz.func12, Tryz.ntmps12
  go_wp2_with (go_at_call 29; ((with_reducible refine HD.out.mono ?_); rintro e w3 ⟨rfl, h9⟩; replace h9 := Lib.hid h9))
  go_ret
  exact DoP.on ⟨rfl, h9.out⟩ hF.out B0
 ·have HD := Lib.hid (show Calls Tryz.prog 44 #[.pointer (some ⟨b, 0, none⟩), .int .i64 o.st] _ (DoP (opC o) b L T _) from by rw [show opC o = (.bill o.st) by simp [opC, hk0]]; exact f_BillA (hF.on B0) hI (hL.on B0) o.st h.st)
  rw [hk0] at hkm
  generalize opC o = C at *
  clear hL hI h HC
  replace hF := Lib.hid hF
  go_enter Tryz.func12, Tryz.ntmps12
  go_wp2_with (go_at_call 44; ((with_reducible refine HD.out.mono ?_); rintro e w3 ⟨rfl, h9⟩; replace h9 := Lib.hid h9))
  go_ret
  exact DoP.on ⟨rfl, h9.out⟩ hF.out B0
end Go.Proofs.YtgemlddincnfcaaGreatDoor.Fi
namespace Go.Proofs.YtgemlddincnfcaaGreatDoor.Fi
open Go.ChangeShapes Go.WideShapes Go.ChangeAt Go.RowKit Go.Deep Go.Joins Tx
theorem i64_of {n : Int} (h : (Lit.int .i64 n).wf = true) : -9223372036854775808 ≤ n ∧ n ≤ 9223372036854775807 := by
 have h1 : (decide (IntKind.i64.min ≤ n) && decide (n ≤ IntKind.i64.max)) = true := h
 rw [show IntKind.i64.min = -9223372036854775808 from rfl, show IntKind.i64.max = 9223372036854775807 from rfl, Bool.and_eq_true, decide_eq_true_eq, decide_eq_true_eq] at h1
 exact ⟨h1.1, h1.2⟩
theorem u8_of {n : Int} (h : (Lit.int .u8 n).wf = true) : 0 ≤ n ∧ n ≤ 255 := by
 have h1 : (decide (IntKind.u8.min ≤ n) && decide (n ≤ IntKind.u8.max)) = true := h
 rw [show IntKind.u8.min = 0 from rfl, show IntKind.u8.max = 255 from rfl, Bool.and_eq_true, decide_eq_true_eq, decide_eq_true_eq] at h1
 exact ⟨h1.1, h1.2⟩
section
variable {H : Type} {enc : TypeId × Value → H} {P : Program} {w : World} {base : Nat} {spare : Nat → Bool} {held : Bool}
theorem open_rdin {α : Type} (encα : α → List Value) (ok : α → Prop) (sz : Nat) {t e : TypeId} {n0 : Nat} {cs : List Value} {x : DataW H × List MemPlace} (ht : P.underlying t = some (.slice e)) (hC : P.cellsOf e = sz) (hz : 0 < sz)
  (hdec : ∀ n cs x, DataW.trod enc P w base spare held n e cs = some x → ∃ a : α, cs = encα a ∧ ok a)
  (hf : DataW.trod enc P w base spare held n0 t cs = some x) :
  ∃ (A : Option Addr) (l : List α) (c : Nat), cs = [.slice A l.length c] ∧ Rd encα sz w A l ∧ l.length ≤ maxLen ∧ (∀ a ∈ l, ok a) ∧ l.length ≤ c ∧ c ≤ maxLen := by
 rcases open_slice ht hf with ⟨hcs, _⟩ | ⟨a, n, c, m, n', D, Pl, hcs, _, hl, hm, hmm, _, hi⟩
 ·exact ⟨none, [], 0, hcs, Rd.nil_, by simp, by simp, by simp, by simp⟩
 ·rw [hC] at hi
  have hlm : n ≤ m := by rw [hmm]; split <;> omega
  have hex : ∀ i, i < n → ∃ y : α, ok y ∧ ∀ j u, (encα y)[j]? = some u → w.cell? (a.add (i * sz + j)) = some u := fun i hin => by
   obtain ⟨cs', hc, htr⟩ := hi i (by omega)
   obtain ⟨y, rfl, hy⟩ := hdec _ _ _ htr
   obtain ⟨_, hlen, hat⟩ := World.cells?_some hc
   refine ⟨y, hy, fun j u hu => ?_⟩
   have hj : j < sz := by
    rcases Nat.lt_or_ge j sz with h1 | h1
    ·exact h1
    ·rw [List.getElem?_eq_none (by omega)] at hu; cases hu
   have := hat j hj
   rw [hu] at this
   rwa [Go.Deep.add_add] at this
  obtain ⟨l, hll, hlp⟩ := list_of n hex
  subst hll
  refine ⟨some a, l, c, hcs, fun hne => ?_, by omega, fun y hy => ?_, hl, hm⟩
  ·have hl0 : 0 < l.length := List.length_pos_iff.2 hne
   obtain ⟨cs', hc, htr⟩ := hi 0 (by omega)
   obtain ⟨_, hlen, hat⟩ := World.cells?_some hc
   have hc0 := hat 0 hz
   rw [List.getElem?_eq_getElem (by omega)] at hc0
   simp only [Nat.zero_mul] at hc0
   have hspot : a.spot = none := by
    have hs := World.cell?_spot hc0
    simpa [Addr.add] using hs
   obtain ⟨b, off, spot⟩ := a
   simp only at hspot
   subst hspot
   have hb := World.block_lt_of_cell? w _ hc0
   refine ⟨b, off, rfl, by simpa [Addr.add] using hb, fun k x hx j v hv => ?_⟩
   have := (hlp k x hx).2 j v hv
   rw [addr_add0] at this
   rw [Nat.add_assoc]; exact this
  ·obtain ⟨i, hi', hiy⟩ := List.getElem_of_mem hy
   exact (hlp i y (by rw [List.getElem?_eq_getElem hi', hiy])).1
end
section
variable {H : Type} {enc : TypeId × Value → H} {w : World} {base : Nat} {spare : Nat → Bool} {held : Bool}
theorem dec_link (n : Nat) (cs : List Value) (x) (h : DataW.trod enc Tryz.prog w base spare held n 79 cs = some x) : ∃ a : G.Lk, cs = a.cs ∧ G.LW a := by
 obtain ⟨hl, hf⟩ := dec_fields Tryz.underlying79 (by kernel_rfl) (by kernel_rfl) n cs x h
 match cs, hl with
 | [c0, c1], _ =>
  obtain ⟨m0, y0, e0⟩ := hf 0 _ c0 rfl rfl
  obtain ⟨m1, y1, e1⟩ := hf 1 _ c1 rfl rfl
  obtain ⟨a0, g0, _, f0⟩ := DataW.trod_string Tryz.underlying9 e0
  obtain ⟨a1, g1, f1⟩ := dec_int Tryz.underlying3 _ _ _ e1
  cases g0; cases g1
  exact ⟨⟨a0, a1⟩, rfl, f0, (i64_of f1).1, (i64_of f1).2⟩
theorem dec_int1 (n : Nat) (cs : List Value) (x) (h : DataW.trod enc Tryz.prog w base spare held n 3 cs = some x) : ∃ a : Int, cs = zC a ∧ I64 a := by
 obtain ⟨a, e, f⟩ := dec_int Tryz.underlying3 _ _ _ h
 exact ⟨a, e, i64_of f⟩
structure OpIn (w : World) (o : Op) : Prop where
 k : o.k < 256
 st : I64 o.st
 n : I64 o.n
 nm : o.nm.size ≤ maxLen
 rk : Rd G.Lk.cs 2 w o.lk.a o.lk.l
 lk : ∀ k ∈ o.lk.l, G.LW k
 lc : o.lk.l.length ≤ o.lk.c ∧ o.lk.c ≤ maxLen
 rd : Rd zC 1 w o.ld.a o.ld.l
 ld : ∀ z ∈ o.ld.l, I64 z
 dc : o.ld.l.length ≤ o.ld.c ∧ o.ld.c ≤ maxLen
theorem dec_op (n : Nat) (cs : List Value) (x) (h : DataW.trod enc Tryz.prog w base spare held n 50 cs = some x) : ∃ a : Op, cs = a.cs ∧ OpIn w a := by
 obtain ⟨hl, hf⟩ := dec_fields Tryz.underlying50 (by kernel_rfl) (by kernel_rfl) n cs x h
 match cs, hl with
 | [c0, c1, c2, c3, c4, c5], _ =>
  obtain ⟨m0, y0, e0⟩ := hf 0 _ c0 rfl rfl
  obtain ⟨m1, y1, e1⟩ := hf 1 _ c1 rfl rfl
  obtain ⟨m2, y2, e2⟩ := hf 2 _ c2 rfl rfl
  obtain ⟨m3, y3, e3⟩ := hf 3 _ c3 rfl rfl
  obtain ⟨m4, y4, e4⟩ := hf 4 _ c4 rfl rfl
  obtain ⟨m5, y5, e5⟩ := hf 5 _ c5 rfl rfl
  obtain ⟨a0, g0, f0⟩ := dec_int Tryz.underlying5 _ _ _ e0
  obtain ⟨a1, g1, f1⟩ := dec_int Tryz.underlying3 _ _ _ e1
  obtain ⟨a2, g2, f2⟩ := dec_int Tryz.underlying3 _ _ _ e2
  obtain ⟨a3, g3, _, f3⟩ := DataW.trod_string Tryz.underlying9 e3
  obtain ⟨A4, l4, d4, g4, h41, h42, h43, h44, h45⟩ := open_rdin G.Lk.cs G.LW 2 Tryz.underlying47 (by kernel_rfl) (by decide) (fun n cs x h => dec_link n cs x h) e4
  obtain ⟨A5, l5, d5, g5, h51, h52, h53, h54, h55⟩ := open_rdin zC I64 1 Tryz.underlying48 (by kernel_rfl) (by decide) (fun n cs x h => dec_int1 n cs x h) e5
  cases g0; cases g1; cases g2; cases g3; cases g4; cases g5
  have hu := u8_of f0
  obtain ⟨k, rfl⟩ := Int.eq_ofNat_of_zero_le hu.1
  exact ⟨⟨k, a1, a2, a3, ⟨A4, l4, d4⟩, ⟨A5, l5, d5⟩⟩, rfl, by have := hu.2; show k < 256; omega, i64_of f1, i64_of f2, f3, h41, h43, ⟨h44, h45⟩, h51, h53, ⟨h54, h55⟩⟩
end
theorem OpIn.ok {w : World} {o : Op} (h : OpIn w o) : OpOk w o := ⟨h.rk, Nat.le_trans h.lc.1 h.lc.2, fun k hk => (h.lk k hk).1, h.nm, h.rd, Nat.le_trans h.dc.1 h.dc.2⟩
end Go.Proofs.YtgemlddincnfcaaGreatDoor.Fi
namespace Go.Proofs.YtgemlddincnfcaaGreatDoor.Fi
open Go.RowKit Go.Lib Tx
theorem opA_of {w : World} {o : Op} (h : OpIn w o) (hb : bigO o = false) : OpA w o := by
 unfold bigO at hb
 simp only [Bool.or_eq_false_iff, decide_eq_false_iff_not] at hb
 exact ⟨h.k, h.st, h.n, h.nm, by omega, h.lk, h.rk, by omega, h.ld, h.rd⟩
theorem OpA.on {w w' : World} {o : Op} (h : OpA w o) (hb : Below w.heap.size w w') : OpA w' o := ⟨h.k, h.st, h.n, h.nm, h.ll, h.lk, h.rl.on hb, h.dl, h.ld, h.rd.on hb⟩
theorem OpIn.on {w w' : World} {o : Op} (h : OpIn w o) (hb : Below w.heap.size w w') : OpIn w' o := ⟨h.k, h.st, h.n, h.nm, h.rk.on hb, h.lk, h.lc, h.rd.on hb, h.ld, h.dc⟩
theorem opC_ok {w : World} {o : Op} (h : OpA w o) : CmOk (opC o) := by
 unfold opC
 repeat' split
 all_goals first | exact h.n | exact h.st | exact trivial | exact ⟨h.st, h.ll, h.lk⟩ | exact ⟨h.st, h.n⟩ | exact ⟨h.n, h.dl, h.ld⟩ | exact h.nm
theorem many_no {l : List Op} (h : manyB l = false) : l.length ≤ 40 ∧ ∀ o ∈ l, bigO o = false := by
 unfold manyB at h
 rw [Bool.or_eq_false_iff, decide_eq_false_iff_not] at h
 refine ⟨by omega, fun o ho => ?_⟩
 have := List.any_eq_false.1 h.2 o ho
 simpa using this
theorem deed_x {c : Cm} {x y : St} (h : deed c x = .ok y) : y.x = x.x := by
 cases c <;> (unfold deed at h; dsimp only at h; (repeat' split at h) <;> first | (cases h; done) | (cases h; rfl))
theorem doC_x {c : Cm} {x : St} : (doC c x).2.x = x.x := by
 unfold doC
 split
 ·rfl
 ·split
  ·rfl
  ·rename_i y hy
   exact (deed_x hy : y.x = x.x)
theorem lift_ok {x : St} {r : Int} {l : List Int} (h : (doC (.lift r l) x).1 = 0) :
  (doC (.lift r l) x).2.day = x.day ∧ 0 ≤ r ∧ r < (x.rigs.length : Int) ∧ G.wkE x.items (rigA x r).lk x.back x.day l = 0 ∧ G.mayB x.items (rigA x r).lk x.back x.day l = true := by
 by_cases hl : ¬ x.lines.length < 2000
 ·unfold doC at h; rw [if_pos hl] at h; exact absurd (show (4 : Int) = 0 from h) (by decide)
 by_cases h1 : rtB x r = false
 ·unfold doC deed at h; rw [if_neg hl] at h; dsimp only at h; rw [if_pos h1] at h; exact absurd (show (5 : Int) = 0 from h) (by decide)
 by_cases h2 : (decide (0 < (rigA x r).lk.length) && decide (0 < (siteA x (rigA x r).st).men)) = false
 ·unfold doC deed at h; rw [if_neg hl] at h; dsimp only at h; rw [if_neg h1, if_pos h2] at h; exact absurd (show (10 : Int) = 0 from h) (by decide)
 by_cases h3 : goB x x.gusts = false
 ·unfold doC deed at h; rw [if_neg hl] at h; dsimp only at h; rw [if_neg h1, if_neg h2, if_pos h3] at h; exact absurd (show (11 : Int) = 0 from h) (by decide)
 by_cases h4 : G.wkE x.items (rigA x r).lk x.back x.day l ≠ 0
 ·unfold doC deed at h; rw [if_neg hl] at h; dsimp only at h; rw [if_neg h1, if_neg h2, if_neg h3, if_pos h4] at h; exact absurd h h4
 by_cases h5 : G.mayB x.items (rigA x r).lk x.back x.day l = false
 ·unfold doC deed at h; rw [if_neg hl] at h; dsimp only at h; rw [if_neg h1, if_neg h2, if_neg h3, if_neg h4, if_pos h5] at h; exact absurd (show (12 : Int) = 0 from h) (by decide)
 have h1 : rtB x r = true := by simpa using h1
 unfold rtB at h1
 have h1 := wn_iff.1 h1
 refine ⟨?_, by omega, by omega, by simpa using h4, by simpa using h5⟩
 unfold doC deed
 rw [if_neg hl]
 dsimp only
 rw [if_neg (by unfold rtB; rw [wn_iff.2 h1]; decide), if_neg h2, if_neg h3, if_neg h4, if_neg h5]
structure NwQ (x : LSu) (w : World) (b : Nat) (L : LS) (T : Nat → Prop) (w' : World) : Prop where
 bel : Below w.heap.size w w'
 at_ : FirmAt w' b L T
 val : L.val = new x.val
 inv : Inv L.val
 tt : ∀ g, T g → w.heap.size ≤ g ∧ g < w'.heap.size
 ft : ∀ g, Foot b L g → w.heap.size ≤ g
theorem f_NewT {T : Nat → Prop} (x : LSu) (w : World) (hS : SuOk T w x) (hW : SuW x) (hv : vSu x.val = true) : Calls Tryz.prog 8 #[.agg x.cs.toArray] w fun e w' => ∃ b L T, e = .returned (.tuple #[.pointer (some ⟨b, 0, none⟩), .int .i64 0]) ∧ Hid (NwQ x w b L T w') := by
 refine (f_New x w hS hW).mono ?_
 rintro e w' ⟨hb, hn⟩
 rw [hv] at hn
 obtain ⟨b, L, T, rfl, hF, hval, hT, hft⟩ := hn
 exact ⟨b, L, _, rfl, Lib.hid ⟨hb, hF.cut, hval, by rw [hval]; exact inv_new hv, fun g hg => ⟨hT g hg.1, hg.2⟩, hft⟩⟩
theorem f_NewF {T : Nat → Prop} (x : LSu) (w : World) (hS : SuOk T w x) (hW : SuW x) (hv : vSu x.val = false) : Calls Tryz.prog 8 #[.agg x.cs.toArray] w fun e w' => e = .returned (.tuple #[.pointer none, .int .i64 1]) ∧ Below w.heap.size w w' := by
 refine (f_New x w hS hW).mono ?_
 rintro e w' ⟨hb, hn⟩
 rw [hv] at hn
 exact ⟨hn, hb⟩
theorem FirmAt.flt {b : Nat} {L : LS} {T : Nat → Prop} {w : World} (h : FirmAt w b L T) : ∀ g, Foot b L g → g < w.heap.size := by
 rintro g (rfl | hg)
 ·exact h.blk.lt
 ·exact (own_ge h.row g hg).2
structure Small (x : LSu) : Prop where
 s : x.stk.l.length ≤ 10
 ss : ∀ y ∈ x.stk.l, y.l.length ≤ 70
 j : x.jnt.l.length ≤ 10
 jj : ∀ y ∈ x.jnt.l, y.l.length ≤ 220
 g : x.gear.l.length ≤ 80
def LgP (SM : Prop) (e : Ending) : Prop := ∃ r : Bool, e = .returned (.bool r) ∧ (r = false → SM)
set_option maxHeartbeats 8000000 in
set_option maxRecDepth 20000 in
theorem f_large {T : Nat → Prop} (x : LSu) (w : World) (hS : SuOk T w x) :
  Calls Tryz.prog 6 #[.agg x.cs.toArray] w fun e w' => LgP (Small x) e ∧ Below w.heap.size w w' := by
 have x0 := Blk.new w 32 x.cs.toArray
 have B0 := bl_alloc (below_refl w) (.cells x.cs.toArray 32)
 have c0 : (w.alloc (.cells x.cs.toArray 32)).cell? ⟨w.heap.size, 0, none⟩ = some (.slice x.stk.a x.stk.l.length x.stk.c) := x0.cell 0
 have c1 : (w.alloc (.cells x.cs.toArray 32)).cell? ⟨w.heap.size, 1, none⟩ = some (.slice x.jnt.a x.jnt.l.length x.jnt.c) := x0.cell 1
 have c8 : (w.alloc (.cells x.cs.toArray 32)).cell? ⟨w.heap.size, 8, none⟩ = some (.slice x.gear.a x.gear.l.length x.gear.c) := x0.cell 8
 have lb := x0.lt
 have hst := hS.stk.rd.on B0
 have hjn := hS.jnt.rd.on B0
 have hge := hS.gear.rd.on B0
 obtain ⟨CA, hCA⟩ : ∃ CA, CA = x.cs.toArray := ⟨_, rfl⟩
 rw [← hCA] at B0 c0 c1 c8 lb hst hjn hge ⊢
 clear x0 hS hCA
 obtain ⟨⟨sa, sl, sc⟩, ⟨ja, jl, jc⟩, cl, ⟨ga, gl, gc⟩, ru, rt, mn⟩ := x
 dsimp only at *
 have HE : ∀ (Q : Prop), (Small ⟨⟨sa, sl, sc⟩, ⟨ja, jl, jc⟩, cl, ⟨ga, gl, gc⟩, ru, rt, mn⟩ ↔ sl.length ≤ 10 ∧ (∀ y ∈ sl, y.l.length ≤ 70) ∧ jl.length ≤ 10 ∧ (∀ y ∈ jl, y.l.length ≤ 220) ∧ gl.length ≤ 80) := fun _ => ⟨fun h => ⟨h.s, h.ss, h.j, h.jj, h.g⟩, fun ⟨h1, h2, h3, h4, h5⟩ => ⟨h1, h2, h3, h4, h5⟩⟩
 have HSM := Lib.hid (HE True)
 clear HE
 generalize Small ⟨⟨sa, sl, sc⟩, ⟨ja, jl, jc⟩, cl, ⟨ga, gl, gc⟩, ru, rt, mn⟩ = SM at *
 go_enter Tryz.func6, Tryz.ntmps6
 go_upto_region 1 with fail
 generalize w.alloc (.cells CA 32) = w1 at *
 rcases (by omega : (10 : Int) < (sl.length : Int) ∨ (¬ (10 : Int) < (sl.length : Int) ∧ (10 : Int) < (jl.length : Int)) ∨ (¬ (10 : Int) < (sl.length : Int) ∧ ¬ (10 : Int) < (jl.length : Int) ∧ (80 : Int) < (gl.length : Int)) ∨ (¬ (10 : Int) < (sl.length : Int) ∧ ¬ (10 : Int) < (jl.length : Int) ∧ ¬ (80 : Int) < (gl.length : Int))) with h1 | ⟨h1, h2⟩ | ⟨h1, h2, h3⟩ | ⟨h1, h2, h3⟩
 ·go_wp2
  go_ret
  exact ⟨⟨true, rfl, fun h => by cases h⟩, B0⟩
 ·go_wp2
  go_ret
  exact ⟨⟨true, rfl, fun h => by cases h⟩, B0⟩
 ·go_wp2
  go_ret
  exact ⟨⟨true, rfl, fun h => by cases h⟩, B0⟩
 go_wp2
 go_loop [4] (fun i => ∃ k : Nat, k ≤ sl.length ∧ i = .int .i64 k ∧ Hid (∀ y ∈ sl.take k, y.l.length ≤ 70)) (fun i => sl.length - (RowKit.intOf i).toNat)
 case atStart => exact ⟨0, by omega, rfl, Lib.hid (by simp)⟩
 case round =>
  obtain ⟨k, hk, rfl, HK⟩ := hrel
  have k0 : (0 : Int) ≤ (k : Int) := Int.natCast_nonneg _
  by_cases hlt : k < sl.length
  ·have k1 : (k : Int) < (sl.length : Int) := by omega
   obtain ⟨y, hy⟩ := get_lt hlt
   obtain ⟨b, off, rfl, hb, hc⟩ := hst.get hy
   have d0 : w1.cell? ⟨b, off + k, none⟩ = some (.slice y.a y.l.length y.c) := by have := hc 0 _ rfl; simpa using this
   have HK2 := Lib.hid (fun (h : y.l.length ≤ 70) => (show ∀ z ∈ sl.take (k + 1), z.l.length ≤ 70 from fun z hz => by
    rw [List.take_add_one, hy] at hz
    rcases List.mem_append.1 hz with hz | hz
    ·exact HK.out z hz
    ·simp at hz; rw [hz]; exact h))
   clear hc hy HK
   rcases (by omega : ((6 : Int) < (y.l.length : Int) ∧ (y.l.length : Int) ≤ 60) ∨ ((6 : Int) < (y.l.length : Int) ∧ ¬ (y.l.length : Int) ≤ 60 ∧ (70 : Int) < (y.l.length : Int)) ∨ ((6 : Int) < (y.l.length : Int) ∧ ¬ (y.l.length : Int) ≤ 60 ∧ ¬ (70 : Int) < (y.l.length : Int)) ∨ (¬ (6 : Int) < (y.l.length : Int) ∧ ¬ (70 : Int) < (y.l.length : Int))) with g1 | ⟨g1, g2, g3⟩ | ⟨g1, g2, g3⟩ | ⟨g1, g3⟩
   ·go_wp2
    go_ret
    exact ⟨⟨true, rfl, fun h => by cases h⟩, B0⟩
   ·go_wp2
    go_ret
    exact ⟨⟨true, rfl, fun h => by cases h⟩, B0⟩
   all_goals
    have HK3 := Lib.hid (HK2.out (by omega))
    go_wp2
    go_round
    case rel => exact ⟨k + 1, by omega, by go_num, HK3⟩
    case measure => simp [RowKit.intOf]; omega
  ·obtain rfl : k = sl.length := by omega
   have HS := Lib.hid (show ∀ y ∈ sl, y.l.length ≤ 70 by have := HK.out; rwa [List.take_length] at this)
   clear HK
   go_wp2
   go_loop [5] (fun i => ∃ k : Nat, k ≤ jl.length ∧ i = .int .i64 k ∧ Hid (∀ y ∈ jl.take k, y.l.length ≤ 220)) (fun i => jl.length - (RowKit.intOf i).toNat)
   case atStart => exact ⟨0, by omega, rfl, Lib.hid (by simp)⟩
   case round =>
    obtain ⟨k, hk, rfl, HK⟩ := hrel
    have k0 : (0 : Int) ≤ (k : Int) := Int.natCast_nonneg _
    by_cases hlt : k < jl.length
    ·have k1 : (k : Int) < (jl.length : Int) := by omega
     obtain ⟨y, hy⟩ := get_lt hlt
     obtain ⟨b, off, rfl, hb, hc⟩ := hjn.get hy
     have d0 : w1.cell? ⟨b, off + k, none⟩ = some (.slice y.a y.l.length y.c) := by have := hc 0 _ rfl; simpa using this
     have HK2 := Lib.hid (fun (h : y.l.length ≤ 220) => (show ∀ z ∈ jl.take (k + 1), z.l.length ≤ 220 from fun z hz => by
      rw [List.take_add_one, hy] at hz
      rcases List.mem_append.1 hz with hz | hz
      ·exact HK.out z hz
      ·simp at hz; rw [hz]; exact h))
     clear hc hy HK
     rcases (by omega : ((10 : Int) < (y.l.length : Int) ∧ (y.l.length : Int) ≤ 200) ∨ ((10 : Int) < (y.l.length : Int) ∧ ¬ (y.l.length : Int) ≤ 200 ∧ (220 : Int) < (y.l.length : Int)) ∨ ((10 : Int) < (y.l.length : Int) ∧ ¬ (y.l.length : Int) ≤ 200 ∧ ¬ (220 : Int) < (y.l.length : Int)) ∨ (¬ (10 : Int) < (y.l.length : Int) ∧ ¬ (220 : Int) < (y.l.length : Int))) with g1 | ⟨g1, g2, g3⟩ | ⟨g1, g2, g3⟩ | ⟨g1, g3⟩
     ·go_wp2
      go_ret
      exact ⟨⟨true, rfl, fun h => by cases h⟩, B0⟩
     ·go_wp2
      go_ret
      exact ⟨⟨true, rfl, fun h => by cases h⟩, B0⟩
     all_goals
      have HK3 := Lib.hid (HK2.out (by omega))
      go_wp2
      go_round
      case rel => exact ⟨k + 1, by omega, by go_num, HK3⟩
      case measure => simp [RowKit.intOf]; omega
    ·obtain rfl : k = jl.length := by omega
     have HJ := Lib.hid (show ∀ y ∈ jl, y.l.length ≤ 220 by have := HK.out; rwa [List.take_length] at this)
     have HSL := Lib.hid (show SM from HSM.out.2 ⟨by omega, HS.out, by omega, HJ.out, by omega⟩)
     clear HK HS HJ HSM
     go_wp2
     go_loopw [3, 6] (fun n i wr => ∃ (k : Nat) (z : Int), k ≤ gl.length ∧ i = .int .i64 k ∧ n = .int .i64 z ∧ Below w1.heap.size w1 wr) (fun _ i _ => gl.length - (RowKit.intOf i).toNat)
     case atStart => exact ⟨0, 0, by omega, rfl, rfl, below_refl _⟩
     case round =>
      obtain ⟨k, z, hk, rfl, rfl, hbw⟩ := hrel
      rename World => wr
      have k0 : (0 : Int) ≤ (k : Int) := Int.natCast_nonneg _
      have e8 := ((bcell hbw).1 w.heap.size 8 lb).trans c8
      by_cases hlt : k < gl.length
      ·have k1 : (k : Int) < (gl.length : Int) := by omega
       obtain ⟨y, hy⟩ := get_lt hlt
       obtain ⟨b, off, rfl, hb, hc⟩ := (hge.on hbw).get hy
       have d0 : wr.cell? ⟨b, off + k * 4, none⟩ = some (.string y.nm) := hc 0 _ rfl
       have d3 : wr.cell? ⟨b, off + k * 4 + 3, none⟩ = some (.string y.bt) := hc 3 _ rfl
       clear hc hy
       go_wp2
       go_quiet (fail)
       go_wp2
       go_roundw
       case rel => exact ⟨k + 1, _, by omega, by go_num, rfl, below_drewN hbw _⟩
       case measure => simp [RowKit.intOf]; omega
      ·obtain rfl : k = gl.length := by omega
       go_wp2
       go_ret
       exact ⟨⟨_, rfl, fun _ => HSL.out⟩, below_tr B0 hbw⟩
theorem small_first {L : LS} (h : L.val = (doR noBr (new smallU) scrT).2) : L.lines.l.length = 8 ∧ ∃ e, L.lines.l[0]? = some e ∧ e = ⟨0, 0, ⟨#[100, 111, 103, 32, 48]⟩, hsh [48, 32, 48, 32, 48, 32, 100, 111, 103, 32, 48]⟩ := by
 obtain ⟨_, h2, h3⟩ := awake_ev
 have hl : L.lines.l = (doR noBr (new smallU) scrT).2.lines := by rw [← h]; rfl
 rw [← hl] at h2 h3
 refine ⟨h2, ?_⟩
 rw [List.head?_map] at h3
 cases hl0 : L.lines.l with
 | nil => rw [hl0] at h2; simp at h2
 | cons e r =>
  rw [hl0] at h3
  obtain ⟨n, d, t, s⟩ := e
  simp only [List.head?_cons, Option.map_some, Option.some.injEq, Prod.mk.injEq] at h3
  obtain ⟨e1, e2, e3, e4⟩ := h3
  refine ⟨_, rfl, ?_⟩
  subst e1 e2 e4
  rw [En.mk.injEq]
  refine ⟨rfl, rfl, ?_, rfl⟩
  obtain ⟨⟨l⟩⟩ := t
  dsimp only at e3
  subst e3
  rfl
theorem small_out : bts (doR noBr (new smallU) scrT).1 = ({ data := ([101, 114, 114, 111, 114, 32, 49, 48, 10, 111, 107, 10, 48, 10, 111, 107, 10, 101, 114, 114, 111, 114, 32, 49, 50, 10, 111, 107, 10, 101, 114, 114, 111, 114, 32, 49, 49, 10, 101, 114, 114].append [111, 114, 32, 49, 48, 10, 111, 107, 10, 111, 107, 10, 101, 114, 114, 111, 114, 32, 49, 49, 10, 111, 107, 10, 111, 107, 10, 49, 48, 55, 10, 49, 48, 48, 48, 10, 49, 10, 121, 101, 115, 10]).toArray } : ByteArray) := by rw [awake_ev.1]; rfl
set_option maxHeartbeats 4000000 in
set_option maxRecDepth 20000 in
theorem f_awake (w : World) (hL : LdW w) : Calls Tryz.prog 5 #[] w fun e w' => e = .returned (.bool true) ∧ Below w.heap.size w w' := by
 have HSM := Lib.hid (f_small w)
 have HNW := Lib.hid (fun (x : LSu) (w1 : World) hb hv hS hW => f_NewS (x := x) w w1 hL hb hv hS hW)
 have HDO := Lib.hid (fun (b : Nat) (L : LS) (T : Nat → Prop) (W : World) hF hI hE => f_DoS (b := b) (L := L) (T := T) (w := W) hF hI hE)
 have HLI := Lib.hid (fun W => r_LineNil W)
 have HOUT := Lib.hid small_out
 have HFST := Lib.hid (fun (L : LS) h => small_first (L := L) h)
 generalize hH : hsh [48, 32, 48, 32, 48, 32, 100, 111, 103, 32, 48] = H at *
 clear hH
 go_enter Tryz.func5, Tryz.ntmps5
 go_upto_region 6 with (first
  | (go_at_call 30; ((with_reducible refine HSM.out.mono ?_); rintro e w1 ⟨x, rfl, hv, hS, hW, hb1⟩))
  | (go_at_call 8; ((with_reducible refine (HNW.out _ _ hb1 hv hS hW).mono ?_); rintro e w2 ⟨b, L, T, rfl, hF, hval, hI, hE, hb2, hft⟩))
  | (go_at_call 18; (refine (HDO.out _ _ _ _ hF hI hE).mono ?_; rintro e w3 ⟨rfl, L3, T3, hv3, _, _, hf3⟩; rw [hval] at hv3 ⊢; rw [HOUT.out]))
  | (go_at_call 25; ((with_reducible refine (f_Lines hf3.at_ (by have := (HFST.out _ hv3).1; omega)).mono ?_); rintro e w4 ⟨y, rfl, hy, ho, _, _, hb4⟩)))
 have BW : Below w.heap.size w w4 := below_tr (below_stp hb2 hf3.stp (fun g hg e => by have := hft g e; omega) hb2.size) hb4
 obtain ⟨h8, e, he, heq⟩ := HFST.out _ hv3
 rw [← hy] at h8 he
 subst heq
 obtain ⟨b2, o2, hya, hbl, hc⟩ := (own_rd' En.cs_len ho).get he
 have c0 := hc 0 _ rfl
 have c1 := hc 1 _ rfl
 have c2 := hc 2 _ rfl
 have c3 := hc 3 _ rfl
 clear hc ho hy hv3 hf3 hF hE hI hS hW hv HFST HDO HNW HSM HOUT he
 obtain ⟨yA, yl, yc⟩ := y
 dsimp only [Sl.v] at *
 subst hya
 rw [h8]
 have lb2 : b2 < w4.heap.size := hbl
 simp only [Nat.zero_mul, Nat.add_zero] at c0 c1 c2 c3
 refine wp_region_noPanic ?_
 refine wp_region_held_drew (S := (fun w' => (∀ b o, b < w4.heap.size → w'.cell? ⟨b, o, none⟩ = w4.cell? ⟨b, o, none⟩) ∧ (∀ b o, b < w4.heap.size → w'.frozen? ⟨b, o, none⟩ = w4.frozen? ⟨b, o, none⟩) ∧ Below w4.heap.size w4 w')) (by kernel_rfl) (kq_draw kq_refl) (fun hS0 => ?_)
 refine tk 0 16 ?gv1 rfl ?_; try simp only [AP]
 refine tk 1 17 ?gv2 rfl ?_; try simp only [AP]
 refine tk 2 18 ?gv3 rfl ?_; try simp only [AP]
 refine tg 3 19 2 true ?gv4 rfl ?_; try simp only [AP]
 refine tg 4 20 2 true ?gv5 rfl ?_; try simp only [AP]
 refine tg 5 21 2 true ?gv6 rfl ?_; try simp only [AP]
 refine tk 6 22 ?gv7 rfl ?_; try simp only [AP]
 refine tk 7 23 ?gv8 rfl ?_; try simp only [AP]
 refine tg 8 24 7 true ?gv9 rfl ?_; try simp only [AP]
 refine tg 9 25 7 true ?gv10 rfl ?_; try simp only [AP]
 refine tg 10 26 7 true ?gv11 rfl ?_; try simp only [AP]
 refine wpAnyH_ready (rs := [11]) (by kernel_rfl) (by simp) ?_
 refine AllReadyH.cons rfl (fun K hK => ?_) AllReadyH.nil
 go_simp
 (go_at_call 31; ((with_reducible refine (HLI.out _).mono ?_); rintro e w5 ⟨rfl, hb5⟩; obtain ⟨hc5, hf5⟩ := bcell hb5; have hz5 := hb5.size; (try simp [SZ] at hz5); (try simp only [SZ] at hc5 hf5)))
 refine hK.out _ _ kq (fun hS1 => ?_)
 clear hK K
 try simp only [AP]
 refine tg 12 28 7 true ?gv12 rfl ?_; try simp only [AP]
 refine tk 13 29 ?gv13 rfl ?_; try simp only [AP]
 refine tk 14 0 ?gv14 rfl ?_; try simp only [AP]
 refine wpAnyH_done (by kernel_rfl) (NoPanic.normal ?_) _
 go_wp2
 go_ret
 exact ⟨rfl, below_tr BW bl⟩
end Go.Proofs.YtgemlddincnfcaaGreatDoor.Fi
