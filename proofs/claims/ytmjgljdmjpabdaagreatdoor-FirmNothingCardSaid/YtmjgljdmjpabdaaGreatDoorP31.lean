/- The parts of the proof, part 31. -/
import Derived.Test.YtmjgljdmjpabdaaGreatDoorP0
import Derived.Test.YtmjgljdmjpabdaaGreatDoorP12
import Derived.Test.YtmjgljdmjpabdaaGreatDoorP30
set_option linter.unusedSimpArgs false
set_option linter.unusedVariables false
namespace Go.Proofs.YtmjgljdmjpabdaaGreatDoor.Fi
open Go.RowKit Go.Lib Tx
theorem load_si {W : World} {b : Nat} {x y z : Value} (h : Blk W b 106 #[x, y, z]) : (loadVar 106 ⟨b, 0, none⟩).run Tryz.prog W = .ok (.agg #[x, y, z]) W := by
  have h0 := h.cell 0
  have h1 := h.cell 1
  have h2 := h.cell 2
  simp only [List.getElem?_toArray, List.getElem?_cons_zero, List.getElem?_cons_succ] at h0 h1 h2
  simp [go_sem, h0, h1, h2]
abbrev siV (s : LSi) : Value := .agg #[.slice s.dogs.a s.dogs.l.length s.dogs.c, .bool s.fel, .int .i64 s.men]
set_option maxHeartbeats 2000000 in
theorem f_siteAt (b : Nat) (L : LS) (k : Nat) (w : World) (hC : Cel w b L) (hR : Rd LSi.cs 3 w L.sites.a L.sites.l) (hl : L.sites.l.length ≤ 1000) {s : LSi} (hs : L.sites.l[k]? = some s) :
    Calls Tryz.prog 58 #[.pointer (some ⟨b, 0, none⟩), .int .i64 (k : Nat)] w fun e w' => e = .returned (siV s) ∧ Below w.heap.size w w' := by
  have hk := (List.getElem?_eq_some_iff.1 hs).1
  have x0 := Blk.new w 106 #[.slice none 0 0, .bool false, .int .i64 0]
  have B0 := bl_alloc (below_refl w) (.cells #[.slice none 0 0, .bool false, .int .i64 0] 106)
  have c20 : (w.alloc (.cells #[.slice none 0 0, .bool false, .int .i64 0] 106)).cell? ⟨b, 20, none⟩ = some (.slice L.sites.a L.sites.l.length L.sites.c) := (hC.on B0) 20 _ rfl
  obtain ⟨s', sb, so, hs', ha, hsb, d0, d1, d2⟩ := rdSi (hR.on B0) hk
  obtain rfl : s' = s := by rw [hs] at hs'; cases hs'; rfl
  rw [ha] at c20
  have hwn : wn (k : Int) 0 ((L.sites.l.length : Int) - 1) = true := wn_iff.2 ⟨by omega, by omega⟩
  have hw1 : IntKind.i64.wrap ((L.sites.l.length : Int) - 1) = (L.sites.l.length : Int) - 1 := fits_wrap ⟨by omega, by omega⟩
  have k0 : (0 : Int) ≤ (k : Int) := Int.natCast_nonneg _
  have k1 : (k : Int) < (L.sites.l.length : Int) := by omega
  have f0 := x0.frozen 0
  have f1 := x0.frozen 1
  have f2 := x0.frozen 2
  have e0 := x0.cell 0
  have e1 := x0.cell 1
  have e2 := x0.cell 2
  simp only [List.getElem?_toArray, List.getElem?_cons_zero, List.getElem?_cons_succ] at e0 e1 e2
  clear hs hs' hR hC ha
  generalize L.sites.l.length = n at *
  go_enter Tryz.func58, Tryz.ntmps58
  go_upto_region 1 with fail
  generalize w.alloc (.cells #[.slice none 0 0, .bool false, .int .i64 0] 106) = w1 at *
  have HB := ((x0.set_ 0 (.slice s'.dogs.a s'.dogs.l.length s'.dogs.c)).set_ 1 (.bool s'.fel)).set_ 2 (.int .i64 s'.men)
  go_wp2_with (go_at_call 70; ((with_reducible refine (f_withinV hwn _).mono ?_); rintro e w' ⟨rfl, rfl⟩))
  refine bodyPost_ret (v := siV s') (res_c rfl rfl (load_si HB)) rfl ⟨rfl, ?_⟩
  (repeat' (first | assumption | exact below_refl _ | refine bl_alloc ?_ _ | refine Below.setCell ?_ ?_ _ | refine below_draw ?_ | refine below_drewN ?_ _ | refine below_tr ?_ (by assumption))) <;> (first | omega | (simp; done) | (simp; omega))
set_option maxRecDepth 20000 in
theorem FirmAt.aloft {b : Nat} {L : LS} {T : Nat → Prop} {w : World} (hF : FirmAt w b L T) (hI : Inv L.val) (k : Nat) {s : LSi} (hs : L.sites.l[k]? = some s) :
    Calls Tryz.prog 14 #[.pointer (some ⟨b, 0, none⟩), .int .i64 (k : Nat)] w fun e w' => e = .returned (.int .i64 s.men) ∧ Below w.heap.size w w' := by
  have hsl : L.sites.l.length ≤ 8 := hI.slen
  have hfd : ∀ (W : World), (Instr.field 106 (siV s) 2).run Tryz.prog W = .ok (.int .i64 s.men) W := fun _ => by kernel_rfl
  have HS := Lib.hid (f_siteAt b L k w hF.cel hF.ok.sites.rd (by omega) hs)
  go_enter Tryz.func14, Tryz.ntmps14
  go_wp2_with (go_at_call 58; ((with_reducible refine HS.out.mono ?_); rintro e w3 ⟨rfl, hb3⟩))
  go_ret
  exact ⟨rfl, hb3⟩
def isRig : Cm → Bool | .rig _ _ => true | _ => false
theorem CmV.rig {w : World} {c : Cm} {v : Value} (h : CmV w c v) : ∃ z, ∀ (xT : TypeId) (W : World), (Instr.typeAssert v xT 158 true).run Tryz.prog W = .ok (.tuple #[z, .bool (isRig c)]) W := by
  cases c with
  | rig i l => obtain ⟨_, _, _, A, cc, rfl, _⟩ := h; exact ⟨.agg #[.int .i64 i, .slice A l.length cc], fun _ _ => by kernel_rfl⟩
  | lift r l => obtain ⟨_, _, _, A, cc, rfl, _⟩ := h; exact ⟨.agg #[.int .i64 0, .slice none 0 0], fun _ _ => by kernel_rfl⟩
  | up i m => obtain ⟨_, _, rfl⟩ := h; exact ⟨.agg #[.int .i64 0, .slice none 0 0], fun _ _ => by kernel_rfl⟩
  | down i m => obtain ⟨_, _, rfl⟩ := h; exact ⟨.agg #[.int .i64 0, .slice none 0 0], fun _ _ => by kernel_rfl⟩
  | day => obtain rfl := h; exact ⟨.agg #[.int .i64 0, .slice none 0 0], fun _ _ => by kernel_rfl⟩
  | gust _ => obtain ⟨_, rfl⟩ := h; exact ⟨.agg #[.int .i64 0, .slice none 0 0], fun _ _ => by kernel_rfl⟩
  | dog _ => obtain ⟨_, rfl⟩ := h; exact ⟨.agg #[.int .i64 0, .slice none 0 0], fun _ _ => by kernel_rfl⟩
  | strike _ => obtain ⟨_, rfl⟩ := h; exact ⟨.agg #[.int .i64 0, .slice none 0 0], fun _ _ => by kernel_rfl⟩
  | look _ => obtain ⟨_, rfl⟩ := h; exact ⟨.agg #[.int .i64 0, .slice none 0 0], fun _ _ => by kernel_rfl⟩
  | call _ => obtain ⟨_, rfl⟩ := h; exact ⟨.agg #[.int .i64 0, .slice none 0 0], fun _ _ => by kernel_rfl⟩
  | cut _ => obtain ⟨_, rfl⟩ := h; exact ⟨.agg #[.int .i64 0, .slice none 0 0], fun _ _ => by kernel_rfl⟩
  | bill _ => obtain ⟨_, rfl⟩ := h; exact ⟨.agg #[.int .i64 0, .slice none 0 0], fun _ _ => by kernel_rfl⟩
theorem wk_bd (g : List G.It) (r : List G.Lk) (back : List ByteArray) (day : Int) (L : List Int) : I64 (G.wkE g r back day L) := by
  unfold G.wkE G.ldE
  repeat' split
  all_goals decide
theorem lk_bd (g : List G.It) (s : ByteArray) (d : Int) : I64 (G.lkE g s d) := by
  unfold G.lkE
  repeat' split
  all_goals decide
theorem few_bd (c : Cl) (l : List Jt) : I64 (fewE c l) := by
  unfold fewE
  repeat' split
  all_goals decide
theorem pri_e (r : Rt) (h : Int) : I64 (priE r h) := by
  unfold priE
  repeat' split
  all_goals decide
theorem wnd_e (l : List S.Course) (b p s : Int) : I64 (S.windyE l b p s) := by
  unfold S.windyE
  repeat' split
  all_goals decide
theorem hgt_e (l : List S.Course) : I64 (S.heightR l).2 := by
  unfold S.heightR
  split
  · exact (by decide : I64 0)
  · exact (by decide : I64 1)
theorem deed_e {c : Cm} {x : St} {e : Int} (h : deed c x = .error e) : I64 e := by
  cases c <;> unfold deed at h <;> dsimp only at h <;> repeat' (split at h)
  all_goals first
    | (cases h; first | exact wk_bd _ _ _ _ _ | exact lk_bd _ _ _ | exact few_bd _ _ | exact pri_e _ _ | exact wnd_e _ _ _ _ | exact hgt_e _ | decide)
    | cases h
theorem doC_err {c : Cm} {x : St} : I64 (doC c x).1 := by
  unfold doC
  split
  · exact (by decide : I64 4)
  · cases hd : deed c x with
    | error e => exact deed_e hd
    | ok y => exact (by decide : I64 0)
def RepP (c : Cm) (b : Nat) (L : LS) (T : Nat → Prop) (w : World) (e : Ending) (w' : World) : Prop :=
  e = .returned (.string (bts (repT c L.val))) ∧ ∃ L' T', L'.val = (doC c L.val).2 ∧ Fut w b L T w' L' T'
theorem Fut.below {w w' w'' : World} {b : Nat} {L L' : LS} {T T' : Nat → Prop} (h : Fut w b L T w' L' T') (hb : Below w'.heap.size w' w'') : Fut w b L T w'' L' T' := h.trans (Fut.of_below h.at_ hb)
set_option maxHeartbeats 2000000 in
set_option maxRecDepth 20000 in
theorem f_reply {c : Cm} {v : Value} {b : Nat} {L : LS} {T : Nat → Prop} {w : World} (hF : FirmAt w b L T) (hI : Inv L.val) (hE : Env w b L) (hc : CmV w c v) :
    Calls Tryz.prog 32 #[.pointer (some ⟨b, 0, none⟩), v] w (RepP c b L T w) := by
  have HD := Lib.hid (f_doV hF hI hE.ld hc)
  obtain ⟨z, hta⟩ := hc.rig
  have HI := Lib.hid (inv_doC hI hc.ok)
  by_cases he : (doC c L.val).1 = 0
  · cases hr : isRig c
    · have HR := Lib.hid (show repT c L.val = okT by unfold repT; rw [if_neg (by rw [he]; simp)]; cases c <;> first | rfl | (cases hr))
      unfold DoP at HD
      rw [he] at HD
      rw [hr] at hta
      go_enter Tryz.func32, Tryz.ntmps32
      go_wp2_with (go_at_call 89; ((with_reducible refine HD.out.mono ?_); rintro e w3 ⟨rfl, L', T', hv, hf⟩))
      go_ret
      exact ⟨by rw [HR.out]; rfl, L', T', hv, hf⟩
    · obtain ⟨i, l, rfl⟩ : ∃ i l, c = .rig i l := by cases c <;> first | exact ⟨_, _, rfl⟩ | cases hr
      have HR := Lib.hid (show repT (.rig i l) L.val = nT ((doC (.rig i l) L.val).2.rigs.length - 1) by unfold repT; rw [if_neg (by rw [he]; simp)])
      unfold DoP at HD
      rw [he] at HD
      rw [hr] at hta
      go_enter Tryz.func32, Tryz.ntmps32
      go_upto_region 6 with (go_at_call 89; ((with_reducible refine HD.out.mono ?_); rintro e w3 ⟨rfl, L', T', hv, hf⟩))
      have c19 : w3.cell? ⟨b, 19, none⟩ = some (.slice L'.rigs.a L'.rigs.l.length L'.rigs.c) := hf.at_.cel 19 _ rfl
      have hlen : (doC (.rig i l) L.val).2.rigs.length = L'.rigs.l.length := by rw [← hv]; unfold LS.val; exact List.length_map ..
      have hrl : L'.rigs.l.length ≤ 50 := by rw [← hlen]; exact HI.out.rl
      have hw1 : IntKind.i64.wrap ((L'.rigs.l.length : Int) - 1) = (L'.rigs.l.length : Int) - 1 := fits_wrap ⟨by omega, by omega⟩
      have HIT := Lib.hid (c_ItoaV ((L'.rigs.l.length : Int) - 1) w3 (by omega) (by omega) (hE.fut hf).ld.tab)
      rw [hlen] at HR
      have HR2 := Lib.hid (show bts (itoa ((L'.rigs.l.length : Int) - 1)) = bts (repT (.rig i l) L.val) by rw [HR.out]; rfl)
      rw [HR2.out] at HIT
      clear hlen HR HR2
      go_wp2_with (go_at_call 64; ((with_reducible refine HIT.out.mono ?_); rintro e w4 ⟨rfl, hb4⟩))
      go_ret
      exact ⟨rfl, L', T', hv, hf.below hb4⟩
  · have he0 : ((doC c L.val).1 == 0) = false := beq_eq_false_iff_ne.2 he
    have HR := Lib.hid (show repT c L.val = errT (doC c L.val).1 by unfold repT; rw [if_pos he])
    have HF := Lib.hid (fun W (h : LdW W) => f_failed (doC c L.val).1 W doC_err h)
    rw [← HR.out] at HF
    unfold DoP at HD
    generalize (doC c L.val).1 = E at *
    go_enter Tryz.func32, Tryz.ntmps32
    go_wp2_with (first | (go_at_call 89; ((with_reducible refine HD.out.mono ?_); rintro e w3 ⟨rfl, L', T', hv, hf⟩)) | (go_at_call 28; ((with_reducible refine (HF.out _ (hE.fut hf).ld).mono ?_); rintro e w4 ⟨rfl, hb4⟩)))
    go_ret
    exact ⟨rfl, L', T', hv, hf.below hb4⟩
end Go.Proofs.YtmjgljdmjpabdaaGreatDoor.Fi
set_option linter.unusedSimpArgs false
set_option linter.unusedVariables false
namespace Go.Proofs.YtmjgljdmjpabdaaGreatDoor.Fi
open Go.RowKit Go.Lib Tx
def AnsP (br : St → Int → List UInt8) (x : St) (s : List UInt8) (w : World) (e : Ending) (w' : World) : Prop := Below w.heap.size w w' ∧
  match ansO br x s with
  | some t => e = .returned (.tuple #[.string (bts t), .bool true])
  | none => e = .returned (.tuple #[.string ⟨#[]⟩, .bool false])
theorem ans_some {br : St → Int → List UInt8} {x : St} {s t : List UInt8} {w w' : World} {v : ByteArray} (h : ansO br x s = some t) (hv : bts t = v) (hb : Below w.heap.size w w') : AnsP br x s w (.returned (.tuple #[.string v, .bool true])) w' := by
  unfold AnsP; rw [h]; exact ⟨hb, by rw [← hv]⟩
theorem ans_none {br : St → Int → List UInt8} {x : St} {s : List UInt8} {w w' : World} (h : ansO br x s = none) (hb : Below w.heap.size w w') : AnsP br x s w (.returned (.tuple #[.string ⟨#[]⟩, .bool false])) w' := by
  unfold AnsP; rw [h]; exact ⟨hb, rfl⟩
def BrP (br : St → Int → List UInt8) (b : Nat) (L : LS) (w : World) : Prop := ∀ W, Below w.heap.size w W → ∀ k : Nat, k < L.sites.l.length → Calls Tryz.prog 85 #[.pointer (some ⟨b, 0, none⟩), .int .i64 (k : Nat)] W fun e W' => e = .returned (.string (bts (br L.val k))) ∧ Below W.heap.size W W'
theorem bs_bd (T : Nat → Bool) : ∀ n lo hi : Nat, hi - lo ≤ n → S.bs T lo hi ≤ lo + (hi - lo)
  | n, lo, hi, hn => by
    by_cases h : hi ≤ lo + 1
    · rw [S.bs_end h]; omega
    · cases n with
      | zero => omega
      | succ n =>
        cases hT : T ((lo + hi) / 2)
        · rw [S.bs_no h hT]
          have := bs_bd T n lo ((lo + hi) / 2) (by omega)
          omega
        · rw [S.bs_yes h hT]
          have := bs_bd T n ((lo + hi) / 2) hi (by omega)
          omega
theorem safe_bd (l : List S.Course) (k : Int) : -1 ≤ S.safeI l k ∧ S.safeI l k ≤ 10001 := by
  have := bs_bd (S.tight l k) 10001 0 10001 (by omega)
  unfold S.safeI
  split <;> omega
theorem best_bd (v : Nat → Int) (hv : ∀ k, -1 ≤ v k ∧ v k ≤ 10001) : ∀ k, (-1 ≤ (S.best v k).1 ∧ (S.best v k).1 ≤ 10001) ∧ 0 ≤ (S.best v k).2 ∧ (S.best v k).2 ≤ k
  | 0 => by simp [S.best]
  | 1 => by have := hv 0; simp [S.best]; omega
  | k + 2 => by
    have h1 := best_bd v hv (k + 1)
    have h2 := hv (k + 1)
    unfold S.best
    split
    · dsimp only; omega
    · omega
theorem hs_bd : ∀ l : List S.Course, (∀ x ∈ l, 1 ≤ x.h ∧ x.h ≤ 2000) → 0 ≤ S.hs l ∧ S.hs l ≤ 2000 * (l.length : Int)
  | [], _ => by simp [S.hs]
  | c :: l, h => by
    have h1 := hs_bd l (fun x hx => h x (List.mem_cons_of_mem _ hx))
    have h2 := h c (List.mem_cons_self ..)
    unfold S.hs
    rw [List.length_cons]
    omega
theorem least_bd {l : List S.Course} : I64 (S.leastR l).1 ∧ I64 (S.leastR l).2.1 ∧ I64 (S.leastR l).2.2 := by
  have h := best_bd (fun k : Nat => S.safeI l k) (fun k => safe_bd l k) 4
  unfold S.leastR I64
  split
  · split
    · dsimp only; omega
    · dsimp only; omega
  · dsimp only; omega
theorem hgt_bd {l : List S.Course} (h : S.validC l = true) : I64 (S.heightR l).1 := by
  have hb := hs_bd l (fun x hx => by
    have := List.all_eq_true.1 (S.valid_all h).1 x hx
    unfold S.soundB at this
    have := S.wn_iff.1 (Bool.and_eq_true_iff.1 this).1
    omega)
  have := (S.valid_all h).2
  unfold S.heightR I64
  rw [if_pos h]
  dsimp only; omega
theorem numV_bd {r : List UInt8} (h : T6.numB r = true) : -1000000000000000 ≤ T6.numV r ∧ T6.numV r ≤ 1000000000000000 := ((T6.num_iff r).1 h).2
set_option maxHeartbeats 4000000 in
set_option maxRecDepth 20000 in
theorem f_answer {br : St → Int → List UInt8} {b : Nat} {L : LS} {T : Nat → Prop} {w : World} (s : List UInt8) (hF : FirmAt w b L T) (hI : Inv L.val) (hE : Env w b L) (hs : s.length ≤ 70000) (hB : (cut s [32]).1 = [98, 101, 97, 114, 115] → BrP br b L w) :
    Calls Tryz.prog 30 #[.pointer (some ⟨b, 0, none⟩), .string (bts s)] w (AnsP br L.val s w) := by
  have hsl : L.sites.l.length ≤ 8 := hI.slen
  have lb := hF.blk.lt
  have c17 : w.cell? ⟨b, 17, none⟩ = some (.int .i64 L.day) := hF.cel 17 _ rfl
  have c23 : w.cell? ⟨b, 23, none⟩ = some (.int .i64 L.money) := hF.cel 23 _ rfl
  have c20 : w.cell? ⟨b, 20, none⟩ = some (.slice L.sites.a L.sites.l.length L.sites.c) := hF.cel 20 _ rfl
  have c0 : w.cell? ⟨b, 0, none⟩ = some (.slice L.x.stk.a L.x.stk.l.length L.x.stk.c) := hF.cel 0 _ rfl
  have dd0 : 0 ≤ L.day := hI.d0
  have dd1 : L.day ≤ 100000 := hI.d1
  have mm0 : 0 ≤ L.money := hI.m0
  have mm1 : L.money ≤ 1000000000000 := hI.m1
  have HS := Lib.hid (bts_emp s)
  have HCU := Lib.hid (c_Cut1 32 s w (by omega) hE.ld)
  have hcs := cut_szs 32 s
  have HNM := Lib.hid (fun W (h : Below w.heap.size w W) => (show Calls Tryz.prog 81 #[.slice (some ⟨W.heap.size, 0, none⟩) 1 1] (W.alloc (.cells #[.string (bts (cut s [32]).2.1)] 9)) (NumP [(cut s [32]).2.1] (W.alloc (.cells #[.string (bts (cut s [32]).2.1)] 9))) from
    f_numbers _ [(cut s [32]).2.1] 1 _ (by simp) (fun q hq => by simp at hq; subst hq; omega) ((hE.ld.on h).on (bl_alloc (below_refl _) _)) (rd_strnew W _)))
  have HW := Lib.hid (bts_emp (cut s [32]).1)
  have HID := Lib.hid (c_ItoaV L.day w (by omega) (by omega) hE.ld.tab)
  have HIM := Lib.hid (c_ItoaV L.money w (by omega) (by omega) hE.ld.tab)
  have HGO := Lib.hid (hF.goes hI)
  have HAN := Lib.hid (show ansO br L.val s = if s = [110, 111, 119] then some (nT L.day) else if s = [109, 111, 110, 101, 121] then some (nT L.money)
    else if s = [103, 111, 101, 115] then some (if goB L.val L.val.gusts = true then [121, 101, 115] else [110, 111])
    else if T6.numB (cut s [32]).2.1 = false then none
    else if qWd (cut s [32]).1 = false then none
    else if thB L.val (T6.numV (cut s [32]).2.1) = false then some (errT 5)
    else if (cut s [32]).1 = [97, 108, 111, 102, 116] then some (nT (siteA L.val (T6.numV (cut s [32]).2.1)).men)
    else if (cut s [32]).1 = [104, 101, 105, 103, 104, 116] then some (tldT (S.heightR (stkA L.val (T6.numV (cut s [32]).2.1))).2 [(S.heightR (stkA L.val (T6.numV (cut s [32]).2.1))).1])
    else if (cut s [32]).1 = [115, 97, 102, 101] then some (tldT (S.leastR (stkA L.val (T6.numV (cut s [32]).2.1))).2.2 [(S.leastR (stkA L.val (T6.numV (cut s [32]).2.1))).1, (S.leastR (stkA L.val (T6.numV (cut s [32]).2.1))).2.1])
    else some (br L.val (T6.numV (cut s [32]).2.1)) from rfl)
  generalize (cut s [32]).1 = a at *
  generalize (cut s [32]).2.1 = r at *
  generalize (cut s [32]).2.2 = f at *
  obtain ⟨Sx, hSS⟩ : ∃ Sx, Sx = bts s := ⟨_, rfl⟩
  rw [← hSS] at HS HCU ⊢
  clear hSS hcs
  by_cases h_now : s = [110, 111, 119]
  · have HA := Lib.hid (show ansO br L.val s = some (nT L.day) by rw [HAN.out, if_pos h_now])
    have q1 : (Sx.toList == [110, 111, 119]) = true := by rw [HS.out, h_now]; rfl
    go_enter Tryz.func30, Tryz.ntmps30
    go_wp2_with (go_at_call 64; ((with_reducible refine HID.out.mono ?_); rintro e w3 ⟨rfl, hb3⟩))
    go_ret2
    exact ans_some HA.out rfl hb3
  have q1 : (Sx.toList == [110, 111, 119]) = false := by rw [HS.out]; exact beq_eq_false_iff_ne.2 h_now
  by_cases h_mon : s = [109, 111, 110, 101, 121]
  · have HA := Lib.hid (show ansO br L.val s = some (nT L.money) by rw [HAN.out, if_neg h_now, if_pos h_mon])
    have q2 : (Sx.toList == [109, 111, 110, 101, 121]) = true := by rw [HS.out, h_mon]; rfl
    go_enter Tryz.func30, Tryz.ntmps30
    go_wp2_with (go_at_call 64; ((with_reducible refine HIM.out.mono ?_); rintro e w3 ⟨rfl, hb3⟩))
    go_ret2
    exact ans_some HA.out rfl hb3
  have q2 : (Sx.toList == [109, 111, 110, 101, 121]) = false := by rw [HS.out]; exact beq_eq_false_iff_ne.2 h_mon
  by_cases h_goe : s = [103, 111, 101, 115]
  · have q3 : (Sx.toList == [103, 111, 101, 115]) = true := by rw [HS.out, h_goe]; rfl
    cases hg : goB L.val L.val.gusts
    · have HA := Lib.hid (show ansO br L.val s = some [110, 111] by rw [HAN.out, if_neg h_now, if_neg h_mon, if_pos h_goe, hg]; rfl)
      rw [hg] at HGO
      go_enter Tryz.func30, Tryz.ntmps30
      go_wp2_with (go_at_call 13; ((with_reducible refine HGO.out.mono ?_); rintro e w3 ⟨rfl, hb3⟩))
      go_ret2
      exact ans_some HA.out rfl hb3
    · have HA := Lib.hid (show ansO br L.val s = some [121, 101, 115] by rw [HAN.out, if_neg h_now, if_neg h_mon, if_pos h_goe, hg]; rfl)
      rw [hg] at HGO
      go_enter Tryz.func30, Tryz.ntmps30
      go_wp2_with (go_at_call 13; ((with_reducible refine HGO.out.mono ?_); rintro e w3 ⟨rfl, hb3⟩))
      go_ret2
      exact ans_some HA.out rfl hb3
  have q3 : (Sx.toList == [103, 111, 101, 115]) = false := by rw [HS.out]; exact beq_eq_false_iff_ne.2 h_goe
  cases hnb : T6.numB r
  · have HA := Lib.hid (show ansO br L.val s = none by rw [HAN.out, if_neg h_now, if_neg h_mon, if_neg h_goe, if_pos hnb])
    generalize bts a = SW at *
    go_enter Tryz.func30, Tryz.ntmps30
    go_wp2_with (first | (go_at_call 80; ((with_reducible refine HCU.out.mono ?_); rintro e w1 ⟨rfl, hb1⟩)) | (go_at_call 81; ((with_reducible refine (HNM.out w1 hb1).mono ?_); intro e w2 hn; obtain ⟨rfl, hb2⟩ := num1_no hnb hn)))
    go_ret2
    exact ans_none HA.out (below_tr (bl_alloc hb1 _) hb2)
  obtain ⟨n0, n1⟩ := numV_bd hnb
  have HAB := Lib.hid (show ansO br L.val s = if qWd a = false then none
    else if thB L.val (T6.numV r) = false then some (errT 5)
    else if a = [97, 108, 111, 102, 116] then some (nT (siteA L.val (T6.numV r)).men)
    else if a = [104, 101, 105, 103, 104, 116] then some (tldT (S.heightR (stkA L.val (T6.numV r))).2 [(S.heightR (stkA L.val (T6.numV r))).1])
    else if a = [115, 97, 102, 101] then some (tldT (S.leastR (stkA L.val (T6.numV r))).2.2 [(S.leastR (stkA L.val (T6.numV r))).1, (S.leastR (stkA L.val (T6.numV r))).2.1])
    else some (br L.val (T6.numV r)) by rw [HAN.out, if_neg h_now, if_neg h_mon, if_neg h_goe, if_neg (by rw [hnb]; simp)])
  have hwl : IntKind.i64.wrap ((L.sites.l.length : Int) - 1) = (L.sites.l.length : Int) - 1 := fits_wrap ⟨by omega, by omega⟩
  have HTH := Lib.hid (show thB L.val (T6.numV r) = wn (T6.numV r) 0 ((L.sites.l.length : Int) - 1) by unfold thB LS.val; dsimp only; rw [List.length_map])
  clear HAN HID HIM HGO c17 c23
  by_cases hq : qWd a = false
  · have HA := Lib.hid (show ansO br L.val s = none by rw [HAB.out, if_pos hq])
    unfold qWd at hq
    obtain ⟨h1, hq⟩ := Bool.or_eq_false_iff.1 hq
    obtain ⟨h2, hq⟩ := Bool.or_eq_false_iff.1 hq
    obtain ⟨h3, h4⟩ := Bool.or_eq_false_iff.1 hq
    have w1' : ((bts a).toList == [97, 108, 111, 102, 116]) = false := by rw [HW.out]; exact beq_eq_false_iff_ne.2 (of_decide_eq_false h1)
    have w2' : ((bts a).toList == [104, 101, 105, 103, 104, 116]) = false := by rw [HW.out]; exact beq_eq_false_iff_ne.2 (of_decide_eq_false h2)
    have w3' : ((bts a).toList == [115, 97, 102, 101]) = false := by rw [HW.out]; exact beq_eq_false_iff_ne.2 (of_decide_eq_false h3)
    have w4' : ((bts a).toList == [98, 101, 97, 114, 115]) = false := by rw [HW.out]; exact beq_eq_false_iff_ne.2 (of_decide_eq_false h4)
    clear h1 h2 h3 h4 hq
    generalize bts a = SW at *
    cases hwn : wn (T6.numV r) 0 ((L.sites.l.length : Int) - 1)
    all_goals
      obtain ⟨NV, hk⟩ : ∃ z, T6.numV r = z := ⟨_, rfl⟩
      rw [hk] at hwn
      have HKK := Lib.hid hk
      clear hk
      go_enter Tryz.func30, Tryz.ntmps30
      go_wp2_with (first | (go_at_call 80; ((with_reducible refine HCU.out.mono ?_); rintro e w1 ⟨rfl, hb1⟩)) | (go_at_call 81; ((with_reducible refine (HNM.out w1 hb1).mono ?_); intro e w2 hn; obtain ⟨nb, no, nc, rfl, cn, _, hb2⟩ := num1_yes hnb hn; rw [HKK.out] at cn; have hb3 := below_tr (bl_alloc hb1 (.cells #[.string (bts r)] 9)) hb2; have m20 := ((bcell hb3).1 b 20 lb).trans c20; have m0 := ((bcell hb3).1 b 0 lb).trans c0)) | (go_at_call 70; ((with_reducible refine (f_withinV hwn _).mono ?_); rintro e w' ⟨rfl, rfl⟩)))
      go_ret2
      exact ans_none HA.out hb3
  have hq' : qWd a = true := by cases h : qWd a; exact absurd h hq; rfl
  have hor : a = [97, 108, 111, 102, 116] ∨ a = [104, 101, 105, 103, 104, 116] ∨ a = [115, 97, 102, 101] ∨ a = [98, 101, 97, 114, 115] := by
    unfold qWd at hq'
    rcases Bool.or_eq_true_iff.1 hq' with h | hq'
    · exact .inl (of_decide_eq_true h)
    · rcases Bool.or_eq_true_iff.1 hq' with h | hq'
      · exact .inr (.inl (of_decide_eq_true h))
      · rcases Bool.or_eq_true_iff.1 hq' with h | h
        · exact .inr (.inr (.inl (of_decide_eq_true h)))
        · exact .inr (.inr (.inr (of_decide_eq_true h)))
  cases hwn : wn (T6.numV r) 0 ((L.sites.l.length : Int) - 1)
  · have HA := Lib.hid (show ansO br L.val s = some (errT 5) by rw [HAB.out, if_neg hq, HTH.out, if_pos hwn])
    have HFA := Lib.hid (fun W (h : Below w.heap.size w W) => f_failed 5 W (by decide) (hE.ld.on h))
    obtain ⟨NV, hk⟩ : ∃ z, T6.numV r = z := ⟨_, rfl⟩
    rw [hk] at hwn
    have HKK := Lib.hid hk
    clear hk
    rcases hor with rfl | rfl | rfl | rfl
    all_goals
      (try rw [show bts [97, 108, 111, 102, 116] = (⟨#[97, 108, 111, 102, 116]⟩ : ByteArray) from rfl] at HCU)
      (try rw [show bts [104, 101, 105, 103, 104, 116] = (⟨#[104, 101, 105, 103, 104, 116]⟩ : ByteArray) from rfl] at HCU)
      (try rw [show bts [115, 97, 102, 101] = (⟨#[115, 97, 102, 101]⟩ : ByteArray) from rfl] at HCU)
      (try rw [show bts [98, 101, 97, 114, 115] = (⟨#[98, 101, 97, 114, 115]⟩ : ByteArray) from rfl] at HCU)
      go_enter Tryz.func30, Tryz.ntmps30
      go_wp2_with (first | (go_at_call 80; ((with_reducible refine HCU.out.mono ?_); rintro e w1 ⟨rfl, hb1⟩)) | (go_at_call 81; ((with_reducible refine (HNM.out w1 hb1).mono ?_); intro e w2 hn; obtain ⟨nb, no, nc, rfl, cn, _, hb2⟩ := num1_yes hnb hn; rw [HKK.out] at cn; have hb3 := below_tr (bl_alloc hb1 (.cells #[.string (bts r)] 9)) hb2; have m20 := ((bcell hb3).1 b 20 lb).trans c20; have m0 := ((bcell hb3).1 b 0 lb).trans c0)) | (go_at_call 70; ((with_reducible refine (f_withinV hwn _).mono ?_); rintro e w' ⟨rfl, rfl⟩)) | (go_at_call 28; ((with_reducible refine (HFA.out _ hb3).mono ?_); rintro e w4 ⟨rfl, hb4⟩)))
      go_ret2
      exact ans_some HA.out rfl (below_tr hb3 hb4)
  have HAC := Lib.hid (show ansO br L.val s = if a = [97, 108, 111, 102, 116] then some (nT (siteA L.val (T6.numV r)).men)
    else if a = [104, 101, 105, 103, 104, 116] then some (tldT (S.heightR (stkA L.val (T6.numV r))).2 [(S.heightR (stkA L.val (T6.numV r))).1])
    else if a = [115, 97, 102, 101] then some (tldT (S.leastR (stkA L.val (T6.numV r))).2.2 [(S.leastR (stkA L.val (T6.numV r))).1, (S.leastR (stkA L.val (T6.numV r))).2.1])
    else some (br L.val (T6.numV r)) by rw [HAB.out, if_neg hq, HTH.out, if_neg (by rw [hwn]; simp)])
  obtain ⟨z0, z1⟩ := wn_iff.1 hwn
  obtain ⟨k, hk⟩ := Int.eq_ofNat_of_zero_le z0
  rw [hk] at hwn HAC
  have HKK := Lib.hid hk
  have hkl : k < L.sites.l.length := by omega
  obtain ⟨si, hsi⟩ := get_lt hkl
  obtain ⟨sm0, sm1⟩ := hI.men hsi
  obtain ⟨y, hy⟩ := get_lt (show k < L.x.stk.l.length by rw [hI.lens.1]; exact hkl)
  obtain ⟨jb, jo, hja, ljb, hjc⟩ := hF.ok.su.stk.rd.get hy
  have hyv := (vSu_parts hI.su).2.2.1 y.l (by unfold LS.val LSu.val; exact List.mem_map.2 ⟨y, List.mem_of_getElem? hy, rfl⟩)
  have hyl : y.l.length ≤ 100000 := by have := (S.valid_all hyv).2.2; omega
  have cj : w.cell? ⟨jb, jo + k, none⟩ = some (.slice y.a y.l.length y.c) := by have := hjc 0 _ rfl; simpa using this
  have HSA := Lib.hid (siteA_of hsi)
  have HTA := Lib.hid (stkA_of hy)
  rw [hja] at c0
  have k0 : (0 : Int) ≤ (k : Int) := Int.natCast_nonneg _
  have k1 : (k : Int) < (L.x.stk.l.length : Int) := by rw [hI.lens.1]; omega
  have HAL := Lib.hid (fun W (h : Below w.heap.size w W) => (hF.on h).aloft hI k hsi)
  have HHT := Lib.hid (fun W (h : Below w.heap.size w W) => S.s_height y.a y.l y.c W hyl ((hF.on h).ok.su.stks y (List.mem_of_getElem? hy)).rd)
  have HLE := Lib.hid (fun W (h : Below w.heap.size w W) => S.s_least y.a y.l y.c W hyl ((hF.on h).ok.su.stks y (List.mem_of_getElem? hy)).rd)
  have HEW := Lib.hid (fun W (h : Below w.heap.size w W) => hE.ld.on h)
  have hsk : L.x.stk.l.length = L.sites.l.length := hI.lens.1
  clear HAB HTH hjc hy hsi hk z0 z1 n0 n1 hq hq' hja
  rcases hor with rfl | rfl | rfl | rfl
  · have HA := Lib.hid (show ansO br L.val s = some (nT si.men) by rw [HAC.out, if_pos rfl, HSA.out]; rfl)
    have HIM := Lib.hid (fun W (h : Below w.heap.size w W) => c_ItoaV si.men W (by omega) (by omega) (hE.ld.on h).tab)
    rw [show bts [97, 108, 111, 102, 116] = (⟨#[97, 108, 111, 102, 116]⟩ : ByteArray) from rfl] at HCU
    go_enter Tryz.func30, Tryz.ntmps30
    go_wp2_with (first | (go_at_call 80; ((with_reducible refine HCU.out.mono ?_); rintro e w1 ⟨rfl, hb1⟩)) | (go_at_call 81; ((with_reducible refine (HNM.out w1 hb1).mono ?_); intro e w2 hn; obtain ⟨nb, no, nc, rfl, cn, _, hb2⟩ := num1_yes hnb hn; rw [HKK.out] at cn; have hb3 := below_tr (bl_alloc hb1 (.cells #[.string (bts r)] 9)) hb2; have m20 := ((bcell hb3).1 b 20 lb).trans c20; have mj := ((bcell hb3).1 jb (jo + k) ljb).trans cj; have m0 := ((bcell hb3).1 b 0 lb).trans c0)) | (go_at_call 70; ((with_reducible refine (f_withinV hwn _).mono ?_); rintro e w' ⟨rfl, rfl⟩)) | (go_at_call 14; ((with_reducible refine (HAL.out _ hb3).mono ?_); rintro e w4 ⟨rfl, hb4⟩)) | (go_at_call 64; ((with_reducible refine (HIM.out _ (below_tr hb3 hb4)).mono ?_); rintro e w5 ⟨rfl, hb5⟩)))
    go_ret2
    exact ans_some HA.out rfl (below_tr hb3 (below_tr hb4 hb5))
  · have HA := Lib.hid (show ansO br L.val s = some (tldT (S.heightR y.l).2 [(S.heightR y.l).1]) by rw [HAC.out, if_neg (by decide), if_pos rfl, HTA.out])
    have HTO := Lib.hid (fun W (h : Below w.heap.size w W) (n : Nat) (hr : Rd zC 1 W (some ⟨n, 0, none⟩) [(S.heightR y.l).1]) => (show Calls Tryz.prog 83 #[.int .i64 (S.heightR y.l).2, .slice (some ⟨n, 0, none⟩) 1 1] W fun e w' => e = .returned (.string (bts (tldT (S.heightR y.l).2 [(S.heightR y.l).1]))) ∧ Below W.heap.size W w' from f_told _ _ [(S.heightR y.l).1] 1 W (hgt_e _) (by simp) (fun x hx => by simp at hx; subst hx; exact hgt_bd hyv) (HEW.out W h) hr))
    have HRN := Lib.hid (fun W => (show Rd zC 1 (W.alloc (.cells #[.int .i64 (S.heightR y.l).1] 3)) (some ⟨W.heap.size, 0, none⟩) [(S.heightR y.l).1] from rd_new W [(S.heightR y.l).1]))
    rw [show bts [104, 101, 105, 103, 104, 116] = (⟨#[104, 101, 105, 103, 104, 116]⟩ : ByteArray) from rfl] at HCU
    generalize (S.heightR y.l).1 = H1 at *
    generalize (S.heightR y.l).2 = H2 at *
    go_enter Tryz.func30, Tryz.ntmps30
    go_wp2_with (first | (go_at_call 80; ((with_reducible refine HCU.out.mono ?_); rintro e w1 ⟨rfl, hb1⟩)) | (go_at_call 81; ((with_reducible refine (HNM.out w1 hb1).mono ?_); intro e w2 hn; obtain ⟨nb, no, nc, rfl, cn, _, hb2⟩ := num1_yes hnb hn; rw [HKK.out] at cn; have hb3 := below_tr (bl_alloc hb1 (.cells #[.string (bts r)] 9)) hb2; have m20 := ((bcell hb3).1 b 20 lb).trans c20; have mj := ((bcell hb3).1 jb (jo + k) ljb).trans cj; have m0 := ((bcell hb3).1 b 0 lb).trans c0)) | (go_at_call 70; ((with_reducible refine (f_withinV hwn _).mono ?_); rintro e w' ⟨rfl, rfl⟩)) | (go_at_call 82; ((with_reducible refine (HHT.out _ hb3).mono ?_); rintro e w4 ⟨rfl, hb4⟩; have hb34 := bl_alloc (below_tr hb3 hb4) (.cells #[.int .i64 H1] 3))) | (go_at_call 83; ((with_reducible refine (HTO.out _ hb34 _ (HRN.out w4)).mono ?_); rintro e w5 ⟨rfl, hb5⟩)))
    go_ret2
    exact ans_some HA.out rfl (below_tr hb34 hb5)
  · have HA := Lib.hid (show ansO br L.val s = some (tldT (S.leastR y.l).2.2 [(S.leastR y.l).1, (S.leastR y.l).2.1]) by rw [HAC.out, if_neg (by decide), if_neg (by decide), if_pos rfl, HTA.out])
    have HTO := Lib.hid (fun W (h : Below w.heap.size w W) (n : Nat) (hr : Rd zC 1 W (some ⟨n, 0, none⟩) [(S.leastR y.l).1, (S.leastR y.l).2.1]) => (show Calls Tryz.prog 83 #[.int .i64 (S.leastR y.l).2.2, .slice (some ⟨n, 0, none⟩) 2 2] W fun e w' => e = .returned (.string (bts (tldT (S.leastR y.l).2.2 [(S.leastR y.l).1, (S.leastR y.l).2.1]))) ∧ Below W.heap.size W w' from f_told _ _ [(S.leastR y.l).1, (S.leastR y.l).2.1] 2 W least_bd.2.2 (by simp) (fun x hx => by simp at hx; rcases hx with rfl | rfl; exact least_bd.1; exact least_bd.2.1) (HEW.out W h) hr))
    have HRN := Lib.hid (fun W => (show Rd zC 1 (W.alloc (.cells #[.int .i64 (S.leastR y.l).1, .int .i64 (S.leastR y.l).2.1] 3)) (some ⟨W.heap.size, 0, none⟩) [(S.leastR y.l).1, (S.leastR y.l).2.1] from rd_new W [(S.leastR y.l).1, (S.leastR y.l).2.1]))
    rw [show bts [115, 97, 102, 101] = (⟨#[115, 97, 102, 101]⟩ : ByteArray) from rfl] at HCU
    generalize (S.leastR y.l).1 = H1 at *
    generalize (S.leastR y.l).2.1 = H2 at *
    generalize (S.leastR y.l).2.2 = H3 at *
    go_enter Tryz.func30, Tryz.ntmps30
    go_wp2_with (first | (go_at_call 80; ((with_reducible refine HCU.out.mono ?_); rintro e w1 ⟨rfl, hb1⟩)) | (go_at_call 81; ((with_reducible refine (HNM.out w1 hb1).mono ?_); intro e w2 hn; obtain ⟨nb, no, nc, rfl, cn, _, hb2⟩ := num1_yes hnb hn; rw [HKK.out] at cn; have hb3 := below_tr (bl_alloc hb1 (.cells #[.string (bts r)] 9)) hb2; have m20 := ((bcell hb3).1 b 20 lb).trans c20; have mj := ((bcell hb3).1 jb (jo + k) ljb).trans cj; have m0 := ((bcell hb3).1 b 0 lb).trans c0)) | (go_at_call 70; ((with_reducible refine (f_withinV hwn _).mono ?_); rintro e w' ⟨rfl, rfl⟩)) | (go_at_call 84; ((with_reducible refine (HLE.out _ hb3).mono ?_); rintro e w4 ⟨rfl, hb4⟩; have hb34 := bl_alloc (below_tr hb3 hb4) (.cells #[.int .i64 H1, .int .i64 H2] 3))) | (go_at_call 83; ((with_reducible refine (HTO.out _ hb34 _ (HRN.out w4)).mono ?_); rintro e w5 ⟨rfl, hb5⟩)))
    go_ret2
    exact ans_some HA.out rfl (below_tr hb34 hb5)
  · have HA := Lib.hid (show ansO br L.val s = some (br L.val (k : Int)) by rw [HAC.out, if_neg (by decide), if_neg (by decide), if_neg (by decide)])
    have HBE := Lib.hid (fun W (h : Below w.heap.size w W) => hB rfl W h k hkl)
    rw [show bts [98, 101, 97, 114, 115] = (⟨#[98, 101, 97, 114, 115]⟩ : ByteArray) from rfl] at HCU
    go_enter Tryz.func30, Tryz.ntmps30
    go_wp2_with (first | (go_at_call 80; ((with_reducible refine HCU.out.mono ?_); rintro e w1 ⟨rfl, hb1⟩)) | (go_at_call 81; ((with_reducible refine (HNM.out w1 hb1).mono ?_); intro e w2 hn; obtain ⟨nb, no, nc, rfl, cn, _, hb2⟩ := num1_yes hnb hn; rw [HKK.out] at cn; have hb3 := below_tr (bl_alloc hb1 (.cells #[.string (bts r)] 9)) hb2; have m20 := ((bcell hb3).1 b 20 lb).trans c20; have mj := ((bcell hb3).1 jb (jo + k) ljb).trans cj; have m0 := ((bcell hb3).1 b 0 lb).trans c0)) | (go_at_call 70; ((with_reducible refine (f_withinV hwn _).mono ?_); rintro e w' ⟨rfl, rfl⟩)) | (go_at_call 85; ((with_reducible refine (HBE.out _ hb3).mono ?_); rintro e w4 ⟨rfl, hb4⟩)))
    go_ret2
    exact ans_some HA.out rfl (below_tr hb3 hb4)
end Go.Proofs.YtmjgljdmjpabdaaGreatDoor.Fi
set_option linter.unusedSimpArgs false
set_option linter.unusedVariables false
namespace Go.Proofs.YtmjgljdmjpabdaaGreatDoor.Fi
open Go.Lib Tx
theorem linsR_app (br : St → Int → List UInt8) : ∀ (a b : List (List UInt8)) (x : St), linsR br x (a ++ b) = ((linsR br x a).1 ++ (linsR br (linsR br x a).2 b).1, (linsR br (linsR br x a).2 b).2)
  | [], b, x => by simp [linsR]
  | s :: a, b, x => by
    rw [List.cons_append, linsR, linsR_app br a b, linsR]
    simp [List.append_assoc]
end Go.Proofs.YtmjgljdmjpabdaaGreatDoor.Fi
set_option linter.unusedSimpArgs false
set_option linter.unusedVariables false
namespace Go.Proofs.YtmjgljdmjpabdaaGreatDoor.Fi
open Go.RowKit Go.Lib Tx
theorem nT_le {n : Int} (h : I64 n) : (nT n).length ≤ 20 := itoa_len h.1 h.2
theorem errT_len {e : Int} (h : I64 e) : (errT e).length ≤ 26 := by
  have := nT_le h
  unfold errT
  simp; omega
theorem rep_len {c : Cm} {x : St} (hI : Inv x) (hc : CmOk c) : (repT c x).length ≤ 26 := by
  unfold repT
  split
  · exact errT_len doC_err
  · have hok : okT.length ≤ 26 := by decide
    cases c with
    | rig i l =>
      have h := (inv_doC (c := .rig i l) hI hc).rl
      have := nT_le (n := (((doC (.rig i l) x).2.rigs.length : Nat) : Int) - 1) (by unfold I64; omega)
      dsimp only; omega
    | _ => exact hok
theorem wsT_len1 {a : Int} (h : I64 a) : (wsT [a]).length ≤ 21 := by have := nT_le h; simp [wsT]; omega
theorem wsT_len2 {a b : Int} (h : I64 a) (k : I64 b) : (wsT [a, b]).length ≤ 42 := by have := nT_le h; have := nT_le k; simp [wsT]; omega
theorem tldT_len {e : Int} {l : List Int} (h : I64 e) (hl : (wsT l).length ≤ 42) : (tldT e l).length ≤ 42 := by
  unfold tldT
  split
  · have := errT_len h; omega
  · simp; omega
theorem siteA_men {x : St} (hI : Inv x) (i : Int) : I64 (siteA x i).men := by
  unfold siteA
  rw [List.getD_eq_getElem?_getD]
  cases h : x.sites[i.toNat]? with
  | none => exact (by decide : I64 0)
  | some s =>
    have := hI.sm s (List.mem_of_getElem? h)
    unfold I64
    simp only [Option.getD_some]; omega
theorem hgt_b (l : List S.Course) : I64 (S.heightR l).1 := by
  cases h : S.validC l
  · unfold S.heightR; rw [if_neg (by rw [h]; simp)]; exact (by decide : I64 0)
  · exact hgt_bd h
theorem ans_len {br : St → Int → List UInt8} {x : St} {s t : List UInt8} (hI : Inv x) (hb : ∀ k, (br x k).length ≤ 1000000) (h : ansO br x s = some t) : t.length ≤ 1000000 := by
  have d0 := hI.d0
  have d1 := hI.d1
  have m0 := hI.m0
  have m1 := hI.m1
  have e1 := nT_le (n := x.day) (by unfold I64; omega)
  have e2 := nT_le (n := x.money) (by unfold I64; omega)
  unfold ansO at h
  split at h
  · cases h; omega
  split at h
  · cases h; omega
  split at h
  · cases h; split <;> decide
  split at h
  · cases h
  split at h
  · cases h
  split at h
  · cases h; have := errT_len (e := 5) (by decide); omega
  split at h
  · cases h; have := nT_le (siteA_men hI (T6.numV (cut s [32]).2.1)); omega
  split at h
  · cases h
    have := tldT_len (e := (S.heightR (stkA x (T6.numV (cut s [32]).2.1))).2) (hgt_e _) (Nat.le_trans (wsT_len1 (hgt_b (stkA x (T6.numV (cut s [32]).2.1)))) (by decide))
    omega
  split at h
  · cases h
    have hb := least_bd (l := stkA x (T6.numV (cut s [32]).2.1))
    have := tldT_len (e := (S.leastR (stkA x (T6.numV (cut s [32]).2.1))).2.2) hb.2.2 (wsT_len2 hb.1 hb.2.1)
    omega
  · cases h; exact hb _
def stN (br : St → Int → List UInt8) (x : St) (P : List (List UInt8)) (k : Nat) : List UInt8 × St := linsR br x (P.take k)
theorem stN_step {br : St → Int → List UInt8} {x : St} {P : List (List UInt8)} {k : Nat} {p : List UInt8} (h : P[k]? = some p) :
    stN br x P (k + 1) = ((stN br x P k).1 ++ (linR br (stN br x P k).2 p).1, (linR br (stN br x P k).2 p).2) := by
  unfold stN
  rw [List.take_add_one, h, Option.toList_some, linsR_app]
  simp [linsR]
theorem lin_emp {br : St → Int → List UInt8} {x : St} : linR br x [] = ([], x) := by unfold linR; rw [if_pos rfl]
theorem lin_ans {br : St → Int → List UInt8} {x : St} {s t : List UInt8} (h0 : s ≠ []) (h : ansO br x s = some t) : linR br x s = (t ++ [10], x) := by unfold linR; rw [if_neg h0, h]
theorem lin_no {br : St → Int → List UInt8} {x : St} {s : List UInt8} (h0 : s ≠ []) (h : ansO br x s = none) (hc : cmdO s = none) : linR br x s = (errT 14 ++ [10], x) := by unfold linR; rw [if_neg h0, h, hc]
theorem lin_cmd {br : St → Int → List UInt8} {x : St} {s : List UInt8} {c : Cm} (h0 : s ≠ []) (h : ansO br x s = none) (hc : cmdO s = some c) : linR br x s = (repT c x ++ [10], (doC c x).2) := by unfold linR; rw [if_neg h0, h, hc]
theorem CmV.ifc {w : World} {c : Cm} {v : Value} (h : CmV w c v) : ∃ ty V, v = .iface ty V := by
  cases c with
  | rig i l => obtain ⟨_, _, _, _, _, rfl, _⟩ := h; exact ⟨_, _, rfl⟩
  | lift r l => obtain ⟨_, _, _, _, _, rfl, _⟩ := h; exact ⟨_, _, rfl⟩
  | up i m => obtain ⟨_, _, rfl⟩ := h; exact ⟨_, _, rfl⟩
  | down i m => obtain ⟨_, _, rfl⟩ := h; exact ⟨_, _, rfl⟩
  | day => obtain rfl := h; exact ⟨_, _, rfl⟩
  | gust _ => obtain ⟨_, rfl⟩ := h; exact ⟨_, _, rfl⟩
  | dog _ => obtain ⟨_, rfl⟩ := h; exact ⟨_, _, rfl⟩
  | strike _ => obtain ⟨_, rfl⟩ := h; exact ⟨_, _, rfl⟩
  | look _ => obtain ⟨_, rfl⟩ := h; exact ⟨_, _, rfl⟩
  | call _ => obtain ⟨_, rfl⟩ := h; exact ⟨_, _, rfl⟩
  | cut _ => obtain ⟨_, rfl⟩ := h; exact ⟨_, _, rfl⟩
  | bill _ => obtain ⟨_, rfl⟩ := h; exact ⟨_, _, rfl⟩
theorem ansP_some {br : St → Int → List UInt8} {x : St} {s t : List UInt8} {w w' : World} {e : Ending} (h : ansO br x s = some t) (ha : AnsP br x s w e w') : e = .returned (.tuple #[.string (bts t), .bool true]) ∧ Below w.heap.size w w' := by
  obtain ⟨hb, hm⟩ := ha
  rw [h] at hm
  exact ⟨hm, hb⟩
theorem ansP_none {br : St → Int → List UInt8} {x : St} {s : List UInt8} {w w' : World} {e : Ending} (h : ansO br x s = none) (ha : AnsP br x s w e w') : e = .returned (.tuple #[.string ⟨#[]⟩, .bool false]) ∧ Below w.heap.size w w' := by
  obtain ⟨hb, hm⟩ := ha
  rw [h] at hm
  exact ⟨hm, hb⟩
end Go.Proofs.YtmjgljdmjpabdaaGreatDoor.Fi
