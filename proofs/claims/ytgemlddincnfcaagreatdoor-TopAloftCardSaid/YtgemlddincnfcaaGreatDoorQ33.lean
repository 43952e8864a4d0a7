/- The parts of the proof, part 33. -/
import Derived.Test.YtgemlddincnfcaaGreatDoorQ0
import Derived.Test.YtgemlddincnfcaaGreatDoorQ30
set_option maxHeartbeats 16000000
set_option maxRecDepth 20000
set_option linter.unusedSimpArgs false
set_option linter.unusedVariables false
namespace Go.Proofs.YtgemlddincnfcaaGreatDoor.Fi
open Go.RowKit Go.Lib Go.Maps Tx
structure LWl where
 w : Wl
 ja : Option Addr
 jc : Nat
 da : Option Addr
 dc : Nat
abbrev LWl.A (x : LWl) : Array Value := #[.int .i64 x.w.c.fi, .int .i64 x.w.c.ga, .int .i64 x.w.c.tp, .int .i64 x.w.c.le, .int .i64 x.w.c.la, .int .i64 x.w.c.st, .slice x.ja x.w.l.length x.jc, .slice x.da x.w.d.length x.dc]
structure WlAt (W : World) (x : LWl) : Prop where
 jb : JB x.w.l
 fi : 1 <= x.w.c.fi ∧ x.w.c.fi <= 200000
 ga : 1 <= x.w.c.ga ∧ x.w.c.ga <= 200000
 tp : 1 <= x.w.c.tp ∧ x.w.c.tp <= 200000
 le : 1 <= x.w.c.le ∧ x.w.c.le <= 200000
 la : 0 <= x.w.c.la ∧ x.w.c.la <= 200000
 st : 1 <= x.w.c.st ∧ x.w.c.st <= 1000000
 din : ∀ k, k < x.w.d.length -> 0 <= zA x.w.d k ∧ zA x.w.d k < (x.w.l.length : Int)
 dl : x.w.d.length <= 200
 rj : Rd Jt.cs 2 W x.ja x.w.l
 rd : Rd zC 1 W x.da x.w.d
theorem WlAt.on {W W' : World} {x : LWl} (h : WlAt W x) (hb : Below W.heap.size W W') : WlAt W' x := ⟨h.jb, h.fi, h.ga, h.tp, h.le, h.la, h.st, h.din, h.dl, h.rj.on hb, h.rd.on hb⟩
theorem WlAt.hb {W : World} {x : LWl} (h : WlAt W x) {i : Nat} (hi : i < x.w.d.length) : 1 <= hgt x.w i ∧ hgt x.w i <= 200000 := by
 obtain ⟨z0, z1⟩ := h.din i hi
 obtain ⟨y, hy⟩ := get_lt (show (zA x.w.d i).toNat < x.w.l.length by omega)
 unfold hgt
 rw [jAt_of hy]
 exact h.jb.h _ _ hy
theorem wl_of {W : World} {x : LWl} (h : rgtB x.w.c x.w.l x.w.d = true) (hj : Rd Jt.cs 2 W x.ja x.w.l) (hd : Rd zC 1 W x.da x.w.d) : WlAt W x := by
 unfold rgtB at h
 simp only [Bool.and_eq_true] at h
 obtain ⟨⟨hc, hl⟩, _, ha, _⟩ := h
 have hJ := jb_of hl
 unfold vCl at hc
 simp only [Bool.and_eq_true, decide_eq_true_eq] at hc
 obtain ⟨h1, h2, h3, h4, h5, h6⟩ := hc
 exact ⟨hJ, h1, h2, h3, h4, ⟨h5.1, by omega⟩, h6, fun k hk => asc_in ha hk, Nat.le_trans (asc_len ha) hJ.n, hj, hd⟩
theorem w_height (x : LWl) (i : Nat) (W : World) (h : WlAt W x) (hi : i < x.w.d.length) :
  Calls Tryz.prog 232 #[.agg x.A, .int .i64 (i : Nat)] W fun e w' => e = .returned (.int .i64 (hgt x.w i)) ∧ Below W.heap.size W w' := by
 have x0 := Blk.new W 258 x.A
 have B0 := bl_alloc (below_refl W) (.cells x.A 258)
 have b6 := x0.cell 6
 have b7 := x0.cell 7
 simp only [GA] at b6 b7
 obtain ⟨db, doff, hda, hdb, d0⟩ := rdZ (h.rd.on B0) hi
 obtain ⟨z0, z1⟩ := h.din i hi
 obtain ⟨m, hm⟩ := Int.eq_ofNat_of_zero_le z0
 rw [hm] at d0 z1
 have hml : m < x.w.l.length := by omega
 have m0 := nn m
 have i0 := nn i
 have i1 : (i : Int) < (x.w.d.length : Int) := by omega
 obtain ⟨y, jb, jo, hy, hja, hjb, c0, c1⟩ := rdJ (h.rj.on B0) hml
 have HE := Lib.hid (show hgt x.w i = y.h by unfold hgt; rw [hm]; show (jAt x.w.l m).h = y.h; rw [jAt_of hy])
 rw [HE.out]
 rw [hda] at b7
 rw [hja] at b6
 clear hy HE hm z0 h hda hja
 go_enter Tryz.func232, Tryz.ntmps232
 go_wp2_with fail
 go_quiet (fail)
 go_wp2
 go_ret
 exact ⟨rfl, bl⟩
theorem w_ends (x : LWl) (f : Nat) (W : World) (h : WlAt W x) (hf : f < x.w.d.length) :
  Calls Tryz.prog 231 #[.agg x.A, .int .i64 (f : Nat)] W fun e w' => e = .returned (.bool (endB x.w f)) ∧ Below W.heap.size W w' := by
 have x0 := Blk.new W 258 x.A
 have B0 := bl_alloc (below_refl W) (.cells x.A 258)
 have b0 := x0.cell 0
 have b1 := x0.cell 1
 have b2 := x0.cell 2
 have b3 := x0.cell 3
 have b4 := x0.cell 4
 have b5 := x0.cell 5
 have b6 := x0.cell 6
 have b7 := x0.cell 7
 simp only [GA] at b0 b1 b2 b3 b4 b5 b6 b7
 have lx := x0.lt
 have HH1 := Lib.hid (fun W' (hb : Below (W.alloc (.cells x.A 258)).heap.size (W.alloc (.cells x.A 258)) W') => w_height x f W' (h.on (below_tr B0 hb)) hf)
 have hb1 := h.hb hf
 have hle := h.le
 obtain ⟨R, hR0⟩ : ∃ R, R = endB x.w f := ⟨_, rfl⟩
 rw [← hR0]
 have HR := Lib.hid hR0
 have HA := Lib.hid (show endB x.w f = decide (x.w.c.tp <= hgt x.w f + x.w.c.le) from rfl)
 clear hR0
 clear h x0
 go_enter Tryz.func231, Tryz.ntmps231
 go_upto_region 1 with fail
 generalize W.alloc (.cells x.A 258) = w1 at *
 generalize hgt x.w f = H at *
 have hw : IntKind.i64.wrap (H + x.w.c.le) = H + x.w.c.le := fits_wrap ⟨by omega, by omega⟩
 refine wp_region_noPanic ?_
 refine th w1 fun hS0 => ?_
 refine tq 0 ?_
 refine tq 1 ?_
 refine tq 3 ?_
 refine tq 4 ?_
 refine tq 5 ?_
 refine tq 7 ?_
 refine tq 8 ?_
 refine tq 9 ?_
 refine tr 2 fun K hK => ?_
 go_simp
 (go_at_call 232; ((with_reducible refine (HH1.out _ bl).mono ?_); rintro e w3 ⟨rfl, hb3⟩; obtain ⟨hc3, hf3, hz3⟩ := qz hb3))
 refine hK.out _ _ kq (fun hS1 => ?_)
 clear hK K
 try simp only [AP]
 refine tq 6 ?_
 refine tq 10 ?_
 refine tq 11 ?_
 refine wpAnyH_done (by kernel_rfl) (NoPanic.normal ?_) _
 go_wp2
 go_ret
 exact ⟨ret_bool (by rw [HR.out, HA.out]), bl⟩
theorem tk_len {p : Nat -> Bool} {n j : Nat} (h1 : ∀ i, i < j -> p i = true) (h2 : j <= n) (h3 : j = n ∨ p j = false) : ((List.range n).takeWhile p).length = j := by
 have e : List.range n = List.range j ++ (List.range (n - j)).map (fun i => j + i) := by
  conv => lhs; rw [show n = j + (n - j) by omega, List.range_add]
 rw [e, List.takeWhile_append_of_pos (fun i hi => h1 i (List.mem_range.1 hi))]
 rcases h3 with h3 | h3
 ·subst h3; simp
 ·by_cases hjn : j = n
  ·subst hjn; simp
  ·rw [show n - j = (n - j - 1) + 1 by omega, List.range_succ_eq_map, List.map_cons, List.takeWhile_cons_of_neg (by simp [h3])]
   simp
theorem on_len (w : Wl) (f : Nat) : onN w f <= w.d.length := by
 unfold onN
 have h1 := List.takeWhile_sublist (fun i => decide (hgt w (f + i) <= hgt w f + w.c.le)) (l := List.range (w.d.length - f))
 have h2 := h1.length_le
 rw [List.length_range] at h2
 omega
theorem w_on (x : LWl) (f : Nat) (W : World) (h : WlAt W x) (hf : f < x.w.d.length) :
  Calls Tryz.prog 215 #[.agg x.A, .int .i64 (f : Nat)] W fun e w' => (∃ A c, e = .returned (.slice A (onN x.w f) c)) ∧ Below W.heap.size W w' := by
 obtain ⟨i0, hi, hi1, hi2, hi3⟩ := info_intF
 obtain ⟨N, hN0⟩ : ∃ N, N = onN x.w f := ⟨_, rfl⟩
 rw [← hN0]
 have HN := Lib.hid hN0
 clear hN0
 have x0 := Blk.new W 258 x.A
 have B0 := bl_alloc (below_refl W) (.cells x.A 258)
 have f0 := nn f
 have hdl := h.dl
 go_enter Tryz.func215, Tryz.ntmps215
 go_upto_region 3 with fail
 have h1 := h.on B0
 have lx := x0.lt
 generalize W.alloc (.cells x.A 258) = w1 at *
 have hz1 := B0.size
 go_loopw [5, 6] (fun v i wr => ∃ j : Nat, f + j <= x.w.d.length ∧ i = .int .i64 ((f + j : Nat) : Int) ∧ Below w1.heap.size w1 wr ∧ (∃ cs, wr.ownsRow w1.heap.size 3 1 v j cs) ∧ Hid (∀ i, i < j -> hgt x.w (f + i) <= hgt x.w f + x.w.c.le)) (fun _ i _ => x.w.d.length - (RowKit.intOf i).toNat)
 case atStart => exact ⟨0, by omega, rfl, below_refl _, ⟨[], World.ownsRow_nil w1 _ _ _⟩, Lib.hid (fun i hi => absurd hi (by omega))⟩
 case round =>
  obtain ⟨j, hj, rfl, hbw, ⟨cs, hown⟩, HI⟩ := hrel
  obtain ⟨ad, cp, rfl⟩ := own_slice hown
  have hx := x0.below hbw lx
  have hzw := hbw.size
  have lxr := hx.lt
  have b0 := hx.cell 0
  have b1 := hx.cell 1
  have b2 := hx.cell 2
  have b3 := hx.cell 3
  have b4 := hx.cell 4
  have b5 := hx.cell 5
  have b6 := hx.cell 6
  have b7 := hx.cell 7
  simp only [GA] at b0 b1 b2 b3 b4 b5 b6 b7
  clear hx
  have hr := h1.on hbw
  have BW := below_tr B0 hbw
  generalize hm : f + j = m at *
  have HM := Lib.hid hm
  clear hm
  have m0 := nn m
  by_cases hlt : m < x.w.d.length
  ·have k1 : (m : Int) < (x.w.d.length : Int) := by omega
   have hb1 := hr.hb hlt
   have hb2 := hr.hb hf
   have hle := hr.le
   have HH1 := Lib.hid (fun W' (hb : Below wr.heap.size wr W') => w_height x m W' (hr.on hb) hlt)
   have HH2 := Lib.hid (fun W' (hb : Below wr.heap.size wr W') => w_height x f W' (hr.on hb) hf)
   have HEX := Lib.hid (fun hg : ¬ hgt x.w m <= hgt x.w f + x.w.c.le => (show onN x.w f = j from tk_len (fun i hi => decide_eq_true (HI.out i hi)) (by have := HM.out; omega) (.inr (decide_eq_false (by rw [HM.out]; exact hg)))))
   have HIN := Lib.hid (fun hg : hgt x.w m <= hgt x.w f + x.w.c.le => (show ∀ i, i < j + 1 -> hgt x.w (f + i) <= hgt x.w f + x.w.c.le from fun i hi => by
    rcases Nat.lt_succ_iff_lt_or_eq.1 hi with h | h
    ·exact HI.out i h
    ·rw [h, HM.out]; exact hg))
   generalize hgt x.w m = H at *
   generalize hgt x.w f = F at *
   have hw : IntKind.i64.wrap (F + x.w.c.le) = F + x.w.c.le := fits_wrap ⟨by omega, by omega⟩
   by_cases hg : H <= F + x.w.c.le
   ·have HI1 := Lib.hid (HIN.out hg)
    clear HIN HEX HI
    go_upto_region 3 with fail
    refine wp_region_noPanic ?_
    refine th wr fun hS0 => ?_
    refine tq 0 ?_
    refine tq 1 ?_
    refine tq 2 ?_
    refine tq 3 ?_
    refine tq 4 ?_
    refine tq 5 ?_
    refine tq 6 ?_
    refine tq 7 ?_
    refine tq 9 ?_
    refine tq 10 ?_
    refine tq 12 ?_
    refine tq 13 ?_
    refine tq 14 ?_
    refine tr 8 fun K hK => ?_
    go_simp
    (go_at_call 232; ((with_reducible refine (HH1.out _ bl).mono ?_); rintro e w3 ⟨rfl, hb3⟩; obtain ⟨hc3, hf3, hz3⟩ := qz hb3))
    refine hK.out _ _ kq (fun hS1 => ?_)
    clear hK K
    try simp only [AP]
    refine tr 11 fun K hK => ?_
    go_simp
    (go_at_call 232; ((with_reducible refine (HH2.out _ bl).mono ?_); rintro e w4 ⟨rfl, hb4⟩; obtain ⟨hc4, hf4, hz4⟩ := qz hb4))
    refine hK.out _ _ kq (fun hS2 => ?_)
    clear hK K
    try simp only [AP]
    refine tq 15 ?_
    refine tq 16 ?_
    refine tq 17 ?_
    refine wpAnyH_done (by kernel_rfl) (NoPanic.normal ?_) _
    have B4 : Below wr.heap.size wr w4 := bl
    have bj := below_tr hbw B4
    have oj := own_on hown B4
    have sj := bj.size
    have hjn : j <= 200 := by have := HM.out; omega
    clear hown
    go_wp2_with (at_builtin; (refine wpList_append_own _ rfl _ _ 48 rfl w1.heap.size 3 i0 (.int .i64 0) 1 8 (by kernel_rfl) hi hi1 hi2 hi3 rfl (by omega) _ _ _ rfl (oj.alloc _) ⟨w4.heap.size, 0, none⟩ 1 1 [.int .i64 (m : Nat)] rfl rfl (cells_new w4 [.int .i64 (m : Nat)] 3) (fun u hu => by simp at hu; subst hu; rfl) (by unfold maxLen; omega) (by omega) (by simp; omega) ?_; intro v5 w5 hown5 hgrow5 _))
    have B5 : Below w1.heap.size w1 w5 := bl_app bj oj hgrow5 (Nat.le_refl _) sj
    clear hgrow5 oj
    go_wp2
    go_roundw
    case rel => exact ⟨j + 1, by have := HM.out; omega, by rw [show f + (j + 1) = m + 1 by have := HM.out; omega]; go_num, B5, ⟨_, hown5⟩, HI1⟩
    case measure => simp [RowKit.intOf]; omega
   ·have HE := Lib.hid (HEX.out hg)
    obtain rfl : N = j := HN.out.trans HE.out
    clear HIN HEX HI
    go_upto_region 3 with fail
    refine wp_region_noPanic ?_
    refine th wr fun hS0 => ?_
    refine tq 0 ?_
    refine tq 1 ?_
    refine tq 2 ?_
    refine tq 3 ?_
    refine tq 4 ?_
    refine tq 5 ?_
    refine tq 6 ?_
    refine tq 7 ?_
    refine tq 9 ?_
    refine tq 10 ?_
    refine tq 12 ?_
    refine tq 13 ?_
    refine tq 14 ?_
    refine tr 8 fun K hK => ?_
    go_simp
    (go_at_call 232; ((with_reducible refine (HH1.out _ bl).mono ?_); rintro e w3 ⟨rfl, hb3⟩; obtain ⟨hc3, hf3, hz3⟩ := qz hb3))
    refine hK.out _ _ kq (fun hS1 => ?_)
    clear hK K
    try simp only [AP]
    refine tr 11 fun K hK => ?_
    go_simp
    (go_at_call 232; ((with_reducible refine (HH2.out _ bl).mono ?_); rintro e w4 ⟨rfl, hb4⟩; obtain ⟨hc4, hf4, hz4⟩ := qz hb4))
    refine hK.out _ _ kq (fun hS2 => ?_)
    clear hK K
    try simp only [AP]
    refine tq 15 ?_
    refine tq 16 ?_
    refine tq 17 ?_
    refine wpAnyH_done (by kernel_rfl) (NoPanic.normal ?_) _
    go_wp2
    go_ret
    exact ⟨⟨_, _, rfl⟩, below_tr BW bl⟩
  ·have k1 : ¬ (m : Int) < (x.w.d.length : Int) := by omega
   have HE := Lib.hid (show onN x.w f = j from tk_len (fun i hi => decide_eq_true (HI.out i hi)) (by have := HM.out; omega) (.inl (by have := HM.out; omega)))
   obtain rfl : N = j := HN.out.trans HE.out
   clear HI
   go_upto_region 3 with fail
   refine wp_region_noPanic ?_
   refine th wr fun hS0 => ?_
   refine tq 0 ?_
   refine tq 1 ?_
   refine tq 2 ?_
   refine tq 3 ?_
   refine tq 4 ?_
   refine tq 5 ?_
   refine tv 6 ?_
   refine tv 7 ?_
   refine tv 8 ?_
   refine tv 9 ?_
   refine tv 10 ?_
   refine tv 11 ?_
   refine tv 12 ?_
   refine tv 13 ?_
   refine tv 14 ?_
   refine tv 15 ?_
   refine tv 16 ?_
   refine tq 17 ?_
   refine wpAnyH_done (by kernel_rfl) (NoPanic.normal ?_) _
   go_wp2
   go_ret
   exact ⟨⟨_, _, rfl⟩, below_tr BW bl⟩
theorem w_after (x : LWl) (b : Int) (f : Nat) (W : World) (h : WlAt W x) (hf : f < x.w.d.length) (hbl : b < (x.w.d.length : Int)) :
  Calls Tryz.prog 213 #[.agg x.A, .int .i64 b, .int .i64 (f : Nat)] W fun e w' => e = .returned (.bool (aftB x.w b f)) ∧ Below W.heap.size W w' := by
 have x0 := Blk.new W 258 x.A
 have B0 := bl_alloc (below_refl W) (.cells x.A 258)
 have f0 := nn f
 have hdl := h.dl
 have hol := on_len x.w f
 obtain ⟨R, hR0⟩ : ∃ R, R = aftB x.w b f := ⟨_, rfl⟩
 rw [← hR0]
 have HR := Lib.hid hR0
 clear hR0
 have HON := Lib.hid (fun W' (hb : Below W.heap.size W W') => w_on x f W' (h.on hb) hf)
 have HA := Lib.hid (show aftB x.w b f = (decide (2 <= onN x.w f) && (if b < 0 then decide (hgt x.w f <= x.w.c.fi) else decide (b < (f : Int)) && decide (hgt x.w f - hgt x.w b.toNat <= x.w.c.le - x.w.c.la))) from rfl)
 have lx := x0.lt
 have b0 := x0.cell 0
 have b1 := x0.cell 1
 have b2 := x0.cell 2
 have b3 := x0.cell 3
 have b4 := x0.cell 4
 have b5 := x0.cell 5
 have b6 := x0.cell 6
 have b7 := x0.cell 7
 simp only [GA] at b0 b1 b2 b3 b4 b5 b6 b7
 go_enter Tryz.func213, Tryz.ntmps213
 go_upto_region 1 with fail
 have h1 := h.on B0
 generalize W.alloc (.cells x.A 258) = w1 at *
 have hz1 := B0.size
 by_cases h2 : 2 <= onN x.w f
 ·have g2 : ¬ ((onN x.w f : Nat) : Int) < 2 := by omega
  rw [decide_eq_true h2, Bool.true_and] at HA
  by_cases hbn : b < 0
  ·rw [if_pos hbn] at HA
   generalize onN x.w f = N at *
   go_upto_region 4 with (go_at_call 215; ((with_reducible refine (HON.out _ B0).mono ?_); rintro e w2 ⟨⟨oA, oc, rfl⟩, hb2⟩))
   have hr := h1.on hb2
   have hx := x0.below hb2 lx
   have b0 := hx.cell 0
   have b1 := hx.cell 1
   have b2 := hx.cell 2
   have b3 := hx.cell 3
   have b4 := hx.cell 4
   have b5 := hx.cell 5
   have b6 := hx.cell 6
   have b7 := hx.cell 7
   simp only [GA] at b0 b1 b2 b3 b4 b5 b6 b7
   have BW := below_tr B0 hb2
   have lx2 := hx.lt
   have HH1 := Lib.hid (fun W' (hb : Below w2.heap.size w2 W') => w_height x f W' (hr.on hb) hf)
   clear hx hr h1 x0 HON
   generalize hgt x.w f = H at *
   refine wp_region_noPanic ?_
   refine th w2 fun hS0 => ?_
   refine tq 0 ?_
   refine tq 1 ?_
   refine tq 3 ?_
   refine tq 4 ?_
   refine tq 5 ?_
   refine tr 2 fun K hK => ?_
   go_simp
   (go_at_call 232; ((with_reducible refine (HH1.out _ bl).mono ?_); rintro e w3 ⟨rfl, hb3⟩; obtain ⟨hc3, hf3, hz3⟩ := qz hb3))
   refine hK.out _ _ kq (fun hS1 => ?_)
   clear hK K
   try simp only [AP]
   refine tq 6 ?_
   refine tq 7 ?_
   refine wpAnyH_done (by kernel_rfl) (NoPanic.normal ?_) _
   go_wp2
   go_ret
   exact ⟨ret_bool (by rw [HR.out, HA.out]), below_tr BW bl⟩
  ·rw [if_neg hbn] at HA
   obtain ⟨m, rfl⟩ := Int.eq_ofNat_of_zero_le (show 0 <= b by omega)
   have hm : m < x.w.d.length := by omega
   have m0 := nn m
   rw [Int.toNat_natCast] at HA
   have hbf := h.hb hf
   have hbm := h.hb hm
   have hle := h.le
   have hla := h.la
   have hw2 : IntKind.i64.wrap (x.w.c.le - x.w.c.la) = x.w.c.le - x.w.c.la := fits_wrap ⟨by omega, by omega⟩
   by_cases hmf : (m : Int) < (f : Int)
   ·rw [decide_eq_true hmf, Bool.true_and] at HA
    generalize onN x.w f = N at *
    have hmf2 : m < f := by omega
    go_upto_region 5 with (go_at_call 215; ((with_reducible refine (HON.out _ B0).mono ?_); rintro e w2 ⟨⟨oA, oc, rfl⟩, hb2⟩))
    have hr := h1.on hb2
    have hx := x0.below hb2 lx
    have b0 := hx.cell 0
    have b1 := hx.cell 1
    have b2 := hx.cell 2
    have b3 := hx.cell 3
    have b4 := hx.cell 4
    have b5 := hx.cell 5
    have b6 := hx.cell 6
    have b7 := hx.cell 7
    simp only [GA] at b0 b1 b2 b3 b4 b5 b6 b7
    have BW := below_tr B0 hb2
    have lx2 := hx.lt
    have HH1 := Lib.hid (fun W' (hb : Below w2.heap.size w2 W') => w_height x f W' (hr.on hb) hf)
    have HH2 := Lib.hid (fun W' (hb : Below w2.heap.size w2 W') => w_height x m W' (hr.on hb) hm)
    clear hx hr h1 x0 HON
    generalize hgt x.w f = H at *
    generalize hgt x.w m = F at *
    have hw1 : IntKind.i64.wrap (H - F) = H - F := fits_wrap ⟨by omega, by omega⟩
    refine wp_region_noPanic ?_
    refine th w2 fun hS0 => ?_
    refine tq 0 ?_
    refine tq 1 ?_
    refine tq 2 ?_
    refine tq 3 ?_
    refine tq 4 ?_
    refine tq 5 ?_
    refine tq 7 ?_
    refine tq 8 ?_
    refine tq 11 ?_
    refine tq 12 ?_
    refine tq 13 ?_
    refine tq 14 ?_
    refine tq 15 ?_
    refine tq 16 ?_
    refine tq 17 ?_
    refine tr 6 fun K hK => ?_
    go_simp
    (go_at_call 232; ((with_reducible refine (HH1.out _ bl).mono ?_); rintro e w3 ⟨rfl, hb3⟩; obtain ⟨hc3, hf3, hz3⟩ := qz hb3))
    refine hK.out _ _ kq (fun hS1 => ?_)
    clear hK K
    try simp only [AP]
    refine tr 9 fun K hK => ?_
    go_simp
    (go_at_call 232; ((with_reducible refine (HH2.out _ bl).mono ?_); rintro e w4 ⟨rfl, hb4⟩; obtain ⟨hc4, hf4, hz4⟩ := qz hb4))
    refine hK.out _ _ kq (fun hS2 => ?_)
    clear hK K
    try simp only [AP]
    refine tq 10 ?_
    refine tq 18 ?_
    refine tq 19 ?_
    refine tq 20 ?_
    refine wpAnyH_done (by kernel_rfl) (NoPanic.normal ?_) _
    go_wp2
    go_ret
    exact ⟨ret_bool (by rw [HR.out, HA.out]), below_tr BW bl⟩
   ·rw [decide_eq_false hmf, Bool.false_and] at HA
    generalize onN x.w f = N at *
    have hmf2 : ¬ m < f := by omega
    have hmf3 : decide (m < f) = false := decide_eq_false hmf2
    have hmf4 : decide ((m : Int) < (f : Int)) = false := decide_eq_false hmf
    go_upto_region 5 with (go_at_call 215; ((with_reducible refine (HON.out _ B0).mono ?_); rintro e w2 ⟨⟨oA, oc, rfl⟩, hb2⟩))
    have hr := h1.on hb2
    have hx := x0.below hb2 lx
    have b0 := hx.cell 0
    have b1 := hx.cell 1
    have b2 := hx.cell 2
    have b3 := hx.cell 3
    have b4 := hx.cell 4
    have b5 := hx.cell 5
    have b6 := hx.cell 6
    have b7 := hx.cell 7
    simp only [GA] at b0 b1 b2 b3 b4 b5 b6 b7
    have BW := below_tr B0 hb2
    have lx2 := hx.lt
    clear hx hr h1 x0 HON
    refine wp_region_noPanic ?_
    refine th w2 fun hS0 => ?_
    refine tq 0 ?_
    refine tq 1 ?_
    refine tq 2 ?_
    refine tq 3 ?_
    refine tv 4 ?_
    refine tv 5 ?_
    refine tv 6 ?_
    refine tv 7 ?_
    refine tv 8 ?_
    refine tv 9 ?_
    refine tv 10 ?_
    refine tv 11 ?_
    refine tv 12 ?_
    refine tv 13 ?_
    refine tv 14 ?_
    refine tv 15 ?_
    refine tv 16 ?_
    refine tv 17 ?_
    refine tv 18 ?_
    refine tq 19 ?_
    refine tq 20 ?_
    refine wpAnyH_done (by kernel_rfl) (NoPanic.normal ?_) _
    go_wp2
    go_ret
    exact ⟨ret_bool (by rw [HR.out, HA.out]), below_tr BW bl⟩
 ·have g2 : ((onN x.w f : Nat) : Int) < 2 := by omega
  rw [decide_eq_false h2, Bool.false_and] at HA
  generalize onN x.w f = N at *
  go_wp2_with (go_at_call 215; ((with_reducible refine (HON.out _ B0).mono ?_); rintro e w2 ⟨⟨oA, oc, rfl⟩, hb2⟩))
  go_ret
  exact ⟨ret_bool (by rw [HR.out, HA.out]), below_tr B0 hb2⟩
theorem w_afterV {x : LWl} {b : Int} {f : Nat} {W : World} {v : Bool} (hv : aftB x.w b f = v) (h : WlAt W x) (hf : f < x.w.d.length) (hbl : b < (x.w.d.length : Int)) :
  Calls Tryz.prog 213 #[.agg x.A, .int .i64 b, .int .i64 (f : Nat)] W fun e w' => e = .returned (.bool v) ∧ Below W.heap.size W w' := hv ▸ w_after x b f W h hf hbl
theorem w_endsV {x : LWl} {f : Nat} {W : World} {v : Bool} (hv : endB x.w f = v) (h : WlAt W x) (hf : f < x.w.d.length) :
  Calls Tryz.prog 231 #[.agg x.A, .int .i64 (f : Nat)] W fun e w' => e = .returned (.bool v) ∧ Below W.heap.size W w' := hv ▸ w_ends x f W h hf
def rsM (w : Wl) (k x : Nat) : Int := if k <= x then rsA w x else 0
def rsI (w : Wl) (f j : Nat) : Int := ((List.range j).map (fun i => f + 1 + i)).foldl (rsS w (rsA w) f) (rs0 w f)
theorem rsI_zero (w : Wl) (f : Nat) : rsI w f 0 = rs0 w f := rfl
theorem rsI_step (w : Wl) (f j : Nat) : rsI w f (j + 1) = rsS w (rsA w) f (rsI w f j) (f + 1 + j) := by
 unfold rsI; rw [List.range_succ, List.map_append, List.foldl_append]; rfl
theorem rsI_bd (w : Wl) (f j : Nat) : 0 <= rsI w f j ∧ rsI w f j <= w.d.length + 1 := by
 unfold rsI
 rw [rsS_fold]
 have h0 := rs0_01 w f
 refine upF_bd _ _ _ (by omega) (by omega) fun m hm => ?_
 obtain ⟨x, hx, rfl⟩ := List.mem_map.1 hm
 have := (rsA_le w x).2
 omega
def rsJ (w : Wl) (f : Nat) (a : Int) (x : Nat) : Int := if x = f then a else rsM w (f + 1) x
theorem rsJ_put (w : Wl) (f : Nat) (a a' : Int) : (fun x => if x = f then a' else rsJ w f a x) = rsJ w f a' := by funext x; unfold rsJ; split <;> simp_all
theorem rsM_all (w : Wl) : rsM w 0 = rsA w := by funext x; unfold rsM; rw [if_pos (by omega)]
theorem rsM_none (w : Wl) : rsM w w.d.length = fun _ => 0 := by
 funext x; unfold rsM; split
 ·exact rsA_out (by omega)
 ·rfl
theorem rsM_start (w : Wl) (f : Nat) : rsM w (f + 1) = rsJ w f 0 := by
 funext x; unfold rsJ; split
 ·rename_i h; unfold rsM; rw [if_neg (by omega)]
 ·rfl
theorem rsM_done {w : Wl} {f : Nat} (h : f < w.d.length) : rsJ w f (rsI w f (w.d.length - (f + 1))) = rsM w f := by
 funext x
 unfold rsJ
 split
 ·rename_i h1; unfold rsM; rw [h1, if_pos (Nat.le_refl _), rsA_eq h]; rfl
 ·rename_i h1; unfold rsM
  by_cases h2 : f + 1 <= x
  ·rw [if_pos h2, if_pos (by omega)]
  ·rw [if_neg h2, if_neg (by omega)]
theorem w_rests (x : LWl) (W : World) (h : WlAt W x) :
  Calls Tryz.prog 210 #[.agg x.A] W fun e w' => ∃ b n, e = .returned (.map (some b)) ∧ W.heap.size <= b ∧ n <= 100000 ∧ MpIs w' b n (rsA x.w) ∧ Below W.heap.size W w' := by
 have x0 := Blk.new W 258 x.A
 have B0 := bl_alloc (below_refl W) (.cells x.A 258)
 have hmm := @run_makeMap Tryz.prog
 have hdl := h.dl
 have b0 := x0.cell 0
 have b1 := x0.cell 1
 have b2 := x0.cell 2
 have b3 := x0.cell 3
 have b4 := x0.cell 4
 have b5 := x0.cell 5
 have b6 := x0.cell 6
 have b7 := x0.cell 7
 simp only [GA] at b0 b1 b2 b3 b4 b5 b6 b7
 go_enter Tryz.func210, Tryz.ntmps210
 go_upto_region 3 with fail
 have hm3 := mp_made (W.alloc (.cells x.A 258))
 rw [World.size_alloc] at hm3
 have B3 := bl_alloc B0 (.map #[] 0)
 have x3 := x0.alloc (.map #[] 0)
 have hz3 : W.heap.size + 2 <= ((W.alloc (.cells x.A 258)).alloc (.map #[] 0)).heap.size := by simp
 clear b0 b1 b2 b3 b4 b5 b6 b7 x0 B0 hmm
 generalize (W.alloc (.cells x.A 258)).alloc (.map #[] 0) = w3 at *
 have HBX : Hid (∀ wr, Stp (fun y => y = W.heap.size + 1) w3 wr -> Blk wr W.heap.size 258 x.A ∧ Below W.heap.size W wr ∧ WlAt wr x) := Lib.hid fun wr hs =>
  ⟨hs.blk x3 (by omega), B3.trans (hs.toBelow (by omega) (fun b hb => by omega)), ⟨h.jb, h.fi, h.ga, h.tp, h.le, h.la, h.st, h.din, h.dl, rd_keep h.rj B3 hs (by omega), rd_keep h.rd B3 hs (by omega)⟩⟩
 have hM0 := rsM_none x.w
 have hwz : IntKind.i64.wrap ((x.w.d.length : Int) - 1) = (x.w.d.length : Int) - 1 := fits_wrap ⟨by omega, by omega⟩
 clear x3 B3 h
 go_wp2
 go_loopw [4] (fun i wr => ∃ k n : Nat, k <= x.w.d.length ∧ i = .int .i64 ((k : Int) - 1) ∧ Stp (fun y => y = W.heap.size + 1) w3 wr ∧ MpIs wr (W.heap.size + 1) n (rsM x.w k) ∧ n <= 300 * (x.w.d.length - k)) (fun i _ => (RowKit.intOf i + 1).toNat)
 case atStart => exact ⟨x.w.d.length, 0, by omega, rfl, Stp.refl _ _, by rw [hM0]; exact hm3, by omega⟩
 case round =>
  obtain ⟨k, n, hk, rfl, hst, hmp, hnk⟩ := hrel
  rename World => wr
  cases k with
  | zero =>
   obtain ⟨hbx, hbw, hwl⟩ := HBX.out wr hst
   rw [rsM_all] at hmp
   clear hbx hwl
   go_wp2
   go_ret
   exact ⟨_, n, rfl, by omega, by omega, hmp, hbw⟩
  | succ f =>
   have k0 := nn f
   have hf : f < x.w.d.length := by omega
   have hff : ((f + 1 : Nat) : Int) - 1 = (f : Int) := by omega
   obtain ⟨hbx, hbw, hwl⟩ := HBX.out wr hst
   have b0 := hbx.cell 0
   have b1 := hbx.cell 1
   have b2 := hbx.cell 2
   have b3 := hbx.cell 3
   have b4 := hbx.cell 4
   have b5 := hbx.cell 5
   have b6 := hbx.cell 6
   have b7 := hbx.cell 7
   simp only [GA] at b0 b1 b2 b3 b4 b5 b6 b7
   rw [hff]
   have HEN := Lib.hid (fun v (hv : endB x.w f = v) => w_endsV hv hwl hf)
   have hmp2 := mp_eq hmp (rsM_start x.w f)
   have hkey : keyOf Tryz.prog 3 (.int .i64 (f : Nat)) = some (G.kyZ (f : Nat)) := G.keyZ (WalkArith.wf_i64 (by omega))
   have hRS := rsI_zero x.w f
   have h01 := rs0_01 x.w f
   have hwf : IntKind.i64.wrap ((f : Int) + 1) = (f : Int) + 1 := fits_wrap ⟨by omega, by omega⟩
   clear hmp hbx
   have BD : ∀ V, Below wr.heap.size wr V -> Stp (fun y => y = W.heap.size + 1) w3 V := fun V hb => hst.below hb hst.size
   have HE := Lib.hid (HEN.out _ rfl)
   go_upto_if 19 with (go_at_call 231; ((with_reducible refine HE.out.mono ?_); rintro e w5 ⟨rfl, hb5⟩))
   go_cut [] (fun wx => Stp (fun y => y = W.heap.size + 1) w3 wx ∧ ∃ n', n' <= n + 1 ∧ MpIs wx (W.heap.size + 1) n' (rsJ x.w f (rs0 x.w f)))
   case first =>
    have hmp5 := mp_on hmp2 hb5
    have hst5 := BD _ hb5
    cases hL : endB x.w f
    ·go_wp2
     go_meet
     exact ⟨hst5, n, by omega, by unfold rs0; rw [hL, if_neg (by simp)]; exact hmp5⟩
    ·obtain ⟨D, hoz, htd, hfd⟩ := hmp5
     go_wp2_with (first
      | (at_mapUpdate; refine wpList_mapUpdate_own _ rfl _ _ _ 214 rfl 3 3 G.lawZ G.und_mapZ _ (W.heap.size + 1) n _ rfl hoz (by unfold maxLen; omega) _ _ _ rfl rfl hkey _ [] (plainElem_int G.und_int (WalkArith.wf_i64 (by omega))) ?_; intro w6 hown6 hgrow6)
      | go_in)
     have hst6 := hst5.grown hgrow6 (fun r h => by injection h with h; exact .inl h.symm)
     have hm6 := mp_eq (mp_put htd hfd (by decide) hown6) (rsJ_put _ _ _ _)
     clear hown6 hgrow6 hoz
     go_wp2
     go_meet
     exact ⟨hst6, n + 1, by omega, by unfold rs0; rw [hL, if_pos rfl]; exact hm6⟩
   case rest =>
    obtain ⟨hst5, n5, hn5, hm5⟩ := hcut
    clear hmp2 BD HE HEN hst hbw hwl
    clear b0 b1 b2 b3 b4 b5 b6 b7
    generalize wc = w6 at *
    go_wp2
    go_loopw [5] (fun i wv => ∃ j m : Nat, f + 1 + j <= x.w.d.length ∧ i = .int .i64 ((f + 1 + j : Nat) : Int) ∧ Stp (fun y => y = W.heap.size + 1) w3 wv ∧ MpIs wv (W.heap.size + 1) m (rsJ x.w f (rsI x.w f j)) ∧ m <= n5 + j) (fun i _ => x.w.d.length - (RowKit.intOf i).toNat)
    case atStart => exact ⟨0, n5, by omega, by congr 1, hst5, by rw [hRS]; exact hm5, by omega⟩
    case round =>
     obtain ⟨j, m, hj, rfl, hst6, hm6, hmj⟩ := hrel
     rename World => wv
     obtain ⟨hbx, hbw, hwl⟩ := HBX.out wv hst6
     have b0 := hbx.cell 0
     have b1 := hbx.cell 1
     have b2 := hbx.cell 2
     have b3 := hbx.cell 3
     have b4 := hbx.cell 4
     have b5 := hbx.cell 5
     have b6 := hbx.cell 6
     have b7 := hbx.cell 7
     simp only [GA] at b0 b1 b2 b3 b4 b5 b6 b7
     clear hbx
     have HSN0 := Lib.hid (rsI_step x.w f j)
     generalize hy : f + 1 + j = y at *
     have HY := Lib.hid hy
     have hyj : j = y - (f + 1) ∧ f + 1 <= y := by omega
     have j0 := nn y
     have BD6 : ∀ V, Below wv.heap.size wv V -> Stp (fun y => y = W.heap.size + 1) w3 V := fun V h => hst6.below h hst6.size
     by_cases hjk : y < x.w.d.length
     ·have j1 : (y : Int) < (x.w.d.length : Int) := by omega
      have hyf : y ≠ f := by omega
      have hval : rsJ x.w f (rsI x.w f j) y = rsA x.w y := by unfold rsJ; rw [if_neg hyf]; unfold rsM; rw [if_pos (by omega)]
      have hself : rsJ x.w f (rsI x.w f j) f = rsI x.w f j := by unfold rsJ; simp
      have hlo := mp_look_ok hm6 y (by omega)
      rw [hval] at hlo
      have HSN := HSN0
      clear HSN0
      have hnb := rsA_le x.w y
      have hab2 := rsI_bd x.w f j
      have HLK : Hid (∀ V, Below wv.heap.size wv V -> (Instr.lookup 214 (.map (some (W.heap.size + 1))) (.int .i64 (f : Nat)) false).run Tryz.prog V = .ok (.int .i64 (rsI x.w f j)) V) := Lib.hid fun V h => by
       have := mp_look (mp_on hm6 h) f (by omega)
       rwa [hself] at this
      have HAF := Lib.hid (fun v (h : aftB x.w (f : Int) y = v) => w_afterV h hwl hjk (show (f : Int) < (x.w.d.length : Int) by omega))
      clear hy hval hself hwl
      generalize rsI x.w f j = aj at *
      unfold rsS at HSN
      by_cases hN0 : rsA x.w y = 0
      ·rw [hN0] at hlo HSN
       have hlo2 : (Instr.lookup 214 (.map (some (W.heap.size + 1))) (.int .i64 (y : Nat)) true).run Tryz.prog wv = .ok (.tuple #[.int .i64 0, .bool false]) wv := hlo
       have HS2 := Lib.hid (show rsI x.w f (j + 1) = aj by
        rw [HSN.out]
        split
        ·exact upM_no (by omega)
        ·rfl)
       clear HSN hlo HAF HLK
       go_wp2
       go_roundw
       case rel => exact ⟨j + 1, m, by omega, by rw [show f + 1 + (j + 1) = y + 1 by have := HY.out; omega]; go_num, hst6, by rw [HS2.out]; exact hm6, by omega⟩
       case measure => simp [RowKit.intOf]; omega
      ·have hN1 : 0 < rsA x.w y := by omega
       have hlo2 : (Instr.lookup 214 (.map (some (W.heap.size + 1))) (.int .i64 (y : Nat)) true).run Tryz.prog wv = .ok (.tuple #[.int .i64 (rsA x.w y), .bool true]) wv := by rw [hlo, decide_eq_true hN0]
       generalize rsA x.w y = N at *
       clear hlo
       cases hv : aftB x.w (f : Int) y
       ·have HF := Lib.hid (HAF.out _ hv)
        have HS2 := Lib.hid (show rsI x.w f (j + 1) = aj by rw [HSN.out, hv]; rfl)
        clear HAF HSN
        go_wp2_with (go_at_call 213; ((with_reducible refine HF.out.mono ?_); rintro e w7 ⟨rfl, hb7⟩; have hl7 := HLK.out w7 hb7))
        go_roundw
        case rel => exact ⟨j + 1, m, by omega, by rw [show f + 1 + (j + 1) = y + 1 by have := HY.out; omega]; go_num, BD6 _ hb7, by rw [HS2.out]; exact mp_on hm6 hb7, by omega⟩
        case measure => simp [RowKit.intOf]; omega
       ·have HF := Lib.hid (HAF.out _ hv)
        rw [hv, if_pos rfl] at HSN
        have hwN : IntKind.i64.wrap (N + 1) = N + 1 := fits_wrap ⟨by omega, by omega⟩
        clear HAF hv
        by_cases hup : aj = 0 ∨ N + 1 < aj
        ·have HS2 := Lib.hid (show rsI x.w f (j + 1) = N + 1 by rw [HSN.out]; unfold upM; rw [if_pos ⟨hN1, hup⟩])
         clear HSN
         rcases (by omega : aj = 0 ∨ (¬ aj = 0 ∧ N + 1 < aj)) with h0 | ⟨h0, h1⟩
         ·subst h0
          go_upto_region 12 with (go_at_call 213; ((with_reducible refine HF.out.mono ?_); rintro e w7 ⟨rfl, hb7⟩; have hl7 := HLK.out w7 hb7))
          obtain ⟨D, hoz, htd, hfd⟩ := mp_on hm6 hb7
          have hst7 := BD6 _ hb7
          go_wp2_with (first
           | (at_mapUpdate; refine wpList_mapUpdate_own _ rfl _ _ _ 214 rfl 3 3 G.lawZ G.und_mapZ _ (W.heap.size + 1) m _ rfl hoz (by unfold maxLen; omega) _ _ _ rfl rfl hkey _ [] (plainElem_int G.und_int (WalkArith.wf_i64 (by omega))) ?_; intro w8 hown8 hgrow8)
           | go_in)
          have hst8 := hst7.grown hgrow8 (fun r h => by injection h with h; exact .inl h.symm)
          have hm8 := mp_eq (mp_put htd hfd (show N + 1 ≠ 0 by omega) hown8) (rsJ_put _ _ _ _)
          clear hown8 hgrow8 hoz
          go_wp2
          go_roundw
          case rel => exact ⟨j + 1, m + 1, by omega, by rw [show f + 1 + (j + 1) = y + 1 by have := HY.out; omega]; go_num, hst8, by rw [HS2.out]; exact hm8, by omega⟩
          case measure => simp [RowKit.intOf]; omega
         ·have g0 : (aj == 0) = false := beq_eq_false_iff_ne.2 h0
          go_upto_region 12 with (go_at_call 213; ((with_reducible refine HF.out.mono ?_); rintro e w7 ⟨rfl, hb7⟩; have hl7 := HLK.out w7 hb7))
          obtain ⟨D, hoz, htd, hfd⟩ := mp_on hm6 hb7
          have hst7 := BD6 _ hb7
          go_wp2_with (first
           | (at_mapUpdate; refine wpList_mapUpdate_own _ rfl _ _ _ 214 rfl 3 3 G.lawZ G.und_mapZ _ (W.heap.size + 1) m _ rfl hoz (by unfold maxLen; omega) _ _ _ rfl rfl hkey _ [] (plainElem_int G.und_int (WalkArith.wf_i64 (by omega))) ?_; intro w8 hown8 hgrow8)
           | go_in)
          have hst8 := hst7.grown hgrow8 (fun r h => by injection h with h; exact .inl h.symm)
          have hm8 := mp_eq (mp_put htd hfd (show N + 1 ≠ 0 by omega) hown8) (rsJ_put _ _ _ _)
          clear hown8 hgrow8 hoz
          go_wp2
          go_roundw
          case rel => exact ⟨j + 1, m + 1, by omega, by rw [show f + 1 + (j + 1) = y + 1 by have := HY.out; omega]; go_num, hst8, by rw [HS2.out]; exact hm8, by omega⟩
          case measure => simp [RowKit.intOf]; omega
        ·have HS2 := Lib.hid (show rsI x.w f (j + 1) = aj by rw [HSN.out]; unfold upM; rw [if_neg (fun h => hup h.2)])
         have g0 : (aj == 0) = false := beq_eq_false_iff_ne.2 (fun h => hup (.inl h))
         have g1 : ¬ N + 1 < aj := fun h => hup (.inr h)
         clear HSN hup
         go_wp2_with (go_at_call 213; ((with_reducible refine HF.out.mono ?_); rintro e w7 ⟨rfl, hb7⟩; have hl7 := HLK.out w7 hb7))
         go_roundw
         case rel => exact ⟨j + 1, m, by omega, by rw [show f + 1 + (j + 1) = y + 1 by have := HY.out; omega]; go_num, BD6 _ hb7, by rw [HS2.out]; exact mp_on hm6 hb7, by omega⟩
         case measure => simp [RowKit.intOf]; omega
     ·have hjj : j = x.w.d.length - (f + 1) := by omega
      have j1 : ¬ (y : Int) < (x.w.d.length : Int) := by omega
      have HE := Lib.hid (show rsJ x.w f (rsI x.w f j) = rsM x.w f by rw [hjj]; exact rsM_done hf)
      rw [HE.out] at hm6
      have hw1 : IntKind.i64.wrap ((f : Int) - 1) = (f : Int) - 1 := fits_wrap ⟨by omega, by omega⟩
      clear hy hwl
      go_wp2
      go_roundw
      case rel => exact ⟨f, m, by omega, rfl, hst6, hm6, by omega⟩
      case measure => simp [RowKit.intOf]
end Go.Proofs.YtgemlddincnfcaaGreatDoor.Fi
