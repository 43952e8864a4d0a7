/- Fell: one side of the hull. -/
import Derived.Test.YthklgkgincebhaaGreatDoorFl
import Derived.Deep.DeepCutAuto
import Derived.Outline
set_option linter.unusedSimpArgs false
set_option linter.unusedVariables false
namespace Go.Proofs.YthklgkgincebhaaGreatDoor
open Go.RowKit Go.Shelf

theorem vcr_cr (a b x : Sp) : vcr (vec b a) (vec x b) = cr a b x := by unfold vcr vec cr; dsimp only; grind
theorem vcr_cr2 (a b x : Sp) : vcr (vec b a) (vec x a) = cr a b x := by unfold vcr vec cr; rfl
theorem pop_len (x : Sp) : ∀ st : List Sp, (pop x st).length ≤ st.length
  | [] => by unfold pop; simp
  | [a] => by unfold pop; simp
  | b :: a :: r => by
    unfold pop
    split
    · have := pop_len x (a :: r); simp at this ⊢; omega
    · simp
theorem fold_len : ∀ (l st : List Sp), (l.foldl psh st).length ≤ st.length + l.length
  | [], st => by simp
  | x :: l, st => by
    rw [List.foldl_cons]
    have h1 := fold_len l (psh st x)
    have h2 := pop_len x st
    have h3 : (psh st x).length = (pop x st).length + 1 := rfl
    rw [List.length_cons]; omega
theorem pop_mem (x : Sp) : ∀ (st : List Sp), ∀ y ∈ pop x st, y ∈ st
  | [], y, h => by unfold pop at h; exact h
  | [a], y, h => by unfold pop at h; exact h
  | b :: a :: r, y, h => by
    unfold pop at h
    split at h
    · exact List.mem_cons_of_mem _ (pop_mem x (a :: r) y h)
    · exact h
theorem fold_mem : ∀ (l st : List Sp), ∀ y ∈ l.foldl psh st, y ∈ st ∨ y ∈ l
  | [], st, y, h => .inl h
  | x :: l, st, y, h => by
    rw [List.foldl_cons] at h
    rcases fold_mem l (psh st x) y h with h | h
    · unfold psh at h
      rcases List.mem_cons.1 h with h | h
      · exact .inr (by rw [h]; exact List.mem_cons_self ..)
      · exact .inl (pop_mem x st y h)
    · exact .inr (List.mem_cons_of_mem _ h)
theorem pop_two {x a b : Sp} {r : List Sp} (h : cr a b x ≤ 0) : pop x (b :: a :: r) = pop x (a :: r) := by rw [pop, if_pos h]
theorem pop_stay {x a b : Sp} {r : List Sp} (h : ¬ cr a b x ≤ 0) : pop x (b :: a :: r) = b :: a :: r := by rw [pop, if_neg h]
theorem pop_few {x : Sp} {q : List Sp} (h : q.length < 2) : pop x q = q := by
  match q, h with
  | [], _ => rfl
  | [a], _ => rfl
theorem own_trunc {W : World} {base : Nat} {e : TypeId} {sz g n cap : Nat} {xs : List Value} (h : W.ownsRow base e sz (.slice (some ⟨g, 0, none⟩) n cap) n xs) {m : Nat} (hm : m ≤ n) : W.ownsRow base e sz (.slice (some ⟨g, 0, none⟩) m cap) m (xs.take (m * sz)) := by
  have hmn : m * sz ≤ n * sz := Nat.mul_le_mul_right _ hm
  refine ⟨by rw [List.length_take, h.1]; omega, ?_⟩
  rcases h.2 with ⟨h0, _⟩ | ⟨g', cap', cur, e1, hB, hh, h1, h2, h3, h4⟩
  · cases h0
  · injection e1 with a1 a2 a3
    injection a1 with a1
    injection a1 with a1
    subst a1 a3
    exact .inr ⟨g, cap, cur, rfl, hB, hh, by omega, h2, h3, by rw [← h4, List.take_take]; congr 1; omega⟩
theorem fl_take {l r : List Sp} : (fl Sp.cs (l ++ r)).take (l.length * 2) = fl Sp.cs l := by
  have : fl Sp.cs (l ++ r) = fl Sp.cs l ++ fl Sp.cs r := by simp [fl]
  rw [this, List.take_append_of_le_length (by rw [fl_length Sp.cs_len]; exact Nat.le_refl _), List.take_of_length_le (by rw [fl_length Sp.cs_len]; exact Nat.le_refl _)]
/-- one point off the top -/
theorem own_off {W : World} {base : Nat} {g cap : Nat} {out r : List Sp} {b : Sp} (h : W.ownsRow base 32 2 (.slice (some ⟨g, 0, none⟩) (out.length + (b :: r).length) cap) (out.length + (b :: r).length) (fl Sp.cs (out ++ (b :: r).reverse))) :
    W.ownsRow base 32 2 (.slice (some ⟨g, 0, none⟩) (out.length + r.length) cap) (out.length + r.length) (fl Sp.cs (out ++ r.reverse)) := by
  have := own_trunc h (m := out.length + r.length) (by simp)
  have e : out ++ (b :: r).reverse = (out ++ r.reverse) ++ [b] := by simp
  rw [e] at this
  have e2 : out.length + r.length = (out ++ r.reverse).length := by simp
  rw [e2, fl_take] at this
  rw [e2]; exact this
theorem at_top {out r : List Sp} {b a : Sp} : (out ++ (b :: a :: r).reverse)[out.length + r.length + 1]? = some b ∧ (out ++ (b :: a :: r).reverse)[out.length + r.length]? = some a := by
  have e : out ++ (b :: a :: r).reverse = (out ++ r.reverse) ++ [a, b] := by simp
  have e2 : out.length + r.length = (out ++ r.reverse).length := by simp
  rw [e, e2]
  constructor
  · rw [List.getElem?_append_right (by omega), Nat.add_sub_cancel_left]; rfl
  · rw [List.getElem?_append_right (by omega), Nat.sub_self]; rfl
theorem own_cell2 {W : World} {base : Nat} {e : TypeId} {sz g n cap : Nat} {xs : List Value} (h : W.ownsRow base e sz (.slice (some ⟨g, 0, none⟩) n cap) n xs) {j : Nat} {u : Value} (hj : xs[j]? = some u) : W.cell? ⟨g, j, none⟩ = some u ∧ W.frozen? ⟨g, j, none⟩ = false := by
  rcases h.2 with ⟨h0, _⟩ | ⟨g', cap', cur, e1, hB, hh, h1, h2, h3, h4⟩
  · cases h0
  · injection e1 with a1 a2 a3
    injection a1 with a1
    injection a1 with a1
    subst a1
    have hb : Blk W g e cur := hh
    refine ⟨?_, hb.frozen j⟩
    rw [hb.cell j]
    rw [← h4, List.getElem?_take] at hj
    split at hj
    · simpa using hj
    · cases hj
theorem own_at {W : World} {base g n cap : Nat} {l : List Sp} (h : W.ownsRow base 32 2 (.slice (some ⟨g, 0, none⟩) n cap) n (fl Sp.cs l)) {k : Nat} {x : Sp} (hx : l[k]? = some x) : W.cell? ⟨g, k * 2, none⟩ = some (.int .i64 x.x) ∧ W.cell? ⟨g, k * 2 + 1, none⟩ = some (.int .i64 x.y) ∧ g < W.heap.size := by
  obtain ⟨cur, hb, _⟩ := blk_own h
  have f0 := fl_get Sp.cs_len hx (r := 0) rfl
  have f1 := fl_get Sp.cs_len hx (r := 1) rfl
  exact ⟨(own_cell2 h f0).1, (own_cell2 h f1).1, hb.lt⟩
def SideP (base bO : Nat) (out s : List Sp) (w : World) (e : Ending) (w' : World) : Prop :=
  e = .returned noResult ∧ (∃ v, Blk w' bO 63 #[v] ∧ w'.ownsRow base 32 2 v (out ++ (chn s).tail.reverse).length (fl Sp.cs (out ++ (chn s).tail.reverse))) ∧ Stp (fun b => b = bO ∨ base ≤ b) w w'
set_option maxHeartbeats 8000000 in
set_option maxRecDepth 20000 in
theorem p_side (base bO bL : Nat) (v : Value) (out s : List Sp) (A : Nat) (c : Nat) (w : World) (hO : Blk w bO 63 #[v]) (hL : Blk w bL 63 #[.slice (some ⟨A, 0, none⟩) s.length c]) (hrow : w.ownsRow base 32 2 v out.length (fl Sp.cs out))
    (hs : Rd Sp.cs 2 w (some ⟨A, 0, none⟩) s) (hne : s ≠ []) (h1 : bO ≠ bL) (h2 : A ≠ bO) (h3 : bO < base) (h4 : bL < base) (h5 : A < base) (h6 : base ≤ w.heap.size) (hol : out.length ≤ 1000) (hsl : s.length ≤ 1000) (hbd : ∀ x ∈ s, Bd 10000 x) :
    Calls Tryz.prog 69 #[.pointer (some ⟨bO, 0, none⟩), .pointer (some ⟨bL, 0, none⟩)] w (SideP base bO out s w) := by
  obtain ⟨ad, cp, rfl⟩ := own_slice hrow
  have HBD := Lib.hid hbd
  have HLE := Lib.hid (fun k => fold_len (s.take k) [])
  have HME := Lib.hid (fun k => fold_mem (s.take k) [])
  clear hbd
  have q1 := hO.cell 0
  have q2 := hL.cell 0
  simp only [List.getElem?_toArray, List.getElem?_cons_zero] at q1 q2
  go_enter Tryz.func69, Tryz.ntmps69
  go_wp2
  go_loopw [10] (fun i wr => ∃ (k : Nat) (v : Value), k ≤ s.length ∧ i = .int .i64 k ∧ Blk wr bO 63 #[v] ∧ wr.ownsRow base 32 2 v (out.length + ((s.take k).foldl psh []).length) (fl Sp.cs (out ++ ((s.take k).foldl psh []).reverse)) ∧ Stp (fun b => b = bO ∨ base ≤ b) w wr) (fun i _ => s.length - (intOf i).toNat)
  case atStart => exact ⟨0, _, by omega, rfl, hO, by simpa using hrow, Stp.refl _ _⟩
  case round =>
    clear hO hrow q1
    obtain ⟨k, v, hk, rfl, hO, hrow, hst⟩ := hrel
    have k0 : (0 : Int) ≤ (k : Int) := Int.natCast_nonneg _
    have hLr := hst.blk hL (by rintro (e | e) <;> omega)
    have hsr := hs.stp hst (by rintro a e; cases e; show ¬ (A = bO ∨ base ≤ A); omega)
    have hz := hst.size
    by_cases hlt : k < s.length
    · have k1 : (k : Int) < (s.length : Int) := by omega
      obtain ⟨x, b, off, hx, e, hb, c0, c1⟩ := rdS hsr hlt
      cases e
      rw [Nat.zero_add] at c0 c1
      have hxb := HBD.out x (List.mem_of_getElem? hx)
      have HTK := Lib.hid (show (s.take (k + 1)).foldl psh [] = psh ((s.take k).foldl psh []) x by rw [List.take_add_one, hx, List.foldl_append]; rfl)
      have hstl := HLE.out k
      have hstm := HME.out k
      rw [List.length_nil, Nat.zero_add, List.length_take] at hstl
      have hstl2 : ((s.take k).foldl psh []).length ≤ 1000 := by omega
      have HSB := Lib.hid (show ∀ y ∈ (s.take k).foldl psh [], Bd 10000 y from fun y hy => by
        rcases hstm y hy with h | h
        · cases h
        · exact HBD.out y (List.mem_of_mem_take h))
      clear hstl hstm hx
      generalize (s.take k).foldl psh [] = st at *
      obtain ⟨ad, cp, rfl⟩ := own_slice hrow
      have q1 := hO.cell 0
      simp only [List.getElem?_toArray, List.getElem?_cons_zero] at q1
      have zO := hO.lt
      go_wp2_with fail
      have x4 := Blk.new wr 32 (spA x)
      have hst4 := hst.alloc (.cells (spA x) 32)
      have hO4 := hO.alloc (.cells (spA x) 32)
      have hr4 := own_on hrow (bl_alloc (below_refl wr) (.cells (spA x) 32))
      have hs4 : w.heap.size ≤ wr.heap.size := hst.size
      rw [show out.length + st.length = out.length + st.length from rfl] at hr4
      clear hO hrow hst hLr hsr c0 c1 q1 q2 zO
      go_loopw [5] (fun i wq => ∃ (q : List Sp) (Q : Nat) (v : Value), i = .int .i64 ((out.length : Int) + (Q : Int)) ∧ Hid (Q = q.length) ∧ Q ≤ 1000 ∧ Blk wq bO 63 #[v] ∧ wq.ownsRow base 32 2 v (out.length + Q) (fl Sp.cs (out ++ q.reverse)) ∧ Hid (pop x st = pop x q) ∧ Hid (∀ y ∈ q, Bd 10000 y) ∧ Blk wq wr.heap.size 32 (spA x) ∧ Stp (fun b => b = bO ∨ base ≤ b) w wq) (fun i _ => (intOf i).toNat)
      case atStart => exact ⟨st, st.length, _, rfl, Lib.hid rfl, hstl2, hO4, hr4, Lib.hid rfl, HSB, x4, hst4⟩
      case round =>
        clear x4 hst4 hO4 hr4
        rename World => wq
        obtain ⟨q, Q, v, rfl, HQ, hQ1, hO, hrow, HPQ, HBQ, xb, hst⟩ := hrel
        obtain ⟨ad, cp, rfl⟩ := own_slice hrow
        have q1 := hO.cell 0
        have p0 := xb.cell 0
        have p1 := xb.cell 1
        simp only [List.getElem?_toArray, List.getElem?_cons_zero, List.getElem?_cons_succ] at q1 p0 p1
        have zO := hO.lt
        have zx := xb.lt
        have hwf : IntKind.i64.wrap ((out.length : Int) + (Q : Int) - (out.length : Int)) = (Q : Int) := by rw [show (out.length : Int) + (Q : Int) - (out.length : Int) = (Q : Int) by omega]; exact fits_wrap (by omega)
        by_cases hq2 : Q < 2
        · have hd : decide ((2 : Int) ≤ (Q : Int)) = false := decide_eq_false (by omega)
          have hql := HQ.out
          have HP := Lib.hid (show pop x st = q by rw [HPQ.out]; exact pop_few (by omega))
          clear hql HPQ
          go_wp2_with fail
          go_quiet (fail)
          have hOx := hO.drewN nq
          have hrx := own_drewN (n := nq) hrow
          have xbx := xb.drewN nq
          have hstx := hst.drewN nq
          generalize wq.drewN nq = w7 at *
          clear hO hrow xb hst q1 p0 p1 zO zx hwf hd
          have q9 := hOx.cell 0
          have p9 := xbx.cell 0
          have r9 := xbx.cell 1
          simp only [List.getElem?_toArray, List.getElem?_cons_zero, List.getElem?_cons_succ] at q9 p9 r9
          have zO9 := hOx.lt
          have zx9 := xbx.lt
          have hbs9 : base ≤ w7.heap.size := Nat.le_trans h6 hstx.size
          obtain ⟨i0, hi, hi1, hi2, hi3⟩ := info_spot
          go_wp2_with (at_builtin; go_loud (refine wpList_append_own _ rfl _ _ 63 rfl base 32 i0 (.agg #[.int .i64 0, .int .i64 0]) 2 16 (by kernel_rfl) hi hi1 hi2 hi3 rfl (by omega) _ _ _ rfl (hrx.alloc _) ⟨w7.heap.size, 0, none⟩ 1 1 x.cs rfl rfl (cells_new w7 x.cs 32) (spC_one x) (by unfold maxLen; omega) (by omega) (by simp; omega) ?_; intro v9 w9 hown9 hgrow9 _; have hO9 := (hOx.alloc (.cells (spA x) 32)).grown hgrow9 (own_ne hrx h3); have q19 := hO9.cell 0; have f19 := hO9.frozen 0; simp only [List.getElem?_toArray, List.getElem?_cons_zero] at q19; have zO19 := hO9.lt; obtain ⟨g9, c9, rfl⟩ := ownsRow_succ hown9))
          have hst9 : Stp (fun b => b = bO ∨ base ≤ b) w w9 := (hstx.alloc _).grown hgrow9 (fun r hr => .inl (.inr (own_ge hrx r hr).1))
          go_roundw
          case rel =>
            refine ⟨k + 1, _, by omega, by go_num, hO9.set_ 0 _, ?_, hst9.setCell (.inl (.inl rfl)) _⟩
            rw [HTK.out]
            have e1 : psh st x = x :: q := by unfold psh; rw [HP.out]
            rw [e1]
            have e2 : out ++ (x :: q).reverse = (out ++ (q).reverse) ++ [x] := by simp
            rw [e2, fl_snoc]
            have e3 : out.length + (x :: q).length = out.length + Q + 1 := by have := HQ.out; simp at this ⊢; omega
            rw [e3]
            exact own_far hown9 (fun b hb => by have := (own_ge hown9 b hb).1; show b ≠ bO; omega)
          case measure => simp [intOf]; omega
        · match q, HQ, HPQ, HBQ, hrow with
          | [], HQ, _, _, _ => exact absurd HQ.out (by simp; omega)
          | [_], HQ, _, _, _ => exact absurd HQ.out (by simp; omega)
          | b :: a :: r, HQ, HPQ, HBQ, hrow =>
            have hQr : Q = r.length + 2 := HQ.out
            have hd : decide ((2 : Int) ≤ (Q : Int)) = true := decide_eq_true (by omega)
            have hba := HBQ.out b (by simp)
            have haa := HBQ.out a (by simp)
            obtain ⟨n1, hn1⟩ : ∃ n1 : Nat, n1 = out.length + r.length + 1 := ⟨_, rfl⟩
            obtain ⟨n2, hn2⟩ : ∃ n2 : Nat, n2 = out.length + r.length := ⟨_, rfl⟩
            have hw1 : IntKind.i64.wrap ((out.length : Int) + (Q : Int) - 1) = (n1 : Int) := by rw [show (out.length : Int) + (Q : Int) - 1 = (n1 : Int) by omega]; exact fits_wrap (by omega)
            have hw2 : IntKind.i64.wrap ((out.length : Int) + (Q : Int) - 2) = (n2 : Int) := by rw [show (out.length : Int) + (Q : Int) - 2 = (n2 : Int) by omega]; exact fits_wrap (by omega)
            have n10 : (0 : Int) ≤ (n1 : Int) := Int.natCast_nonneg _
            have n11 : (n1 : Int) < (out.length : Int) + (Q : Int) := by omega
            have n20 : (0 : Int) ≤ (n2 : Int) := Int.natCast_nonneg _
            have n21 : (n2 : Int) < (out.length : Int) + (Q : Int) := by omega
            obtain ⟨g, cap, cur, e5, hgb, hbk, _⟩ := own_row Sp.cs_len (show wq.ownsRow base 32 2 (.slice ad (out.length + Q) cp) (out ++ (b :: a :: r).reverse).length (fl Sp.cs (out ++ (b :: a :: r).reverse)) by rw [show (out ++ (b :: a :: r).reverse).length = out.length + Q by simp; omega]; exact hrow) (by simp; omega)
            have eL : (out ++ (b :: a :: r).reverse).length = out.length + Q := by simp; omega
            rw [eL] at e5
            injection e5 with a1 a2 a3
            subst a1
            subst a3
            obtain ⟨t1, t2⟩ := at_top (out := out) (r := r) (b := b) (a := a)
            rw [← hn1] at t1
            rw [← hn2] at t2
            obtain ⟨cb0, cb1, gl⟩ := own_at hrow t1
            obtain ⟨ca0, ca1, _⟩ := own_at hrow t2
            have HL1 := Lib.hid (fun W => p_less b a W (hba.mono (by omega)) (haa.mono (by omega)))
            have HL2 := Lib.hid (fun W => p_less x b W (hxb.mono (by omega)) (hba.mono (by omega)))
            have HC := Lib.hid (fun W => p_cross (vec b a) (vec x b) W ((vec_bd (m := 10000) (n := 10000) hba haa).mono (by omega)) ((vec_bd (m := 10000) (n := 10000) hxb hba).mono (by omega)))
            rw [vcr_cr] at HC
            have HPY := Lib.hid (fun (h : cr a b x ≤ 0) => pop_two (r := r) h)
            have HPN := Lib.hid (fun (h : ¬ cr a b x ≤ 0) => pop_stay (r := r) h)
            generalize vec b a = V1 at *
            generalize vec x b = V2 at *
            generalize cr a b x = C at *
            have HN1 := Lib.hid hn1
            have HN2 := Lib.hid hn2
            have HQR := Lib.hid hQr
            have hcapN := (blk_own hrow)
            obtain ⟨_, _, _, hcap1, _, hcap2⟩ := hcapN
            unfold maxLen at hcap2
            have n1c : (n1 : Int) ≤ (cp : Int) := by omega
            have capb : (cp : Int) ≤ 9223372036854775807 := by omega
            clear hn1 hn2 hQr t1 t2 a2 eL hba haa
            have eQ : out.length + (b :: a :: r).length = out.length + Q := by have := HQR.out; simp; omega
            have hrow2 : wq.ownsRow base 32 2 (.slice (some ⟨g, 0, none⟩) (out.length + (b :: a :: r).length) cp) (out.length + (b :: a :: r).length) (fl Sp.cs (out ++ (b :: a :: r).reverse)) := by rw [eQ]; exact hrow
            have HOFF := Lib.hid (own_off hrow2)
            clear hrow2 eQ
            by_cases hC : C ≤ 0
            · have hdc : decide (C ≤ 0) = true := decide_eq_true hC
              have hzl := hst.size
              go_wp2_with fail
              go_region_held3 (fun w' => (∀ b o, b < wq.heap.size → w'.cell? ⟨b, o, none⟩ = wq.cell? ⟨b, o, none⟩) ∧ (∀ b o, b < wq.heap.size → w'.frozen? ⟨b, o, none⟩ = wq.frozen? ⟨b, o, none⟩) ∧ Below wq.heap.size wq w') ((first | assumption | (refine kp_of ?_; (repeat' (first | assumption | exact below_refl _ | refine bl_alloc ?_ _ | refine Below.setCell ?_ ?_ _ | refine below_draw ?_ | refine below_drewN ?_ _ | refine below_tr ?_ (by assumption))) <;> (first | omega | (simp; done) | (simp; omega))))) ((first | (go_at_call 44; ((with_reducible refine (HL1.out _).mono ?_); rintro e w3 ⟨rfl, hb3⟩; obtain ⟨hc3, hf3⟩ := bcell hb3; have hz3 := hb3.size; (try simp [sz_drew, sz_drewN] at hz3); (try simp only [sz_drew, sz_drewN] at hc3 hf3); have y3_0 : bO < w3.heap.size := (by omega))) | (go_at_call 44; ((with_reducible refine (HL2.out _).mono ?_); rintro e w4 ⟨rfl, hb4⟩; obtain ⟨hc4, hf4⟩ := bcell hb4; have hz4 := hb4.size; (try simp [sz_drew, sz_drewN] at hz4); (try simp only [sz_drew, sz_drewN] at hc4 hf4); have y4_0 : bO < w4.heap.size := (by omega))) | (go_at_call 43; ((with_reducible refine (HC.out _).mono ?_); rintro e w5 ⟨rfl, hb5⟩; obtain ⟨hc5, hf5⟩ := bcell hb5; have hz5 := hb5.size; (try simp [sz_drew, sz_drewN] at hz5); (try simp only [sz_drew, sz_drewN] at hc5 hf5); have y5_0 : bO < w5.heap.size := (by omega)))))
              have B5 : Below wq.heap.size wq w5 := by (repeat' (first | assumption | exact below_refl _ | refine bl_alloc ?_ _ | refine Below.setCell ?_ ?_ _ | refine below_draw ?_ | refine below_drewN ?_ _ | refine below_tr ?_ (by assumption))) <;> (first | omega | (simp; done) | (simp; omega))
              have hO5 := hO.below B5 zO
              have q15 := hO5.cell 0
              have f15 := hO5.frozen 0
              simp only [List.getElem?_toArray, List.getElem?_cons_zero] at q15
              have zO5 := hO5.lt
              have xb5 := xb.below B5 zx
              have st5 := hst.below B5 hzl
              have HOFF5 := Lib.hid (own_on HOFF.out B5)
              clear hO hrow xb hst q1 p0 p1 zO zx cb0 cb1 ca0 ca1 gl hbk HL1 HL2 HC hb3 hc3 hf3 hz3 hb4 hc4 hf4 hz4 hb5 hc5 hf5 hz5 B5 HOFF hwf hd hdc
              go_wp2
              go_roundw
              case rel =>
                refine ⟨a :: r, r.length + 1, _, int_eq (by have := HN1.out; omega), Lib.hid rfl, by have := HQR.out; omega, hO5.set_ 0 _, ?_, Lib.hid (by rw [HPQ.out, HPY.out hC]), Lib.hid (fun y hy => HBQ.out y (List.mem_cons_of_mem _ hy)), xb5.far (by show wr.heap.size ≠ bO; omega) _, st5.setCell (.inl (.inl rfl)) _⟩
                have e := HOFF5.out
                have en : out.length + (a :: r).length = n1 := by have := HN1.out; simp; omega
                rw [en] at e
                have en2 : out.length + (r.length + 1) = n1 := by have := HN1.out; omega
                rw [en2]
                exact own_far e (fun b' hb' => by cases hb'; show g ≠ bO; omega)
              case measure => simp [intOf]; have := HN1.out; have := HQR.out; omega
            · have hdc : decide (C ≤ 0) = false := decide_eq_false hC
              have HP := Lib.hid (show pop x st = b :: a :: r by rw [HPQ.out, HPN.out hC])
              have hzl := hst.size
              go_wp2_with fail
              go_region_held3 (fun w' => (∀ b o, b < wq.heap.size → w'.cell? ⟨b, o, none⟩ = wq.cell? ⟨b, o, none⟩) ∧ (∀ b o, b < wq.heap.size → w'.frozen? ⟨b, o, none⟩ = wq.frozen? ⟨b, o, none⟩) ∧ Below wq.heap.size wq w') ((first | assumption | (refine kp_of ?_; (repeat' (first | assumption | exact below_refl _ | refine bl_alloc ?_ _ | refine Below.setCell ?_ ?_ _ | refine below_draw ?_ | refine below_drewN ?_ _ | refine below_tr ?_ (by assumption))) <;> (first | omega | (simp; done) | (simp; omega))))) ((first | (go_at_call 44; ((with_reducible refine (HL1.out _).mono ?_); rintro e w3 ⟨rfl, hb3⟩; obtain ⟨hc3, hf3⟩ := bcell hb3; have hz3 := hb3.size; (try simp [sz_drew, sz_drewN] at hz3); (try simp only [sz_drew, sz_drewN] at hc3 hf3); have y3_0 : bO < w3.heap.size := (by omega))) | (go_at_call 44; ((with_reducible refine (HL2.out _).mono ?_); rintro e w4 ⟨rfl, hb4⟩; obtain ⟨hc4, hf4⟩ := bcell hb4; have hz4 := hb4.size; (try simp [sz_drew, sz_drewN] at hz4); (try simp only [sz_drew, sz_drewN] at hc4 hf4); have y4_0 : bO < w4.heap.size := (by omega))) | (go_at_call 43; ((with_reducible refine (HC.out _).mono ?_); rintro e w5 ⟨rfl, hb5⟩; obtain ⟨hc5, hf5⟩ := bcell hb5; have hz5 := hb5.size; (try simp [sz_drew, sz_drewN] at hz5); (try simp only [sz_drew, sz_drewN] at hc5 hf5); have y5_0 : bO < w5.heap.size := (by omega)))))
              have B5 : Below wq.heap.size wq w5 := by (repeat' (first | assumption | exact below_refl _ | refine bl_alloc ?_ _ | refine Below.setCell ?_ ?_ _ | refine below_draw ?_ | refine below_drewN ?_ _ | refine below_tr ?_ (by assumption))) <;> (first | omega | (simp; done) | (simp; omega))
              have hOx := hO.below B5 zO
              have xbx := xb.below B5 zx
              have hstx := hst.below B5 hzl
              have hrx := own_on hrow B5
              clear hO hrow xb hst q1 p0 p1 zO zx cb0 cb1 ca0 ca1 gl hbk HL1 HL2 HC hb3 hc3 hf3 hz3 hb4 hc4 hf4 hz4 hb5 hc5 hf5 hz5 B5 HOFF hwf hd hdc HPY HPN HPQ
              generalize w5 = w8 at *
              have q9 := hOx.cell 0
              have p9 := xbx.cell 0
              have r9 := xbx.cell 1
              simp only [List.getElem?_toArray, List.getElem?_cons_zero, List.getElem?_cons_succ] at q9 p9 r9
              have zO9 := hOx.lt
              have zx9 := xbx.lt
              have hbs9 : base ≤ w8.heap.size := Nat.le_trans h6 hstx.size
              obtain ⟨i0, hi, hi1, hi2, hi3⟩ := info_spot
              go_wp2_with (at_builtin; go_loud (refine wpList_append_own _ rfl _ _ 63 rfl base 32 i0 (.agg #[.int .i64 0, .int .i64 0]) 2 16 (by kernel_rfl) hi hi1 hi2 hi3 rfl (by omega) _ _ _ rfl (hrx.alloc _) ⟨w8.heap.size, 0, none⟩ 1 1 x.cs rfl rfl (cells_new w8 x.cs 32) (spC_one x) (by unfold maxLen; omega) (by omega) (by simp; omega) ?_; intro v9 w9 hown9 hgrow9 _; have hO9 := (hOx.alloc (.cells (spA x) 32)).grown hgrow9 (own_ne hrx h3); have q19 := hO9.cell 0; have f19 := hO9.frozen 0; simp only [List.getElem?_toArray, List.getElem?_cons_zero] at q19; have zO19 := hO9.lt; obtain ⟨g9, c9, rfl⟩ := ownsRow_succ hown9))
              have hst9 : Stp (fun b => b = bO ∨ base ≤ b) w w9 := (hstx.alloc _).grown hgrow9 (fun r hr => .inl (.inr (own_ge hrx r hr).1))
              go_roundw
              case rel =>
                refine ⟨k + 1, _, by omega, by go_num, hO9.set_ 0 _, ?_, hst9.setCell (.inl (.inl rfl)) _⟩
                rw [HTK.out]
                have e1 : psh st x = x :: (b :: a :: r) := by unfold psh; rw [HP.out]
                rw [e1]
                have e2 : out ++ (x :: (b :: a :: r)).reverse = (out ++ (b :: a :: r).reverse) ++ [x] := by simp
                rw [e2, fl_snoc]
                have e3 : out.length + (x :: (b :: a :: r)).length = out.length + Q + 1 := by have := HQ.out; simp at this ⊢; omega
                rw [e3]
                exact own_far hown9 (fun b hb => by have := (own_ge hown9 b hb).1; show b ≠ bO; omega)
              case measure => simp [intOf]; omega
    · obtain rfl : k = s.length := by omega
      have hch : (s.take s.length).foldl psh [] = chn s := by rw [List.take_length]; rfl
      rw [hch] at hrow
      have hcl : (chn s).length ≤ s.length := by have := fold_len s []; simpa [chn] using this
      obtain ⟨tp, r, hcr⟩ : ∃ tp r, chn s = tp :: r := by
        cases hq : s with
        | nil => exact absurd hq hne
        | cons y ys =>
          cases hc : chn (y :: ys) with
          | nil =>
            exfalso
            have e : ∀ (l st : List Sp), st ≠ [] → l.foldl psh st ≠ [] := fun l => by
              induction l with
              | nil => intro st h; exact h
              | cons a l ih => intro st _; exact ih _ (by unfold psh; simp)
            exact e ys (psh [] y) (by unfold psh; simp) hc
          | cons a b => exact ⟨a, b, rfl⟩
      have HT := Lib.hid (show (chn s).tail.reverse = r.reverse by rw [hcr]; rfl)
      rw [hcr] at hrow hcl
      obtain ⟨ad, cp, rfl⟩ := own_slice hrow
      have q1 := hO.cell 0
      have f1 := hO.frozen 0
      simp only [List.getElem?_toArray, List.getElem?_cons_zero] at q1
      have zO := hO.lt
      have eL : (out ++ (tp :: r).reverse).length = out.length + (tp :: r).length := by simp
      obtain ⟨g, cap, cur, e5, hgb, hbk, _⟩ := own_row Sp.cs_len (show wr.ownsRow base 32 2 (.slice ad (out.length + (tp :: r).length) cp) (out ++ (tp :: r).reverse).length (fl Sp.cs (out ++ (tp :: r).reverse)) by rw [eL]; exact hrow) (by simp; omega)
      rw [eL] at e5
      injection e5 with a1 a2 a3
      subst a1
      subst a3
      obtain ⟨_, _, _, hcap1, _, hcap2⟩ := blk_own hrow
      unfold maxLen at hcap2
      have HOFF := Lib.hid (own_off hrow)
      obtain ⟨n1, hn1⟩ : ∃ n1 : Nat, n1 = out.length + r.length := ⟨_, rfl⟩
      obtain ⟨N, hN⟩ : ∃ N : Nat, N = out.length + (tp :: r).length := ⟨_, rfl⟩
      have hNn : N = n1 + 1 := by rw [hN, hn1]; simp; omega
      rw [← hN] at q1 hcap1
      have HN1 := Lib.hid hn1
      have hN1b : N ≤ 3000 := by rw [hNn, hn1]; simp at hcl; omega
      have hw1 : IntKind.i64.wrap ((N : Int) - 1) = (n1 : Int) := by rw [show (N : Int) - 1 = (n1 : Int) by omega]; exact fits_wrap (by omega)
      have n10 : (0 : Int) ≤ (n1 : Int) := Int.natCast_nonneg _
      have n1c : (n1 : Int) ≤ (cp : Int) := by omega
      have capb : (cp : Int) ≤ 9223372036854775807 := by omega
      have hgne : g ≠ bO := by omega
      clear hrow hbk a2 eL hch hcr hcl hn1 hN hNn hcap1
      go_wp2
      refine bodyPost_end (results_none rfl _ _ _) rfl ⟨rfl, ⟨_, hO.set_ 0 _, ?_⟩, hst.setCell (.inl (.inl rfl)) _⟩
      rw [HT.out]
      have e := HOFF.out
      rw [← HN1.out] at e
      have e2 : (out ++ r.reverse).length = n1 := by have := HN1.out; simp; omega
      rw [e2]
      exact own_far e (fun b' hb' => by cases hb'; exact hgne)
end Go.Proofs.YthklgkgincebhaaGreatDoor
