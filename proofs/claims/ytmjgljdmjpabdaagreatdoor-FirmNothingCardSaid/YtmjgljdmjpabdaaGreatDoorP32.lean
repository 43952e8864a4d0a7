/- The parts of the proof, part 32. -/
import Derived.Test.YtmjgljdmjpabdaaGreatDoorP0
import Derived.Test.YtmjgljdmjpabdaaGreatDoorP13
import Derived.Test.YtmjgljdmjpabdaaGreatDoorP30
import Derived.Maps.OwnSet
set_option linter.unusedSimpArgs false
set_option linter.unusedVariables false
namespace Go.Proofs.YtmjgljdmjpabdaaGreatDoor.Fi
open Go.RowKit Go.Lib Tx Go.Maps
theorem wpList_insert_own {H : Type} {P : Program} (w : World) {ops : Array Oper} {rest : List Oper} {o : Oper} {a : Act} {Q : Exit → Act → World → Prop}
    (hg : o.guard = none) (m x v : Operand) (t : TypeId) (hop : o.op = Op.insert t m x v)
    (k e : TypeId) (K : Keyed P k) (ht : P.underlying t = some (.map k e)) (R : Value → Option (DataW H × List MemPlace)) (b n : Nat) (D : DataW H)
    (hm : a.eval m = .map (some b)) (hown : w.ownsMap P k R b n D) (hn : n < maxLen) (key val : Value) (kl : Lit) (hx : a.eval x = key) (hv : a.eval v = val) (hkey : keyOf P k key = some kl)
    (d : DataW H) (ps : List MemPlace) (hval : R val = some (d, ps))
    (hK : ∀ w', w'.ownsMap P k R b (n + 1) (D.put kl d) → w.grownBy w' (some b) → wpList P ops Q rest (a.put o.dst undef) w') :
    wpList P ops Q (o :: rest) a w := by
  refine wpList_plain hg fun K' hK' => ?_
  obtain ⟨w', hrun, r1, r2⟩ := hown.update K ht hn hkey hval
  unfold Oper.wp
  simp [execOp, hop, hm, hx, hv, hrun, Result.andThen]
  exact hK' _ _ (hK w' r1 r2)
def RF (v : Value) : Option (DataW Value × List MemPlace) := some (.held v, [])
theorem und_mapF : Tryz.prog.underlying 169 = some (.map 9 167) := by kernel_rfl
theorem zeroF (w : World) : (zeroValue 167).run Tryz.prog w = .ok .nilFunc w := by kernel_rfl
def sgD1 : DataW Value := DataW.put (DataW.map []) (.string [103, 117, 115, 116]) (.held (.func (.func 125) #[] #[]))
def sgD2 : DataW Value := DataW.put sgD1 (.string [100, 111, 103]) (.held (.func (.func 126) #[] #[]))
def sgD3 : DataW Value := DataW.put sgD2 (.string [115, 116, 114, 105, 107, 101]) (.held (.func (.func 127) #[] #[]))
def sgD4 : DataW Value := DataW.put sgD3 (.string [102, 101, 108, 108]) (.held (.func (.func 128) #[] #[]))
def sgD5 : DataW Value := DataW.put sgD4 (.string [98, 105, 108, 108]) (.held (.func (.func 129) #[] #[]))
theorem key_c (s : List UInt8) (h : s.length ≤ maxLen) : keyOf Tryz.prog 9 (.string ⟨s.toArray⟩) = some (.string s) := by
  have := G.keyS (s := ⟨s.toArray⟩) (by rw [ByteArray.size]; simpa using h)
  rw [this]
set_option maxHeartbeats 2000000 in
set_option maxRecDepth 20000 in
theorem f_singles (w : World) : Calls Tryz.prog 88 #[] w fun e w' => e = .returned (.map (some w.heap.size)) ∧ Below w.heap.size w w' ∧ w'.ownsMap Tryz.prog 9 RF w.heap.size 5 sgD5 := by
  have hmm := @run_makeMap Tryz.prog
  have hk1 := key_c [103, 117, 115, 116] (by decide)
  have hk2 := key_c [100, 111, 103] (by decide)
  have hk3 := key_c [115, 116, 114, 105, 107, 101] (by decide)
  have hk4 := key_c [102, 101, 108, 108] (by decide)
  have hk5 := key_c [98, 105, 108, 108] (by decide)
  have o0 : (w.alloc (.map #[] 0)).ownsMap Tryz.prog 9 RF w.heap.size 0 (.map []) := World.ownsMap_made _ _ _ _
  have b0 := bl_alloc (below_refl w) (.map #[] 0)
  have z0 : w.heap.size ≤ (w.alloc (.map #[] 0)).heap.size := b0.size
  go_enter Tryz.func88, Tryz.ntmps88
  go_wp2_with (first
    | (refine wpList_insert_own _ rfl _ _ _ 169 rfl 9 167 G.lawS und_mapF RF w.heap.size 0 (DataW.map []) rfl o0 (by unfold maxLen; omega) (.string ⟨#[103, 117, 115, 116]⟩) (.func (.func 125) #[] #[]) _ rfl rfl hk1 _ [] rfl ?_; intro w1 o1 g1; have b1 := b0.grown g1 z0 (fun j hj => by cases hj; exact Nat.le_refl _); have z1 := b1.size)
    | (refine wpList_insert_own _ rfl _ _ _ 169 rfl 9 167 G.lawS und_mapF RF w.heap.size 1 sgD1 rfl o1 (by unfold maxLen; omega) (.string ⟨#[100, 111, 103]⟩) (.func (.func 126) #[] #[]) _ rfl rfl hk2 _ [] rfl ?_; intro w2 o2 g2; have b2 := b1.grown g2 z1 (fun j hj => by cases hj; exact Nat.le_refl _); have z2 := b2.size)
    | (refine wpList_insert_own _ rfl _ _ _ 169 rfl 9 167 G.lawS und_mapF RF w.heap.size 2 sgD2 rfl o2 (by unfold maxLen; omega) (.string ⟨#[115, 116, 114, 105, 107, 101]⟩) (.func (.func 127) #[] #[]) _ rfl rfl hk3 _ [] rfl ?_; intro w3 o3 g3; have b3 := b2.grown g3 z2 (fun j hj => by cases hj; exact Nat.le_refl _); have z3 := b3.size)
    | (refine wpList_insert_own _ rfl _ _ _ 169 rfl 9 167 G.lawS und_mapF RF w.heap.size 3 sgD3 rfl o3 (by unfold maxLen; omega) (.string ⟨#[102, 101, 108, 108]⟩) (.func (.func 128) #[] #[]) _ rfl rfl hk4 _ [] rfl ?_; intro w4 o4 g4; have b4 := b3.grown g4 z3 (fun j hj => by cases hj; exact Nat.le_refl _); have z4 := b4.size)
    | (refine wpList_insert_own _ rfl _ _ _ 169 rfl 9 167 G.lawS und_mapF RF w.heap.size 4 sgD4 rfl o4 (by unfold maxLen; omega) (.string ⟨#[98, 105, 108, 108]⟩) (.func (.func 129) #[] #[]) _ rfl rfl hk5 _ [] rfl ?_; intro w5 o5 g5; have b5 := b4.grown g5 z4 (fun j hj => by cases hj; exact Nat.le_refl _); have z5 := b5.size)
    | fail)
  go_ret
  exact ⟨rfl, b5, o5⟩
theorem f_sg1 (i : Int) (w : World) : Calls Tryz.prog 125 #[.int .i64 i] w fun e w' => e = .returned (.iface 179 (.agg #[.int .i64 i])) ∧ w = w' := by
  go_enter Tryz.func125, Tryz.ntmps125
  go_wp2
  go_ret
  exact ⟨rfl, rfl⟩
theorem f_sg2 (i : Int) (w : World) : Calls Tryz.prog 126 #[.int .i64 i] w fun e w' => e = .returned (.iface 181 (.agg #[.int .i64 i])) ∧ w = w' := by
  go_enter Tryz.func126, Tryz.ntmps126
  go_wp2
  go_ret
  exact ⟨rfl, rfl⟩
theorem f_sg3 (i : Int) (w : World) : Calls Tryz.prog 127 #[.int .i64 i] w fun e w' => e = .returned (.iface 183 (.agg #[.int .i64 i])) ∧ w = w' := by
  go_enter Tryz.func127, Tryz.ntmps127
  go_wp2
  go_ret
  exact ⟨rfl, rfl⟩
theorem f_sg4 (i : Int) (w : World) : Calls Tryz.prog 128 #[.int .i64 i] w fun e w' => e = .returned (.iface 184 (.agg #[.int .i64 i])) ∧ w = w' := by
  go_enter Tryz.func128, Tryz.ntmps128
  go_wp2
  go_ret
  exact ⟨rfl, rfl⟩
theorem f_sg5 (i : Int) (w : World) : Calls Tryz.prog 129 #[.int .i64 i] w fun e w' => e = .returned (.iface 185 (.agg #[.int .i64 i])) ∧ w = w' := by
  go_enter Tryz.func129, Tryz.ntmps129
  go_wp2
  go_ret
  exact ⟨rfl, rfl⟩
theorem sg_at1 : sgD5.atKey (.string [103, 117, 115, 116]) (.held .nilFunc) = .held (.func (.func 125) #[] #[]) ∧ Maps.has sgD5 (.string [103, 117, 115, 116]) = true := ⟨by rfl, by rfl⟩
theorem sg_at2 : sgD5.atKey (.string [100, 111, 103]) (.held .nilFunc) = .held (.func (.func 126) #[] #[]) ∧ Maps.has sgD5 (.string [100, 111, 103]) = true := ⟨by rfl, by rfl⟩
theorem sg_at3 : sgD5.atKey (.string [115, 116, 114, 105, 107, 101]) (.held .nilFunc) = .held (.func (.func 127) #[] #[]) ∧ Maps.has sgD5 (.string [115, 116, 114, 105, 107, 101]) = true := ⟨by rfl, by rfl⟩
theorem sg_at4 : sgD5.atKey (.string [102, 101, 108, 108]) (.held .nilFunc) = .held (.func (.func 128) #[] #[]) ∧ Maps.has sgD5 (.string [102, 101, 108, 108]) = true := ⟨by rfl, by rfl⟩
theorem sg_at5 : sgD5.atKey (.string [98, 105, 108, 108]) (.held .nilFunc) = .held (.func (.func 129) #[] #[]) ∧ Maps.has sgD5 (.string [98, 105, 108, 108]) = true := ⟨by rfl, by rfl⟩
theorem sg_no {s : List UInt8} (h1 : s ≠ [103, 117, 115, 116]) (h2 : s ≠ [100, 111, 103]) (h3 : s ≠ [115, 116, 114, 105, 107, 101]) (h4 : s ≠ [102, 101, 108, 108]) (h5 : s ≠ [98, 105, 108, 108]) : Maps.has sgD5 (.string s) = false := by
  have hD : sgD5 = .map [(.string [98, 105, 108, 108], .held (.func (.func 129) #[] #[])), (.string [100, 111, 103], .held (.func (.func 126) #[] #[])), (.string [102, 101, 108, 108], .held (.func (.func 128) #[] #[])), (.string [103, 117, 115, 116], .held (.func (.func 125) #[] #[])), (.string [115, 116, 114, 105, 107, 101], .held (.func (.func 127) #[] #[]))] := by rfl
  rw [hD, Maps.has_eq]
  simp only [List.any_cons, List.any_nil, Lit.sameKey, Bool.or_false, Bool.or_eq_false_iff, beq_eq_false_iff_ne]
  exact ⟨Ne.symm h5, Ne.symm h2, Ne.symm h4, Ne.symm h1, Ne.symm h3⟩
end Go.Proofs.YtmjgljdmjpabdaaGreatDoor.Fi
set_option linter.unusedSimpArgs false
set_option linter.unusedVariables false
namespace Go.Proofs.YtmjgljdmjpabdaaGreatDoor.Fi
open Go.RowKit Go.Lib Tx
theorem c_SplitAt (d : UInt8) (s : List UInt8) (w : World) (hs : s.length ≤ 100000) (hL : LdW w) :
    Calls Tryz.prog 29 #[.string (bts s), .string ⟨#[d]⟩] w fun e w' => ∃ b, e = .returned (.slice (some ⟨b, 0, none⟩) (cutZ d s).length (cutZ d s).length) ∧ Below w.heap.size w w' ∧ Rd stG 1 w' (some ⟨b, 0, none⟩) (cutZ d s) ∧ w.heap.size ≤ b ∧ b < w'.heap.size := by
  obtain ⟨m, hm⟩ := hL.mx
  refine (Tryz.strings_Split (bts s) ⟨#[d]⟩ m w (by rw [bts_size]; omega) hm (by simp [ByteArray.size])).mono ?_
  rintro e w' ⟨rfl, rfl⟩
  have h1 : (Lib.splitB ⟨#[d]⟩ 0 (Lib.countB (bts s) ⟨#[d]⟩) (bts s)).map (·.data.toList) = cutZ d s := by
    have e : ∀ x : ByteArray, (Lib.splitB ⟨#[d]⟩ 0 (Lib.countB x ⟨#[d]⟩) x).map (·.data.toList) = Lib.split x.data.toList [d] := fun x => by rw [splitB_data]; rfl
    rw [e, split_cut, bts_list]
  have h2 : (Lib.splitB ⟨#[d]⟩ 0 (Lib.countB (bts s) ⟨#[d]⟩) (bts s)).length = Lib.countB (bts s) ⟨#[d]⟩ + 1 := splitB_all _ (by simp [ByteArray.size]) 0 _ (bts s) rfl
  have h3 : (cutZ d s).length = Lib.countB (bts s) ⟨#[d]⟩ + 1 := by rw [← h1, List.length_map, h2]
  have h4 : (Lib.splitB ⟨#[d]⟩ 0 (Lib.countB (bts s) ⟨#[d]⟩) (bts s)).map Value.string = fl stG (cutZ d s) := by
    rw [← h1]
    generalize Lib.splitB ⟨#[d]⟩ 0 (Lib.countB (bts s) ⟨#[d]⟩) (bts s) = X
    induction X with
    | nil => rfl
    | cons x r ih =>
      simp only [List.map_cons, fl, List.flatMap_cons] at ih ⊢
      rw [ih]
      rfl
  rw [h3, h4]
  refine ⟨w.heap.size, by simp, bl_alloc (below_refl w) _, ?_, Nat.le_refl _, by simp⟩
  generalize cutZ d s = P
  have hf : fl stG P = P.map (fun p => Value.string (bts p)) := by
    unfold fl
    induction P with
    | nil => rfl
    | cons p r ih => rw [List.flatMap_cons, ih]; rfl
  rw [hf]
  intro _
  refine ⟨w.heap.size, 0, rfl, by simp, fun k x hx j v hv => ?_⟩
  have hb := Blk.new w 9 (P.map (fun p => Value.string (bts p))).toArray
  cases j with
  | zero =>
    simp [stG] at hv
    subst hv
    rw [show 0 + k * 1 + 0 = k by omega, hb.cell k, List.getElem?_toArray, List.getElem?_map, hx]
    rfl
  | succ j => simp [stG] at hv
theorem rdc {W : World} {b off : Nat} {P : List (List UInt8)} (h : Rd stG 1 W (some ⟨b, off, none⟩) P) {k : Nat} {p : List UInt8} (hp : P[k]? = some p) : W.cell? ⟨b, off + k, none⟩ = some (.string (bts p)) := by
  obtain ⟨b', off', e, hb, hc⟩ := h.get hp
  cases e
  have := hc 0 (.string (bts p)) rfl
  rw [show off + k * 1 + 0 = off + k by omega] at this
  exact this
theorem rdz {W : World} {b off : Nat} {P : List Int} (h : Rd zC 1 W (some ⟨b, off, none⟩) P) {k : Nat} {p : Int} (hp : P[k]? = some p) : W.cell? ⟨b, off + k, none⟩ = some (.int .i64 p) := by
  obtain ⟨b', off', e, hb, hc⟩ := h.get hp
  cases e
  have := hc 0 (.int .i64 p) rfl
  rw [show off + k * 1 + 0 = off + k by omega] at this
  exact this
theorem rd_dropA {α : Type} {enc : α → List Value} {sz : Nat} {w : World} {b off : Nat} {l : List α} (h : Rd enc sz w (some ⟨b, off, none⟩) l) (n : Nat) : Rd enc sz w (some ⟨b, off + n * sz, none⟩) (l.drop n) := fun hne => by
  obtain ⟨b', off', e, hb, hc⟩ := h (by rintro rfl; simp at hne)
  cases e
  refine ⟨b, off + n * sz, rfl, hb, fun k x hx j v hv => ?_⟩
  rw [List.getElem?_drop] at hx
  rw [show off + n * sz + k * sz + j = off + (n + k) * sz + j by rw [Nat.add_mul]; omega]
  exact hc _ x hx j v hv
theorem rd_bts {W : World} {A : Option Addr} {P : List (List UInt8)} (h : Rd stG 1 W A P) : Rd G.sC 1 W A (P.map bts) := fun hne => by
  obtain ⟨b, off, e, hb, hc⟩ := h (by rintro rfl; simp at hne)
  refine ⟨b, off, e, hb, fun k x hx j v hv => ?_⟩
  rw [List.getElem?_map] at hx
  cases hp : P[k]? with
  | none => rw [hp] at hx; simp at hx
  | some p =>
    rw [hp] at hx
    simp at hx
    subst hx
    exact hc k p hp j v hv
theorem has_emp (P : List (List UInt8)) : G.hasB (P.map bts) ⟨#[]⟩ = decide ([] ∈ P) := by
  have e : (⟨#[]⟩ : ByteArray).toList = [] := by rw [ByteArray.toList_eq]
  rw [Bool.eq_iff_iff, decide_eq_true_iff]
  unfold G.hasB
  rw [List.any_eq_true]
  constructor
  · rintro ⟨x, hx, h⟩
    obtain ⟨p, hp, rfl⟩ := List.mem_map.1 hx
    rw [bts_emp, e, beq_iff_eq] at h
    rw [h]; exact hp
  · intro h
    exact ⟨bts [], List.mem_map.2 ⟨[], h, rfl⟩, by rw [bts_emp, e]; rfl⟩
theorem nums_no {P : List (List UInt8)} {w w' : World} {e : Ending} (h : nmsO P = none) (hn : NumP P w e w') : e = .returned (.tuple #[.slice none 0 0, .bool false]) ∧ Below w.heap.size w w' := by
  obtain ⟨hb, hm⟩ := hn
  rw [h] at hm
  exact ⟨hm, hb⟩
theorem nums_yes {P : List (List UInt8)} {ns : List Int} {m : Nat} {w w' : World} {e : Ending} (h : nmsO P = some ns) (hl : ns.length = m) (hn : NumP P w e w') : ∃ A c, e = .returned (.tuple #[.slice A m c, .bool true]) ∧ Rd zC 1 w' A ns ∧ m ≤ c ∧ Below w.heap.size w w' := by
  obtain ⟨hb, hm⟩ := hn
  rw [h] at hm
  obtain ⟨A, c, he, hg⟩ := hm
  subst hl
  exact ⟨A, c, he, hg.rd, hg.lc, hb⟩
theorem nums_yes1 {P : List (List UInt8)} {ns : List Int} {m : Nat} {w w' : World} {e : Ending} (h : nmsO P = some ns) (hl : ns.length = m) (h1 : 1 ≤ m) (hn : NumP P w e w') : ∃ b off c, e = .returned (.tuple #[.slice (some ⟨b, off, none⟩) m c, .bool true]) ∧ Rd zC 1 w' (some ⟨b, off, none⟩) ns ∧ m ≤ c ∧ Below w.heap.size w w' := by
  obtain ⟨A, c, he, hr, hc, hb⟩ := nums_yes h hl hn
  obtain ⟨b, off, e', _⟩ := hr (by rintro rfl; simp at hl; omega)
  subst e'
  exact ⟨b, off, c, he, hr, hc, hb⟩
theorem lks_nil {P : List (List UInt8)} {w w' : World} {e : Ending} (h : lksO P = none) (hn : LksP P w e w') : e = .returned (.tuple #[.slice none 0 0, .bool false]) ∧ Below w.heap.size w w' := by
  obtain ⟨hb, hm⟩ := hn
  rw [h] at hm
  exact ⟨hm, hb⟩
theorem lks_som {P : List (List UInt8)} {ns : List G.Lk} {w w' : World} {e : Ending} (h : lksO P = some ns) (hn : LksP P w e w') : ∃ A c, e = .returned (.tuple #[.slice A ns.length c, .bool true]) ∧ Rd G.Lk.cs 2 w' A ns ∧ Below w.heap.size w w' := by
  obtain ⟨hb, hm⟩ := hn
  rw [h] at hm
  obtain ⟨A, c, he, hg⟩ := hm
  exact ⟨A, c, he, hg.rd, hb⟩
theorem nms_some {P : List (List UInt8)} {ns : List Int} (h : nmsO P = some ns) : ns.length = P.length ∧ ∀ x ∈ ns, I64 x := by
  rw [nms_is] at h
  split at h
  · rename_i ha
    cases h
    refine ⟨List.length_map .., fun x hx => ?_⟩
    obtain ⟨p, hp, rfl⟩ := List.mem_map.1 hx
    have := ((T6.num_iff p).1 (List.all_eq_true.1 ha p hp)).2
    unfold I64; omega
  · cases h
theorem lks_some {P : List (List UInt8)} {ns : List G.Lk} (hs : ∀ p ∈ P, p.length ≤ 100000) (h : lksO P = some ns) : ns.length = P.length ∧ ∀ k ∈ ns, G.LW k := by
  rw [lks_is] at h
  split at h
  · rename_i ha
    cases h
    refine ⟨List.length_map .., fun x hx => ?_⟩
    obtain ⟨p, hp, rfl⟩ := List.mem_map.1 hx
    have h1 := List.all_eq_true.1 ha p hp
    unfold lkB at h1
    have h2 := ((T6.num_iff _).1 (Bool.and_eq_true_iff.1 h1).2).2
    have h3 := (cut_szs 58 p).1
    have h4 := hs p hp
    unfold lkZ
    constructor
    all_goals dsimp only; (try rw [bts_size]); (try unfold maxLen); omega
  · cases h
def ComP (s : List UInt8) (w : World) (e : Ending) (w' : World) : Prop := Below w.heap.size w w' ∧
  match cmdO s with
  | none => e = .returned .nilIface
  | some c => ∃ v, e = .returned v ∧ CmV w' c v
theorem com_no {s : List UInt8} {w w' : World} (h : cmdO s = none) (hb : Below w.heap.size w w') : ComP s w (.returned .nilIface) w' := ⟨hb, by rw [h]⟩
theorem com_yes {s : List UInt8} {c : Cm} {v : Value} {w w' : World} (h : cmdO s = some c) (hv : CmV w' c v) (hb : Below w.heap.size w w') : ComP s w (.returned v) w' := ⟨hb, by rw [h]; exact ⟨v, rfl, hv⟩⟩
theorem cmd_is {s p0 : List UInt8} {R : List (List UInt8)} (hP : cutZ 32 s = p0 :: R) (he : [] ∉ p0 :: R) : cmdO s =
    (if p0 = [114, 105, 103] ∧ 1 < R.length then (match nmsO (R.take 1), lksO (R.drop 1) with | some [n], some l => some (.rig n l) | _, _ => none)
    else if p0 = [108, 111, 111, 107] ∧ R.length = 1 then some (.look (bts (R.getD 0 [])))
    else if p0 = [99, 97, 108, 108] ∧ R.length = 1 then some (.call (bts (R.getD 0 [])))
    else match nmsO R with
      | none => none
      | some n =>
        if p0 = [108, 105, 102, 116] ∧ 1 < n.length then some (.lift (n.getD 0 0) (n.drop 1))
        else if p0 = [100, 97, 121] ∧ n.length = 0 then some .day
        else if n.length = 1 then sngO p0 (n.getD 0 0)
        else if p0 = [117, 112] ∧ n.length = 2 then some (.up (n.getD 0 0) (n.getD 1 0))
        else if p0 = [100, 111, 119, 110] ∧ n.length = 2 then some (.down (n.getD 0 0) (n.getD 1 0))
        else none) := by
  unfold cmdO
  rw [hP]
  dsimp only
  rw [if_neg he]
  rfl
end Go.Proofs.YtmjgljdmjpabdaaGreatDoor.Fi
