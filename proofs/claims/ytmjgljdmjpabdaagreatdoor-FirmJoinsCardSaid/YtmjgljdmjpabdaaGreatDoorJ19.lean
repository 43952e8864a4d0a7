/- The parts of the proof, part 19. -/
import Derived.Test.YtmjgljdmjpabdaaGreatDoorJ0
import Derived.Test.YtmjgljdmjpabdaaGreatDoorJ15
import Derived.Test.YtmjgljdmjpabdaaGreatDoorJ18
import Derived.Deep.RegionHeld3
import Derived.Stop.RegionWithIn
set_option linter.unusedSimpArgs false
set_option linter.unusedVariables false
namespace Go.Proofs.YtmjgljdmjpabdaaGreatDoor.Fi
open Go.RowKit Go.Lib Tx
theorem Inv.slen {L : LS} (h : Inv L.val) : L.sites.l.length ≤ 8 := by
 have h1 := h.sl
 have h2 := (vSu_parts h.su).1
 unfold LS.val at h1 h2
 dsimp only at h1 h2
 rw [List.length_map] at h1
 omega
theorem Inv.men {L : LS} (h : Inv L.val) {k : Nat} {s : LSi} (hs : L.sites.l[k]? = some s) : 0 ≤ s.men ∧ s.men ≤ 16 :=
 h.sm s.val (by unfold LS.val; exact List.mem_map.2 ⟨s, List.mem_of_getElem? hs, rfl⟩)
theorem Inv.lens {L : LS} (h : Inv L.val) : L.x.stk.l.length = L.sites.l.length ∧ L.x.jnt.l.length = L.sites.l.length := by
 have h1 := h.sl
 have h2 := (vSu_parts h.su).2.1
 unfold LS.val LSu.val at h1 h2
 dsimp only at h1 h2
 simp only [List.length_map] at h1 h2
 omega
theorem stkA_of {L : LS} {i : Nat} {s : Sl S.Course} (h : L.x.stk.l[i]? = some s) : stkA L.val (i : Int) = s.l := by
 unfold stkA LS.val LSu.val
 rw [Int.toNat_natCast, List.getD_eq_getElem?_getD, List.getElem?_map, h]; rfl
theorem jntA_of {L : LS} {i : Nat} {s : Sl Jt} (h : L.x.jnt.l[i]? = some s) : jntA L.val (i : Int) = s.l := by
 unfold jntA LS.val LSu.val
 rw [Int.toNat_natCast, List.getD_eq_getElem?_getD, List.getElem?_map, h]; rfl
theorem rigA_of {L : LS} {i : Nat} {s : LRg} (h : L.rigs.l[i]? = some s) : rigA L.val (i : Int) = s.val := by
 unfold rigA LS.val
 rw [Int.toNat_natCast, List.getD_eq_getElem?_getD, List.getElem?_map, h]; rfl
theorem rtB_iff {L : LS} {i : Int} : rtB L.val i = true ↔ 0 ≤ i ∧ i < L.rigs.l.length := by
 unfold rtB LS.val
 rw [wn_iff, List.length_map]; omega
section
variable {T : Nat → Prop} {nb sb rb : Nat} {w w' : World} {L : LS}
theorem Nxt.jnts (h : Nxt T nb sb rb w L) (hI : Inv L.val) {k : Nat} (hk : k < L.sites.l.length) : ∃ y b off, L.x.jnt.l[k]? = some y ∧ L.x.jnt.a = some ⟨b, off, none⟩ ∧ b < w.heap.size ∧ w.cell? ⟨b, off + k, none⟩ = some (.slice y.a y.l.length y.c) ∧ Got T w Jt.cs 2 y ∧ y.l.length ≤ 200 := by
 obtain ⟨y, hy⟩ := get_lt (show k < L.x.jnt.l.length by rw [hI.lens.2]; exact hk)
 obtain ⟨b, off, e, hb, hc⟩ := h.su.jnt.rd.get hy
 have h1 := (vSu_parts hI.su).2.2.2.1 y.l (by unfold LS.val LSu.val; exact List.mem_map.2 ⟨y, List.mem_of_getElem? hy, rfl⟩)
 have h2 : y.l.length ≤ 200 := by unfold vJ at h1; exact of_decide_eq_true (Bool.and_eq_true_iff.1 h1).2
 exact ⟨y, b, off, hy, e, hb, by have := hc 0 _ rfl; simpa using this, h.su.jnts y (List.mem_of_getElem? hy), h2⟩
theorem Nxt.stks (h : Nxt T nb sb rb w L) (hI : Inv L.val) {k : Nat} (hk : k < L.sites.l.length) : ∃ y b off, L.x.stk.l[k]? = some y ∧ L.x.stk.a = some ⟨b, off, none⟩ ∧ b < w.heap.size ∧ w.cell? ⟨b, off + k, none⟩ = some (.slice y.a y.l.length y.c) ∧ Got T w S.Course.cs 6 y ∧ S.validC y.l = true := by
 obtain ⟨y, hy⟩ := get_lt (show k < L.x.stk.l.length by rw [hI.lens.1]; exact hk)
 obtain ⟨b, off, e, hb, hc⟩ := h.su.stk.rd.get hy
 have h1 := (vSu_parts hI.su).2.2.1 y.l (by unfold LS.val LSu.val; exact List.mem_map.2 ⟨y, List.mem_of_getElem? hy, rfl⟩)
 exact ⟨y, b, off, hy, e, hb, by have := hc 0 _ rfl; simpa using this, h.su.stks y (List.mem_of_getElem? hy), h1⟩
theorem Nxt.turnR (h : Nxt T nb sb rb w L) {w1 : World} (B : Below w.heap.size w w1) {k j : Nat} {s s' : LRg} {v : Value} (hs : L.rigs.l[k]? = some s) (hj : s'.cs[j]? = some v) (ho : ∀ r, r ≠ j → s'.cs[r]? = s.cs[r]?)
  (hd : s'.lk.l = []) (hdc : s'.lk.c = 0) : Nxd T nb sb rb w L (w1.setCell ⟨rb, k * 2 + j, none⟩ v) { L with rigs := ⟨L.rigs.a, L.rigs.l.set k s', L.rigs.c⟩ } := by
 have hk := (List.getElem?_eq_some_iff.1 hs).1
 have h1 := h.on B
 obtain ⟨g, cap, cur, hv, _, hb, hir⟩ := own_row LRg.cs_len h1.rrow (by omega)
 have ha : L.rigs.a = some ⟨g, 0, none⟩ := by have := hv; unfold Sl.v at this; injection this
 have hg : g = rb := h.rb_ g (by show (Value.slice L.rigs.a _ _).ownBlock = _; rw [ha]; rfl)
 subst hg
 have hst : Stp (fun g' => g' = g) w (w1.setCell ⟨g, k * 2 + j, none⟩ v) := Stp.setCell (N := fun g' => g' = g) (p := ⟨g, k * 2 + j, none⟩) ((Stp.refl _ _).below B (Nat.le_refl _)) (.inl rfl) v
 have h3 : Stp (fun g' => g' = nb ∨ g' = sb ∨ g' = g) w (w1.setCell ⟨g, k * 2 + j, none⟩ v) := hst.mono fun b _ e => .inr (.inr e)
 have hR' := inrow_put LRg.cs_len hir hs hj ho
 have hc := own_caps h.rrow
 refine ⟨?_, ⟨h.keepSu h3, h.keep h.gusts h3, ?_, ?_, h.keepS (hst.mono fun b _ e => .inr e), fun s hs' => h.keep (h.sk s hs') h3, h.keep h.items h3, h.keep h.back h3⟩, h3, rfl, rfl⟩
 ·have hb1 := hst.blk h.blk h.n2
  have e : ({ L with rigs := ⟨L.rigs.a, L.rigs.l.set k s', L.rigs.c⟩ } : LS).cs = L.cs := by unfold LS.cs Sl.v; simp
  rw [e]; exact hb1
 ·refine ⟨fun hne => ?_, fun hne a ha' => ?_, by simpa using hc.1, hc.2⟩
  ·dsimp only
   rw [ha]
   exact row_rd (hb.set_ _ _) hR' hne
  ·dsimp only at ha'
   rw [ha] at ha'; cases ha'
   exact .inr (.inr (.inl rfl))
 ·intro r hr
  rcases List.mem_or_eq_of_mem_set hr with h1 | h1
  ·exact h.keep (h.rk r h1) h3
  ·rw [h1]
   exact ⟨fun hne => absurd hd hne, fun hne => absurd hd hne, by rw [hd, hdc]; simp, by rw [hdc]; simp⟩
theorem Nxt.rfz (h : Nxt T nb sb rb w L) {k : Nat} (hk : k < L.rigs.l.length) (j : Nat) : w.frozen? ⟨rb, j, none⟩ = false := by
 obtain ⟨g, cap, cur, hv, _, hb, hir⟩ := own_row LRg.cs_len h.rrow (by omega)
 have ha : L.rigs.a = some ⟨g, 0, none⟩ := by have := hv; unfold Sl.v at this; injection this
 have hg : g = rb := h.rb_ g (by show (Value.slice L.rigs.a _ _).ownBlock = _; rw [ha]; rfl)
 subst hg
 exact hb.frozen j
theorem setR_val {i : Nat} {s' : LRg} : ({ L with rigs := ⟨L.rigs.a, L.rigs.l.set i s', L.rigs.c⟩ } : LS).val = { L.val with rigs := L.val.rigs.set i s'.val } := by
 unfold LS.val
 simp [List.map_set]
end
theorem pri_bd {r : Rt} {h : Int} (hv : vRt r = true) : 0 ≤ priV r h ∧ priV r h ≤ 1000000000000 := by
 unfold priV
 by_cases he : priE r h = 0
 ·rw [if_pos he]
  unfold priE at he
  rw [if_pos hv] at he
  by_cases hw : wn h 0 200000 = true
  ·obtain ⟨h0, h1⟩ := wn_iff.1 hw
   unfold vRt at hv
   obtain ⟨v1, hv⟩ := Bool.and_eq_true_iff.1 hv
   obtain ⟨v2, hv⟩ := Bool.and_eq_true_iff.1 hv
   obtain ⟨v3, v4⟩ := Bool.and_eq_true_iff.1 hv
   obtain ⟨a1, a2⟩ := wn_iff.1 v1
   obtain ⟨a3, a4⟩ := wn_iff.1 v2
   obtain ⟨a5, a6⟩ := wn_iff.1 v3
   obtain ⟨a7, a8⟩ := wn_iff.1 v4
   have m1 : 0 ≤ mtr (min h r.hi) ∧ mtr (min h r.hi) ≤ 201 := by unfold mtr; omega
   have m2 : 0 ≤ mtr (max 0 (h - r.hi)) ∧ mtr (max 0 (h - r.hi)) ≤ 201 := by unfold mtr; omega
   generalize mtr (min h r.hi) = A at *
   generalize mtr (max 0 (h - r.hi)) = B at *
   have p1 := Int.mul_nonneg a3 m1.1
   have p2 := Int.mul_nonneg a5 m2.1
   have p3 : r.lo * A ≤ 1000000 * 201 := Int.mul_le_mul a4 m1.2 m1.1 (by omega)
   have p4 : r.ab * B ≤ 1000000 * 201 := Int.mul_le_mul a6 m2.2 m2.1 (by omega)
   omega
  ·rw [if_neg hw] at he; omega
 ·rw [if_neg he]; omega
theorem own_mono {w : World} {base base' sz n : Nat} {e : TypeId} {v : Value} {xs : List Value} (h : w.ownsRow base e sz v n xs) (hb : base' ≤ base) : w.ownsRow base' e sz v n xs := by
 refine ⟨h.1, ?_⟩
 rcases h.2 with ⟨h1, h0⟩ | ⟨g', cap, cur, h1, hB, h2⟩
 ·exact .inl ⟨h1, h0⟩
 ·exact .inr ⟨g', cap, cur, h1, Nat.le_trans hb hB, h2⟩
theorem news_on {w w' : World} {news : List Value} {t : TypeId} (hb : Below (w.alloc (.cells news.toArray t)).heap.size (w.alloc (.cells news.toArray t)) w') :
  ∀ (j : Nat) (u : Value), news[j]? = some u → w'.cell? ((⟨w.heap.size, 0, none⟩ : Addr).add j) = some u := fun j u hu => by
 have h1 := cells_new w news t j u hu
 rw [show (⟨w.heap.size, 0, none⟩ : Addr).add j = ⟨w.heap.size, j, none⟩ by unfold Addr.add; split <;> simp_all] at h1 ⊢
 exact (World.cell?_of_block (w := w.alloc (.cells news.toArray t)) (w' := w') (a := ⟨w.heap.size, j, none⟩) (hb.block _ (by simp))).trans h1
theorem own_snoc {α : Type} {enc : α → List Value} {sz base : Nat} {w : World} {t : TypeId} {A : Option Addr} {c n : Nat} {l : List α} {x : α} {xs : List Value} (hn : l.length = n) (hx : enc x = xs) (h : w.ownsRow base t sz (.slice A (n + 1) c) (n + 1) (fl enc l ++ xs)) :
  w.ownsRow base t sz (Sl.v ⟨A, l ++ [x], c⟩) (Sl.l ⟨A, l ++ [x], c⟩).length (fl enc (Sl.l ⟨A, l ++ [x], c⟩)) := by
 subst hn hx
 have e : fl enc (l ++ [x]) = fl enc l ++ enc x := by simp [fl]
 have e2 : (l ++ [x]).length = l.length + 1 := by simp
 unfold Sl.v
 dsimp only
 rw [e, e2]
 exact h
section
variable {P : Program}
theorem step_append_at {ops : Array Oper} {o : Oper} {a : Act} {w : World} {K : Act → World → Prop} {Q : Exit → Act → World → Prop} {E : Prop} (hgd : o.guard = none) (s x : Operand) (t : TypeId)
  (ho : o.op = .call { callee := .builtin .append, args := #[s, x], argTypes := #[t, t] })
  (base : Nat) (e : TypeId) (i : TypeInfo) (z : Value) (size bytes : Nat) (ht : P.underlying t = some (.slice e)) (hi : P.info? e = some i) (hz : i.zero = some z)
  (hsize : i.size = size) (hby : i.bytes = bytes) (hzs : z.cells.size = size) (hsz : 0 < size)
  (v : Value) (n : Nat) (xs : List Value) (hs : a.eval s = v) (hown : w.ownsRow base e size v n xs)
  (ad : Addr) (m c : Nat) (news : List Value) (hx : a.eval x = .slice (some ad) m c) (hl : news.length = m * size) (hnews : ∀ j u, news[j]? = some u → w.cell? (ad.add j) = some u) (h1 : ∀ u ∈ news, u.oneCell' = true)
  (h63 : n + m ≤ maxLen) (hbytes : (n + m) * bytes ≤ 140737488355328) (hbase : base ≤ w.heap.size)
  (h : ∀ v' w', w'.ownsRow base e size v' (n + m) (xs ++ news) → w.grownBy w' v.ownBlock → K (a.put o.dst v') w') :
  if Region.wanted o (yielded ops a.tmps) = true then Oper.wp P o a w K Q else E := by
 have hw : Region.wanted o (yielded ops a.tmps) = true := by simp [Region.wanted, hgd]
 rw [if_pos hw]
 obtain ⟨v', w', hr, h2, h3, _, _⟩ := Go.run_append_own_at (P := P) w base t o.type e i z size bytes ht hi hz hsize hby hzs hsz v n xs hown ad m c news hl hnews h1 h63 hbytes hbase
 unfold Oper.wp execOp
 simp only [ho, resolve, invoke, builtin, Sem.run_bind, Sem.run_pure, Result.andThen_ok, List.map_toArray, List.map_cons, List.map_nil, hs, hx, hr]
 exact h v' w' h2 h3
end
def Kn (W : World) (T : Nat) (w' : World) : Prop := (∀ b o, b < W.heap.size → b ≠ T → w'.cell? ⟨b, o, none⟩ = W.cell? ⟨b, o, none⟩) ∧ (∀ b o, b < W.heap.size → w'.frozen? ⟨b, o, none⟩ = W.frozen? ⟨b, o, none⟩) ∧ Stp (fun g => g = T) W w'
section
variable {W w' w'' : World} {N : Nat}
theorem kn_of (h : Below W.heap.size W w') : Kn W N w' := ⟨fun b o hb _ => (bcell h).1 b o hb, (bcell h).2, (Stp.refl _ _).below h (Nat.le_refl _)⟩
theorem kn_refl : Kn W N W := kn_of (below_refl _)
theorem kn_step (h : Kn W N w') (hb : Below w'.heap.size w' w'') : Kn W N w'' :=
 ⟨fun b o hb' hn => ((bcell hb).1 b o (Nat.lt_of_lt_of_le hb' h.2.2.size)).trans (h.1 b o hb' hn), fun b o hb' => ((bcell hb).2 b o (Nat.lt_of_lt_of_le hb' h.2.2.size)).trans (h.2.1 b o hb'), h.2.2.below hb h.2.2.size⟩
theorem kn_draw (h : Kn W N w') : Kn W N w'.drew := kn_step h (below_draw (below_refl _))
theorem kn_drewN {n : Nat} (h : Kn W N w') : Kn W N (w'.drewN n) := kn_step h (below_drewN (below_refl _) _)
theorem kn_alloc {o : Obj} (h : Kn W N w') : Kn W N (w'.alloc o) := kn_step h (bl_alloc (below_refl _) _)
theorem kn_set {i : Nat} {v : Value} (h : Kn W N w') : Kn W N (w'.setCell ⟨N, i, none⟩ v) :=
 ⟨fun b o hb hn => (World.cell?_setCell_other _ _ _ _ (by intro e; cases e; exact hn rfl)).trans (h.1 b o hb hn), fun b o hb => (World.frozen?_setCell _ _ _ _).trans (h.2.1 b o hb), Stp.setCell (N := fun g => g = N) (p := ⟨N, i, none⟩) h.2.2 (.inl rfl) v⟩
end
theorem memB_is (l : List ByteArray) (s : ByteArray) : memB l s = G.hasB l s := by
 unfold memB G.hasB
 have : (fun y => eqB y s) = fun x : ByteArray => s.toList == x.toList := by
  funext y
  unfold eqB
  rw [ByteArray.toList_eq, ByteArray.toList_eq, Bool.eq_iff_iff, decide_eq_true_iff, beq_iff_eq]
  exact eq_comm
 rw [this]
end Go.Proofs.YtmjgljdmjpabdaaGreatDoor.Fi
namespace Go.Proofs.YtmjgljdmjpabdaaGreatDoor.Fi
open Go
section
variable {P : Program} {ops : Array Oper} {Q : Exit → Act → World → Prop} {md : Region.Mode} {S : World → Prop} {K : Nat}
def wpAnyL (P : Program) (md : Region.Mode) (ops : Array Oper) (Q : Exit → Act → World → Prop) (S : World → Prop) (K : Nat) : Nat → Array Bool → Act → World → Prop
 | 0, listed, a, w => Region.ready md ops listed = [] ∧ Q .normal a w
 | fuel + 1, listed, a, w =>
  (Region.ready md ops listed = [] → Q .normal a w) ∧
  ∀ i ∈ Region.ready md ops listed, wpOp P ops Q i (fun a' w' => (i ≠ K → S w') ∧ wpAnyL P md ops Q S K fuel (listed.setIfInBounds i true) a' w') a w
theorem wpAny_of_last : ∀ (fuel : Nat) (listed : Array Bool) (a : Act) (w : World), wpAnyL P md ops Q S K fuel listed a w → wpAny P md ops Q fuel listed a w
 | 0, _, _, _, h => h
 | fuel + 1, _, _, _, h => ⟨h.1, fun i hi => wpOp_mono (fun a' w' h' => wpAny_of_last fuel _ a' w' h'.2) (h.2 i hi)⟩
def Clos (md : Region.Mode) (ops : Array Oper) (listed : Array Bool) : Prop :=
 ∀ j o, ops[j]? = some o → listed.getD j false = true → ∀ e ∈ o.after, Region.binds md e = true → listed.getD e.on false = true
def closB (md : Region.Mode) (ops : Array Oper) (listed : Array Bool) : Bool :=
 (List.range ops.size).all fun j => !(listed.getD j false) || ((ops[j]?).map (·.after.all fun e => !Region.binds md e || listed.getD e.on false)).getD true
theorem clos_of {listed : Array Bool} (h : closB md ops listed = true) : Clos md ops listed := by
 intro j o ho hj e he hb
 have hjs := (Array.getElem?_eq_some_iff.1 ho).1
 have h1 := List.all_eq_true.1 h j (by simpa using hjs)
 simp only [hj, ho, Bool.not_true, Bool.false_or, Option.map_some, Option.getD_some] at h1
 have h2 := Array.all_eq_true_iff_forall_mem.1 h1 e he
 simpa [hb] using h2
def preB (md : Region.Mode) (ops : Array Oper) : Nat → Nat → Nat → Bool
 | 0, _, _ => false
 | f + 1, i, j => ((ops[j]?).map (·.after.any fun e => Region.binds md e && (e.on == i || preB md ops f i e.on))).getD false
theorem pre_done {listed : Array Bool} (hc : Clos md ops listed) {i : Nat} : ∀ (f j : Nat) (o : Oper), ops[j]? = some o → (∀ e ∈ o.after, Region.binds md e = true → listed.getD e.on false = true) → preB md ops f i j = true → listed.getD i false = true := by
 intro f
 induction f with
 | zero => intro j o _ _ h; cases h
 | succ f ih =>
  intro j o ho hd h
  unfold preB at h
  simp only [ho, Option.map_some, Option.getD_some] at h
  obtain ⟨e, he, h⟩ := Array.any_eq_true'.1 h
  obtain ⟨h1, h2⟩ := Bool.and_eq_true_iff.1 h
  have h3 := hd e he h1
  rcases Bool.or_eq_true_iff.1 h2 with h4 | h4
  ·rw [← beq_iff_eq.1 h4]; exact h3
  ·cases ho2 : ops[e.on]? with
   | none => cases f <;> simp [preB, ho2] at h4
   | some o2 => exact ih e.on o2 ho2 (hc e.on o2 ho2 h3) h4
theorem clos_step {listed : Array Bool} (hc : Clos md ops listed) {j : Nat} (hj : j ∈ Region.ready md ops listed) : Clos md ops (listed.setIfInBounds j true) := by
 intro k o ho hk e he hb
 obtain ⟨_, oj, hoj, hall⟩ := mem_ready.1 hj
 refine getD_set_true ?_
 by_cases hjk : j = k
 ·subst hjk
  rw [hoj] at ho; cases ho
  exact hall e he hb
 ·rw [getD_set_ne false hjk] at hk
  exact hc k o ho hk e he hb
theorem wpAnyL_first {i : Nat} {oi : Oper} {v : Value} (hi : ops[i]? = some oi) (hsel : ∀ (j : Nat) (o : Oper) cs b, ops[j]? = some o → o.op ≠ .select cs b)
  (hQ : ∀ c a w, Q (.panic c) (a.put oi.dst v) w → Q (.panic c) a w) (hp : preB md ops ops.size i K = true) (hiK : i ≠ K) :
  ∀ (fuel : Nat) (listed : Array Bool) (a : Act) (w : World), Clos md ops listed →
   (∀ j oj, ops[j]? = some oj → j ≠ i → listed.getD j true = false → (∀ e ∈ oj.after, Region.binds md e = true → e.on ≠ i) → oi.apart ops oj = true) →
   i ∈ Region.ready md ops listed → YieldsIf P ops S oi v a → S w →
   wpAnyL P md ops Q S K fuel (listed.setIfInBounds i true) (a.put oi.dst v) w → wpAnyL P md ops Q S K (fuel + 1) listed a w := by
 intro fuel
 induction fuel with
 | zero =>
  intro listed a w _ _ hr hy hS H
  refine ⟨fun h => (by rw [h] at hr; cases hr), fun j hj => ?_⟩
  by_cases hji : j = i
  ·subst hji; exact hy.wpOp hi hS ⟨fun _ => hS, H⟩
  ·have := ready_mono hj hji
   rw [H.1] at this
   cases this
 | succ fuel ih =>
  intro listed a w hcl hfree hr hy hS H
  refine ⟨fun h => (by rw [h] at hr; cases hr), fun j hj => ?_⟩
  by_cases hji : j = i
  ·subst hji; exact hy.wpOp hi hS ⟨fun _ => hS, H⟩
  ·have hjK : j ≠ K := by
    intro e
    subst e
    obtain ⟨_, oj, hoj, hall⟩ := mem_ready.1 hj
    have h1 := pre_done hcl ops.size j oj hoj hall hp
    have h0 := (mem_ready.1 hr).1
    rcases Nat.lt_or_ge i listed.size with h' | h'
    ·simp [h'] at h0 h1; rw [h0] at h1; cases h1
    ·simp [Array.getElem?_eq_none h'] at h1
   have h1 := H.2 j (ready_mono hj hji)
   obtain ⟨hjun, oj, hoj, hall⟩ := mem_ready.1 hj
   have hnot : ∀ e ∈ oj.after, Region.binds md e = true → e.on ≠ i := fun e he hb heq => by
    have h1 := hall e he hb
    have h0 := (mem_ready.1 hr).1
    rw [heq] at h1
    rcases Nat.lt_or_ge i listed.size with h' | h'
    ·simp [h'] at h0 h1; rw [h0] at h1; cases h1
    ·simp [Array.getElem?_eq_none h'] at h1
   have h2 := wpOp_putIf hoj (hfree j oj hoj hji hjun hnot) (fun cs b => hsel i oi cs b hi) (fun cs b => hsel j oj cs b hoj) hQ hy h1
   have hfree' : ∀ k ok, ops[k]? = some ok → k ≠ i → (listed.setIfInBounds j true).getD k true = false →
     (∀ e ∈ ok.after, Region.binds md e = true → e.on ≠ i) → oi.apart ops ok = true := fun k ok hk hki hun hno => by
    refine hfree k ok hk hki ?_ hno
    by_cases hjk : j = k
    ·subst hjk; exact hjun
    ·rw [getD_set_ne true hjk] at hun; exact hun
   refine wpOp_mono (fun a' w' h3 => ⟨fun _ => h3.2.1 hjK, ih (listed.setIfInBounds j true) a' w' (clos_step hcl hj) hfree' (ready_mono hr (Ne.symm hji)) h3.1 (h3.2.1 hjK) ?_⟩) h2
   rw [Array.setIfInBounds_comm _ _ hji]
   exact h3.2.2
theorem wpAnyL_take {i : Nat} {oi : Oper} {v : Value} {fuel : Nat} {listed : Array Bool} {a : Act} {w : World} (hi : ops[i]? = some oi)
  (hs : Region.noSelect ops = true) (hf : Region.free md ops listed i = true) (hr : (Region.ready md ops listed).contains i = true) (hp : preB md ops ops.size i K = true) (hc : closB md ops listed = true) (hiK : i ≠ K)
  (hQ : ∀ c a w, Q (.panic c) (a.put oi.dst v) w → Q (.panic c) a w) (hy : YieldsIf P ops S oi v a) (hS : S w)
  (h : wpAnyL P md ops Q S K fuel (listed.setIfInBounds i true) (a.put oi.dst v) w) : wpAnyL P md ops Q S K (fuel + 1) listed a w :=
 wpAnyL_first hi (Region.noSelect_spec hs) hQ hp hiK fuel listed a w (clos_of hc) (Region.free_spec hi hf) (by simpa using hr) hy hS h
theorem wpAnyL_tk (i d : Nat) (v : Value) {fuel : Nat} {listed : Array Bool} {a : Act} {w : World} {op : Op} {ty pos af g} (hi : ops[i]? = some { dst := some d, op := op, type := ty, pos := pos, after := af, guard := g })
 (h : wpAnyL P md ops Q S K fuel (listed.setIfInBounds i true) (a.put (some d) v) w)
 (hy : ∀ w, S w → (execOp a.eval { dst := some d, op := op, type := ty, pos := pos, after := af, guard := g }).run P w = .ok (.value v) w := by (intro w' hSw; go_simp; try with_reducible rfl))
 (hw : Region.wanted { dst := some d, op := op, type := ty, pos := pos, after := af, guard := g } (yielded ops a.tmps) = true := by rfl) (hs : Region.noSelect ops = true := by kernel_rfl) (hf : Region.free md ops listed i = true := by kernel_rfl)
 (hr : (Region.ready md ops listed).contains i = true := by kernel_rfl) (hp : preB md ops ops.size i K = true := by kernel_rfl) (hc : closB md ops listed = true := by kernel_rfl) (hiK : i ≠ K := by decide)
 (hQ : ∀ c a' w, Q (.panic c) (a'.put (some d) v) w → Q (.panic c) a' w := by (intro c a w h; exact h)) (hS : S w := by assumption) : wpAnyL P md ops Q S K (fuel + 1) listed a w :=
 wpAnyL_take hi hs hf hr hp hc hiK hQ (.inl ⟨hw, hy⟩) hS h
theorem wpAnyL_done {listed : Array Bool} {a : Act} {w : World} (hr : Region.ready md ops listed = []) (h : Q .normal a w) :
  ∀ fuel, wpAnyL P md ops Q S K fuel listed a w
 | 0 => ⟨hr, h⟩
 | _ + 1 => ⟨fun _ => h, by rw [hr]; simp⟩
def AllReadyL (P : Program) (md : Region.Mode) (ops : Array Oper) (Q : Exit → Act → World → Prop) (S : World → Prop) (K fuel : Nat) (listed : Array Bool) (a : Act) (w : World) (rs : List Nat) : Prop :=
 ∀ i ∈ rs, wpOp P ops Q i (fun a' w' => (i ≠ K → S w') ∧ wpAnyL P md ops Q S K fuel (listed.setIfInBounds i true) a' w') a w
theorem AllReadyL.nil {fuel : Nat} {listed : Array Bool} {a : Act} {w : World} : AllReadyL P md ops Q S K fuel listed a w [] := fun _ h => by cases h
theorem AllReadyL.cons {fuel : Nat} {listed : Array Bool} {a : Act} {w : World} {i : Nat} {o : Oper} {rs : List Nat} (ho : ops[i]? = some o)
  (h : ∀ K' : Act → World → Prop, Shut (∀ a w, S w → (S w → wpAnyL P md ops Q S K fuel (listed.setIfInBounds i true) a w) → K' a w) → if Region.wanted o (yielded ops a.tmps) = true then Oper.wp P o a w K' Q else K' (a.put o.dst undef) w)
  (hs : AllReadyL P md ops Q S K fuel listed a w rs) : AllReadyL P md ops Q S K fuel listed a w (i :: rs) := fun j hj => by
 rcases List.mem_cons.1 hj with rfl | hj
 ·exact wpOp_step ho (fun K' hK => h K' (fun a w hS hW => hK a w ⟨fun _ => hS, hW hS⟩))
 ·exact hs j hj
theorem wpAnyL_ready {rs : List Nat} {fuel : Nat} {listed : Array Bool} {a : Act} {w : World} (hr : Region.ready md ops listed = rs) (hne : rs ≠ [])
  (h : AllReadyL P md ops Q S K fuel listed a w rs) : wpAnyL P md ops Q S K (fuel + 1) listed a w := ⟨fun h0 => absurd (hr ▸ h0) hne, hr ▸ h⟩
theorem wpAnyL_last {fuel : Nat} {listed : Array Bool} {a : Act} {w : World} {o : Oper} (hr : Region.ready md ops listed = [K]) (ho : ops[K]? = some o)
  (h : ∀ K' : Act → World → Prop, Shut (∀ a w, wpAnyL P md ops Q S K fuel (listed.setIfInBounds K true) a w → K' a w) → if Region.wanted o (yielded ops a.tmps) = true then Oper.wp P o a w K' Q else K' (a.put o.dst undef) w) :
  wpAnyL P md ops Q S K (fuel + 1) listed a w := by
 refine ⟨fun h => (by rw [hr] at h; cases h), fun j hj => ?_⟩
 rw [hr] at hj
 obtain rfl := List.mem_singleton.1 hj
 exact wpOp_step ho (fun K' hK => h K' (fun a w hW => hK a w ⟨fun e => absurd rfl e, hW⟩))
theorem wp_region_last {id : Nat} {a : Act} {w : World} (K : Nat) (S : World → Prop) (hm : P.follows .mixedOrders = true) (hS : S w.drew)
  (h : S w.drew → wpAnyL P .any ops Q S K ops.size (Array.replicate ops.size false) a w.drew) : (Code.region id ops true).wp P Q a w :=
 wp_region_any hm (wpAny_of_last _ _ _ _ (h hS))
end
end Go.Proofs.YtmjgljdmjpabdaaGreatDoor.Fi
namespace Go.Proofs.YtmjgljdmjpabdaaGreatDoor.Fi
open Go.RowKit Go.Lib Tx
def Km (W : World) (T : Nat) (w' : World) : Prop := (∀ b o, b < W.heap.size → b ≠ T → w'.cell? ⟨b, o, none⟩ = W.cell? ⟨b, o, none⟩) ∧ (∀ b o, b < W.heap.size → b ≠ T → w'.frozen? ⟨b, o, none⟩ = W.frozen? ⟨b, o, none⟩) ∧ Stp (fun g => g = T) W w'
section
variable {W w' w'' : World} {N : Nat}
theorem km_stp (h : Stp (fun g => g = N) W w') : Km W N w' :=
 ⟨fun b o hb hn => World.cell?_of_block (w := W) (w' := w') (a := ⟨b, o, none⟩) (h.block b hb hn), fun b o hb hn => World.frozen?_of_block (w := W) (w' := w') (a := ⟨b, o, none⟩) (h.block b hb hn), h⟩
theorem km_refl : Km W N W := km_stp (Stp.refl _ _)
theorem km_step (h : Km W N w') (hb : Below w'.heap.size w' w'') : Km W N w'' := km_stp (h.2.2.below hb h.2.2.size)
theorem km_draw (h : Km W N w') : Km W N w'.drew := km_stp h.2.2.drew
theorem km_drewN {n : Nat} (h : Km W N w') : Km W N (w'.drewN n) := km_stp (h.2.2.drewN n)
theorem km_alloc {o : Obj} (h : Km W N w') : Km W N (w'.alloc o) := km_stp (h.2.2.alloc o)
theorem km_grown {row : Option Nat} (h : Km W N w') (k : w'.grownBy w'' row) (hr : ∀ r, row = some r → r = N ∨ W.heap.size ≤ r) : Km W N w'' := km_stp (h.2.2.grown k hr)
end
section
variable {P : Program}
theorem step_append_at2 {ops : Array Oper} {o : Oper} {a : Act} {w : World} {K : Act → World → Prop} {Q : Exit → Act → World → Prop} {E : Prop} (hgd : o.guard = none) (s x : Operand) (t : TypeId)
  (ho : o.op = .call { callee := .builtin .append, args := #[s, x], argTypes := #[t, t] })
  (base : Nat) (e : TypeId) (i : TypeInfo) (z : Value) (size bytes : Nat) (ht : P.underlying t = some (.slice e)) (hi : P.info? e = some i) (hz : i.zero = some z)
  (hsize : i.size = size) (hby : i.bytes = bytes) (hzs : z.cells.size = size) (hsz : 0 < size)
  (v : Value) (n : Nat) (xs : List Value) (hs : a.eval s = v) (hown : w.ownsRow base e size v n xs)
  (ad : Addr) (m c : Nat) (news : List Value) (hx : a.eval x = .slice (some ad) m c) (hl : news.length = m * size) (hnews : ∀ j u, news[j]? = some u → w.cell? (ad.add j) = some u) (h1 : ∀ u ∈ news, u.oneCell' = true)
  (h63 : n + m ≤ maxLen) (hbytes : (n + m) * bytes ≤ 140737488355328) (hbase : base ≤ w.heap.size)
  (h : ∀ v' w', w'.ownsRow base e size v' (n + m) (xs ++ news) → w.grownBy w' v.ownBlock → (v'.ownBlock = v.ownBlock ∨ v'.ownBlock = some w.heap.size) → K (a.put o.dst v') w') :
  if Region.wanted o (yielded ops a.tmps) = true then Oper.wp P o a w K Q else E := by
 have hw : Region.wanted o (yielded ops a.tmps) = true := by simp [Region.wanted, hgd]
 rw [if_pos hw]
 obtain ⟨v', w', hr, h2, h3, _, h5⟩ := Go.run_append_own_at (P := P) w base t o.type e i z size bytes ht hi hz hsize hby hzs hsz v n xs hown ad m c news hl hnews h1 h63 hbytes hbase
 unfold Oper.wp execOp
 simp only [ho, resolve, invoke, builtin, Sem.run_bind, Sem.run_pure, Result.andThen_ok, List.map_toArray, List.map_cons, List.map_nil, hs, hx, hr]
 exact h v' w' h2 h3 h5
end
end Go.Proofs.YtmjgljdmjpabdaaGreatDoor.Fi
namespace Go.Proofs.YtmjgljdmjpabdaaGreatDoor.Fi
open Go.RowKit Go.Lib Go.Maps Tx
def Kz (B : Nat) (W w' : World) : Prop := (∀ b o, b < B → w'.cell? ⟨b, o, none⟩ = W.cell? ⟨b, o, none⟩) ∧ (∀ b o, b < B → w'.frozen? ⟨b, o, none⟩ = W.frozen? ⟨b, o, none⟩) ∧ Below B W w'
section
variable {B : Nat} {W w' w'' : World}
theorem kz_of (h : Below B W w') : Kz B W w' := ⟨fun b o hb => h.cell (p := ⟨b, o, none⟩) hb, fun b o hb => h.frozen (p := ⟨b, o, none⟩) hb, h⟩
theorem kz_refl (B : Nat) (W : World) : Kz B W W := kz_of (Below.refl _ _)
theorem kz_step (h : Kz B W w') (hb : Below w'.heap.size w' w'') (hB : B ≤ W.heap.size) : Kz B W w'' := kz_of (h.2.2.trans (hb.mono (Nat.le_trans hB h.2.2.size)))
theorem kz_draw (h : Kz B W w') : Kz B W w'.drew := kz_of (h.2.2.trans ⟨rfl, rfl, rfl, Nat.le_refl _, fun _ _ => rfl⟩)
theorem kz_drewN {n : Nat} (h : Kz B W w') : Kz B W (w'.drewN n) := kz_of (h.2.2.trans ⟨rfl, rfl, rfl, Nat.le_refl _, fun _ _ => rfl⟩)
theorem kz_alloc {o : Obj} (h : Kz B W w') (hB : B ≤ W.heap.size) : Kz B W (w'.alloc o) := kz_step h (bl_alloc (below_refl _) o) hB
theorem kz_grown {row : Option Nat} (h : Kz B W w') (k : w'.grownBy w'' row) (hr : ∀ r, row = some r → B ≤ r) (hB : B ≤ W.heap.size) : Kz B W w'' := kz_of (h.2.2.grown k (Nat.le_trans hB h.2.2.size) hr)
end
abbrev capM (bn by_ bw bm bo : Nat) : Array Value := #[.pointer (some ⟨bn, 0, none⟩), .pointer (some ⟨by_, 0, none⟩), .pointer (some ⟨bw, 0, none⟩), .pointer (some ⟨bm, 0, none⟩), .pointer (some ⟨bo, 0, none⟩)]
structure MoreAt (W : World) (x : LWl) (num l bn by_ bw bm mb bo : Nat) : Prop where
 wl : WlAt W x
 hn : Blk W bn 3 #[.int .i64 (num : Nat)]
 hy : Blk W by_ 119 #[.func (.yield l) #[] #[]]
 hw : Blk W bw 247 x.A
 hm : Blk W bm 277 #[.map (some mb)]
 ho : Blk W bo 119 #[.func (.func 193) #[] (capM bn by_ bw bm bo)]
 mp : ∃ n, MpIs W mb n (rsA x.w)
theorem MoreAt.on {W W' : World} {x : LWl} {num l bn by_ bw bm mb bo : Nat} (h : MoreAt W x num l bn by_ bw bm mb bo) (hb : Below W.heap.size W W') : MoreAt W' x num l bn by_ bw bm mb bo :=
 ⟨h.wl.on hb, h.hn.below hb h.hn.lt, h.hy.below hb h.hy.lt, h.hw.below hb h.hw.lt, h.hm.below hb h.hm.lt, h.ho.below hb h.ho.lt, by obtain ⟨n, hn⟩ := h.mp; exact ⟨n, mp_on hn hb⟩⟩
def lstF (l : List Nat) : Int := match l.getLast? with | none => -1 | some z => (z : Int)
theorem lstF_snoc (l : List Nat) (x : Nat) : lstF (l ++ [x]) = (x : Int) := by unfold lstF; simp
section
variable {P : Program}
theorem step_append_at3 {ops : Array Oper} {o : Oper} {a : Act} {w : World} {K : Act → World → Prop} {Q : Exit → Act → World → Prop} {E : Prop} (hw : Region.wanted o (yielded ops a.tmps) = true) (s x : Operand) (t : TypeId)
  (ho : o.op = .call { callee := .builtin .append, args := #[s, x], argTypes := #[t, t] })
  (base : Nat) (e : TypeId) (i : TypeInfo) (z : Value) (size bytes : Nat) (ht : P.underlying t = some (.slice e)) (hi : P.info? e = some i) (hz : i.zero = some z)
  (hsize : i.size = size) (hby : i.bytes = bytes) (hzs : z.cells.size = size) (hsz : 0 < size)
  (v : Value) (n : Nat) (xs : List Value) (hs : a.eval s = v) (hown : w.ownsRow base e size v n xs)
  (ad : Addr) (m c : Nat) (news : List Value) (hx : a.eval x = .slice (some ad) m c) (hl : news.length = m * size) (hnews : ∀ j u, news[j]? = some u → w.cell? (ad.add j) = some u) (h1 : ∀ u ∈ news, u.oneCell' = true)
  (h63 : n + m ≤ maxLen) (hbytes : (n + m) * bytes ≤ 140737488355328) (hbase : base ≤ w.heap.size)
  (h : ∀ v' w', w'.ownsRow base e size v' (n + m) (xs ++ news) → w.grownBy w' v.ownBlock → (v'.ownBlock = v.ownBlock ∨ v'.ownBlock = some w.heap.size) → K (a.put o.dst v') w') :
  if Region.wanted o (yielded ops a.tmps) = true then Oper.wp P o a w K Q else E := by
 rw [if_pos hw]
 obtain ⟨v', w', hr, h2, h3, _, h5⟩ := Go.run_append_own_at (P := P) w base t o.type e i z size bytes ht hi hz hsize hby hzs hsz v n xs hown ad m c news hl hnews h1 h63 hbytes hbase
 unfold Oper.wp execOp
 simp only [ho, resolve, invoke, builtin, Sem.run_bind, Sem.run_pure, Result.andThen_ok, List.map_toArray, List.map_cons, List.map_nil, hs, hx, hr]
 exact h v' w' h2 h3 h5
end
abbrev TookY (B l : Nat) (W0 : World) (full : List Nat) (n : Nat) (Fin : World → Prop) : Prop := ∀ (W : World) (y : Sl Int), Below B W0 W → y.l = toZ full → W.ownsRow B 3 1 y.v y.l.length (fl zC y.l) →
 YieldAt Fence.wide n Tryz.prog l #[y.v] W fun e W' => e = .returned (.bool false) ∧ Fin W'
theorem yield_any {m m' : Nat} {P : Program} {l : Nat} {args : Array Value} {W : World} {R : Ending → World → Prop} (h : YieldAt Fence.wide m P l args W R) : YieldAt Fence.wide m' P l args W R := by
 obtain ⟨fn, tmps, assign, body, hy, hr⟩ := h
 exact ⟨fn, tmps, assign, body, hy, hr.1, fun c cs _ => hr.2 c cs (room_wide _)⟩
attribute [local go_sem] Oper.semAt_some
set_option maxHeartbeats 4000000 in
set_option maxRecDepth 20000 in
theorem more_zero {n : Nat} (x : LWl) (num l bn by_ bw bm mb bo : Nat) (W0 : World) (hM : MoreAt W0 x num l bn by_ bw bm mb bo) (Fin : World → Prop) (full : List Nat) (hY : TookY W0.heap.size l W0 full n Fin)
  (A : Option Addr) (c : Nat) (W : World) (hb : Below W0.heap.size W0 W) (ho : W.ownsRow W0.heap.size 3 1 (.slice A full.length c) full.length (fl zC (toZ full))) (hn : full.length = num) (hl : num ≤ 1000) :
  CallsIn Fence.wide 1 Tryz.prog 193 (#[.slice A full.length c] ++ capM bn by_ bw bm bo) W fun e W' => e = .returned (.bool false) ∧ Fin W' := by
 have hm := hM.on hb
 have cn := hm.hn.cell 0
 have cy := hm.hy.cell 0
 simp only [GA] at cn cy
 have HC := Lib.hid (fun W' (h : Below W.heap.size W W') => (show Calls Tryz.prog 59 #[.slice A full.length c] W' (CloP zC 1 3 (toZ full) W') from by
  have hz : (toZ full).length = full.length := by simp [toZ]
  have ho' : W.ownsRow W0.heap.size 3 1 (.slice A (toZ full).length c) (toZ full).length (fl zC (toZ full)) := by rw [hz]; exact ho
  have h3 := c_CloneInt ⟨A, toZ full, c⟩ W' (show (toZ full).length ≤ 100000 by omega) ((own_rd' (enc := zC) (fun _ => rfl) ho').on h)
  rw [← hz]; exact h3))
 rw [hn] at HC
 rw [hn]
 have hnn : ((num : Int) == (num : Int)) = true := by simp
 refine callsIn_of_wp Tryz.func193 rfl trivial ?_
 simp only [Tryz.ntmps193, List.size_toArray, List.length_cons, List.length_nil, Nat.reduceAdd, Nat.reduceSub, Array.replicate_succ, Array.replicate_zero, List.push_toArray, List.append_toArray, List.nil_append, List.cons_append]
 gi_wp2
 have lby := hm.hy.lt
 have hzb := hb.size
 gi_region_with (first
  | (refine ⟨trivial, ?_⟩; refine (callsIn_wide.2 (HC.out _ bl)).mono ?_; rintro e w3 ⟨y, rfl, hyl, hyo, _, _, hb3⟩; have cy3 := ((bcell hb3).1 by_ 0 lby).trans cy; obtain ⟨fn', tmps, assign, body, hy, hRd⟩ := yield_any (m' := 1 - 1) (hY w3 y (hb.trans ((show Below W.heap.size W w3 from below_tr (below_draw (below_refl W)) hb3).mono hzb)) hyl (own_mono hyo hzb)))
  | (refine hRd.mono ?_; rintro e W3 ⟨rfl, hfin⟩))
 all_goals gi_wp2
 all_goals go_ret
 all_goals exact ⟨rfl, hfin⟩
end Go.Proofs.YtmjgljdmjpabdaaGreatDoor.Fi
namespace Go.Proofs.YtmjgljdmjpabdaaGreatDoor.Fi
open Go
section
variable {P : Program} {ops : Array Oper} {Q : Exit → Act → World → Prop} {md : Region.Mode} {S : World → Prop} {K : List Nat}
def wpAnyM (P : Program) (md : Region.Mode) (ops : Array Oper) (Q : Exit → Act → World → Prop) (S : World → Prop) (K : List Nat) : Nat → Array Bool → Act → World → Prop
 | 0, listed, a, w => Region.ready md ops listed = [] ∧ Q .normal a w
 | fuel + 1, listed, a, w =>
  (Region.ready md ops listed = [] → Q .normal a w) ∧
  ∀ i ∈ Region.ready md ops listed, wpOp P ops Q i (fun a' w' => (K.contains i = false → S w') ∧ wpAnyM P md ops Q S K fuel (listed.setIfInBounds i true) a' w') a w
theorem wpAny_of_lasts : ∀ (fuel : Nat) (listed : Array Bool) (a : Act) (w : World), wpAnyM P md ops Q S K fuel listed a w → wpAny P md ops Q fuel listed a w
 | 0, _, _, _, h => h
 | fuel + 1, _, _, _, h => ⟨h.1, fun i hi => wpOp_mono (fun a' w' h' => wpAny_of_lasts fuel _ a' w' h'.2) (h.2 i hi)⟩
theorem wpAnyM_first {i : Nat} {oi : Oper} {v : Value} (hi : ops[i]? = some oi) (hsel : ∀ (j : Nat) (o : Oper) cs b, ops[j]? = some o → o.op ≠ .select cs b)
  (hQ : ∀ c a w, Q (.panic c) (a.put oi.dst v) w → Q (.panic c) a w) (hp : (K.all fun q => preB md ops ops.size i q) = true) (hiK : K.contains i = false) :
  ∀ (fuel : Nat) (listed : Array Bool) (a : Act) (w : World), Clos md ops listed →
   (∀ j oj, ops[j]? = some oj → j ≠ i → listed.getD j true = false → (∀ e ∈ oj.after, Region.binds md e = true → e.on ≠ i) → oi.apart ops oj = true) →
   i ∈ Region.ready md ops listed → YieldsIf P ops S oi v a → S w →
   wpAnyM P md ops Q S K fuel (listed.setIfInBounds i true) (a.put oi.dst v) w → wpAnyM P md ops Q S K (fuel + 1) listed a w := by
 intro fuel
 induction fuel with
 | zero =>
  intro listed a w _ _ hr hy hS H
  refine ⟨fun h => (by rw [h] at hr; cases hr), fun j hj => ?_⟩
  by_cases hji : j = i
  ·subst hji; exact hy.wpOp hi hS ⟨fun _ => hS, H⟩
  ·have := ready_mono hj hji
   rw [H.1] at this
   cases this
 | succ fuel ih =>
  intro listed a w hcl hfree hr hy hS H
  refine ⟨fun h => (by rw [h] at hr; cases hr), fun j hj => ?_⟩
  by_cases hji : j = i
  ·subst hji; exact hy.wpOp hi hS ⟨fun _ => hS, H⟩
  ·have hjK : K.contains j = false := by
    cases hcj : K.contains j with
    | false => rfl
    | true =>
    exfalso
    obtain ⟨_, oj, hoj, hall⟩ := mem_ready.1 hj
    have h1 := pre_done hcl ops.size j oj hoj hall (List.all_eq_true.1 hp j (List.contains_iff_mem.1 hcj))
    have h0 := (mem_ready.1 hr).1
    rcases Nat.lt_or_ge i listed.size with h' | h'
    ·simp [h'] at h0 h1; rw [h0] at h1; cases h1
    ·simp [Array.getElem?_eq_none h'] at h1
   have h1 := H.2 j (ready_mono hj hji)
   obtain ⟨hjun, oj, hoj, hall⟩ := mem_ready.1 hj
   have hnot : ∀ e ∈ oj.after, Region.binds md e = true → e.on ≠ i := fun e he hb heq => by
    have h1 := hall e he hb
    have h0 := (mem_ready.1 hr).1
    rw [heq] at h1
    rcases Nat.lt_or_ge i listed.size with h' | h'
    ·simp [h'] at h0 h1; rw [h0] at h1; cases h1
    ·simp [Array.getElem?_eq_none h'] at h1
   have h2 := wpOp_putIf hoj (hfree j oj hoj hji hjun hnot) (fun cs b => hsel i oi cs b hi) (fun cs b => hsel j oj cs b hoj) hQ hy h1
   have hfree' : ∀ k ok, ops[k]? = some ok → k ≠ i → (listed.setIfInBounds j true).getD k true = false →
     (∀ e ∈ ok.after, Region.binds md e = true → e.on ≠ i) → oi.apart ops ok = true := fun k ok hk hki hun hno => by
    refine hfree k ok hk hki ?_ hno
    by_cases hjk : j = k
    ·subst hjk; exact hjun
    ·rw [getD_set_ne true hjk] at hun; exact hun
   refine wpOp_mono (fun a' w' h3 => ⟨fun _ => h3.2.1 hjK, ih (listed.setIfInBounds j true) a' w' (clos_step hcl hj) hfree' (ready_mono hr (Ne.symm hji)) h3.1 (h3.2.1 hjK) ?_⟩) h2
   rw [Array.setIfInBounds_comm _ _ hji]
   exact h3.2.2
theorem wpAnyM_take {i : Nat} {oi : Oper} {v : Value} {fuel : Nat} {listed : Array Bool} {a : Act} {w : World} (hi : ops[i]? = some oi)
  (hs : Region.noSelect ops = true) (hf : Region.free md ops listed i = true) (hr : (Region.ready md ops listed).contains i = true) (hp : (K.all fun q => preB md ops ops.size i q) = true) (hc : closB md ops listed = true) (hiK : K.contains i = false)
  (hQ : ∀ c a w, Q (.panic c) (a.put oi.dst v) w → Q (.panic c) a w) (hy : YieldsIf P ops S oi v a) (hS : S w)
  (h : wpAnyM P md ops Q S K fuel (listed.setIfInBounds i true) (a.put oi.dst v) w) : wpAnyM P md ops Q S K (fuel + 1) listed a w :=
 wpAnyM_first hi (Region.noSelect_spec hs) hQ hp hiK fuel listed a w (clos_of hc) (Region.free_spec hi hf) (by simpa using hr) hy hS h
theorem wpAnyM_tk (i d : Nat) (v : Value) {fuel : Nat} {listed : Array Bool} {a : Act} {w : World} {op : Op} {ty pos af g} (hi : ops[i]? = some { dst := some d, op := op, type := ty, pos := pos, after := af, guard := g })
 (h : wpAnyM P md ops Q S K fuel (listed.setIfInBounds i true) (a.put (some d) v) w)
 (hy : ∀ w, S w → (execOp a.eval { dst := some d, op := op, type := ty, pos := pos, after := af, guard := g }).run P w = .ok (.value v) w := by (intro w' hSw; go_simp; try with_reducible rfl))
 (hw : Region.wanted { dst := some d, op := op, type := ty, pos := pos, after := af, guard := g } (yielded ops a.tmps) = true := by rfl) (hs : Region.noSelect ops = true := by kernel_rfl) (hf : Region.free md ops listed i = true := by kernel_rfl)
 (hr : (Region.ready md ops listed).contains i = true := by kernel_rfl) (hp : (K.all fun q => preB md ops ops.size i q) = true := by kernel_rfl) (hc : closB md ops listed = true := by kernel_rfl) (hiK : K.contains i = false := by decide)
 (hQ : ∀ c a' w, Q (.panic c) (a'.put (some d) v) w → Q (.panic c) a' w := by (intro c a w h; exact h)) (hS : S w := by assumption) : wpAnyM P md ops Q S K (fuel + 1) listed a w :=
 wpAnyM_take hi hs hf hr hp hc hiK hQ (.inl ⟨hw, hy⟩) hS h
theorem wpAnyM_done {listed : Array Bool} {a : Act} {w : World} (hr : Region.ready md ops listed = []) (h : Q .normal a w) :
  ∀ fuel, wpAnyM P md ops Q S K fuel listed a w
 | 0 => ⟨hr, h⟩
 | _ + 1 => ⟨fun _ => h, by rw [hr]; simp⟩
def AllReadyM (P : Program) (md : Region.Mode) (ops : Array Oper) (Q : Exit → Act → World → Prop) (S : World → Prop) (K : List Nat) (fuel : Nat) (listed : Array Bool) (a : Act) (w : World) (rs : List Nat) : Prop :=
 ∀ i ∈ rs, wpOp P ops Q i (fun a' w' => (K.contains i = false → S w') ∧ wpAnyM P md ops Q S K fuel (listed.setIfInBounds i true) a' w') a w
theorem AllReadyM.nil {fuel : Nat} {listed : Array Bool} {a : Act} {w : World} : AllReadyM P md ops Q S K fuel listed a w [] := fun _ h => by cases h
theorem AllReadyM.cons {fuel : Nat} {listed : Array Bool} {a : Act} {w : World} {i : Nat} {o : Oper} {rs : List Nat} (ho : ops[i]? = some o)
  (h : ∀ K' : Act → World → Prop, Shut (∀ a w, S w → (S w → wpAnyM P md ops Q S K fuel (listed.setIfInBounds i true) a w) → K' a w) → if Region.wanted o (yielded ops a.tmps) = true then Oper.wp P o a w K' Q else K' (a.put o.dst undef) w)
  (hs : AllReadyM P md ops Q S K fuel listed a w rs) : AllReadyM P md ops Q S K fuel listed a w (i :: rs) := fun j hj => by
 rcases List.mem_cons.1 hj with rfl | hj
 ·exact wpOp_step ho (fun K' hK => h K' (fun a w hS hW => hK a w ⟨fun _ => hS, hW hS⟩))
 ·exact hs j hj
theorem wpAnyM_ready {rs : List Nat} {fuel : Nat} {listed : Array Bool} {a : Act} {w : World} (hr : Region.ready md ops listed = rs) (hne : rs ≠ [])
  (h : AllReadyM P md ops Q S K fuel listed a w rs) : wpAnyM P md ops Q S K (fuel + 1) listed a w := ⟨fun h0 => absurd (hr ▸ h0) hne, hr ▸ h⟩
theorem wpAnyM_last {k : Nat} {fuel : Nat} {listed : Array Bool} {a : Act} {w : World} {o : Oper} (hk : K.contains k = true) (hr : Region.ready md ops listed = [k]) (ho : ops[k]? = some o)
  (h : ∀ K' : Act → World → Prop, Shut (∀ a w, wpAnyM P md ops Q S K fuel (listed.setIfInBounds k true) a w → K' a w) → if Region.wanted o (yielded ops a.tmps) = true then Oper.wp P o a w K' Q else K' (a.put o.dst undef) w) :
  wpAnyM P md ops Q S K (fuel + 1) listed a w := by
 refine ⟨fun h => (by rw [hr] at h; cases h), fun j hj => ?_⟩
 rw [hr] at hj
 obtain rfl := List.mem_singleton.1 hj
 exact wpOp_step ho (fun K' hK => h K' (fun a w hW => hK a w ⟨fun e => (by rw [hk] at e; cases e), hW⟩))
theorem wp_region_lasts {id : Nat} {a : Act} {w : World} (K : List Nat) (S : World → Prop) (hm : P.follows .mixedOrders = true) (hS : S w.drew)
  (h : S w.drew → wpAnyM P .any ops Q S K ops.size (Array.replicate ops.size false) a w.drew) : (Code.region id ops true).wp P Q a w :=
 wp_region_any hm (wpAny_of_lasts _ _ _ _ (h hS))
end
end Go.Proofs.YtmjgljdmjpabdaaGreatDoor.Fi
