/- The parts of the proof, part 16. -/
import Derived.Test.YtgemlddincnfcaaGreatDoorQ0
import Derived.Test.YtgemlddincnfcaaGreatDoorQ14
import Derived.Test.YtgemlddincnfcaaGreatDoorQ15
import Derived.Deep.DeepCutAuto
set_option maxHeartbeats 16000000
set_option maxRecDepth 20000
set_option linter.unusedSimpArgs false
set_option linter.unusedVariables false
namespace Go.Proofs.YtgemlddincnfcaaGreatDoor.Fi
open Go.RowKit Go.Lib Tx
structure Inv (x : St) : Prop where
 su : vSu x.x = true
 gw : ∀ i ∈ x.x.gear, G.IW i
 d0 : 0 <= x.day
 d1 : x.day <= 100000
 gl : x.gusts.length <= 2000
 gb : ∀ g ∈ x.gusts, -1 <= g ∧ g <= 200
 rl : x.rigs.length <= 50
 rs : ∀ r ∈ x.rigs, 0 <= r.st ∧ r.st < x.sites.length
 rk : ∀ r ∈ x.rigs, r.lk.length <= 32 ∧ ∀ k ∈ r.lk, G.LW k ∧ k.nm.size <= 16
 sl : x.sites.length = x.x.stk.length
 sm : ∀ s ∈ x.sites, 0 <= s.men ∧ s.men <= 16
 sd : ∀ s ∈ x.sites, s.dogs.length <= 300
 it : G.vldG x.items = true
 iw : ∀ i ∈ x.items, G.IW i
 bl : x.back.length <= 100
 bs : ∀ b ∈ x.back, b.size <= 16
 m0 : 0 <= x.money
 m1 : x.money <= 1000000000000
 ll : x.lines.length <= 2000
 lt : ∀ e ∈ x.lines, e.t.size <= 100000 ∧ e.s < 18446744073709551616 ∧ 0 <= e.d ∧ e.d <= 100000 ∧ 0 <= e.n ∧ e.n <= 2000
theorem vSu_parts {x : Su} (h : vSu x = true) : (1 <= (x.stk.length : Int) ∧ (x.stk.length : Int) <= 8) ∧ x.jnt.length = x.stk.length ∧ (∀ s ∈ x.stk, S.validC s = true) ∧ (∀ l ∈ x.jnt, vJ l = true) ∧ vCl x.cl = true ∧ G.vldG x.gear = true ∧ V.vRu x.ru = true ∧ vRt x.rt = true ∧ 1 <= x.men ∧ x.men <= 16 := by
 unfold vSu at h
 obtain ⟨h1, h⟩ := Bool.and_eq_true_iff.1 h
 obtain ⟨h2, h⟩ := Bool.and_eq_true_iff.1 h
 obtain ⟨h3, h⟩ := Bool.and_eq_true_iff.1 h
 obtain ⟨h4, h⟩ := Bool.and_eq_true_iff.1 h
 obtain ⟨h5, h⟩ := Bool.and_eq_true_iff.1 h
 obtain ⟨h6, h⟩ := Bool.and_eq_true_iff.1 h
 obtain ⟨h7, h⟩ := Bool.and_eq_true_iff.1 h
 obtain ⟨h8, h9⟩ := Bool.and_eq_true_iff.1 h
 exact ⟨wn_iff.1 h1, of_decide_eq_true h2, List.all_eq_true.1 h3, List.all_eq_true.1 h4, h5, h6, h7, h8, wn_iff.1 h9⟩
structure Nxt (T : Nat -> Prop) (nb sb rb : Nat) (w : World) (L : LS) : Prop where
 blk : Blk w nb 85 L.cs.toArray
 su : SuOk T w L.x
 gusts : Got T w zC 1 L.gusts
 rk : ∀ r ∈ L.rigs.l, Got T w G.Lk.cs 2 r.lk
 sk : ∀ s ∈ L.sites.l, Got T w zC 1 s.dogs
 items : Got T w G.It.cs 4 L.items
 back : Got T w G.sC 1 L.back
 srow : L.sites.l ≠ [] -> L.sites.a = some ⟨sb, 0, none⟩ ∧ ∃ cur, Blk w sb 118 cur ∧ InRow LSi.cs 3 cur L.sites.l
 sc : L.sites.l.length <= L.sites.c ∧ L.sites.c <= maxLen
 rrow : w.ownsRow 0 90 2 L.rigs.v L.rigs.l.length (fl LRg.cs L.rigs.l)
 rb_ : ∀ g, L.rigs.v.ownBlock = some g -> g = rb
 rlt : L.rigs.l ≠ [] -> rb < w.heap.size
 nT : ∀ g, T g -> g ≠ nb ∧ g ≠ sb ∧ g ≠ rb
 n1 : nb ≠ sb
 n2 : nb ≠ rb
 n3 : sb ≠ rb
def TT (T : Nat -> Prop) (sb rb : Nat) (w0 : World) : Nat -> Prop := fun g => T g ∨ g = sb ∨ g = rb ∨ w0.heap.size <= g
structure Nxd (T : Nat -> Prop) (nb sb rb : Nat) (w0 : World) (L : LS) (w : World) (L' : LS) : Prop where
 blk : Blk w nb 85 L'.cs.toArray
 ok : StOk (TT T sb rb w0) w L'
 stp : Stp (fun g => g = nb ∨ g = sb ∨ g = rb) w0 w
 lines : L'.lines = L.lines
 x : L'.x = L.x
def DeedP (c : Cm) (T : Nat -> Prop) (nb sb rb : Nat) (L : LS) (w : World) (e : Ending) (w' : World) : Prop :=
 match deed c L.val with
 | .error k => e = FailE k ∧ Below w.heap.size w w'
 | .ok y => e = DoneE ∧ ∃ L', L'.val = y ∧ Nxd T nb sb rb w L w' L'
theorem deed_err {c : Cm} {T : Nat -> Prop} {nb sb rb : Nat} {L : LS} {w w' : World} {k : Int} (h : deed c L.val = .error k) (hb : Below w.heap.size w w') : DeedP c T nb sb rb L w (FailE k) w' := by
 unfold DeedP; rw [h]; exact ⟨rfl, hb⟩
theorem deed_ok {c : Cm} {T : Nat -> Prop} {nb sb rb : Nat} {L L' : LS} {w w' : World} {y : St} (h : deed c L.val = .ok y) (hv : L'.val = y) (hn : Nxd T nb sb rb w L w' L') : DeedP c T nb sb rb L w DoneE w' := by
 unfold DeedP; rw [h]; exact ⟨rfl, L', hv, hn⟩
section
variable {T : Nat -> Prop} {nb sb rb : Nat} {w w' : World} {L : LS}
theorem Nxt.cel (h : Nxt T nb sb rb w L) : Cel w nb L := cel_of h.blk
theorem Nxt.lt (h : Nxt T nb sb rb w L) : nb < w.heap.size := h.blk.lt
theorem Nxt.on (h : Nxt T nb sb rb w L) (hb : Below w.heap.size w w') : Nxt T nb sb rb w' L where
 blk := h.blk.below hb h.blk.lt
 su := h.su.on hb
 gusts := h.gusts.on hb
 rk := fun r hr => (h.rk r hr).on hb
 sk := fun r hr => (h.sk r hr).on hb
 items := h.items.on hb
 back := h.back.on hb
 srow := fun hne => by
  obtain ⟨h1, cur, h2, h3⟩ := h.srow hne
  exact ⟨h1, cur, h2.below hb h2.lt, h3⟩
 sc := h.sc
 rrow := own_on h.rrow hb
 rb_ := h.rb_
 rlt := fun hne => Nat.lt_of_lt_of_le (h.rlt hne) hb.size
 nT := h.nT
 n1 := h.n1
 n2 := h.n2
 n3 := h.n3
theorem Nxt.srd (h : Nxt T nb sb rb w L) : Rd LSi.cs 3 w L.sites.a L.sites.l := fun hne => by
 obtain ⟨h1, cur, h2, h3⟩ := h.srow hne
 rw [h1]
 exact row_rd h2 h3 hne
theorem Nxt.rrd (h : Nxt T nb sb rb w L) : Rd LRg.cs 2 w L.rigs.a L.rigs.l := own_rd' LRg.cs_len h.rrow
theorem Nxt.site (h : Nxt T nb sb rb w L) {i : Nat} (hi : i < L.sites.l.length) : ∃ s cur, L.sites.l[i]? = some s ∧ L.sites.a = some ⟨sb, 0, none⟩ ∧ Blk w sb 118 cur ∧ InRow LSi.cs 3 cur L.sites.l ∧
  w.cell? ⟨sb, i * 3, none⟩ = some s.dogs.v ∧ w.cell? ⟨sb, i * 3 + 1, none⟩ = some (.bool s.fel) ∧ w.cell? ⟨sb, i * 3 + 2, none⟩ = some (.int .i64 s.men) := by
 obtain ⟨s, hs⟩ := get_lt hi
 have hne : L.sites.l ≠ [] := by intro e; rw [e] at hi; simp at hi
 obtain ⟨h1, cur, h2, h3⟩ := h.srow hne
 refine ⟨s, cur, hs, h1, h2, h3, ?_, ?_, ?_⟩
 ·rw [h2.cell]; exact h3 i s hs 0 _ rfl
 ·rw [h2.cell]; exact h3 i s hs 1 _ rfl
 ·rw [h2.cell]; exact h3 i s hs 2 _ rfl
theorem Nxt.rig (h : Nxt T nb sb rb w L) {i : Nat} (hi : i < L.rigs.l.length) : ∃ r, L.rigs.l[i]? = some r ∧ L.rigs.a = some ⟨rb, 0, none⟩ ∧
  w.cell? ⟨rb, i * 2, none⟩ = some (.int .i64 r.st) ∧ w.cell? ⟨rb, i * 2 + 1, none⟩ = some r.lk.v := by
 obtain ⟨r, hr⟩ := get_lt hi
 obtain ⟨g, cap, cur, hv, _, hb, hir⟩ := own_row LRg.cs_len h.rrow (by omega)
 have ha : L.rigs.a = some ⟨g, 0, none⟩ := by have := hv; unfold Sl.v at this; injection this
 have hg : g = rb := h.rb_ g (by show (Value.slice L.rigs.a _ _).ownBlock = _; rw [ha]; rfl)
 subst hg
 refine ⟨r, hr, ha, ?_, ?_⟩
 ·rw [hb.cell]; exact hir i r hr 0 _ rfl
 ·rw [hb.cell]; exact hir i r hr 1 _ rfl
theorem inrow_put {α : Type} {enc : α -> List Value} {sz : Nat} {cur : Array Value} {l : List α} {i j : Nat} {s s' : α} {v : Value} (hn : ∀ a, (enc a).length = sz) (h : InRow enc sz cur l) (hi : l[i]? = some s)
  (hj : (enc s')[j]? = some v) (ho : ∀ r, r ≠ j -> (enc s')[r]? = (enc s)[r]?) : InRow enc sz (cur.setIfInBounds (i * sz + j) v) (l.set i s') := by
 intro k x hk r u hr
 have hjs : j < sz := by rw [← hn s']; exact (List.getElem?_eq_some_iff.1 hj).1
 have hrs : r < sz := by rw [← hn x]; exact (List.getElem?_eq_some_iff.1 hr).1
 have hil := (List.getElem?_eq_some_iff.1 hi).1
 by_cases hki : k = i
 ·subst hki
  rw [List.getElem?_set_self hil] at hk
  cases hk
  by_cases hrj : r = j
  ·subst hrj
   rw [hj] at hr; cases hr
   have : k * sz + r < cur.size := by
    obtain ⟨u0, hu0⟩ := get_lt (l := enc s) (k := r) (by rw [hn]; exact hjs)
    have := h k s hi r u0 hu0
    exact (Array.getElem?_eq_some_iff.1 this).1
   rw [Array.getElem?_setIfInBounds_self_of_lt this]
  ·rw [ho r hrj] at hr
   rw [Array.getElem?_setIfInBounds_ne (by omega)]
   exact h k s hi r u hr
 ·rw [List.getElem?_set_ne (by omega)] at hk
  have hne : i * sz + j ≠ k * sz + r := by
   intro e
   rcases Nat.lt_or_gt_of_ne hki with h1 | h1
   ·have := Nat.mul_le_mul_right sz (show k + 1 <= i from h1)
    rw [Nat.add_mul, Nat.one_mul] at this; omega
   ·have := Nat.mul_le_mul_right sz (show i + 1 <= k from h1)
    rw [Nat.add_mul, Nat.one_mul] at this; omega
  rw [Array.getElem?_setIfInBounds_ne hne]
  exact h k x hk r u hr
theorem Nxt.keep {α : Type} {enc : α -> List Value} {sz : Nat} {x : Sl α} (h : Nxt T nb sb rb w L) (hx : Got T w enc sz x) (hs : Stp (fun g => g = nb ∨ g = sb ∨ g = rb) w w') : Got (TT T sb rb w) w' enc sz x :=
 (hx.stp hs fun g hg => by have := h.nT g hg; omega).mono fun _ _ hg => .inl hg
theorem Nxt.keepSu (h : Nxt T nb sb rb w L) (hs : Stp (fun g => g = nb ∨ g = sb ∨ g = rb) w w') : SuOk (TT T sb rb w) w' L.x :=
 (h.su.stp hs fun g hg => by have := h.nT g hg; omega).mono fun _ _ hg => .inl hg
theorem Nxt.keepR (h : Nxt T nb sb rb w L) (hs : Stp (fun g => g = nb ∨ g = sb) w w') : Got (TT T sb rb w) w' LRg.cs 2 L.rigs := by
 have hc := own_caps h.rrow
 refine ⟨fun hne => ?_, fun hne a ha => ?_, hc.1, hc.2⟩
 ·obtain ⟨b, off, e, hb, hcl⟩ := h.rrd hne
  have : b = rb := h.rb_ b (by show (Value.slice L.rigs.a _ _).ownBlock = _; rw [e]; rfl)
  subst this
  exact ⟨b, off, e, Nat.lt_of_lt_of_le hb hs.size, fun k x hx j v hv => hs.cell (hcl k x hx j v hv) (by have := h.n2; have := h.n3; omega)⟩
 ·obtain ⟨b, off, e, _, _⟩ := h.rrd hne
  rw [e] at ha; cases ha
  exact .inr (.inr (.inl (h.rb_ b (by show (Value.slice L.rigs.a _ _).ownBlock = _; rw [e]; rfl))))
theorem Nxt.keepS (h : Nxt T nb sb rb w L) (hs : Stp (fun g => g = nb ∨ g = rb) w w') : Got (TT T sb rb w) w' LSi.cs 3 L.sites := by
 refine ⟨fun hne => ?_, fun hne a ha => ?_, h.sc.1, h.sc.2⟩
 ·obtain ⟨h1, cur, h2, h3⟩ := h.srow hne
  rw [h1]
  exact row_rd (hs.blk h2 (by have := h.n1; have := h.n3; omega)) h3 hne
 ·obtain ⟨h1, _⟩ := h.srow hne
  rw [h1] at ha; cases ha
  exact .inr (.inl rfl)
theorem Nxt.doneS (h : Nxt T nb sb rb w L) {i : Nat} {s' : LSi} {cur : Array Value} (hs : Stp (fun g => g = sb) w w') (hb : Blk w' sb 118 cur) (hr : InRow LSi.cs 3 cur (L.sites.l.set i s'))
  (ha : L.sites.a = some ⟨sb, 0, none⟩) (hd : Got (TT T sb rb w) w' zC 1 s'.dogs) : Nxd T nb sb rb w L w' { L with sites := ⟨L.sites.a, L.sites.l.set i s', L.sites.c⟩ } := by
 have hs3 : Stp (fun g => g = nb ∨ g = sb ∨ g = rb) w w' := hs.mono fun b _ e => by omega
 have hs2 : Stp (fun g => g = nb ∨ g = sb) w w' := hs.mono fun b _ e => by omega
 refine ⟨?_, ⟨h.keepSu hs3, h.keep h.gusts hs3, h.keepR hs2, fun r hr => h.keep (h.rk r hr) hs3, ?_, ?_, h.keep h.items hs3, h.keep h.back hs3⟩, hs3, rfl, rfl⟩
 ·have h1 := hs.blk h.blk h.n1
  have e : ({ L with sites := ⟨L.sites.a, L.sites.l.set i s', L.sites.c⟩ } : LS).cs = L.cs := by unfold LS.cs Sl.v; simp
  rw [e]; exact h1
 ·refine ⟨fun hne => ?_, fun hne a ha' => ?_, by simpa using h.sc.1, h.sc.2⟩
  ·dsimp only
   rw [ha]
   exact row_rd hb hr hne
  ·dsimp only at ha'
   rw [ha] at ha'; cases ha'
   exact .inr (.inl rfl)
 ·intro s hs'
  rcases List.mem_or_eq_of_mem_set hs' with h1 | h1
  ·exact h.keep (h.sk s h1) hs3
  ·rw [h1]; exact hd
theorem Nxt.turnS (h : Nxt T nb sb rb w L) {w1 : World} (B : Below w.heap.size w w1) {k j : Nat} {s s' : LSi} {v : Value} (hs : L.sites.l[k]? = some s) (hj : s'.cs[j]? = some v) (ho : ∀ r, r ≠ j -> s'.cs[r]? = s.cs[r]?)
  (hd : s'.dogs = s.dogs ∨ Got (fun g => w.heap.size <= g) w1 zC 1 s'.dogs) : Nxd T nb sb rb w L (w1.setCell ⟨sb, k * 3 + j, none⟩ v) { L with sites := ⟨L.sites.a, L.sites.l.set k s', L.sites.c⟩ } := by
 obtain ⟨s0, cur, e0, ha, hbs, hir, _⟩ := (h.on B).site (i := k) (List.getElem?_eq_some_iff.1 hs).1
 rw [hs] at e0; cases e0
 obtain ⟨_, _, _, _, hbs0, _⟩ := h.site (i := k) (List.getElem?_eq_some_iff.1 hs).1
 have hl := hbs0.lt
 have hst : Stp (fun g => g = sb) w (w1.setCell ⟨sb, k * 3 + j, none⟩ v) := Stp.setCell (N := fun g => g = sb) (p := ⟨sb, k * 3 + j, none⟩) ((Stp.refl _ _).below B (Nat.le_refl _)) (.inl rfl) v
 refine h.doneS hst (hbs.set_ _ _) (inrow_put LSi.cs_len hir hs hj ho) ha ?_
 rcases hd with hd | hd
 ·rw [hd]
  exact h.keep (h.sk s (List.mem_of_getElem? hs)) (hst.mono fun b _ e => .inr (.inl e))
 ·have h2 : Stp (fun g => g = sb) w1 (w1.setCell ⟨sb, k * 3 + j, none⟩ v) := Stp.setCell (N := fun g => g = sb) (p := ⟨sb, k * 3 + j, none⟩) (Stp.refl _ _) (.inl rfl) v
  exact (hd.stp h2 fun b hb e => by omega).mono fun b _ hb => .inr (.inr (.inr hb))
structure Kept (T : Nat -> Prop) (sb rb : Nat) (w w' : World) (L : LS) : Prop where
 su : SuOk (TT T sb rb w) w' L.x
 gusts : Got (TT T sb rb w) w' zC 1 L.gusts
 rigs : Got (TT T sb rb w) w' LRg.cs 2 L.rigs
 rk : ∀ r ∈ L.rigs.l, Got (TT T sb rb w) w' G.Lk.cs 2 r.lk
 sites : Got (TT T sb rb w) w' LSi.cs 3 L.sites
 sk : ∀ s ∈ L.sites.l, Got (TT T sb rb w) w' zC 1 s.dogs
 items : Got (TT T sb rb w) w' G.It.cs 4 L.items
 back : Got (TT T sb rb w) w' G.sC 1 L.back
 stp : Stp (fun g => g = nb ∨ g = sb ∨ g = rb) w w'
theorem Nxt.kept (h : Nxt T nb sb rb w L) (hs : Stp (fun g => g = nb) w w') : Kept (nb := nb) T sb rb w w' L := by
 have h3 : Stp (fun g => g = nb ∨ g = sb ∨ g = rb) w w' := hs.mono fun b _ e => .inl e
 exact ⟨h.keepSu h3, h.keep h.gusts h3, h.keepR (hs.mono fun b _ e => .inl e), fun r hr => h.keep (h.rk r hr) h3, h.keepS (hs.mono fun b _ e => .inl e), fun s hs' => h.keep (h.sk s hs') h3, h.keep h.items h3, h.keep h.back h3, h3⟩
theorem nb_step {w1 : World} (B : Below w.heap.size w w1) (i : Nat) (v : Value) : Stp (fun g => g = nb) w (w1.setCell ⟨nb, i, none⟩ v) :=
 Stp.setCell (N := fun g => g = nb) (p := ⟨nb, i, none⟩) ((Stp.refl _ _).below B (Nat.le_refl _)) (.inl rfl) v
theorem nb_step2 {w1 : World} (h : Stp (fun g => g = nb) w w1) (i : Nat) (v : Value) : Stp (fun g => g = nb) w (w1.setCell ⟨nb, i, none⟩ v) :=
 Stp.setCell (N := fun g => g = nb) (p := ⟨nb, i, none⟩) h (.inl rfl) v
theorem got_new {α : Type} {enc : α -> List Value} {sz : Nat} {x : Sl α} (h : Got (fun g => w.heap.size <= g) w' enc sz x) {w1 : World} (hl : nb < w.heap.size) (hs : Stp (fun g => g = nb) w' w1) : Got (TT T sb rb w) w1 enc sz x :=
 (h.stp hs fun b hb e => by omega).mono fun b _ hb => .inr (.inr (.inr hb))
end
theorem siteA_of {L : LS} {i : Nat} {s : LSi} (h : L.sites.l[i]? = some s) : siteA L.val (i : Int) = s.val := by
 unfold siteA LS.val
 rw [Int.toNat_natCast, List.getD_eq_getElem?_getD, List.getElem?_map, h]; rfl
theorem thB_iff {L : LS} {i : Int} : thB L.val i = true ↔ 0 <= i ∧ i < L.sites.l.length := by
 unfold thB LS.val
 rw [wn_iff, List.length_map]; omega
theorem set_val {L : LS} {i : Nat} {s' : LSi} : ({ L with sites := ⟨L.sites.a, L.sites.l.set i s', L.sites.c⟩ } : LS).val = setS L.val (i : Int) s'.val := by
 unfold setS LS.val
 simp [List.map_set]
theorem upN_bd {x : St} (h : Inv x) : 0 <= upN x ∧ upN x <= 1000 := by
 have go : ∀ (q : List Sit) (a : Int), (∀ s ∈ q, 0 <= s.men ∧ s.men <= 16) -> a <= q.foldl (fun a s => a + s.men) a ∧ q.foldl (fun a s => a + s.men) a <= a + 16 * q.length := fun q => by
  induction q with
  | nil => intro a _; simp
  | cons s q ih =>
   intro a hq
   have h1 := hq s (List.mem_cons_self ..)
   have h2 := ih (a + s.men) fun x hx => hq x (List.mem_cons_of_mem _ hx)
   simp only [List.foldl_cons, List.length_cons]
   omega
 have h1 := go x.sites 0 h.sm
 have h2 := h.sl
 have h3 := (vSu_parts h.su).1
 unfold upN
 omega
theorem Nxt.aloft {T : Nat -> Prop} {nb sb rb : Nat} {w : World} {L : LS} (hN : Nxt T nb sb rb w L) (hI : Inv L.val) :
  Calls Tryz.prog 259 #[.pointer (some ⟨nb, 0, none⟩)] w fun e w' => e = .returned (.int .i64 (upN L.val)) ∧ Below w.heap.size w w' := by
 have h2 := hI.sl
 have h3 := (vSu_parts hI.su).1
 refine f_aloft nb L w hN.cel hN.srd ?_ ?_
 ·unfold LS.val at h2 h3
  dsimp only at h2 h3
  rw [List.length_map] at h2
  omega
 ·intro s hs
  have h4 := hI.sm s.val (by unfold LS.val; exact List.mem_map.2 ⟨s, hs, rfl⟩)
  unfold LSi.val at h4
  dsimp only at h4
  omega
theorem Nxt.goes {T : Nat -> Prop} {nb sb rb : Nat} {w : World} {L : LS} (hN : Nxt T nb sb rb w L) (hI : Inv L.val) {v : Bool} (h : goB L.val L.val.gusts = v) :
  Calls Tryz.prog 55 #[.pointer (some ⟨nb, 0, none⟩), .slice L.gusts.a L.gusts.l.length L.gusts.c] w fun e w' => e = .returned (.bool v) ∧ Below w.heap.size w w' := by
 have h1 := hI.gl
 exact f_goesV h hN.cel (by unfold LS.val at h1; dsimp only at h1; omega) hN.gusts.rd
theorem d_down (i m : Int) (T : Nat -> Prop) (nb sb rb : Nat) (L : LS) (w : World) (hN : Nxt T nb sb rb w L) (hI : Inv L.val) :
  Calls Tryz.prog 254 #[.agg #[.int .i64 i, .int .i64 m], .pointer (some ⟨nb, 0, none⟩)] w (DeedP (.down i m) T nb sb rb L w) := by
 have x0 := Blk.new w 133 #[.int .i64 i, .int .i64 m]
 have B0 := bl_alloc (below_refl w) (.cells #[.int .i64 i, .int .i64 m] 133)
 have b0 := x0.cell 0
 have b1 := x0.cell 1
 simp only [GA] at b0 b1
 have hN0 := hN.on B0
 have hsl : L.sites.l.length <= 1000 := by
  have h1 := hI.sl
  have h2 := (vSu_parts hI.su).1
  unfold LS.val at h1 h2
  dsimp only at h1 h2
  rw [List.length_map] at h1
  omega
 have HD := Lib.hid (show deed (.down i m) L.val = _ from rfl)
 cases hth : thB L.val i
 ·have HX := Lib.hid (show deed (.down i m) L.val = .error 5 by unfold deed; dsimp only; rw [if_pos hth])
  have HAT := Lib.hid (f_at_no nb L i _ hN0.cel hsl hth)
  go_enter Tryz.func254, Tryz.ntmps254
  go_wp2_with (go_at_call 256; ((with_reducible refine HAT.out.mono ?_); rintro e w' ⟨rfl, rfl⟩))
  exact ⟨rfl, deed_err HX.out B0⟩
 obtain ⟨i0, i1⟩ := thB_iff.1 hth
 obtain ⟨k, rfl⟩ := Int.eq_ofNat_of_zero_le i0
 have hk : k < L.sites.l.length := by omega
 obtain ⟨s, cur, hs, ha, hbs, hir, c0, c1, c2⟩ := hN0.site hk
 have hfz := hbs.frozen
 have HAT := Lib.hid (f_at nb L k _ sb 0 hN0.cel hsl hk ha)
 have hsm := hI.sm s.val (by unfold LS.val; exact List.mem_map.2 ⟨s, List.mem_of_getElem? hs, rfl⟩)
 have HSA := Lib.hid (siteA_of hs)
 cases hwn : wn m 1 16
 ·have HX := Lib.hid (show deed (.down (k : Int) m) L.val = .error 7 by unfold deed; dsimp only; rw [if_neg (by rw [hth]; simp), if_pos hwn])
  go_enter Tryz.func254, Tryz.ntmps254
  go_wp2_with (first
   | (go_at_call 256; ((with_reducible refine HAT.out.mono ?_); rintro e w' ⟨rfl, rfl⟩))
   | (go_at_call 67; ((with_reducible refine (f_withinV hwn _).mono ?_); rintro e w' ⟨rfl, rfl⟩))
   | (go_at_call 112; ((with_reducible refine (f_must_no _ _).mono ?_); rintro e w' ⟨rfl, rfl⟩)))
  exact ⟨rfl, deed_err HX.out B0⟩
 obtain ⟨m0, m1⟩ := wn_iff.1 hwn
 unfold LSi.val at hsm
 obtain ⟨sm0, sm1⟩ := hsm
 dsimp only at sm0 sm1
 obtain ⟨D, hD⟩ : ∃ D, D = s.men - m := ⟨_, rfl⟩
 have hw1 : IntKind.i64.wrap (s.men - m) = D := by rw [hD]; exact fits_wrap ⟨by omega, by omega⟩
 have HX2 := Lib.hid (show deed (.down (k : Int) m) L.val = if (decide (m <= s.men) && !decide (D = 1)) = false then .error 10 else .ok (setS L.val (k : Int) { s.val with men := D }) by
  rw [hD]; unfold deed; dsimp only; rw [if_neg (by rw [hth]; simp), if_neg (by rw [hwn]; simp), HSA.out]; rfl)
 go_enter Tryz.func254, Tryz.ntmps254
 go_upto_region 3 with (first
   | (go_at_call 256; ((with_reducible refine HAT.out.mono ?_); rintro e w' ⟨rfl, rfl⟩))
   | (go_at_call 67; ((with_reducible refine (f_withinV hwn _).mono ?_); rintro e w' ⟨rfl, rfl⟩))
   | (go_at_call 112; ((with_reducible refine (f_must_ok _ _).mono ?_); rintro e w' ⟨rfl, rfl⟩)))
 have lsb := hbs.lt
 have lnb := hN0.lt
 have lw := x0.lt
 generalize w.alloc (.cells #[.int .i64 (k : Int), .int .i64 m] 133) = w1 at *
 have HDD := Lib.hid hD
 clear hD
 by_cases h1 : m <= s.men
 ·by_cases h2 : D = 1
  ·have HX := Lib.hid (show deed (.down (k : Int) m) L.val = .error 10 by rw [HX2.out, if_pos (by rw [decide_eq_true h1, decide_eq_true h2]; rfl)])
   have g1 : decide (m <= s.men) = true := decide_eq_true h1
   have g2 : (D == 1) = true := by simpa using h2
   have g3 : (D != 1) = false := by simp [h2]
   clear h2
   refine wp_region_still_tail 17 (by kernel_rfl) (by kernel_rfl) ?_
   change wpStill _ _ w1.drew _ _ _
   simp only [List.take_succ_cons, List.take_zero, List.drop_succ_cons, List.drop_zero]
   repeat still_step
   refine wpStill_nil ?_
   change wpList _ _ _ _ _ w1.drew
   go_wp2_with (go_at_call 112; ((with_reducible refine (f_must_no _ _).mono ?_); rintro e w' ⟨rfl, rfl⟩))
   exact ⟨rfl, deed_err HX.out (below_draw B0)⟩
  ·have HX := Lib.hid (show deed (.down (k : Int) m) L.val = .ok (setS L.val (k : Int) { s.val with men := D }) by rw [HX2.out, if_neg (by rw [decide_eq_true h1, decide_eq_false h2]; simp)])
   have g1 : decide (m <= s.men) = true := decide_eq_true h1
   have g2 : (D == 1) = false := beq_eq_false_iff_ne.2 h2
   have g3 : (D != 1) = true := by simp [h2]
   clear h2
   go_quiet ((go_at_call 112; with_reducible exact quiet_left (f_must_ok _ _)))
   have b1x : w1.cell? ⟨w.heap.size, 1, none⟩ = some (.int .i64 m) := b1
   go_wp2_with fail
   go_region
   all_goals go_wp2
   all_goals go_end0
   exact deed_ok HX.out (by rw [set_val (s' := { s with men := D })]; rfl) (hN.turnS (j := 2) (s' := { s with men := D }) (below_drewN B0 _) hs rfl (fun r hr => by rcases r with _ | _ | _ | r <;> first | rfl | exact absurd rfl hr) (.inl rfl))
 ·have HX := Lib.hid (show deed (.down (k : Int) m) L.val = .error 10 by rw [HX2.out, if_pos (by rw [decide_eq_false h1]; rfl)])
  have g1 : decide (m <= s.men) = false := decide_eq_false h1
  refine th w1 fun hS0 => ?_
  refine tq 0 ?_
  refine tq 1 ?_
  refine tq 2 ?_
  refine tq 3 ?_
  refine tq 4 ?_
  refine tq 5 ?_
  refine tq 6 ?_
  refine tq 7 ?_
  refine tv 8 ?_
  refine tv 9 ?_
  refine tv 10 ?_
  refine tv 11 ?_
  refine tv 12 ?_
  refine tv 13 ?_
  refine tv 14 ?_
  refine tv 15 ?_
  refine tq 16 ?_
  refine tr 17 fun K hK => ?_
  go_simp
  (go_at_call 112; ((with_reducible refine (f_must_no _ _).mono ?_); rintro e w' ⟨rfl, rfl⟩))
  exact ⟨rfl, deed_err HX.out (below_draw B0)⟩
theorem Nxd.drew {T : Nat -> Prop} {nb sb rb : Nat} {w w' : World} {L L' : LS} (h : Nxd T nb sb rb w L w' L') : Nxd T nb sb rb w L w'.drew L' :=
 ⟨h.blk.drew, h.ok.on (below_draw (below_refl _)), h.stp.drew, h.lines, h.x⟩
theorem d_up (i m : Int) (T : Nat -> Prop) (nb sb rb : Nat) (L : LS) (w : World) (hN : Nxt T nb sb rb w L) (hI : Inv L.val) :
  Calls Tryz.prog 287 #[.agg #[.int .i64 i, .int .i64 m], .pointer (some ⟨nb, 0, none⟩)] w (DeedP (.up i m) T nb sb rb L w) := by
 have x0 := Blk.new w 156 #[.int .i64 i, .int .i64 m]
 have B0 := bl_alloc (below_refl w) (.cells #[.int .i64 i, .int .i64 m] 156)
 have b0 := x0.cell 0
 have b1 := x0.cell 1
 simp only [GA] at b0 b1
 have hN0 := hN.on B0
 have hsl : L.sites.l.length <= 1000 := by
  have h1 := hI.sl
  have h2 := (vSu_parts hI.su).1
  unfold LS.val at h1 h2
  dsimp only at h1 h2
  rw [List.length_map] at h1
  omega
 have HD := Lib.hid (show deed (.up i m) L.val = _ from rfl)
 cases hth : thB L.val i
 ·have HX := Lib.hid (show deed (.up i m) L.val = .error 5 by unfold deed; dsimp only; rw [if_pos hth])
  have HAT := Lib.hid (f_at_no nb L i _ hN0.cel hsl hth)
  go_enter Tryz.func287, Tryz.ntmps287
  go_wp2_with (go_at_call 256; ((with_reducible refine HAT.out.mono ?_); rintro e w' ⟨rfl, rfl⟩))
  exact ⟨rfl, deed_err HX.out B0⟩
 obtain ⟨i0, i1⟩ := thB_iff.1 hth
 obtain ⟨k, rfl⟩ := Int.eq_ofNat_of_zero_le i0
 have hk : k < L.sites.l.length := by omega
 obtain ⟨s, cur, hs, ha, hbs, hir, c0, c1, c2⟩ := hN0.site hk
 have hfz := hbs.frozen
 have HAT := Lib.hid (f_at nb L k _ sb 0 hN0.cel hsl hk ha)
 have hsm := hI.sm s.val (by unfold LS.val; exact List.mem_map.2 ⟨s, List.mem_of_getElem? hs, rfl⟩)
 have HSA := Lib.hid (siteA_of hs)
 cases hwn : wn m 2 16
 ·have HX := Lib.hid (show deed (.up (k : Int) m) L.val = .error 7 by unfold deed; dsimp only; rw [if_neg (by rw [hth]; simp), if_pos hwn])
  go_enter Tryz.func287, Tryz.ntmps287
  go_wp2_with (first
   | (go_at_call 256; ((with_reducible refine HAT.out.mono ?_); rintro e w' ⟨rfl, rfl⟩))
   | (go_at_call 67; ((with_reducible refine (f_withinV hwn _).mono ?_); rintro e w' ⟨rfl, rfl⟩))
   | (go_at_call 112; ((with_reducible refine (f_must_no _ _).mono ?_); rintro e w' ⟨rfl, rfl⟩)))
  exact ⟨rfl, deed_err HX.out B0⟩
 obtain ⟨m0, m1⟩ := wn_iff.1 hwn
 unfold LSi.val at hsm
 obtain ⟨sm0, sm1⟩ := hsm
 dsimp only at sm0 sm1
 have hw1 : IntKind.i64.wrap (s.men + m) = s.men + m := fits_wrap ⟨by omega, by omega⟩
 obtain ⟨u0, u1⟩ := upN_bd hI
 have HX2 := Lib.hid (show deed (.up (k : Int) m) L.val = if (!s.fel && (decide (0 < s.dogs.l.length) && decide (upN L.val + m <= L.x.men))) = false then .error 10 else if goB L.val L.val.gusts = false then .error 11 else .ok (setS L.val (k : Int) { s.val with men := s.men + m }) by
  unfold deed; dsimp only; rw [if_neg (by rw [hth]; simp), if_neg (by rw [hwn]; simp), HSA.out]; rfl)
 have lsb := hbs.lt
 have lnb := hN0.lt
 have lw := x0.lt
 have c0x : (w.alloc (.cells #[.int .i64 (k : Int), .int .i64 m] 156)).cell? ⟨sb, k * 3, none⟩ = some (.slice s.dogs.a s.dogs.l.length s.dogs.c) := c0
 have c16 : (w.alloc (.cells #[.int .i64 (k : Int), .int .i64 m] 156)).cell? ⟨nb, 16, none⟩ = some (.int .i64 L.x.men) := hN0.cel 16 _ rfl
 have c18 : (w.alloc (.cells #[.int .i64 (k : Int), .int .i64 m] 156)).cell? ⟨nb, 18, none⟩ = some (.slice L.gusts.a L.gusts.l.length L.gusts.c) := hN0.cel 18 _ rfl
 clear c0
 go_enter Tryz.func287, Tryz.ntmps287
 go_upto_region 3 with (first
   | (go_at_call 256; ((with_reducible refine HAT.out.mono ?_); rintro e w' ⟨rfl, rfl⟩))
   | (go_at_call 67; ((with_reducible refine (f_withinV hwn _).mono ?_); rintro e w' ⟨rfl, rfl⟩))
   | (go_at_call 112; ((with_reducible refine (f_must_ok _ _).mono ?_); rintro e w' ⟨rfl, rfl⟩)))
 generalize w.alloc (.cells #[.int .i64 (k : Int), .int .i64 m] 156) = w1 at *
 have HAL := Lib.hid (fun w' (h : Below w1.heap.size w1 w') => (hN0.on h).aloft hI)
 have HGV := Lib.hid (fun w' (h : Below w1.heap.size w1 w') v hv => (hN0.on h).goes hI (v := v) hv)
 have HI := Lib.hid hI
 have HN0 := Lib.hid hN0
 clear hI hN0
 generalize hU : upN L.val = U at *
 have hw2 : IntKind.i64.wrap (U + m) = U + m := fits_wrap ⟨by omega, by omega⟩
 cases hf : s.fel
 ·rw [hf] at c1
  by_cases hd : 0 < s.dogs.l.length
  ·have d1 : decide (0 < s.dogs.l.length) = true := decide_eq_true hd
   have d2 : decide ((0 : Int) < (s.dogs.l.length : Int)) = true := decide_eq_true (by omega)
   by_cases hm : U + m <= L.x.men
   ·have hm1 : decide (U + m <= L.x.men) = true := decide_eq_true hm
    refine wp_region_noPanic ?_
    refine th w1 fun hS0 => ?_
    refine tq 0 ?_
    refine tq 1 ?_
    refine tq 2 ?_
    refine tq 3 ?_
    refine tq 4 ?_
    refine tq 5 ?_
    refine tq 6 ?_
    refine tq 7 ?_
    refine tq 8 ?_
    refine tq 9 ?_
    refine tq 10 ?_
    refine tq 11 ?_
    refine tq 12 ?_
    refine tq 13 ?_
    refine tq 14 ?_
    refine tq 16 ?_
    refine tq 17 ?_
    refine tq 19 ?_
    refine tq 20 ?_
    refine tq 21 ?_
    refine tq 22 ?_
    refine tq 23 ?_
    refine tr 15 fun K hK => ?_
    go_simp
    (go_at_call 259; ((with_reducible refine (HAL.out _ bl).mono ?_); rintro e w3 ⟨rfl, hb3⟩; obtain ⟨hc3, hf3, hz3⟩ := qz hb3))
    refine hK.out _ _ kq (fun hS1 => ?_)
    clear hK K
    try simp only [AP]
    refine tq 18 ?_
    refine tq 24 ?_
    refine tq 25 ?_
    refine tr 26 fun K hK => ?_
    go_simp
    (go_at_call 112; ((with_reducible refine (f_must_ok _ _).mono ?_); rintro e w' ⟨rfl, rfl⟩))
    refine hK.out _ _ kq (fun hS2 => ?_)
    clear hK K
    try simp only [AP]
    refine wpAnyH_done (by kernel_rfl) (NoPanic.normal ?_) _
    cases hg : goB L.val L.val.gusts
    ·have HX := Lib.hid (show deed (.up (k : Int) m) L.val = .error 11 by rw [HX2.out, if_neg (by rw [hf, d1, hm1]; simp), if_pos hg])
     have HGO := Lib.hid (fun w' h => HGV.out w' h _ hg)
     go_wp2_with (first | (go_at_call 55; ((with_reducible refine (HGO.out _ bl).mono ?_); rintro e w4 ⟨rfl, hb4⟩; obtain ⟨hc4, hf4, hz4⟩ := qz hb4)) | (go_at_call 112; ((with_reducible refine (f_must_no _ _).mono ?_); rintro e w' ⟨rfl, rfl⟩)))
     exact ⟨rfl, deed_err HX.out bl⟩
    ·have HX := Lib.hid (show deed (.up (k : Int) m) L.val = .ok (setS L.val (k : Int) { s.val with men := s.men + m }) by rw [HX2.out, if_neg (by rw [hf, d1, hm1]; simp), if_neg (by rw [hg]; simp)])
     have HGO := Lib.hid (fun w' h => HGV.out w' h _ hg)
     go_wp2_with (first | (go_at_call 55; ((with_reducible refine (HGO.out _ bl).mono ?_); rintro e w4 ⟨rfl, hb4⟩; obtain ⟨hc4, hf4, hz4⟩ := qz hb4)) | (go_at_call 112; ((with_reducible refine (f_must_ok _ _).mono ?_); rintro e w' ⟨rfl, rfl⟩)))
     have B4 : Below w1.heap.size w1 w4 := bl
     obtain ⟨hcx, hfx⟩ := bcell B4
     have q2 := (hcx sb (k * 3 + 2) lsb).trans c2
     have qf := (hfx sb (k * 3 + 2) lsb).trans (hfz (k * 3 + 2))
     have q1 := (hcx w.heap.size 1 lw).trans b1
     go_region
     all_goals go_wp2
     all_goals go_end0
     all_goals first
      | exact deed_ok HX.out (by rw [set_val (s' := { s with men := s.men + m })]; rfl) (hN.turnS (j := 2) (s' := { s with men := s.men + m }) bl hs rfl (fun r hr => by rcases r with _ | _ | _ | r <;> first | rfl | exact absurd rfl hr) (.inl rfl))
      | exact deed_ok HX.out (by rw [set_val (s' := { s with men := s.men + m })]; rfl) (Nxd.drew (hN.turnS (j := 2) (s' := { s with men := s.men + m }) bl hs rfl (fun r hr => by rcases r with _ | _ | _ | r <;> first | rfl | exact absurd rfl hr) (.inl rfl)))
   ·have hm1 : decide (U + m <= L.x.men) = false := decide_eq_false hm
    have HX := Lib.hid (show deed (.up (k : Int) m) L.val = .error 10 by rw [HX2.out, if_pos (by rw [hm1]; simp)])
    refine th w1 fun hS0 => ?_
    refine tq 0 ?_
    refine tq 1 ?_
    refine tq 2 ?_
    refine tq 3 ?_
    refine tq 4 ?_
    refine tq 5 ?_
    refine tq 6 ?_
    refine tq 7 ?_
    refine tq 8 ?_
    refine tq 9 ?_
    refine tq 10 ?_
    refine tq 11 ?_
    refine tq 12 ?_
    refine tq 13 ?_
    refine tq 14 ?_
    refine tq 16 ?_
    refine tq 17 ?_
    refine tq 19 ?_
    refine tq 20 ?_
    refine tq 21 ?_
    refine tq 22 ?_
    refine tq 23 ?_
    refine tr 15 fun K hK => ?_
    go_simp
    (go_at_call 259; ((with_reducible refine (HAL.out _ bl).mono ?_); rintro e w3 ⟨rfl, hb3⟩; obtain ⟨hc3, hf3, hz3⟩ := qz hb3))
    refine hK.out _ _ kq (fun hS1 => ?_)
    clear hK K
    try simp only [AP]
    refine tq 18 ?_
    refine tq 24 ?_
    refine tq 25 ?_
    refine tr 26 fun K hK => ?_
    go_simp
    (go_at_call 112; ((with_reducible refine (f_must_no _ _).mono ?_); rintro e w' ⟨rfl, rfl⟩))
    exact ⟨rfl, deed_err HX.out bl⟩
  ·have d1 : decide (0 < s.dogs.l.length) = false := decide_eq_false hd
   have d2 : decide ((0 : Int) < (s.dogs.l.length : Int)) = false := decide_eq_false (by omega)
   have HX := Lib.hid (show deed (.up (k : Int) m) L.val = .error 10 by rw [HX2.out, if_pos (by rw [d1]; simp)])
   refine th w1 fun hS0 => ?_
   refine tq 0 ?_
   refine tq 1 ?_
   refine tq 2 ?_
   refine tq 3 ?_
   refine tq 4 ?_
   refine tq 5 ?_
   refine tq 6 ?_
   refine tq 7 ?_
   refine tq 8 ?_
   refine tq 9 ?_
   refine tq 10 ?_
   refine tq 11 ?_
   refine tq 12 ?_
   refine tq 13 ?_
   refine tv 14 ?_
   refine tv 15 ?_
   refine tv 16 ?_
   refine tv 17 ?_
   refine tv 18 ?_
   refine tv 19 ?_
   refine tv 20 ?_
   refine tv 21 ?_
   refine tv 22 ?_
   refine tv 23 ?_
   refine tv 24 ?_
   refine tq 25 ?_
   refine tr 26 fun K hK => ?_
   go_simp
   (go_at_call 112; ((with_reducible refine (f_must_no _ _).mono ?_); rintro e w' ⟨rfl, rfl⟩))
   exact ⟨rfl, deed_err HX.out bl⟩
 ·rw [hf] at c1
  have HX := Lib.hid (show deed (.up (k : Int) m) L.val = .error 10 by rw [HX2.out, if_pos (by rw [hf]; rfl)])
  refine th w1 fun hS0 => ?_
  refine tq 0 ?_
  refine tq 1 ?_
  refine tq 2 ?_
  refine tq 3 ?_
  refine tq 4 ?_
  refine tq 5 ?_
  refine tv 6 ?_
  refine tv 7 ?_
  refine tv 8 ?_
  refine tv 9 ?_
  refine tv 10 ?_
  refine tv 11 ?_
  refine tq 12 ?_
  refine tq 13 ?_
  refine tv 14 ?_
  refine tv 15 ?_
  refine tv 16 ?_
  refine tv 17 ?_
  refine tv 18 ?_
  refine tv 19 ?_
  refine tv 20 ?_
  refine tv 21 ?_
  refine tv 22 ?_
  refine tv 23 ?_
  refine tv 24 ?_
  refine tq 25 ?_
  refine tr 26 fun K hK => ?_
  go_simp
  (go_at_call 112; ((with_reducible refine (f_must_no _ _).mono ?_); rintro e w' ⟨rfl, rfl⟩))
  exact ⟨rfl, deed_err HX.out bl⟩
theorem Inv.slen {L : LS} (h : Inv L.val) : L.sites.l.length <= 8 := by
 have h1 := h.sl
 have h2 := (vSu_parts h.su).1
 unfold LS.val at h1 h2
 dsimp only at h1 h2
 rw [List.length_map] at h1
 omega
theorem Inv.men {L : LS} (h : Inv L.val) {k : Nat} {s : LSi} (hs : L.sites.l[k]? = some s) : 0 <= s.men ∧ s.men <= 16 :=
 h.sm s.val (by unfold LS.val; exact List.mem_map.2 ⟨s, List.mem_of_getElem? hs, rfl⟩)
theorem Inv.lens {L : LS} (h : Inv L.val) : L.x.stk.l.length = L.sites.l.length ∧ L.x.jnt.l.length = L.sites.l.length := by
 have h1 := h.sl
 have h2 := (vSu_parts h.su).2.1
 unfold LS.val LSu.val at h1 h2
 dsimp only at h1 h2
 simp only [List.length_map] at h1 h2
 omega
theorem stkA_of {L : LS} {i : Nat} {s : Sl S.Course} (h : L.x.stk.l[i]? = some s) : stkA L.val (i : Int) = s.l := by
 unfold stkA LS.val LSu.val
 rw [Int.toNat_natCast, List.getD_eq_getElem?_getD, List.getElem?_map, h]; rfl
theorem jntA_of {L : LS} {i : Nat} {s : Sl Jt} (h : L.x.jnt.l[i]? = some s) : jntA L.val (i : Int) = s.l := by
 unfold jntA LS.val LSu.val
 rw [Int.toNat_natCast, List.getD_eq_getElem?_getD, List.getElem?_map, h]; rfl
theorem rigA_of {L : LS} {i : Nat} {s : LRg} (h : L.rigs.l[i]? = some s) : rigA L.val (i : Int) = s.val := by
 unfold rigA LS.val
 rw [Int.toNat_natCast, List.getD_eq_getElem?_getD, List.getElem?_map, h]; rfl
theorem rtB_iff {L : LS} {i : Int} : rtB L.val i = true ↔ 0 <= i ∧ i < L.rigs.l.length := by
 unfold rtB LS.val
 rw [wn_iff, List.length_map]; omega
section
variable {T : Nat -> Prop} {nb sb rb : Nat} {w w' : World} {L : LS}
theorem Nxt.jnts (h : Nxt T nb sb rb w L) (hI : Inv L.val) {k : Nat} (hk : k < L.sites.l.length) : ∃ y b off, L.x.jnt.l[k]? = some y ∧ L.x.jnt.a = some ⟨b, off, none⟩ ∧ b < w.heap.size ∧ w.cell? ⟨b, off + k, none⟩ = some (.slice y.a y.l.length y.c) ∧ Got T w Jt.cs 2 y ∧ y.l.length <= 200 := by
 obtain ⟨y, hy⟩ := get_lt (show k < L.x.jnt.l.length by rw [hI.lens.2]; exact hk)
 obtain ⟨b, off, e, hb, hc⟩ := h.su.jnt.rd.get hy
 have h1 := (vSu_parts hI.su).2.2.2.1 y.l (by unfold LS.val LSu.val; exact List.mem_map.2 ⟨y, List.mem_of_getElem? hy, rfl⟩)
 have h2 : y.l.length <= 200 := by unfold vJ at h1; exact of_decide_eq_true (Bool.and_eq_true_iff.1 h1).2
 exact ⟨y, b, off, hy, e, hb, by have := hc 0 _ rfl; simpa using this, h.su.jnts y (List.mem_of_getElem? hy), h2⟩
theorem Nxt.stks (h : Nxt T nb sb rb w L) (hI : Inv L.val) {k : Nat} (hk : k < L.sites.l.length) : ∃ y b off, L.x.stk.l[k]? = some y ∧ L.x.stk.a = some ⟨b, off, none⟩ ∧ b < w.heap.size ∧ w.cell? ⟨b, off + k, none⟩ = some (.slice y.a y.l.length y.c) ∧ Got T w S.Course.cs 6 y ∧ S.validC y.l = true := by
 obtain ⟨y, hy⟩ := get_lt (show k < L.x.stk.l.length by rw [hI.lens.1]; exact hk)
 obtain ⟨b, off, e, hb, hc⟩ := h.su.stk.rd.get hy
 have h1 := (vSu_parts hI.su).2.2.1 y.l (by unfold LS.val LSu.val; exact List.mem_map.2 ⟨y, List.mem_of_getElem? hy, rfl⟩)
 exact ⟨y, b, off, hy, e, hb, by have := hc 0 _ rfl; simpa using this, h.su.stks y (List.mem_of_getElem? hy), h1⟩
theorem Nxt.turnR (h : Nxt T nb sb rb w L) {w1 : World} (B : Below w.heap.size w w1) {k j : Nat} {s s' : LRg} {v : Value} (hs : L.rigs.l[k]? = some s) (hj : s'.cs[j]? = some v) (ho : ∀ r, r ≠ j -> s'.cs[r]? = s.cs[r]?)
  (hd : s'.lk.l = []) (hdc : s'.lk.c = 0) : Nxd T nb sb rb w L (w1.setCell ⟨rb, k * 2 + j, none⟩ v) { L with rigs := ⟨L.rigs.a, L.rigs.l.set k s', L.rigs.c⟩ } := by
 have hk := (List.getElem?_eq_some_iff.1 hs).1
 have h1 := h.on B
 obtain ⟨g, cap, cur, hv, _, hb, hir⟩ := own_row LRg.cs_len h1.rrow (by omega)
 have ha : L.rigs.a = some ⟨g, 0, none⟩ := by have := hv; unfold Sl.v at this; injection this
 have hg : g = rb := h.rb_ g (by show (Value.slice L.rigs.a _ _).ownBlock = _; rw [ha]; rfl)
 subst hg
 have hst : Stp (fun g' => g' = g) w (w1.setCell ⟨g, k * 2 + j, none⟩ v) := Stp.setCell (N := fun g' => g' = g) (p := ⟨g, k * 2 + j, none⟩) ((Stp.refl _ _).below B (Nat.le_refl _)) (.inl rfl) v
 have h3 : Stp (fun g' => g' = nb ∨ g' = sb ∨ g' = g) w (w1.setCell ⟨g, k * 2 + j, none⟩ v) := hst.mono fun b _ e => .inr (.inr e)
 have hR' := inrow_put LRg.cs_len hir hs hj ho
 have hc := own_caps h.rrow
 refine ⟨?_, ⟨h.keepSu h3, h.keep h.gusts h3, ?_, ?_, h.keepS (hst.mono fun b _ e => .inr e), fun s hs' => h.keep (h.sk s hs') h3, h.keep h.items h3, h.keep h.back h3⟩, h3, rfl, rfl⟩
 ·have hb1 := hst.blk h.blk h.n2
  have e : ({ L with rigs := ⟨L.rigs.a, L.rigs.l.set k s', L.rigs.c⟩ } : LS).cs = L.cs := by unfold LS.cs Sl.v; simp
  rw [e]; exact hb1
 ·refine ⟨fun hne => ?_, fun hne a ha' => ?_, by simpa using hc.1, hc.2⟩
  ·dsimp only
   rw [ha]
   exact row_rd (hb.set_ _ _) hR' hne
  ·dsimp only at ha'
   rw [ha] at ha'; cases ha'
   exact .inr (.inr (.inl rfl))
 ·intro r hr
  rcases List.mem_or_eq_of_mem_set hr with h1 | h1
  ·exact h.keep (h.rk r h1) h3
  ·rw [h1]
   exact ⟨fun hne => absurd hd hne, fun hne => absurd hd hne, by rw [hd, hdc]; simp, by rw [hdc]; simp⟩
theorem Nxt.rfz (h : Nxt T nb sb rb w L) {k : Nat} (hk : k < L.rigs.l.length) (j : Nat) : w.frozen? ⟨rb, j, none⟩ = false := by
 obtain ⟨g, cap, cur, hv, _, hb, hir⟩ := own_row LRg.cs_len h.rrow (by omega)
 have ha : L.rigs.a = some ⟨g, 0, none⟩ := by have := hv; unfold Sl.v at this; injection this
 have hg : g = rb := h.rb_ g (by show (Value.slice L.rigs.a _ _).ownBlock = _; rw [ha]; rfl)
 subst hg
 exact hb.frozen j
theorem setR_val {i : Nat} {s' : LRg} : ({ L with rigs := ⟨L.rigs.a, L.rigs.l.set i s', L.rigs.c⟩ } : LS).val = { L.val with rigs := L.val.rigs.set i s'.val } := by
 unfold LS.val
 simp [List.map_set]
end
theorem pri_bd {r : Rt} {h : Int} (hv : vRt r = true) : 0 <= priV r h ∧ priV r h <= 1000000000000 := by
 unfold priV
 by_cases he : priE r h = 0
 ·rw [if_pos he]
  unfold priE at he
  rw [if_pos hv] at he
  by_cases hw : wn h 0 200000 = true
  ·obtain ⟨h0, h1⟩ := wn_iff.1 hw
   unfold vRt at hv
   obtain ⟨v1, hv⟩ := Bool.and_eq_true_iff.1 hv
   obtain ⟨v2, hv⟩ := Bool.and_eq_true_iff.1 hv
   obtain ⟨v3, v4⟩ := Bool.and_eq_true_iff.1 hv
   obtain ⟨a1, a2⟩ := wn_iff.1 v1
   obtain ⟨a3, a4⟩ := wn_iff.1 v2
   obtain ⟨a5, a6⟩ := wn_iff.1 v3
   obtain ⟨a7, a8⟩ := wn_iff.1 v4
   have m1 : 0 <= mtr (min h r.hi) ∧ mtr (min h r.hi) <= 201 := by unfold mtr; omega
   have m2 : 0 <= mtr (max 0 (h - r.hi)) ∧ mtr (max 0 (h - r.hi)) <= 201 := by unfold mtr; omega
   generalize mtr (min h r.hi) = A at *
   generalize mtr (max 0 (h - r.hi)) = B at *
   have p1 := Int.mul_nonneg a3 m1.1
   have p2 := Int.mul_nonneg a5 m2.1
   have p3 : r.lo * A <= 1000000 * 201 := Int.mul_le_mul a4 m1.2 m1.1 (by omega)
   have p4 : r.ab * B <= 1000000 * 201 := Int.mul_le_mul a6 m2.2 m2.1 (by omega)
   omega
  ·rw [if_neg hw] at he; omega
 ·rw [if_neg he]; omega
theorem own_mono {w : World} {base base' sz n : Nat} {e : TypeId} {v : Value} {xs : List Value} (h : w.ownsRow base e sz v n xs) (hb : base' <= base) : w.ownsRow base' e sz v n xs := by
 refine ⟨h.1, ?_⟩
 rcases h.2 with ⟨h1, h0⟩ | ⟨g', cap, cur, h1, hB, h2⟩
 ·exact .inl ⟨h1, h0⟩
 ·exact .inr ⟨g', cap, cur, h1, Nat.le_trans hb hB, h2⟩
theorem news_on {w w' : World} {news : List Value} {t : TypeId} (hb : Below (w.alloc (.cells news.toArray t)).heap.size (w.alloc (.cells news.toArray t)) w') :
  ∀ (j : Nat) (u : Value), news[j]? = some u -> w'.cell? ((⟨w.heap.size, 0, none⟩ : Addr).add j) = some u := fun j u hu => by
 have h1 := cells_new w news t j u hu
 rw [show (⟨w.heap.size, 0, none⟩ : Addr).add j = ⟨w.heap.size, j, none⟩ by unfold Addr.add; split <;> simp_all] at h1 ⊢
 exact (World.cell?_of_block (w := w.alloc (.cells news.toArray t)) (w' := w') (a := ⟨w.heap.size, j, none⟩) (hb.block _ (by simp))).trans h1
theorem own_snoc {α : Type} {enc : α -> List Value} {sz base : Nat} {w : World} {t : TypeId} {A : Option Addr} {c n : Nat} {l : List α} {x : α} {xs : List Value} (hn : l.length = n) (hx : enc x = xs) (h : w.ownsRow base t sz (.slice A (n + 1) c) (n + 1) (fl enc l ++ xs)) :
  w.ownsRow base t sz (Sl.v ⟨A, l ++ [x], c⟩) (Sl.l ⟨A, l ++ [x], c⟩).length (fl enc (Sl.l ⟨A, l ++ [x], c⟩)) := by
 subst hn hx
 have e : fl enc (l ++ [x]) = fl enc l ++ enc x := by simp [fl]
 have e2 : (l ++ [x]).length = l.length + 1 := by simp
 unfold Sl.v
 dsimp only
 rw [e, e2]
 exact h
section
variable {P : Program}
theorem step_append_at {ops : Array Oper} {o : Oper} {a : Act} {w : World} {K : Act -> World -> Prop} {Q : Exit -> Act -> World -> Prop} {E : Prop} (hgd : o.guard = none) (s x : Operand) (t : TypeId)
  (ho : o.op = .call { callee := .builtin .append, args := #[s, x], argTypes := #[t, t] })
  (base : Nat) (e : TypeId) (i : TypeInfo) (z : Value) (size bytes : Nat) (ht : P.underlying t = some (.slice e)) (hi : P.info? e = some i) (hz : i.zero = some z)
  (hsize : i.size = size) (hby : i.bytes = bytes) (hzs : z.cells.size = size) (hsz : 0 < size)
  (v : Value) (n : Nat) (xs : List Value) (hs : a.eval s = v) (hown : w.ownsRow base e size v n xs)
  (ad : Addr) (m c : Nat) (news : List Value) (hx : a.eval x = .slice (some ad) m c) (hl : news.length = m * size) (hnews : ∀ j u, news[j]? = some u -> w.cell? (ad.add j) = some u) (h1 : ∀ u ∈ news, u.oneCell' = true)
  (h63 : n + m <= maxLen) (hbytes : (n + m) * bytes <= 140737488355328) (hbase : base <= w.heap.size)
  (h : ∀ v' w', w'.ownsRow base e size v' (n + m) (xs ++ news) -> w.grownBy w' v.ownBlock -> K (a.put o.dst v') w') :
  if Region.wanted o (yielded ops a.tmps) = true then Oper.wp P o a w K Q else E := by
 have hw : Region.wanted o (yielded ops a.tmps) = true := by simp [Region.wanted, hgd]
 rw [if_pos hw]
 obtain ⟨v', w', hr, h2, h3, _, _⟩ := Go.run_append_own_at (P := P) w base t o.type e i z size bytes ht hi hz hsize hby hzs hsz v n xs hown ad m c news hl hnews h1 h63 hbytes hbase
 unfold Oper.wp execOp
 simp only [ho, resolve, invoke, builtin, Sem.run_bind, Sem.run_pure, Result.andThen_ok, List.map_toArray, List.map_cons, List.map_nil, hs, hx, hr]
 exact h v' w' h2 h3
end
def Kn (W : World) (T : Nat) (w' : World) : Prop := (∀ b o, b < W.heap.size -> b ≠ T -> w'.cell? ⟨b, o, none⟩ = W.cell? ⟨b, o, none⟩) ∧ (∀ b o, b < W.heap.size -> w'.frozen? ⟨b, o, none⟩ = W.frozen? ⟨b, o, none⟩) ∧ Stp (fun g => g = T) W w'
section
variable {W w' w'' : World} {N : Nat}
theorem kn_of (h : Below W.heap.size W w') : Kn W N w' := ⟨fun b o hb _ => (bcell h).1 b o hb, (bcell h).2, (Stp.refl _ _).below h (Nat.le_refl _)⟩
theorem kn_refl : Kn W N W := kn_of (below_refl _)
theorem kn_step (h : Kn W N w') (hb : Below w'.heap.size w' w'') : Kn W N w'' :=
 ⟨fun b o hb' hn => ((bcell hb).1 b o (Nat.lt_of_lt_of_le hb' h.2.2.size)).trans (h.1 b o hb' hn), fun b o hb' => ((bcell hb).2 b o (Nat.lt_of_lt_of_le hb' h.2.2.size)).trans (h.2.1 b o hb'), h.2.2.below hb h.2.2.size⟩
theorem kn_draw (h : Kn W N w') : Kn W N w'.drew := kn_step h (below_draw (below_refl _))
theorem kn_drewN {n : Nat} (h : Kn W N w') : Kn W N (w'.drewN n) := kn_step h (below_drewN (below_refl _) _)
theorem kn_alloc {o : Obj} (h : Kn W N w') : Kn W N (w'.alloc o) := kn_step h (bl_alloc (below_refl _) _)
theorem kn_set {i : Nat} {v : Value} (h : Kn W N w') : Kn W N (w'.setCell ⟨N, i, none⟩ v) :=
 ⟨fun b o hb hn => (World.cell?_setCell_other _ _ _ _ (by intro e; cases e; exact hn rfl)).trans (h.1 b o hb hn), fun b o hb => (World.frozen?_setCell _ _ _ _).trans (h.2.1 b o hb), Stp.setCell (N := fun g => g = N) (p := ⟨N, i, none⟩) h.2.2 (.inl rfl) v⟩
end
theorem memB_is (l : List ByteArray) (s : ByteArray) : memB l s = G.hasB l s := by
 unfold memB G.hasB
 have : (fun y => eqB y s) = fun x : ByteArray => s.toList == x.toList := by
  funext y
  unfold eqB
  rw [ByteArray.toList_eq, ByteArray.toList_eq, Bool.eq_iff_iff, decide_eq_true_iff, beq_iff_eq]
  exact eq_comm
 rw [this]
end Go.Proofs.YtgemlddincnfcaaGreatDoor.Fi
