/- The parts of the proof, part 3. -/
import Derived.Test.YtgemlddincnfcaaGreatDoorQ0
import Derived.Test.YtgemlddincnfcaaGreatDoorQ1
import Derived.RangeFuncNested
import Derived.RangeFuncBound
import Derived.RangeFuncCalls
import Derived.RangeFuncLeaves
import Derived.Shelf.Abstract
import Derived.WalkKit
import Derived.OwnWalkIn
import Derived.TacticsInMore
import Derived.LoopNIn
import Derived.LoopIn
set_option maxHeartbeats 16000000
set_option maxRecDepth 20000
namespace Go.Proofs.YtgemlddincnfcaaGreatDoor
open Go.RowKit Go.Shelf
structure Stp (N : Nat -> Prop) (W W' : World) : Prop where
 os : W'.os = W.os
 tape : W'.tape = W.tape
 output : W'.output = W.output
 size : W.heap.size <= W'.heap.size
 block : ∀ b, b < W.heap.size -> ¬ N b -> W'.heap[b]? = W.heap[b]?
section
variable {N N' : Nat -> Prop} {W W' W'' : World}
theorem Stp.refl (N : Nat -> Prop) (W : World) : Stp N W W := ⟨rfl, rfl, rfl, Nat.le_refl _, fun _ _ _ => rfl⟩
theorem Stp.mono (h : Stp N W W') (hN : ∀ b, b < W.heap.size -> N b -> N' b) : Stp N' W W' := ⟨h.os, h.tape, h.output, h.size, fun b hb hn => h.block b hb (fun k => hn (hN b hb k))⟩
theorem Stp.trans (h : Stp N W W') (k : Stp N W' W'') : Stp N W W'' :=
 ⟨k.os.trans h.os, k.tape.trans h.tape, k.output.trans h.output, Nat.le_trans h.size k.size, fun b hb hn => (k.block b (Nat.lt_of_lt_of_le hb h.size) hn).trans (h.block b hb hn)⟩
theorem Stp.alloc (h : Stp N W W') (o : Obj) : Stp N W (W'.alloc o) :=
 h.trans ⟨rfl, rfl, rfl, by simp, fun b hb _ => Below.heap_alloc _ _ _ hb⟩
theorem Stp.setCell (h : Stp N W W') {p : Addr} (hp : N p.block ∨ W.heap.size <= p.block) (u : Value) : Stp N W (W'.setCell p u) :=
 ⟨h.os, h.tape, h.output, by simpa [World.setCell] using h.size, fun b hb hn => (Below.heap_setCell W' p u b (fun e => by subst e; rcases hp with hp | hp; exact hn hp; omega)).trans (h.block b hb hn)⟩
theorem Stp.putObj (h : Stp N W W') {r : Nat} (hp : N r ∨ W.heap.size <= r) (o : Obj) : Stp N W (W'.putObj r o) :=
 ⟨h.os, h.tape, h.output, by simpa using h.size, fun b hb hn => (World.putObj_heap_other (fun e => by subst e; rcases hp with hp | hp; exact hn hp; omega)).trans (h.block b hb hn)⟩
theorem Stp.drew (h : Stp N W W') : Stp N W W'.drew := ⟨h.os, h.tape, h.output, h.size, h.block⟩
theorem Stp.drewN (h : Stp N W W') (n : Nat) : Stp N W (W'.drewN n) := ⟨h.os, h.tape, h.output, h.size, h.block⟩
theorem Stp.below (h : Stp N W W') {B : Nat} (k : Below B W' W'') (hB : W.heap.size <= B) : Stp N W W'' :=
 ⟨k.os.trans h.os, k.tape.trans h.tape, k.output.trans h.output, Nat.le_trans h.size k.size, fun b hb hn => (k.block b (by omega)).trans (h.block b hb hn)⟩
theorem Stp.grown (h : Stp N W W') {row : Option Nat} (k : W'.grownBy W'' row) (hr : ∀ r, row = some r -> N r ∨ W.heap.size <= r) : Stp N W W'' :=
 ⟨k.os.trans h.os, k.tape.trans h.tape, k.output.trans h.output, Nat.le_trans h.size k.size, fun b hb hn => (k.block b (Nat.lt_of_lt_of_le hb h.size) (fun e => by rcases hr b e.symm with h1 | h1; exact hn h1; omega)).trans (h.block b hb hn)⟩
theorem Stp.toBelow (h : Stp N W W') {B : Nat} (hB : B <= W.heap.size) (hN : ∀ b, b < B -> ¬ N b) : Below B W W' :=
 ⟨h.os, h.tape, h.output, h.size, fun b hb => h.block b (by omega) (hN b hb)⟩
theorem Stp.blk (h : Stp N W W') {g : Nat} {t : TypeId} {cs : Array Value} (hb : Blk W g t cs) (hn : ¬ N g) : Blk W' g t cs := (h.block g hb.lt hn).trans hb
theorem Stp.cell (h : Stp N W W') {b o : Nat} {v : Value} (hc : W.cell? ⟨b, o, none⟩ = some v) (hn : ¬ N b) : W'.cell? ⟨b, o, none⟩ = some v :=
 (World.cell?_of_block (w := W) (w' := W') (a := ⟨b, o, none⟩) (h.block b (World.block_lt_of_cell? W _ hc) hn)).trans hc
theorem Rd.stp {α : Type} {enc : α -> List Value} {sz : Nat} {A : Option Addr} {l : List α} (h : Rd enc sz W A l) (k : Stp N W W') (hn : ∀ ad, A = some ad -> ¬ N ad.block) : Rd enc sz W' A l := fun hne => by
 obtain ⟨b, off, e, hlt, hc⟩ := h hne
 exact ⟨b, off, e, Nat.lt_of_lt_of_le hlt k.size, fun i x hx j v hv => k.cell (hc i x hx j v hv) (hn _ e)⟩
end
def AbideIt {β : Type} (B : Nat) (J : β -> (Nat -> Prop) -> World -> Prop) : Prop :=
 ∀ s (M M' : Nat -> Prop) W W', J s M W -> (∀ b, M' b -> B <= b) -> (∀ b, M b -> M' b) -> (∀ b, M' b -> M b ∨ W.heap.size <= b) -> (∀ b, M' b -> b < W'.heap.size) -> Stp M W W' -> J s M' W'
def Abide {β : Type} (B : Nat) (I : β -> (Nat -> Prop) -> World -> Prop) : Prop :=
 ∀ s (M M' : Nat -> Prop) W W', I s M W -> (∀ b, M' b -> B <= b) -> (∀ b, M b -> M' b) -> (∀ b, M' b -> M b ∨ W.heap.size <= b) -> (∀ b, M' b -> b < W'.heap.size) -> Stp (fun b => M b ∨ b + 2 = B ∨ b + 1 = B) W W' -> I s M' W'
def SeqIs {α : Type} (n : Nat) (P : Program) (g : Nat) (lb : Array Value) (encs : α -> Array Value) (xs : List α) (R : Nat -> Prop) (w0 : World) : Prop :=
 ∀ (l : Nat) (J Jx : List α -> (Nat -> Prop) -> World -> Prop) (W : World), Stp (fun b => ¬ R b) w0 W -> AbideIt W.heap.size J -> AbideIt W.heap.size Jx ->
  (∀ pre x rest M W1, xs = pre ++ x :: rest -> J pre M W1 -> YieldAt Fence.wide (n - 1) P l (encs x) W1 fun e W' =>
   (e = .returned (.bool true) ∧ J (pre ++ [x]) M W' ∧ Stp (fun b => ¬ (M b ∨ R b)) W1 W') ∨ (e = .returned (.bool false) ∧ Jx (pre ++ [x]) M W')) ->
  J [] (fun _ => False) W ->
  CallsIn Fence.wide n P g (#[.func (.yield l) #[] #[]] ++ lb) W fun e W' => (∃ v, e = .returned v) ∧ ((∃ M, J xs M W') ∨ (∃ pre rest M, xs = pre ++ rest ∧ Jx pre M W'))
abbrev KeepN (M R : Nat -> Prop) (B : Nat) (W W' : World) : Prop := Stp (fun b => ¬ (M b ∨ R b ∨ b + 2 = B ∨ b + 1 = B)) W W'
def bPost {α : Type} (I : List α -> (Nat -> Prop) -> World -> Prop) (Ix : Code -> List α -> (Nat -> Prop) -> World -> Prop) (s : List α) (M R : Nat -> Prop) (B : Nat) (W : World) : Exit -> Act -> World -> Prop
 | .normal, _, W' => KeepN M R B W W' ∧ I s M W'
 | .ret, _, W' => KeepN M R B W W' ∧ Ix .ret s M W'
 | .exit id, _, W' => KeepN M R B W W' ∧ Ix (.exit id) s M W'
 | .goto t, _, W' => KeepN M R B W W' ∧ Ix (.goto t) s M W'
 | .panic _, _, _ => False
 | .outgrown, _, _ => False
def setAll (ps : Array Tmp) (vs : Array Value) (tm : Array Value) : Array Value := (ps.zip vs).foldl (fun t (p, v) => t.setIfInBounds p v) tm
theorem setAll1 (p : Tmp) (u : Value) (tm : Array Value) : setAll #[p] #[u] tm = tm.setIfInBounds p u := by simp [setAll]
theorem setAll2 (p q : Tmp) (u v : Value) (tm : Array Value) : setAll #[p, q] #[u, v] tm = (tm.setIfInBounds p u).setIfInBounds q v := by simp [setAll]
theorem wp_range {α : Type} {n : Nat} {P : Program} {g : Operand} {ps : Array Tmp} {assign body : Code} {Q : Exit -> Act -> World -> Prop} {a : Act} {w : World}
  (h1 : 1 <= n) {gf : Nat} {lb : Array Value} (hg : a.eval g = .func (.func gf) #[] lb) (eg : ∀ args w, (callFunc gf args).run P w = .ok (.enter gf args) w)
  {encs : α -> Array Value} {xs : List α} {R : Nat -> Prop} {w0 : World} (hseq : SeqIs (n - 1) P gf lb encs xs R w0) (hb0 : Stp (fun b => ¬ R b) w0 w) (hps : ∀ x, (encs x).size = ps.size) (hR : ∀ b, R b -> b < w.heap.size)
  (I : List α -> (Nat -> Prop) -> World -> Prop) (Ix : Code -> List α -> (Nat -> Prop) -> World -> Prop) (hI : Abide (w.heap.size + 2) I) (hIx : ∀ c, Abide (w.heap.size + 2) (Ix c)) (h0 : I [] (fun _ => False) w)
  (hround : ∀ (l : Nat) (pre : List α) (x : α) (rest : List α) (M : Nat -> Prop) (W : World), xs = pre ++ x :: rest -> I pre M W -> (∀ b, M b -> w.heap.size + 2 <= b ∧ b < W.heap.size) -> w.heap.size + 2 <= W.heap.size ->
   assign.wpIn (Fence.wide.inRound l) (n - 1 - 1) P (Exit.then (fun a₁ W1 => KeepN M R (w.heap.size + 2) W W1 ∧ ∀ W2, W2.heap.size = W1.heap.size -> Stp (fun b => b + 1 = w.heap.size + 2) W1 W2 ->
    body.wpIn (Fence.wide.inRound l) (n - 1 - 1) P (bPost I Ix (pre ++ [x]) M R (w.heap.size + 2) W2) a₁ W2) (fun _ _ _ => False))
    { tmps := setAll ps (encs x) a.tmps, defers := [] } W)
  (hdone : ∀ (M : Nat -> Prop) (W : World), I xs M W -> W.heap[w.heap.size]? = some (.deferred (some [])) -> Q .normal { a with defers := { target := .collected w.heap.size, args := #[] } :: a.defers } W)
  (hstop : ∀ (c : Code) (pre rest : List α) (M : Nat -> Prop) (W : World), xs = pre ++ rest -> Ix c pre M W -> W.heap[w.heap.size]? = some (.deferred (some [])) -> c.wpIn Fence.wide n P Q { a with defers := { target := .collected w.heap.size, args := #[] } :: a.defers } W) :
  (Code.rangeFunc g ps assign body).wpIn Fence.wide n P Q a w := by
 refine wpIn_rangeFunc ?_
 intro fn hfn
 obtain ⟨rec, hrec⟩ : ∃ rec : LoopState -> Option Code -> Loop, rec = fun st pe => { state := st, pending := pe, fn, tmps := a.tmps, params := ps, assign, body, defers := w.heap.size } := ⟨_, rfl⟩
 obtain ⟨W1, hW1⟩ : ∃ W1, (w.alloc (.deferred (some []))).alloc (.loop (rec .ready none)) = W1 := ⟨_, rfl⟩
 have hL1 : W1.heap[w.heap.size + 1]? = some (.loop (rec .ready none)) := by
  rw [← hW1]; have := World.alloc_heap_new (w.alloc (.deferred (some []))) (.loop (rec .ready none)); rwa [World.size_alloc] at this
 have hK1 : W1.heap[w.heap.size]? = some (.deferred (some [])) := by
  rw [← hW1]; exact (Below.heap_alloc _ _ _ (by simp)).trans (World.alloc_heap_new w _)
 have hs1 : W1.heap.size = w.heap.size + 2 := by rw [← hW1]; simp
 have hst1 : ∀ N, Stp N w W1 := fun N => by rw [← hW1]; exact ((Stp.refl N w).alloc _).alloc _
 have hI1 : I [] (fun _ => False) W1 := hI [] _ _ w W1 h0 (fun _ h => h.elim) (fun _ h => h) (fun _ h => h.elim) (fun _ h => h.elim) (hst1 _)
 refine ⟨w.heap.size + 1, [{ target := .collected w.heap.size, args := #[] }], W1, { target := .fn (.func gf) lb, args := #[.func (.yield (w.heap.size + 1)) #[] #[]] }, W1, gf,
  #[.func (.yield (w.heap.size + 1)) #[] #[]] ++ lb, W1, ?_, ?_, ?_, ?_, fun _ => h1, ?_⟩
 ·rw [← hW1, hrec]; exact run_enterLoop_outer _ _ _ _ _
 ·simp only [resolve, hg]
  simp [go_sem]
 ·intro f' _; trivial
 ·simp [invoke, go_sem, eg]
 ·refine (hseq (w.heap.size + 1)
   (fun pre M W => (I pre M W ∧ W.heap[w.heap.size + 1]? = some (.loop (rec .ready none)) ∧ W.heap[w.heap.size]? = some (.deferred (some []))) ∧ ∀ b, M b -> w.heap.size + 2 <= b ∧ b < W.heap.size)
   (fun pre M W => (∃ c, Ix c pre M W ∧ W.heap[w.heap.size + 1]? = some (.loop (rec .done (some c))) ∧ W.heap[w.heap.size]? = some (.deferred (some []))) ∧ ∀ b, M b -> w.heap.size + 2 <= b ∧ b < W.heap.size)
   W1 (hb0.trans (hst1 _)) ?_ ?_ ?_ ⟨⟨hI1, hL1, hK1⟩, fun _ h => h.elim⟩).mono ?_
  ·rintro s M M' A B ⟨⟨hi, hl, hk⟩, hm⟩ hM' hMM hnew hlt hstp
   rw [hs1] at hM'
   exact ⟨⟨hI s M M' A B hi hM' hMM hnew hlt (hstp.mono fun b _ h => .inl h),
    (hstp.block _ (lt_of_block hl) (fun h => by have := (hm _ h).1; omega)).trans hl, (hstp.block _ (lt_of_block hk) (fun h => by have := (hm _ h).1; omega)).trans hk⟩, fun b h => ⟨hM' b h, hlt b h⟩⟩
  ·rintro s M M' A B ⟨⟨c, hi, hl, hk⟩, hm⟩ hM' hMM hnew hlt hstp
   rw [hs1] at hM'
   exact ⟨⟨c, hIx c s M M' A B hi hM' hMM hnew hlt (hstp.mono fun b _ h => .inl h),
    (hstp.block _ (lt_of_block hl) (fun h => by have := (hm _ h).1; omega)).trans hl, (hstp.block _ (lt_of_block hk) (fun h => by have := (hm _ h).1; omega)).trans hk⟩, fun b h => ⟨hM' b h, hlt b h⟩⟩
  ·-- one round
   rintro pre x rest M W hxs ⟨⟨hi, hl, hk⟩, hm⟩
   have hlt : w.heap.size + 1 < W.heap.size := lt_of_block hl
   have hy := run_yield (P := P) (args := encs x) hl (by rw [hrec]; exact hps x)
   rw [hrec] at hy
   refine ⟨fn, _, assign, body, hy, roundIn_of_wpIn hfn (wpIn_mono (hround _ pre x rest M W hxs hi hm (by omega)) ?_)⟩
   rintro e a2 W2 hp
   cases e with
   | normal =>
    obtain ⟨hk2, hbody⟩ := hp
    have hl2 := (hk2.block _ (lt_of_block hl) (by simp)).trans hl
    have hkk2 := (hk2.block _ (lt_of_block hk) (by simp)).trans hk
    refine ⟨_, run_beginRound hl2 (by rw [hrec]), ?_⟩
    obtain ⟨W3, hW3⟩ : ∃ W3, W2.putObj (w.heap.size + 1) (.loop { rec .ready none with state := .busy }) = W3 := ⟨_, rfl⟩
    rw [hW3]
    have hst3 : Stp (fun b => b + 1 = w.heap.size + 2) W2 W3 := by rw [← hW3]; exact Stp.putObj (Stp.refl (fun b => b + 1 = w.heap.size + 2) W2) (.inl rfl) _
    have hl3 : W3.heap[w.heap.size + 1]? = some (.loop { rec .ready none with state := .busy }) := by rw [← hW3]; exact World.putObj_heap_same (lt_of_block hl2)
    have hkk3 : W3.heap[w.heap.size]? = some (.deferred (some [])) := (hst3.block _ (lt_of_block hkk2) (by omega)).trans hkk2
    have hsz3 : W3.heap.size = W2.heap.size := by rw [← hW3]; simp
    refine wpIn_mono (hbody W3 hsz3 hst3) ?_
    have fin : ∀ (jump : Option Code) (W4 : World), KeepN M R (w.heap.size + 2) W3 W4 -> ∃ W5,
      (Instr.endRound (w.heap.size + 1) jump).run P W4 = .ok (.bool jump.isNone) W5 ∧ Stp (fun b => b + 1 = w.heap.size + 2) W4 W5 ∧
      W5.heap[w.heap.size + 1]? = some (.loop (rec (if jump.isNone then .ready else .done) jump)) ∧ W5.heap[w.heap.size]? = some (.deferred (some [])) := fun jump W4 hk4 => by
     have hl4 := (hk4.block _ (lt_of_block hl3) (by simp)).trans hl3
     have hkk4 := (hk4.block _ (lt_of_block hkk3) (by simp)).trans hkk3
     have hr := run_endRound (P := P) jump hl4
     rw [hrec] at hr
     refine ⟨_, hr, Stp.putObj (Stp.refl (fun b => b + 1 = w.heap.size + 2) W4) (.inl rfl) _, ?_, ?_⟩
     ·rw [World.putObj_heap_same (lt_of_block hl4), hrec]
     ·rw [World.putObj_heap_other (by omega)]; exact hkk4
    have ab : ∀ {s : List α} {A B : World}, I s M A -> W.heap.size <= A.heap.size -> Stp (fun b => b + 1 = w.heap.size + 2) A B -> I s M B := fun {s A B} ha hAW hab =>
     hI s M M A B ha (fun b h => (hm b h).1) (fun _ h => h) (fun _ h => .inl h) (fun b h => by have := (hm b h).2; have := hab.size; omega) (hab.mono fun b _ h => .inr (.inr h))
    have abx : ∀ {c : Code} {s : List α} {A B : World}, Ix c s M A -> W.heap.size <= A.heap.size -> Stp (fun b => b + 1 = w.heap.size + 2) A B -> Ix c s M B := fun {c s A B} ha hAW hab =>
     hIx c s M M A B ha (fun b h => (hm b h).1) (fun _ h => h) (fun _ h => .inl h) (fun b h => by have := (hm b h).2; have := hab.size; omega) (hab.mono fun b _ h => .inr (.inr h))
    rintro e a3 W4 hp4
    cases e with
    | normal =>
     obtain ⟨hk4, hi4⟩ := hp4
     obtain ⟨W5, hr, h45, hl5, hkk5⟩ := fin none W4 hk4
     have hAW := Nat.le_trans (Nat.le_trans hk2.size hst3.size) hk4.size
     refine ⟨_, _, hr, .inl ⟨rfl, ⟨⟨ab hi4 hAW h45, hl5, hkk5⟩, fun b h => ⟨(hm b h).1, by have := (hm b h).2; have := h45.size; omega⟩⟩, ?_⟩⟩
     have q : ∀ b, ¬ (M b ∨ R b ∨ b + 2 = w.heap.size + 2 ∨ b + 1 = w.heap.size + 2) -> ¬ (M b ∨ R b) := fun b h k => h (by rcases k with k | k; exact .inl k; exact .inr (.inl k))
     have q2 : ∀ b, b + 1 = w.heap.size + 2 -> ¬ (M b ∨ R b) := fun b h k => by rcases k with k | k; (have := (hm b k).1; omega); (have := hR b k; omega)
     exact (((hk2.mono fun b _ => q b).trans (hst3.mono fun b _ => q2 b)).trans (hk4.mono fun b _ => q b)).trans (h45.mono fun b _ => q2 b)
    | ret =>
     obtain ⟨hk4, hi4⟩ := hp4
     obtain ⟨W5, hr, h45, hl5, hkk5⟩ := fin (some .ret) W4 hk4
     have hAW := Nat.le_trans (Nat.le_trans hk2.size hst3.size) hk4.size
     exact ⟨_, _, hr, .inr ⟨rfl, ⟨.ret, abx hi4 hAW h45, hl5, hkk5⟩, fun b h => ⟨(hm b h).1, by have := (hm b h).2; have := h45.size; omega⟩⟩⟩
    | exit id =>
     obtain ⟨hk4, hi4⟩ := hp4
     obtain ⟨W5, hr, h45, hl5, hkk5⟩ := fin (some (.exit id)) W4 hk4
     have hAW := Nat.le_trans (Nat.le_trans hk2.size hst3.size) hk4.size
     exact ⟨_, _, hr, .inr ⟨rfl, ⟨.exit id, abx hi4 hAW h45, hl5, hkk5⟩, fun b h => ⟨(hm b h).1, by have := (hm b h).2; have := h45.size; omega⟩⟩⟩
    | goto t =>
     obtain ⟨hk4, hi4⟩ := hp4
     obtain ⟨W5, hr, h45, hl5, hkk5⟩ := fin (some (.goto t)) W4 hk4
     have hAW := Nat.le_trans (Nat.le_trans hk2.size hst3.size) hk4.size
     exact ⟨_, _, hr, .inr ⟨rfl, ⟨.goto t, abx hi4 hAW h45, hl5, hkk5⟩, fun b h => ⟨(hm b h).1, by have := (hm b h).2; have := h45.size; omega⟩⟩⟩
    | panic ch => exact hp4.elim
    | outgrown => exact hp4.elim
   | ret => exact hp.elim
   | exit id => exact hp.elim
   | goto t => exact hp.elim
   | panic ch => exact hp.elim
   | outgrown => exact hp.elim
  ·-- behind the iterator
   rintro e W2 ⟨⟨v, rfl⟩, (⟨M, ⟨hi, hl, hk⟩, hm⟩ | ⟨pre, rest, M, hx, ⟨c, hi, hl, hk⟩, hm⟩)⟩
   ·refine ⟨none, _, by have := run_endLoop (P := P) hl (by rw [hrec]; simp); rw [hrec] at this; exact this, hdone M _ ?_ ((World.putObj_heap_other (by omega)).trans hk)⟩
    exact hI xs M M W2 _ hi (fun b h => (hm b h).1) (fun _ h => h) (fun _ h => .inl h) (fun b h => by simpa using (hm b h).2) ((Stp.refl _ _).putObj (.inl (.inr (.inr rfl))) _)
   ·refine ⟨some c, _, by have := run_endLoop (P := P) hl (by rw [hrec]; simp); rw [hrec] at this; exact this, hstop c pre rest M _ hx ?_ ((World.putObj_heap_other (by omega)).trans hk)⟩
    exact hIx c pre M M W2 _ hi (fun b h => (hm b h).1) (fun _ h => h) (fun _ h => .inl h) (fun b h => by simpa using (hm b h).2) ((Stp.refl _ _).putObj (.inl (.inr (.inr rfl))) _)
section
variable {β : Type} {B : Nat}
theorem Abide.and {I I' : β -> (Nat -> Prop) -> World -> Prop} (h : Abide B I) (h' : Abide B I') : Abide B (fun s M W => I s M W ∧ I' s M W) :=
 fun s M M' W W' hs a b c d e => ⟨h s M M' W W' hs.1 a b c d e, h' s M M' W W' hs.2 a b c d e⟩
theorem abide_pure (p : β -> Prop) : Abide B (fun s (_ : Nat -> Prop) (_ : World) => p s) := fun _ _ _ _ _ hs _ _ _ _ _ => hs
theorem Abide.ex {γ : Type} {I : γ -> β -> (Nat -> Prop) -> World -> Prop} (h : ∀ x, Abide B (I x)) : Abide B (fun s M W => ∃ x, I x s M W) :=
 fun s M M' W W' ⟨x, hs⟩ a b c d e => ⟨x, h x s M M' W W' hs a b c d e⟩
theorem abide_below {W0 : World} {k : Nat} (hk : k + 2 <= B) : Abide B (fun (_ : β) (_ : Nat -> Prop) W => Below k W0 W ∧ k <= W.heap.size) := fun _ M M' W W' hs hM hMM _ _ hst => by
 obtain ⟨h2, h3⟩ := hs
 exact ⟨h2.trans (hst.toBelow h3 (fun b hb hn => by rcases hn with hn | hn | hn; (have := hM b (hMM b hn); omega); omega; omega)), Nat.le_trans h3 hst.size⟩
theorem abide_blk {g : Nat} {t : TypeId} (f : β -> Array Value) (hg : g + 2 < B) : Abide B (fun s (_ : Nat -> Prop) W => Blk W g t (f s)) := fun _ M M' W W' hs hM hMM _ _ hst =>
 hst.blk hs (fun hn => by rcases hn with hn | hn | hn; (have := hM _ (hMM _ hn); omega); omega; omega)
theorem abide_size {k : Nat} : Abide B (fun (_ : β) (_ : Nat -> Prop) W => k <= W.heap.size) := fun _ _ _ _ _ hs _ _ _ _ hst => Nat.le_trans hs hst.size
end
end Go.Proofs.YtgemlddincnfcaaGreatDoor
