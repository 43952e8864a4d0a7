/- The parts of the proof, part 34. -/
import Derived.Test.YtgemlddincnfcaaGreatDoorQ0
import Derived.Test.YtgemlddincnfcaaGreatDoorQ31
import Derived.Test.YtgemlddincnfcaaGreatDoorQ33
import Derived.Stop.RegionWithIn
set_option maxHeartbeats 16000000
set_option maxRecDepth 20000
set_option linter.unusedSimpArgs false
set_option linter.unusedVariables false
namespace Go.Proofs.YtgemlddincnfcaaGreatDoor
open Go.RowKit Go.Shelf
def SeqIsS {α : Type} (n : Nat) (P : Program) (g : Nat) (lb : Array Value) (E : α -> Array Value -> (Nat -> Prop) -> World -> Nat -> Prop) (xs : List α) (R : Nat -> Prop) (w0 : World) : Prop :=
 ∀ (l : Nat) (J Jx : List α -> (Nat -> Prop) -> World -> Prop) (W : World), Stp (fun b => ¬ R b) w0 W -> AbideIt W.heap.size J -> AbideIt W.heap.size Jx -> (∀ s M W1, J s M W1 -> s = []) ->
  (∀ pre x rest M W1 vs, xs = pre ++ x :: rest -> J pre M W1 -> E x vs M W1 W.heap.size -> YieldAt Fence.wide (n - 1) P l vs W1 fun e W' =>
   (e = .returned (.bool true) ∧ J (pre ++ [x]) M W' ∧ Stp (fun b => ¬ (M b ∨ R b)) W1 W') ∨ (e = .returned (.bool false) ∧ Jx (pre ++ [x]) M W')) ->
  J [] (fun _ => False) W ->
  CallsIn Fence.wide n P g (#[.func (.yield l) #[] #[]] ++ lb) W fun e W' => (∃ v, e = .returned v) ∧ ((∃ M, J xs M W') ∨ (∃ pre rest M, xs = pre ++ rest ∧ Jx pre M W'))
theorem wp_rangeS {α : Type} {n : Nat} {P : Program} {g : Operand} {ps : Array Tmp} {assign body : Code} {Q : Exit -> Act -> World -> Prop} {a : Act} {w : World}
  (h1 : 1 <= n) {gf : Nat} {lb : Array Value} (hg : a.eval g = .func (.func gf) #[] lb) (eg : ∀ args w, (callFunc gf args).run P w = .ok (.enter gf args) w)
  {E : α -> Array Value -> (Nat -> Prop) -> World -> Nat -> Prop} {xs : List α} {R : Nat -> Prop} {w0 : World} (hseq : SeqIsS (n - 1) P gf lb E xs R w0) (hb0 : Stp (fun b => ¬ R b) w0 w) (hps : ∀ x vs M W B, E x vs M W B -> vs.size = ps.size) (hR : ∀ b, R b -> b < w.heap.size)
  (I : List α -> (Nat -> Prop) -> World -> Prop) (Ix : Code -> List α -> (Nat -> Prop) -> World -> Prop) (hI : Abide (w.heap.size + 2) I) (hIx : ∀ c, Abide (w.heap.size + 2) (Ix c)) (hI0 : ∀ s M W, I s M W -> s = []) (h0 : I [] (fun _ => False) w)
  (hround : ∀ (l : Nat) (pre : List α) (x : α) (rest : List α) (M : Nat -> Prop) (W : World) (vs : Array Value), xs = pre ++ x :: rest -> E x vs M W (w.heap.size + 2) -> I pre M W -> (∀ b, M b -> w.heap.size + 2 <= b ∧ b < W.heap.size) -> w.heap.size + 2 <= W.heap.size ->
   assign.wpIn (Fence.wide.inRound l) (n - 1 - 1) P (Exit.then (fun a₁ W1 => KeepN M R (w.heap.size + 2) W W1 ∧ ∀ W2, W2.heap.size = W1.heap.size -> Stp (fun b => b + 1 = w.heap.size + 2) W1 W2 ->
    body.wpIn (Fence.wide.inRound l) (n - 1 - 1) P (bPost I Ix (pre ++ [x]) M R (w.heap.size + 2) W2) a₁ W2) (fun _ _ _ => False))
    { tmps := setAll ps vs a.tmps, defers := [] } W)
  (hdone : ∀ (M : Nat -> Prop) (W : World), I xs M W -> W.heap[w.heap.size]? = some (.deferred (some [])) -> Q .normal { a with defers := { target := .collected w.heap.size, args := #[] } :: a.defers } W)
  (hstop : ∀ (c : Code) (pre rest : List α) (M : Nat -> Prop) (W : World), xs = pre ++ rest -> Ix c pre M W -> W.heap[w.heap.size]? = some (.deferred (some [])) -> c.wpIn Fence.wide n P Q { a with defers := { target := .collected w.heap.size, args := #[] } :: a.defers } W) :
  (Code.rangeFunc g ps assign body).wpIn Fence.wide n P Q a w := by
 refine wpIn_rangeFunc ?_
 intro fn hfn
 obtain ⟨rec, hrec⟩ : ∃ rec : LoopState -> Option Code -> Loop, rec = fun st pe => { state := st, pending := pe, fn, tmps := a.tmps, params := ps, assign, body, defers := w.heap.size } := ⟨_, rfl⟩
 obtain ⟨W1, hW1⟩ : ∃ W1, (w.alloc (.deferred (some []))).alloc (.loop (rec .ready none)) = W1 := ⟨_, rfl⟩
 have hL1 : W1.heap[w.heap.size + 1]? = some (.loop (rec .ready none)) := by
  rw [← hW1]; have := World.alloc_heap_new (w.alloc (.deferred (some []))) (.loop (rec .ready none)); rwa [World.size_alloc] at this
 have hK1 : W1.heap[w.heap.size]? = some (.deferred (some [])) := by
  rw [← hW1]; exact (Below.heap_alloc _ _ _ (by simp)).trans (World.alloc_heap_new w _)
 have hs1 : W1.heap.size = w.heap.size + 2 := by rw [← hW1]; simp
 have hst1 : ∀ N, Stp N w W1 := fun N => by rw [← hW1]; exact ((Stp.refl N w).alloc _).alloc _
 have hI1 : I [] (fun _ => False) W1 := hI [] _ _ w W1 h0 (fun _ h => h.elim) (fun _ h => h) (fun _ h => h.elim) (fun _ h => h.elim) (hst1 _)
 refine ⟨w.heap.size + 1, [{ target := .collected w.heap.size, args := #[] }], W1, { target := .fn (.func gf) lb, args := #[.func (.yield (w.heap.size + 1)) #[] #[]] }, W1, gf,
  #[.func (.yield (w.heap.size + 1)) #[] #[]] ++ lb, W1, ?_, ?_, ?_, ?_, fun _ => h1, ?_⟩
 ·rw [← hW1, hrec]; exact run_enterLoop_outer _ _ _ _ _
 ·simp only [resolve, hg]
  simp [go_sem]
 ·intro f' _; trivial
 ·simp [invoke, go_sem, eg]
 ·refine (hseq (w.heap.size + 1)
   (fun pre M W => (I pre M W ∧ W.heap[w.heap.size + 1]? = some (.loop (rec .ready none)) ∧ W.heap[w.heap.size]? = some (.deferred (some []))) ∧ ∀ b, M b -> w.heap.size + 2 <= b ∧ b < W.heap.size)
   (fun pre M W => (∃ c, Ix c pre M W ∧ W.heap[w.heap.size + 1]? = some (.loop (rec .done (some c))) ∧ W.heap[w.heap.size]? = some (.deferred (some []))) ∧ ∀ b, M b -> w.heap.size + 2 <= b ∧ b < W.heap.size)
   W1 (hb0.trans (hst1 _)) ?_ ?_ (fun s M W h => hI0 s M W h.1.1) ?_ ⟨⟨hI1, hL1, hK1⟩, fun _ h => h.elim⟩).mono ?_
  ·rintro s M M' A B ⟨⟨hi, hl, hk⟩, hm⟩ hM' hMM hnew hlt hstp
   rw [hs1] at hM'
   exact ⟨⟨hI s M M' A B hi hM' hMM hnew hlt (hstp.mono fun b _ h => .inl h),
    (hstp.block _ (lt_of_block hl) (fun h => by have := (hm _ h).1; omega)).trans hl, (hstp.block _ (lt_of_block hk) (fun h => by have := (hm _ h).1; omega)).trans hk⟩, fun b h => ⟨hM' b h, hlt b h⟩⟩
  ·rintro s M M' A B ⟨⟨c, hi, hl, hk⟩, hm⟩ hM' hMM hnew hlt hstp
   rw [hs1] at hM'
   exact ⟨⟨c, hIx c s M M' A B hi hM' hMM hnew hlt (hstp.mono fun b _ h => .inl h),
    (hstp.block _ (lt_of_block hl) (fun h => by have := (hm _ h).1; omega)).trans hl, (hstp.block _ (lt_of_block hk) (fun h => by have := (hm _ h).1; omega)).trans hk⟩, fun b h => ⟨hM' b h, hlt b h⟩⟩
  ·-- one round
   rintro pre x rest M W vs hxs ⟨⟨hi, hl, hk⟩, hm⟩ hE
   rw [hs1] at hE
   have hlt : w.heap.size + 1 < W.heap.size := lt_of_block hl
   have hy := run_yield (P := P) (args := vs) hl (by rw [hrec]; exact hps x vs M W _ hE)
   rw [hrec] at hy
   refine ⟨fn, _, assign, body, hy, roundIn_of_wpIn hfn (wpIn_mono (hround _ pre x rest M W vs hxs hE hi hm (by omega)) ?_)⟩
   rintro e a2 W2 hp
   cases e with
   | normal =>
    obtain ⟨hk2, hbody⟩ := hp
    have hl2 := (hk2.block _ (lt_of_block hl) (by simp)).trans hl
    have hkk2 := (hk2.block _ (lt_of_block hk) (by simp)).trans hk
    refine ⟨_, run_beginRound hl2 (by rw [hrec]), ?_⟩
    obtain ⟨W3, hW3⟩ : ∃ W3, W2.putObj (w.heap.size + 1) (.loop { rec .ready none with state := .busy }) = W3 := ⟨_, rfl⟩
    rw [hW3]
    have hst3 : Stp (fun b => b + 1 = w.heap.size + 2) W2 W3 := by rw [← hW3]; exact Stp.putObj (Stp.refl (fun b => b + 1 = w.heap.size + 2) W2) (.inl rfl) _
    have hl3 : W3.heap[w.heap.size + 1]? = some (.loop { rec .ready none with state := .busy }) := by rw [← hW3]; exact World.putObj_heap_same (lt_of_block hl2)
    have hkk3 : W3.heap[w.heap.size]? = some (.deferred (some [])) := (hst3.block _ (lt_of_block hkk2) (by omega)).trans hkk2
    have hsz3 : W3.heap.size = W2.heap.size := by rw [← hW3]; simp
    refine wpIn_mono (hbody W3 hsz3 hst3) ?_
    have fin : ∀ (jump : Option Code) (W4 : World), KeepN M R (w.heap.size + 2) W3 W4 -> ∃ W5,
      (Instr.endRound (w.heap.size + 1) jump).run P W4 = .ok (.bool jump.isNone) W5 ∧ Stp (fun b => b + 1 = w.heap.size + 2) W4 W5 ∧
      W5.heap[w.heap.size + 1]? = some (.loop (rec (if jump.isNone then .ready else .done) jump)) ∧ W5.heap[w.heap.size]? = some (.deferred (some [])) := fun jump W4 hk4 => by
     have hl4 := (hk4.block _ (lt_of_block hl3) (by simp)).trans hl3
     have hkk4 := (hk4.block _ (lt_of_block hkk3) (by simp)).trans hkk3
     have hr := run_endRound (P := P) jump hl4
     rw [hrec] at hr
     refine ⟨_, hr, Stp.putObj (Stp.refl (fun b => b + 1 = w.heap.size + 2) W4) (.inl rfl) _, ?_, ?_⟩
     ·rw [World.putObj_heap_same (lt_of_block hl4), hrec]
     ·rw [World.putObj_heap_other (by omega)]; exact hkk4
    have ab : ∀ {s : List α} {A B : World}, I s M A -> W.heap.size <= A.heap.size -> Stp (fun b => b + 1 = w.heap.size + 2) A B -> I s M B := fun {s A B} ha hAW hab =>
     hI s M M A B ha (fun b h => (hm b h).1) (fun _ h => h) (fun _ h => .inl h) (fun b h => by have := (hm b h).2; have := hab.size; omega) (hab.mono fun b _ h => .inr (.inr h))
    have abx : ∀ {c : Code} {s : List α} {A B : World}, Ix c s M A -> W.heap.size <= A.heap.size -> Stp (fun b => b + 1 = w.heap.size + 2) A B -> Ix c s M B := fun {c s A B} ha hAW hab =>
     hIx c s M M A B ha (fun b h => (hm b h).1) (fun _ h => h) (fun _ h => .inl h) (fun b h => by have := (hm b h).2; have := hab.size; omega) (hab.mono fun b _ h => .inr (.inr h))
    rintro e a3 W4 hp4
    cases e with
    | normal =>
     obtain ⟨hk4, hi4⟩ := hp4
     obtain ⟨W5, hr, h45, hl5, hkk5⟩ := fin none W4 hk4
     have hAW := Nat.le_trans (Nat.le_trans hk2.size hst3.size) hk4.size
     refine ⟨_, _, hr, .inl ⟨rfl, ⟨⟨ab hi4 hAW h45, hl5, hkk5⟩, fun b h => ⟨(hm b h).1, by have := (hm b h).2; have := h45.size; omega⟩⟩, ?_⟩⟩
     have q : ∀ b, ¬ (M b ∨ R b ∨ b + 2 = w.heap.size + 2 ∨ b + 1 = w.heap.size + 2) -> ¬ (M b ∨ R b) := fun b h k => h (by rcases k with k | k; exact .inl k; exact .inr (.inl k))
     have q2 : ∀ b, b + 1 = w.heap.size + 2 -> ¬ (M b ∨ R b) := fun b h k => by rcases k with k | k; (have := (hm b k).1; omega); (have := hR b k; omega)
     exact (((hk2.mono fun b _ => q b).trans (hst3.mono fun b _ => q2 b)).trans (hk4.mono fun b _ => q b)).trans (h45.mono fun b _ => q2 b)
    | ret =>
     obtain ⟨hk4, hi4⟩ := hp4
     obtain ⟨W5, hr, h45, hl5, hkk5⟩ := fin (some .ret) W4 hk4
     have hAW := Nat.le_trans (Nat.le_trans hk2.size hst3.size) hk4.size
     exact ⟨_, _, hr, .inr ⟨rfl, ⟨.ret, abx hi4 hAW h45, hl5, hkk5⟩, fun b h => ⟨(hm b h).1, by have := (hm b h).2; have := h45.size; omega⟩⟩⟩
    | exit id =>
     obtain ⟨hk4, hi4⟩ := hp4
     obtain ⟨W5, hr, h45, hl5, hkk5⟩ := fin (some (.exit id)) W4 hk4
     have hAW := Nat.le_trans (Nat.le_trans hk2.size hst3.size) hk4.size
     exact ⟨_, _, hr, .inr ⟨rfl, ⟨.exit id, abx hi4 hAW h45, hl5, hkk5⟩, fun b h => ⟨(hm b h).1, by have := (hm b h).2; have := h45.size; omega⟩⟩⟩
    | goto t =>
     obtain ⟨hk4, hi4⟩ := hp4
     obtain ⟨W5, hr, h45, hl5, hkk5⟩ := fin (some (.goto t)) W4 hk4
     have hAW := Nat.le_trans (Nat.le_trans hk2.size hst3.size) hk4.size
     exact ⟨_, _, hr, .inr ⟨rfl, ⟨.goto t, abx hi4 hAW h45, hl5, hkk5⟩, fun b h => ⟨(hm b h).1, by have := (hm b h).2; have := h45.size; omega⟩⟩⟩
    | panic ch => exact hp4.elim
    | outgrown => exact hp4.elim
   | ret => exact hp.elim
   | exit id => exact hp.elim
   | goto t => exact hp.elim
   | panic ch => exact hp.elim
   | outgrown => exact hp.elim
  ·-- behind the iterator
   rintro e W2 ⟨⟨v, rfl⟩, (⟨M, ⟨hi, hl, hk⟩, hm⟩ | ⟨pre, rest, M, hx, ⟨c, hi, hl, hk⟩, hm⟩)⟩
   ·refine ⟨none, _, by have := run_endLoop (P := P) hl (by rw [hrec]; simp); rw [hrec] at this; exact this, hdone M _ ?_ ((World.putObj_heap_other (by omega)).trans hk)⟩
    exact hI xs M M W2 _ hi (fun b h => (hm b h).1) (fun _ h => h) (fun _ h => .inl h) (fun b h => by simpa using (hm b h).2) ((Stp.refl _ _).putObj (.inl (.inr (.inr rfl))) _)
   ·refine ⟨some c, _, by have := run_endLoop (P := P) hl (by rw [hrec]; simp); rw [hrec] at this; exact this, hstop c pre rest M _ hx ?_ ((World.putObj_heap_other (by omega)).trans hk)⟩
    exact hIx c pre M M W2 _ hi (fun b h => (hm b h).1) (fun _ h => h) (fun _ h => .inl h) (fun b h => by simpa using (hm b h).2) ((Stp.refl _ _).putObj (.inl (.inr (.inr rfl))) _)
end Go.Proofs.YtgemlddincnfcaaGreatDoor
namespace Go.Proofs.YtgemlddincnfcaaGreatDoor.Fi
open Go.RowKit Go.Lib Go.Maps Tx
def Kz (B : Nat) (W w' : World) : Prop := (∀ b o, b < B -> w'.cell? ⟨b, o, none⟩ = W.cell? ⟨b, o, none⟩) ∧ (∀ b o, b < B -> w'.frozen? ⟨b, o, none⟩ = W.frozen? ⟨b, o, none⟩) ∧ Below B W w'
section
variable {B : Nat} {W w' w'' : World}
theorem kz_of (h : Below B W w') : Kz B W w' := ⟨fun b o hb => h.cell (p := ⟨b, o, none⟩) hb, fun b o hb => h.frozen (p := ⟨b, o, none⟩) hb, h⟩
theorem kz_refl (B : Nat) (W : World) : Kz B W W := kz_of (Below.refl _ _)
theorem kz_step (h : Kz B W w') (hb : Below w'.heap.size w' w'') (hB : B <= W.heap.size) : Kz B W w'' := kz_of (h.2.2.trans (hb.mono (Nat.le_trans hB h.2.2.size)))
theorem kz_draw (h : Kz B W w') : Kz B W w'.drew := kz_of (h.2.2.trans ⟨rfl, rfl, rfl, Nat.le_refl _, fun _ _ => rfl⟩)
theorem kz_drewN {n : Nat} (h : Kz B W w') : Kz B W (w'.drewN n) := kz_of (h.2.2.trans ⟨rfl, rfl, rfl, Nat.le_refl _, fun _ _ => rfl⟩)
theorem kz_alloc {o : Obj} (h : Kz B W w') (hB : B <= W.heap.size) : Kz B W (w'.alloc o) := kz_step h (bl_alloc (below_refl _) o) hB
theorem kz_grown {row : Option Nat} (h : Kz B W w') (k : w'.grownBy w'' row) (hr : ∀ r, row = some r -> B <= r) (hB : B <= W.heap.size) : Kz B W w'' := kz_of (h.2.2.grown k (Nat.le_trans hB h.2.2.size) hr)
end
abbrev capM (bn by_ bw bm bo : Nat) : Array Value := #[.pointer (some ⟨bn, 0, none⟩), .pointer (some ⟨by_, 0, none⟩), .pointer (some ⟨bw, 0, none⟩), .pointer (some ⟨bm, 0, none⟩), .pointer (some ⟨bo, 0, none⟩)]
structure MoreAt (W : World) (x : LWl) (num l bn by_ bw bm mb bo : Nat) : Prop where
 wl : WlAt W x
 hn : Blk W bn 3 #[.int .i64 (num : Nat)]
 hy : Blk W by_ 120 #[.func (.yield l) #[] #[]]
 hw : Blk W bw 258 x.A
 hm : Blk W bm 214 #[.map (some mb)]
 ho : Blk W bo 120 #[.func (.func 212) #[] (capM bn by_ bw bm bo)]
 mp : ∃ n, MpIs W mb n (rsA x.w)
theorem MoreAt.on {W W' : World} {x : LWl} {num l bn by_ bw bm mb bo : Nat} (h : MoreAt W x num l bn by_ bw bm mb bo) (hb : Below W.heap.size W W') : MoreAt W' x num l bn by_ bw bm mb bo :=
 ⟨h.wl.on hb, h.hn.below hb h.hn.lt, h.hy.below hb h.hy.lt, h.hw.below hb h.hw.lt, h.hm.below hb h.hm.lt, h.ho.below hb h.ho.lt, by obtain ⟨n, hn⟩ := h.mp; exact ⟨n, mp_on hn hb⟩⟩
def lstF (l : List Nat) : Int := match l.getLast? with | none => -1 | some z => (z : Int)
theorem lstF_snoc (l : List Nat) (x : Nat) : lstF (l ++ [x]) = (x : Int) := by unfold lstF; simp
section
variable {P : Program}
theorem step_append_at3 {ops : Array Oper} {o : Oper} {a : Act} {w : World} {K : Act -> World -> Prop} {Q : Exit -> Act -> World -> Prop} {E : Prop} (hw : Region.wanted o (yielded ops a.tmps) = true) (s x : Operand) (t : TypeId)
  (ho : o.op = .call { callee := .builtin .append, args := #[s, x], argTypes := #[t, t] })
  (base : Nat) (e : TypeId) (i : TypeInfo) (z : Value) (size bytes : Nat) (ht : P.underlying t = some (.slice e)) (hi : P.info? e = some i) (hz : i.zero = some z)
  (hsize : i.size = size) (hby : i.bytes = bytes) (hzs : z.cells.size = size) (hsz : 0 < size)
  (v : Value) (n : Nat) (xs : List Value) (hs : a.eval s = v) (hown : w.ownsRow base e size v n xs)
  (ad : Addr) (m c : Nat) (news : List Value) (hx : a.eval x = .slice (some ad) m c) (hl : news.length = m * size) (hnews : ∀ j u, news[j]? = some u -> w.cell? (ad.add j) = some u) (h1 : ∀ u ∈ news, u.oneCell' = true)
  (h63 : n + m <= maxLen) (hbytes : (n + m) * bytes <= 140737488355328) (hbase : base <= w.heap.size)
  (h : ∀ v' w', w'.ownsRow base e size v' (n + m) (xs ++ news) -> w.grownBy w' v.ownBlock -> (v'.ownBlock = v.ownBlock ∨ v'.ownBlock = some w.heap.size) -> K (a.put o.dst v') w') :
  if Region.wanted o (yielded ops a.tmps) = true then Oper.wp P o a w K Q else E := by
 rw [if_pos hw]
 obtain ⟨v', w', hr, h2, h3, _, h5⟩ := Go.run_append_own_at (P := P) w base t o.type e i z size bytes ht hi hz hsize hby hzs hsz v n xs hown ad m c news hl hnews h1 h63 hbytes hbase
 unfold Oper.wp execOp
 simp only [ho, resolve, invoke, builtin, Sem.run_bind, Sem.run_pure, Result.andThen_ok, List.map_toArray, List.map_cons, List.map_nil, hs, hx, hr]
 exact h v' w' h2 h3 h5
end
abbrev TookY (B l : Nat) (W0 : World) (full : List Nat) (n : Nat) (Fin : World -> Prop) : Prop := ∀ (W : World) (y : Sl Int), Below B W0 W -> y.l = toZ full -> W.ownsRow B 3 1 y.v y.l.length (fl zC y.l) ->
 YieldAt Fence.wide n Tryz.prog l #[y.v] W fun e W' => e = .returned (.bool false) ∧ Fin W'
theorem yield_any {m m' : Nat} {P : Program} {l : Nat} {args : Array Value} {W : World} {R : Ending -> World -> Prop} (h : YieldAt Fence.wide m P l args W R) : YieldAt Fence.wide m' P l args W R := by
 obtain ⟨fn, tmps, assign, body, hy, hr⟩ := h
 exact ⟨fn, tmps, assign, body, hy, hr.1, fun c cs _ => hr.2 c cs (room_wide _)⟩
attribute [local go_sem] Oper.semAt_some
theorem more_zero {n : Nat} (x : LWl) (num l bn by_ bw bm mb bo : Nat) (W0 : World) (hM : MoreAt W0 x num l bn by_ bw bm mb bo) (Fin : World -> Prop) (full : List Nat) (hY : TookY W0.heap.size l W0 full n Fin)
  (A : Option Addr) (c : Nat) (W : World) (hb : Below W0.heap.size W0 W) (ho : W.ownsRow W0.heap.size 3 1 (.slice A full.length c) full.length (fl zC (toZ full))) (hn : full.length = num) (hl : num <= 1000) :
  CallsIn Fence.wide 1 Tryz.prog 212 (#[.slice A full.length c] ++ capM bn by_ bw bm bo) W fun e W' => e = .returned (.bool false) ∧ Fin W' := by
 have hm := hM.on hb
 have cn := hm.hn.cell 0
 have cy := hm.hy.cell 0
 simp only [GA] at cn cy
 have HC := Lib.hid (fun W' (h : Below W.heap.size W W') => (show Calls Tryz.prog 60 #[.slice A full.length c] W' (CloP zC 1 3 (toZ full) W') from by
  have hz : (toZ full).length = full.length := by simp [toZ]
  have ho' : W.ownsRow W0.heap.size 3 1 (.slice A (toZ full).length c) (toZ full).length (fl zC (toZ full)) := by rw [hz]; exact ho
  have h3 := c_CloneInt ⟨A, toZ full, c⟩ W' (show (toZ full).length <= 100000 by omega) ((own_rd' (enc := zC) (fun _ => rfl) ho').on h)
  rw [← hz]; exact h3))
 rw [hn] at HC
 rw [hn]
 have hnn : ((num : Int) == (num : Int)) = true := by simp
 refine callsIn_of_wp Tryz.func212 rfl trivial ?_
 simp only [Tryz.ntmps212, List.size_toArray, List.length_cons, List.length_nil, Nat.reduceAdd, Nat.reduceSub, Array.replicate_succ, Array.replicate_zero, List.push_toArray, List.append_toArray, List.nil_append, List.cons_append]
 gi_wp2
 have lby := hm.hy.lt
 have hzb := hb.size
 gi_region_with (first
  | (refine ⟨trivial, ?_⟩; refine (callsIn_wide.2 (HC.out _ bl)).mono ?_; rintro e w3 ⟨y, rfl, hyl, hyo, _, _, hb3⟩; have cy3 := ((bcell hb3).1 by_ 0 lby).trans cy; obtain ⟨fn', tmps, assign, body, hy, hRd⟩ := yield_any (m' := 1 - 1) (hY w3 y (hb.trans ((show Below W.heap.size W w3 from below_tr (below_draw (below_refl W)) hb3).mono hzb)) hyl (own_mono hyo hzb)))
  | (refine hRd.mono ?_; rintro e W3 ⟨rfl, hfin⟩))
 all_goals gi_wp2
 all_goals go_ret
 all_goals exact ⟨rfl, hfin⟩
theorem toZ_len (l : List Nat) : (toZ l).length = l.length := by simp [toZ]
theorem lstF_nil : lstF [] = -1 := rfl
theorem lstF_last {l : List Nat} {k : Nat} (h : l.length = k + 1) : zA (toZ l) k = lstF l := by
 have hk : l.getLast? = l[k]? := by rw [List.getLast?_eq_getElem?, h]; rfl
 obtain ⟨z, hz⟩ := get_lt (show k < l.length by omega)
 unfold lstF zA
 rw [hk, hz, List.getD_eq_getElem?_getD]
 simp [toZ, hz]
theorem lstF_ge (l : List Nat) : -1 <= lstF l := by unfold lstF; split <;> omega
theorem more_step (x : LWl) (num l bn by_ bw bm mb bo : Nat) (W0 : World) (hM : MoreAt W0 x num l bn by_ bw bm mb bo) (Fin : World -> Prop) (hnl : num <= 300) (m : Nat) (begun : List Nat) (A : Option Addr) (c : Nat) (W : World)
  (hb : Below W0.heap.size W0 W) (ho : W.ownsRow W0.heap.size 3 1 (.slice A begun.length c) begun.length (fl zC (toZ begun))) (hn : m + 1 + begun.length = num) (hlt : lstF begun < (x.w.d.length : Int))
  (f : Nat) (f2 : lstF begun < (f : Int)) (f1 : f <= x.w.d.length) (f5 : ∀ y, y < f -> nxtP x.w (lstF begun) ((m + 1 : Nat) : Int) y = false)
  (f4 : f < x.w.d.length -> rsA x.w f = ((m + 1 : Nat) : Int) ∧ aftB x.w (lstF begun) f = true ∧ ∀ A c W, Below W0.heap.size W0 W -> W.ownsRow W0.heap.size 3 1 (.slice A (begun.length + 1) c) (begun.length + 1) (fl zC (toZ begun) ++ [.int .i64 (f : Nat)]) ->
   Calls Tryz.prog 212 #[.slice A (begun.length + 1) c, .pointer (some ⟨bn, 0, none⟩), .pointer (some ⟨by_, 0, none⟩), .pointer (some ⟨bw, 0, none⟩), .pointer (some ⟨bm, 0, none⟩), .pointer (some ⟨bo, 0, none⟩)] W fun e W' => e = .returned (.bool false) ∧ Fin W') :
  Calls Tryz.prog 212 (#[.slice A begun.length c] ++ capM bn by_ bw bm bo) W fun e W' => (f < x.w.d.length ∧ e = .returned (.bool false) ∧ Fin W') ∨ (f = x.w.d.length ∧ e = .returned (.bool true) ∧ Below W.heap.size W W') := by
 have HF5 := Lib.hid f5
 have HF4 := Lib.hid f4
 have HHO := Lib.hid ho
 have HMM := Lib.hid (fun W' (h : Below W.heap.size W W') => (hM.on hb).on h)
 have hm0 := hM.on hb
 have cn := hm0.hn.cell 0
 have lbn := hM.hn.lt
 have lby := hM.hy.lt
 have lbw := hM.hw.lt
 have lbm := hM.hm.lt
 have lbo := hM.ho.lt
 simp only [GA] at cn
 have hzb := hb.size
 have hHB := Lib.hid hb
 have hRb := own_rd' (enc := zC) (fun _ => rfl) (by rw [toZ_len]; exact ho : W.ownsRow W0.heap.size 3 1 (.slice A (toZ begun).length c) (toZ begun).length (fl zC (toZ begun)))
 have HLST := Lib.hid (fun k h => lstF_last (l := begun) (k := k) h)
 have HLN := Lib.hid (show begun.length = 0 -> lstF begun = -1 from fun h => by rw [List.eq_nil_of_length_eq_zero h]; rfl)
 have hdl := hM.wl.dl
 have HW0 := Lib.hid hM.wl
 obtain ⟨nq, hmq⟩ := hM.mp
 obtain ⟨i0, hi, hi1, hi2, hi3⟩ := info_intF
 have hLge := lstF_ge begun
 clear f5 f4 ho hm0 hb hM
 generalize hL : lstF begun = L at *
 have HRB := Lib.hid hRb
 have HNB := Lib.hid (toZ_len begun)
 generalize hnb : begun.length = nb at *
 have g1 : ((nb : Int) == (num : Int)) = false := beq_eq_false_iff_ne.2 (by omega)
 have g2 : ¬ (nb : Int) = (num : Int) := by omega
 have g3 : (nb == num) = false := beq_eq_false_iff_ne.2 (by omega)
 have n0 := nn nb
 go_enter Tryz.func212, Tryz.ntmps212
 go_upto_if 22 with fail
 go_cut [8] (fun v wx => v = .int .i64 L ∧ wx = W)
 case first =>
  by_cases hz : nb = 0
  ·have q1 : ¬ (0 : Int) < (nb : Int) := by omega
   have HL := Lib.hid (HLN.out hz)
   clear hz hnb
   go_wp2
   go_meet
   exact ⟨by rw [HL.out], rfl⟩
  ·obtain ⟨k, hk⟩ : ∃ k, nb = k + 1 := ⟨nb - 1, by omega⟩
   have q1 : (0 : Int) < (nb : Int) := by omega
   have q2 : 0 < nb := by omega
   have HL := Lib.hid (HLST.out k hk)
   obtain ⟨ab, ao, rfl, hab, d0⟩ := rdZ HRB.out (k := k) (by rw [HNB.out]; omega)
   rw [HL.out] at d0
   have hw1 : IntKind.i64.wrap ((nb : Int) - 1) = (k : Int) := by rw [fits_wrap ⟨by omega, by omega⟩]; omega
   have k0 := nn k
   have k1 : (k : Int) < (nb : Int) := by omega
   clear hz hk hnb HL
   go_wp2
   go_meet
   exact ⟨rfl, rfl⟩
 case rest =>
  obtain ⟨rfl, rfl⟩ := hcut
  have hwL : IntKind.i64.wrap (L + 1) = L + 1 := fits_wrap ⟨by omega, by omega⟩
  have hwM : IntKind.i64.wrap ((num : Int) - (nb : Int)) = ((m : Int) + 1) := by rw [fits_wrap ⟨by omega, by omega⟩]; omega
  go_wp2
  go_loopw [10] (fun i wr => ∃ k : Nat, L < (k : Int) ∧ k <= f ∧ i = .int .i64 k ∧ Below wc.heap.size wc wr) (fun i _ => f + 1 - (RowKit.intOf i).toNat)
  case atStart => exact ⟨(L + 1).toNat, by omega, by omega, by congr 1; omega, below_refl _⟩
  case round =>
   obtain ⟨k, hLk, hk, rfl, hbr⟩ := hrel
   rename World => wr
   have hmr := HMM.out wr hbr
   have cn := hmr.hn.cell 0
   have cm := hmr.hm.cell 0
   have co := hmr.ho.cell 0
   have b0 := hmr.hw.cell 0
   have b1 := hmr.hw.cell 1
   have b2 := hmr.hw.cell 2
   have b3 := hmr.hw.cell 3
   have b4 := hmr.hw.cell 4
   have b5 := hmr.hw.cell 5
   have b6 := hmr.hw.cell 6
   have b7 := hmr.hw.cell 7
   simp only [GA] at cn cm co b0 b1 b2 b3 b4 b5 b6 b7
   have rbn := hmr.hn.lt
   have rbm := hmr.hm.lt
   have rbw := hmr.hw.lt
   have rbo := hmr.ho.lt
   have k0 := nn k
   have hzr := hbr.size
   have HLK : ∀ W', Below wr.heap.size wr W' -> (Instr.lookup 214 (.map (some mb)) (.int .i64 (k : Nat)) false).run Tryz.prog W' = .ok (.int .i64 (rsA x.w k)) W' := fun W' h => by
    obtain ⟨n, hn⟩ := hmr.mp
    exact mp_look (mp_on hn h) k (by omega)
   by_cases hkf : k < f
   ·have k1 : (k : Int) < (x.w.d.length : Int) := by omega
    have hno := HF5.out k hkf
    unfold nxtP at hno
    rw [decide_eq_true hLk, Bool.true_and] at hno
    by_cases hr : rsA x.w k = ((m + 1 : Nat) : Int)
    ·rw [decide_eq_true hr, Bool.true_and] at hno
     have HAF := Lib.hid (fun W' (h : Below wr.heap.size wr W') => w_afterV (x := x) hno (hmr.wl.on h) (show k < x.w.d.length by omega) hlt)
     rw [hr] at HLK
     clear hno hr
     have hr1 : (((m + 1 : Nat) : Int) == ((m : Int) + 1)) = true := by simp
     go_upto_region 10 with fail
     refine wp_region_noPanic ?_
     refine th wr fun hS0 => ?_
     refine tq 0 ?_
     refine tq 1 ?_
     refine tq 2 ?_
     refine tq 3 ?_
     refine tq 4 ?_
     refine tq 5 ?_
     refine tq 6 ?_
     refine tq 7 ?_
     refine tq 8 ?_
     refine tq 9 ?_
     refine tq 10 ?_
     refine tq 11 ?_
     refine tr 12 fun K hK => ?_
     go_simp
     (go_at_call 213; ((with_reducible refine (HAF.out _ bl).mono ?_); rintro e w3 ⟨rfl, hb3⟩; obtain ⟨hc3, hf3, hz3⟩ := qz hb3))
     refine hK.out _ _ kq (fun hS1 => ?_)
     clear hK K
     try simp only [AP]
     refine tq 13 ?_
     refine tq 14 ?_
     refine tv 15 ?_
     refine tv 16 ?_
     refine tv 17 ?_
     refine tv 18 ?_
     refine tv 19 ?_
     refine tv 20 ?_
     refine tv 21 ?_
     refine tq 22 ?_
     refine wpAnyH_done (by kernel_rfl) (NoPanic.normal ?_) _
     go_wp2
     go_roundw
     case rel => exact ⟨k + 1, by omega, by omega, by go_num, below_tr hbr bl⟩
     case measure => simp [RowKit.intOf]; omega
    ·have hr1 : (rsA x.w k == ((m : Int) + 1)) = false := beq_eq_false_iff_ne.2 (by omega)
     have hr2 : ¬ rsA x.w k = ((m : Int) + 1) := by omega
     clear hno hr
     generalize rsA x.w k = R at *
     go_upto_region 10 with fail
     refine wp_region_noPanic ?_
     refine th wr fun hS0 => ?_
     refine tq 0 ?_
     refine tq 1 ?_
     refine tq 2 ?_
     refine tq 3 ?_
     refine tq 4 ?_
     refine tq 5 ?_
     refine tq 6 ?_
     refine tq 7 ?_
     refine tq 8 ?_
     refine tv 9 ?_
     refine tv 10 ?_
     refine tv 11 ?_
     refine tv 12 ?_
     refine tq 13 ?_
     refine tq 14 ?_
     refine tv 15 ?_
     refine tv 16 ?_
     refine tv 17 ?_
     refine tv 18 ?_
     refine tv 19 ?_
     refine tv 20 ?_
     refine tv 21 ?_
     refine tq 22 ?_
     refine wpAnyH_done (by kernel_rfl) (NoPanic.normal ?_) _
     go_wp2
     go_roundw
     case rel => exact ⟨k + 1, by omega, by omega, by go_num, below_tr hbr bl⟩
     case measure => simp [RowKit.intOf]; omega
   ·skip
    have hkf2 : f = k := by omega
    subst hkf2
    by_cases hfl : f < x.w.d.length
    rotate_left
    ·have k1 : ¬ (f : Int) < (x.w.d.length : Int) := by omega
     have HEQ := Lib.hid (show f = x.w.d.length by omega)
     clear HMM hmr HLK
     go_wp2
     go_ret
     first | exact .inr ⟨HEQ.out, rfl, hbr⟩ | exact ⟨HEQ.out, rfl, hbr⟩
    have k1 : (f : Int) < (x.w.d.length : Int) := by omega
    obtain ⟨f3, f4, fih⟩ := HF4.out hfl
    have HIH := Lib.hid fih
    have HF4' := Lib.hid f4
    have HF3 := Lib.hid f3
    clear f3 f4 fih HF4
    have hB0r : Below W0.heap.size W0 wr := hHB.out.trans (hbr.mono hzb)
    have hOW := own_on HHO.out hbr
    have hrow : ∀ r, (Value.slice A nb c).ownBlock = some r -> W0.heap.size <= r := fun r h => (own_ge HHO.out r h).1
    have hBW : W0.heap.size <= wr.heap.size := by omega
    have hzd : Below W0.heap.size wr wr.drew := ⟨rfl, rfl, rfl, Nat.le_refl _, fun _ _ => rfl⟩
    have HAZ := Lib.hid (fun W' (h : Below W0.heap.size wr W') => w_afterV (x := x) HF4'.out (HW0.out.on (hB0r.trans h)) hfl hlt)
    replace HLK : ∀ W', Below W0.heap.size wr W' -> (Instr.lookup 214 (.map (some mb)) (.int .i64 (f : Nat)) false).run Tryz.prog W' = .ok (.int .i64 ((m : Int) + 1)) W' := fun W' h => by
     have := mp_look (mp_on hmq (hB0r.trans h)) f (by omega)
     rw [HF3.out] at this
     exact this
    clear HMM hmr
    go_upto_region 10 with fail
    refine wp_region_noPanic ?_
    refine wp_region_lasts [20, 21, 22] (fun w' => (∀ b o, b < W0.heap.size -> w'.cell? ⟨b, o, none⟩ = wr.cell? ⟨b, o, none⟩) ∧ (∀ b o, b < W0.heap.size -> w'.frozen? ⟨b, o, none⟩ = wr.frozen? ⟨b, o, none⟩) ∧ Below (W0.heap.size) wr w') (by kernel_rfl) (kz_draw (kz_refl _ _)) (fun hS0 => ?_)
    refine wpAnyM_tk 0 37 ?gv28 rfl ?_; try simp only [AP]
    refine wpAnyM_tk 1 38 ?gv29 rfl ?_; try simp only [AP]
    refine wpAnyM_tk 2 39 ?gv30 rfl ?_; try simp only [AP]
    refine wpAnyM_tk 3 40 ?gv31 rfl ?_; try simp only [AP]
    refine wpAnyM_tk 4 41 ?gv32 rfl ?_; try simp only [AP]
    refine wpAnyM_tk 5 42 ?gv33 rfl ?_; try simp only [AP]
    refine wpAnyM_tk 6 43 ?gv34 rfl ?_; try simp only [AP]
    refine wpAnyM_tk 7 44 ?gv35 rfl ?_; try simp only [AP]
    refine wpAnyM_tk 8 45 ?gv36 rfl ?_; try simp only [AP]
    refine wpAnyM_tk 9 46 ?gv37 rfl ?_; try simp only [AP]
    refine wpAnyM_tk 10 47 ?gv38 rfl ?_; try simp only [AP]
    refine wpAnyM_tk 11 48 ?gv39 rfl ?_; try simp only [AP]
    refine wpAnyM_ready (rs := [12]) (by kernel_rfl) (by simp) ?_
    refine AllReadyM.cons rfl (fun K hK => ?_) AllReadyM.nil
    go_simp
    (go_at_call 213; ((with_reducible refine (HAZ.out _ hzd).mono ?_); rintro e w3 ⟨rfl, hb3⟩; have ow3 := own_on hOW (below_tr (below_draw (below_refl wr)) hb3)))
    refine hK.out _ _ (by ((show Kz (W0.heap.size) wr _); (repeat' (first | assumption | exact kz_refl _ _ | refine kz_draw ?_ | refine kz_drewN ?_ | refine kz_alloc ?_ (by assumption) | refine kz_step ?_ (by assumption) (by assumption) | refine kz_grown ?_ (by assumption) ?_ (by assumption))); (all_goals (first | assumption | omega | (simp; omega))))) (fun hS1 => ?_)
    clear hK K
    try simp only [AP]
    refine wpAnyM_tk 13 50 ?gv40 rfl ?_; try simp only [AP]
    refine wpAnyM_tk 14 51 ?gv41 rfl ?_; try simp only [AP]
    refine wpAnyM_tk 15 52 ?gv42 rfl ?_; try simp only [AP]
    refine wpAnyM_tk 16 53 ?gv43 rfl ?_; try simp only [AP]
    refine wpAnyM_tk 17 54 ?gv44 rfl ?_; try simp only [AP]
    refine wpAnyM_ready (rs := [18]) (by kernel_rfl) (by simp) ?_
    refine AllReadyM.cons rfl (fun K hK => ?_) AllReadyM.nil
    go_simp
    refine hK.out _ _ (by ((show Kz (W0.heap.size) wr _); (repeat' (first | assumption | exact kz_refl _ _ | refine kz_draw ?_ | refine kz_drewN ?_ | refine kz_alloc ?_ (by assumption) | refine kz_step ?_ (by assumption) (by assumption) | refine kz_grown ?_ (by assumption) ?_ (by assumption))); (all_goals (first | assumption | omega | (simp; omega))))) (fun hS2 => ?_)
    clear hK K
    try simp only [AP]
    refine wpAnyM_ready (rs := [19]) (by kernel_rfl) (by simp) ?_
    refine AllReadyM.cons rfl (fun K hK => ?_) AllReadyM.nil
    (refine step_append_at3 (by rfl) _ _ _ (by rfl) W0.heap.size 3 i0 (.int .i64 0) 1 8 Tryz.underlying48 hi hi1 hi2 hi3 rfl (by omega) _ _ _ (by rfl) (ow3.alloc _) ⟨w3.heap.size, 0, none⟩ 1 1 [.int .i64 (f : Nat)] (by rfl) rfl (cells_new w3 [.int .i64 (f : Nat)] 3) (fun u hu => by simp at hu; subst hu; rfl) (by unfold maxLen; omega) (by omega) (by have := hb3.size; simp at this; simp; omega) ?_; intro v5 w5 hown5 hgrow5 hvb5; obtain ⟨A5, c5, rfl⟩ := own_slice hown5)
    refine hK.out _ _ (by ((show Kz (W0.heap.size) wr _); (repeat' (first | assumption | exact kz_refl _ _ | refine kz_draw ?_ | refine kz_drewN ?_ | refine kz_alloc ?_ (by assumption) | refine kz_step ?_ (by assumption) (by assumption) | refine kz_grown ?_ (by assumption) ?_ (by assumption))); (all_goals (first | assumption | omega | (simp; omega))))) (fun hS3 => ?_)
    clear hK K
    try simp only [AP]
    refine wpAnyM_last (k := 20) (by decide) (by kernel_rfl) rfl (fun K hK => ?_)
    go_simp
    (refine (HIH.out A5 c5 w5 (hB0r.trans hS3.2.2) hown5).mono ?_; rintro e w6 ⟨rfl, hfin⟩)
    refine hK.out _ _ ?_
    clear hK K
    try simp only [AP]
    refine wpAnyM_last (k := 21) (by decide) (by kernel_rfl) rfl (fun K hK => ?_)
    go_simp
    refine hK.out _ _ ?_
    clear hK K
    try simp only [AP]
    refine wpAnyM_last (k := 22) (by decide) (by kernel_rfl) rfl (fun K hK => ?_)
    go_simp
    refine hK.out _ _ ?_
    clear hK K
    try simp only [AP]
    refine wpAnyM_done (by kernel_rfl) (NoPanic.normal ?_) _
    go_wp2
    go_ret
    exact .inl ⟨hfl, rfl, hfin⟩
theorem w_more {n : Nat} (x : LWl) (num l bn by_ bw bm mb bo : Nat) (W0 : World) (hM : MoreAt W0 x num l bn by_ bw bm mb bo) (Fin : World -> Prop) (full : List Nat) (hY : TookY W0.heap.size l W0 full n Fin) (hnl : num <= 300) :
  ∀ (m : Nat) (begun : List Nat) (A : Option Addr) (c : Nat) (W : World), Below W0.heap.size W0 W -> W.ownsRow W0.heap.size 3 1 (.slice A begun.length c) begun.length (fl zC (toZ begun)) ->
   m + begun.length = num -> lstF begun < (x.w.d.length : Int) -> begun ++ grdF x.w m (lstF begun) = full -> (m = 0 ∨ ∃ y, nxtO x.w (lstF begun) (m : Nat) = some y) ->
   Calls Tryz.prog 212 (#[.slice A begun.length c] ++ capM bn by_ bw bm bo) W fun e W' => e = .returned (.bool false) ∧ Fin W' := by
 intro m
 induction m with
 | zero =>
  intro begun A c W hb ho hn hlt hf _
  have hfb : begun = full := by rw [← hf]; simp [grdF]
  subst hfb
  exact callsIn_wide.1 (more_zero x num l bn by_ bw bm mb bo W0 hM Fin begun hY A c W hb ho (by omega) (by omega))
 | succ m ih =>
  intro begun A c W hb ho hn hlt hf hex
  obtain ⟨f, hfo⟩ : ∃ f, nxtO x.w (lstF begun) ((m + 1 : Nat) : Int) = some f := by
   rcases hex with h | ⟨y, hy⟩
   ·omega
   ·exact ⟨y, hy⟩
  obtain ⟨f1, f2, f3, f4, f5⟩ := nxtO_some hfo
  have e1 : (begun ++ [f]).length = begun.length + 1 := by simp
  have e2 : fl zC (toZ (begun ++ [f])) = fl zC (toZ begun) ++ [.int .i64 (f : Nat)] := by simp [toZ, fl, zC]
  refine (more_step x num l bn by_ bw bm mb bo W0 hM Fin hnl m begun A c W hb ho hn hlt f f2 (Nat.le_of_lt f1) f5 (fun _ => ⟨f3, f4, fun A c W hb ho => e1 ▸ ih (begun ++ [f]) A c W hb (by rw [e1, e2]; exact ho) (by rw [e1]; omega) (by rw [lstF_snoc]; omega)
   (by rw [← hf, lstF_snoc, grdF, hfo]; simp)
   (by
    cases m with
    | zero => exact .inl rfl
    | succ m => exact .inr (by rw [lstF_snoc]; exact rsA_next f3))⟩)).mono ?_
  rintro e W' (⟨_, h1, h2⟩ | ⟨h1, _⟩)
  ·exact ⟨h1, h2⟩
  ·omega
theorem more_none (x : LWl) (num l bn by_ bw bm mb bo : Nat) (W0 : World) (hM : MoreAt W0 x num l bn by_ bw bm mb bo) (hnl : num <= 300) (h0 : 0 < num) (hno : nxtO x.w (-1) (num : Nat) = none) :
  Calls Tryz.prog 212 (#[.slice none 0 0] ++ capM bn by_ bw bm bo) W0 fun e W' => e = .returned (.bool true) ∧ Below W0.heap.size W0 W' := by
 obtain ⟨m, rfl⟩ : ∃ m, num = m + 1 := ⟨num - 1, by omega⟩
 refine (more_step x (m + 1) l bn by_ bw bm mb bo W0 hM (fun _ => False) hnl m [] none 0 W0 (below_refl W0) (World.ownsRow_nil W0 _ _ _) (by simp) (by rw [lstF_nil]; omega) x.w.d.length (by rw [lstF_nil]; omega) (Nat.le_refl _) (fun y hy => nxtO_none hno y hy) (fun h => absurd h (by omega))).mono ?_
 rintro e W' (⟨h, _⟩ | ⟨_, h1, h2⟩)
 ·omega
 ·exact ⟨h1, h2⟩
structure SetsAt (W : World) (x : LWl) (num bn bw bm mb : Nat) : Prop where
 wl : WlAt W x
 hn : Blk W bn 3 #[.int .i64 (num : Nat)]
 hw : Blk W bw 258 x.A
 hm : Blk W bm 214 #[.map (some mb)]
 mp : ∃ n, MpIs W mb n (rsA x.w)
def RS (x : LWl) (bn bw bm mb : Nat) : Nat -> Prop := fun b => b = bn ∨ b = bw ∨ b = bm ∨ b = mb ∨ (∃ ad, x.ja = some ad ∧ ad.block = b) ∨ (∃ ad, x.da = some ad ∧ ad.block = b)
theorem SetsAt.stp {W W' : World} {x : LWl} {num bn bw bm mb : Nat} (h : SetsAt W x num bn bw bm mb) (hs : Stp (fun b => ¬ RS x bn bw bm mb b) W W') : SetsAt W' x num bn bw bm mb := by
 have q1 : RS x bn bw bm mb bn := .inl rfl
 have q2 : RS x bn bw bm mb bw := .inr (.inl rfl)
 have q3 : RS x bn bw bm mb bm := .inr (.inr (.inl rfl))
 have q4 : RS x bn bw bm mb mb := .inr (.inr (.inr (.inl rfl)))
 refine ⟨⟨h.wl.jb, h.wl.fi, h.wl.ga, h.wl.tp, h.wl.le, h.wl.la, h.wl.st, h.wl.din, h.wl.dl, h.wl.rj.stp hs (fun ad e n => n (.inr (.inr (.inr (.inr (.inl ⟨ad, e, rfl⟩)))))), h.wl.rd.stp hs (fun ad e n => n (.inr (.inr (.inr (.inr (.inr ⟨ad, e, rfl⟩))))))⟩,
  hs.blk h.hn (fun n => n q1), hs.blk h.hw (fun n => n q2), hs.blk h.hm (fun n => n q3), ?_⟩
 obtain ⟨n, hn⟩ := h.mp
 exact ⟨n, mp_stp hn hs (fun n => n q4)⟩
def EsF (s : List Nat) (vs : Array Value) (M : Nat -> Prop) (W : World) (B : Nat) : Prop := ∃ y : Sl Int, vs = #[y.v] ∧ y.l = toZ s ∧ W.ownsRow B 3 1 y.v y.l.length (fl zC y.l) ∧ ∀ g, y.v.ownBlock = some g -> ¬ M g
theorem w_setsSeq {n : Nat} (x : LWl) (num bn bw bm mb : Nat) (w0 : World) (h : SetsAt w0 x num bn bw bm mb) (h0 : 0 < num) (h3 : num <= 300) :
  SeqIsS n Tryz.prog 211 #[.pointer (some ⟨bn, 0, none⟩), .pointer (some ⟨bw, 0, none⟩), .pointer (some ⟨bm, 0, none⟩)] EsF (ladT x.w (num - 1)).toList (RS x bn bw bm mb) w0 := by
 intro l J Jx W hst hJ hJx hJ0 hY hj
 have hs := h.stp hst
 refine callsIn_wide.2 ?_
 have hab : ∀ W1, Below W.heap.size W W1 -> J [] (fun _ => False) W1 := fun W1 hb => hJ [] _ _ W W1 hj (fun _ h => h.elim) (fun _ h => h) (fun _ h => h.elim) (fun _ h => h.elim) ((Stp.refl _ _).below hb (Nat.le_refl _))
 have HAB := Lib.hid hab
 obtain ⟨Wb, hWb⟩ : ∃ Wb, Wb = (W.alloc (.cells #[.func (.yield l) #[] #[]] 120)).alloc (.cells #[.func (.func 212) #[] (capM bn W.heap.size bw bm (W.heap.size + 1))] 120) := ⟨_, rfl⟩
 have BB : Below W.heap.size W Wb := by rw [hWb]; (repeat' (first | assumption | exact below_refl _ | refine bl_alloc ?_ _ | refine Below.setCell ?_ ?_ _ | refine below_draw ?_ | refine below_drewN ?_ _ | refine below_tr ?_ (by assumption))) <;> (first | omega | (simp; done) | (simp; omega))
 have hM : MoreAt Wb x num l bn W.heap.size bw bm mb (W.heap.size + 1) := by
  have y0 := (Blk.new W 120 #[.func (.yield l) #[] #[]]).alloc (.cells #[.func (.func 212) #[] (capM bn W.heap.size bw bm (W.heap.size + 1))] 120)
  have y1 := Blk.new (W.alloc (.cells #[.func (.yield l) #[] #[]] 120)) 120 #[.func (.func 212) #[] (capM bn W.heap.size bw bm (W.heap.size + 1))]
  rw [World.size_alloc] at y1
  obtain ⟨n, hn⟩ := hs.mp
  refine ⟨hs.wl.on BB, hs.hn.below BB hs.hn.lt, ?_, hs.hw.below BB hs.hw.lt, hs.hm.below BB hs.hm.lt, ?_, ⟨n, mp_on hn BB⟩⟩
  ·rw [hWb]; exact y0
  ·rw [hWb]; exact y1
 have HCM : Hid (Calls Tryz.prog 212 #[.slice none 0 0, .pointer (some ⟨bn, 0, none⟩), .pointer (some ⟨W.heap.size, 0, none⟩), .pointer (some ⟨bw, 0, none⟩), .pointer (some ⟨bm, 0, none⟩), .pointer (some ⟨W.heap.size + 1, 0, none⟩)] Wb fun e W' =>
   (∃ b, e = .returned (.bool b)) ∧ ((∃ M, J (ladT x.w (num - 1)).toList M W') ∨ ∃ pre rest M, (ladT x.w (num - 1)).toList = pre ++ rest ∧ Jx pre M W')) := by
  refine Lib.hid ?_
  have hnum : ((num - 1 + 1 : Nat) : Int) = ((num : Nat) : Int) := by omega
  cases hq : nxtO x.w (-1) ((num : Nat) : Int) with
  | none =>
   have hl : ladT x.w (num - 1) = none := by unfold ladT; rw [hnum, hq]; rfl
   rw [hl]
   refine (more_none x num l bn _ bw bm mb _ Wb hM h3 h0 hq).mono ?_
   rintro e W' ⟨rfl, hb⟩
   exact ⟨⟨_, rfl⟩, .inl ⟨_, hab W' (below_tr BB hb)⟩⟩
  | some f =>
   have hl : ladT x.w (num - 1) = some (grdF x.w num (-1)) := by unfold ladT; rw [hnum, hq, show num - 1 + 1 = num by omega]; rfl
   rw [hl]
   refine (w_more (n := n - 1) x num l bn _ bw bm mb _ Wb hM (fun W' => ∃ M, Jx [grdF x.w num (-1)] M W') (grdF x.w num (-1)) ?_ h3 num [] none 0 Wb (below_refl Wb) (World.ownsRow_nil Wb _ _ _) (by simp) (by have := (nxtO_some hq).1; rw [lstF_nil]; omega) rfl (.inr ⟨f, hq⟩)).mono ?_
   ·intro W2 y hb2 hyl hyo
    have hb3 := below_tr BB hb2
    refine YieldAt.mono (hY [] (grdF x.w num (-1)) [] (fun _ => False) W2 #[y.v] (by rw [hl]; rfl) (hab W2 hb3) ⟨y, rfl, hyl, own_mono hyo BB.size, fun _ _ h => h⟩) ?_
    rintro e W3 (⟨_, hj3, _⟩ | ⟨rfl, hx3⟩)
    ·exact absurd (hJ0 _ _ _ hj3) (by simp)
    ·exact ⟨rfl, _, hx3⟩
   ·rintro e W' ⟨rfl, M, hx⟩
    exact ⟨⟨_, rfl⟩, .inr ⟨[grdF x.w num (-1)], [], M, rfl, hx⟩⟩
 clear hY hJ hJx hJ0 hj hab hs hst
 show Calls Tryz.prog 211 #[.func (.yield l) #[] #[], .pointer (some ⟨bn, 0, none⟩), .pointer (some ⟨bw, 0, none⟩), .pointer (some ⟨bm, 0, none⟩)] W _
 go_enter Tryz.func211, Tryz.ntmps211
 go_upto_region 3 with fail
 rw [← hWb]
 have co := hM.ho.cell 0
 simp only [List.getElem?_toArray, List.getElem?_cons_zero] at co
 clear hWb hM HAB
 go_wp2_with (refine HCM.out.mono ?_; rintro e w4 ⟨⟨b, rfl⟩, hres⟩)
 go_end0
 exact ⟨⟨_, rfl⟩, hres⟩
theorem w_sets (x : LWl) (num : Nat) (W : World) (h : WlAt W x) :
  Calls Tryz.prog 182 #[.agg x.A, .int .i64 (num : Nat)] W fun e w' => ∃ bn bw bm mb, e = .returned (.func (.func 211) #[] #[.pointer (some ⟨bn, 0, none⟩), .pointer (some ⟨bw, 0, none⟩), .pointer (some ⟨bm, 0, none⟩)]) ∧
   SetsAt w' x num bn bw bm mb ∧ (W.heap.size <= bn ∧ W.heap.size <= bw ∧ W.heap.size <= bm ∧ W.heap.size <= mb) ∧ Below W.heap.size W w' := by
 have x0 := (Blk.new W 258 x.A).alloc (.cells #[.int .i64 (num : Nat)] 3)
 have x1 := Blk.new (W.alloc (.cells x.A 258)) 3 #[.int .i64 (num : Nat)]
 rw [World.size_alloc] at x1
 have B0 := bl_alloc (bl_alloc (below_refl W) (.cells x.A 258)) (.cells #[.int .i64 (num : Nat)] 3)
 have b0 := x0.cell 0
 have b1 := x0.cell 1
 have b2 := x0.cell 2
 have b3 := x0.cell 3
 have b4 := x0.cell 4
 have b5 := x0.cell 5
 have b6 := x0.cell 6
 have b7 := x0.cell 7
 simp only [GA] at b0 b1 b2 b3 b4 b5 b6 b7
 go_enter Tryz.func182, Tryz.ntmps182
 go_upto_region 1 with fail
 have h1 := h.on B0
 have lz : W.heap.size + 2 <= ((W.alloc (.cells x.A 258)).alloc (.cells #[.int .i64 (num : Nat)] 3)).heap.size := by simp
 generalize (W.alloc (.cells x.A 258)).alloc (.cells #[.int .i64 (num : Nat)] 3) = w1 at *
 go_upto_region 2 with (go_at_call 210; ((with_reducible refine (w_rests x w1 h1).mono ?_); rintro e w2 ⟨mb, n, rfl, hmb, hn, hmp, hb2⟩))
 have hz2 := hb2.size
 have y0 := (x0.below hb2 x0.lt).alloc (.cells #[.map (some mb)] 214)
 have y1 := (x1.below hb2 x1.lt).alloc (.cells #[.map (some mb)] 214)
 have y2 := Blk.new w2 214 #[.map (some mb)]
 have B2 := bl_alloc (below_refl w2) (.cells #[.map (some mb)] 214)
 have hmp2 := mp_on hmp B2
 have h2 := (h1.on hb2).on B2
 have BW := below_tr (below_tr B0 hb2) B2
 go_wp2
 go_ret
 exact ⟨_, _, _, _, rfl, ⟨h2, y1, y0, y2, ⟨n, hmp2⟩⟩, ⟨by omega, by omega, by omega, by omega⟩, BW⟩
end Go.Proofs.YtgemlddincnfcaaGreatDoor.Fi
