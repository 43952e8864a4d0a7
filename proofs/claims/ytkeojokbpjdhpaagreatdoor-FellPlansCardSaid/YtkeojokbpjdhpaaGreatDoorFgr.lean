/- A range over a function whose iterator turns blocks K that were there before the loop. -/
import Derived.Test.YtkeojokbpjdhpaaGreatDoorFj
set_option linter.unusedSimpArgs false
set_option linter.unusedVariables false
namespace Go.Proofs.YtkeojokbpjdhpaaGreatDoor
open Go.RowKit Go.Shelf

/-- What abides the iterator's steps: new blocks join M, blocks of M may turn. -/
def AbideItK {β : Type} (K : Nat → Prop) (B : Nat) (J : β → (Nat → Prop) → World → Prop) : Prop :=
  ∀ s (M M' : Nat → Prop) W W', J s M W → (∀ b, M' b → B ≤ b) → (∀ b, M b → M' b) → (∀ b, M' b → M b ∨ W.heap.size ≤ b) → (∀ b, M' b → b < W'.heap.size) → Stp (fun b => M b ∨ K b) W W' → J s M' W'
/-- The same for what the loop's owner says; the loop's own two blocks (B - 2, B - 1) may turn besides. -/
def AbideK {β : Type} (K : Nat → Prop) (B : Nat) (I : β → (Nat → Prop) → World → Prop) : Prop :=
  ∀ s (M M' : Nat → Prop) W W', I s M W → (∀ b, M' b → B ≤ b) → (∀ b, M b → M' b) → (∀ b, M' b → M b ∨ W.heap.size ≤ b) → (∀ b, M' b → b < W'.heap.size) → Stp (fun b => M b ∨ K b ∨ b + 2 = B ∨ b + 1 = B) W W' → I s M' W'

/-- An iterator that hands out just xs; it reads the blocks R. -/
def SeqIsK {α : Type} (n : Nat) (P : Program) (g : Nat) (lb : Array Value) (encs : α → Array Value) (xs : List α) (R K : Nat → Prop) (w0 : World) : Prop :=
  ∀ (l : Nat) (J Jx : List α → (Nat → Prop) → World → Prop) (W : World), Stp (fun b => ¬ R b) w0 W → AbideItK K W.heap.size J → AbideItK K W.heap.size Jx →
    (∀ pre x rest M W1, xs = pre ++ x :: rest → J pre M W1 → YieldAt Fence.wide (n - 1) P l (encs x) W1 fun e W' =>
      (e = .returned (.bool true) ∧ J (pre ++ [x]) M W' ∧ Stp (fun b => ¬ (M b ∨ R b)) W1 W') ∨ (e = .returned (.bool false) ∧ Jx (pre ++ [x]) M W')) →
    J [] (fun _ => False) W →
    CallsIn Fence.wide n P g (#[.func (.yield l) #[] #[]] ++ lb) W fun e W' => (∃ v, e = .returned v) ∧ ((∃ M, J xs M W') ∨ (∃ pre rest M, xs = pre ++ rest ∧ Jx pre M W'))

theorem wp_rangeK {α : Type} {n : Nat} {P : Program} {g : Operand} {ps : Array Tmp} {assign body : Code} {Q : Exit → Act → World → Prop} {a : Act} {w : World}
    (h1 : 1 ≤ n) {gf : Nat} {lb : Array Value} (hg : a.eval g = .func (.func gf) #[] lb) (eg : ∀ args w, (callFunc gf args).run P w = .ok (.enter gf args) w)
    {encs : α → Array Value} {xs : List α} {R K : Nat → Prop} {w0 : World} (hseq : SeqIsK (n - 1) P gf lb encs xs R K w0) (hKR : ∀ b, K b → R b) (hb0 : Stp (fun b => ¬ R b) w0 w) (hps : ∀ x, (encs x).size = ps.size) (hR : ∀ b, R b → b < w.heap.size)
    (I : List α → (Nat → Prop) → World → Prop) (Ix : Code → List α → (Nat → Prop) → World → Prop) (hI : AbideK K (w.heap.size + 2) I) (hIx : ∀ c, AbideK K (w.heap.size + 2) (Ix c)) (h0 : I [] (fun _ => False) w)
    (hround : ∀ (l : Nat) (pre : List α) (x : α) (rest : List α) (M : Nat → Prop) (W : World), xs = pre ++ x :: rest → I pre M W → (∀ b, M b → w.heap.size + 2 ≤ b ∧ b < W.heap.size) → w.heap.size + 2 ≤ W.heap.size →
      assign.wpIn (Fence.wide.inRound l) (n - 1 - 1) P (Exit.then (fun a₁ W1 => KeepN M R (w.heap.size + 2) W W1 ∧ ∀ W2, W2.heap.size = W1.heap.size → Stp (fun b => b + 1 = w.heap.size + 2) W1 W2 →
        body.wpIn (Fence.wide.inRound l) (n - 1 - 1) P (bPost I Ix (pre ++ [x]) M R (w.heap.size + 2) W2) a₁ W2) (fun _ _ _ => False))
        { tmps := setAll ps (encs x) a.tmps, defers := [] } W)
    (hdone : ∀ (M : Nat → Prop) (W : World), I xs M W → W.heap[w.heap.size]? = some (.deferred (some [])) → Q .normal { a with defers := { target := .collected w.heap.size, args := #[] } :: a.defers } W)
    (hstop : ∀ (c : Code) (pre rest : List α) (M : Nat → Prop) (W : World), xs = pre ++ rest → Ix c pre M W → W.heap[w.heap.size]? = some (.deferred (some [])) → c.wpIn Fence.wide n P Q { a with defers := { target := .collected w.heap.size, args := #[] } :: a.defers } W) :
    (Code.rangeFunc g ps assign body).wpIn Fence.wide n P Q a w := by
  refine wpIn_rangeFunc ?_
  intro fn hfn
  obtain ⟨rec, hrec⟩ : ∃ rec : LoopState → Option Code → Loop, rec = fun st pe => { state := st, pending := pe, fn, tmps := a.tmps, params := ps, assign, body, defers := w.heap.size } := ⟨_, rfl⟩
  obtain ⟨W1, hW1⟩ : ∃ W1, (w.alloc (.deferred (some []))).alloc (.loop (rec .ready none)) = W1 := ⟨_, rfl⟩
  have hL1 : W1.heap[w.heap.size + 1]? = some (.loop (rec .ready none)) := by
    rw [← hW1]; have := World.alloc_heap_new (w.alloc (.deferred (some []))) (.loop (rec .ready none)); rwa [World.size_alloc] at this
  have hK1 : W1.heap[w.heap.size]? = some (.deferred (some [])) := by
    rw [← hW1]; exact (Below.heap_alloc _ _ _ (by simp)).trans (World.alloc_heap_new w _)
  have hs1 : W1.heap.size = w.heap.size + 2 := by rw [← hW1]; simp
  have hst1 : ∀ N, Stp N w W1 := fun N => by rw [← hW1]; exact ((Stp.refl N w).alloc _).alloc _
  have hI1 : I [] (fun _ => False) W1 := hI [] _ _ w W1 h0 (fun _ h => h.elim) (fun _ h => h) (fun _ h => h.elim) (fun _ h => h.elim) (hst1 _)
  refine ⟨w.heap.size + 1, [{ target := .collected w.heap.size, args := #[] }], W1, { target := .fn (.func gf) lb, args := #[.func (.yield (w.heap.size + 1)) #[] #[]] }, W1, gf,
    #[.func (.yield (w.heap.size + 1)) #[] #[]] ++ lb, W1, ?_, ?_, ?_, ?_, fun _ => h1, ?_⟩
  · rw [← hW1, hrec]; exact run_enterLoop_outer _ _ _ _ _
  · simp only [resolve, hg]
    simp [go_sem]
  · intro f' _; trivial
  · simp [invoke, go_sem, eg]
  · refine (hseq (w.heap.size + 1)
      (fun pre M W => (I pre M W ∧ W.heap[w.heap.size + 1]? = some (.loop (rec .ready none)) ∧ W.heap[w.heap.size]? = some (.deferred (some []))) ∧ ∀ b, M b → w.heap.size + 2 ≤ b ∧ b < W.heap.size)
      (fun pre M W => (∃ c, Ix c pre M W ∧ W.heap[w.heap.size + 1]? = some (.loop (rec .done (some c))) ∧ W.heap[w.heap.size]? = some (.deferred (some []))) ∧ ∀ b, M b → w.heap.size + 2 ≤ b ∧ b < W.heap.size)
      W1 (hb0.trans (hst1 _)) ?_ ?_ ?_ ⟨⟨hI1, hL1, hK1⟩, fun _ h => h.elim⟩).mono ?_
    · rintro s M M' A B ⟨⟨hi, hl, hk⟩, hm⟩ hM' hMM hnew hlt hstp
      rw [hs1] at hM'
      exact ⟨⟨hI s M M' A B hi hM' hMM hnew hlt (hstp.mono fun b _ h => h.elim .inl (fun k => .inr (.inl k))),
        (hstp.block _ (lt_of_block hl) (fun h => by rcases h with h | h; (have := (hm _ h).1; omega); (have := hR _ (hKR _ h); omega))).trans hl, (hstp.block _ (lt_of_block hk) (fun h => by rcases h with h | h; (have := (hm _ h).1; omega); (have := hR _ (hKR _ h); omega))).trans hk⟩, fun b h => ⟨hM' b h, hlt b h⟩⟩
    · rintro s M M' A B ⟨⟨c, hi, hl, hk⟩, hm⟩ hM' hMM hnew hlt hstp
      rw [hs1] at hM'
      exact ⟨⟨c, hIx c s M M' A B hi hM' hMM hnew hlt (hstp.mono fun b _ h => h.elim .inl (fun k => .inr (.inl k))),
        (hstp.block _ (lt_of_block hl) (fun h => by rcases h with h | h; (have := (hm _ h).1; omega); (have := hR _ (hKR _ h); omega))).trans hl, (hstp.block _ (lt_of_block hk) (fun h => by rcases h with h | h; (have := (hm _ h).1; omega); (have := hR _ (hKR _ h); omega))).trans hk⟩, fun b h => ⟨hM' b h, hlt b h⟩⟩
    · -- one round
      rintro pre x rest M W hxs ⟨⟨hi, hl, hk⟩, hm⟩
      have hlt : w.heap.size + 1 < W.heap.size := lt_of_block hl
      have hy := run_yield (P := P) (args := encs x) hl (by rw [hrec]; exact hps x)
      rw [hrec] at hy
      refine ⟨fn, _, assign, body, hy, roundIn_of_wpIn hfn (wpIn_mono (hround _ pre x rest M W hxs hi hm (by omega)) ?_)⟩
      rintro e a2 W2 hp
      cases e with
      | normal =>
        obtain ⟨hk2, hbody⟩ := hp
        have hl2 := (hk2.block _ (lt_of_block hl) (by simp)).trans hl
        have hkk2 := (hk2.block _ (lt_of_block hk) (by simp)).trans hk
        refine ⟨_, run_beginRound hl2 (by rw [hrec]), ?_⟩
        obtain ⟨W3, hW3⟩ : ∃ W3, W2.putObj (w.heap.size + 1) (.loop { rec .ready none with state := .busy }) = W3 := ⟨_, rfl⟩
        rw [hW3]
        have hst3 : Stp (fun b => b + 1 = w.heap.size + 2) W2 W3 := by rw [← hW3]; exact Stp.putObj (Stp.refl (fun b => b + 1 = w.heap.size + 2) W2) (.inl rfl) _
        have hl3 : W3.heap[w.heap.size + 1]? = some (.loop { rec .ready none with state := .busy }) := by rw [← hW3]; exact World.putObj_heap_same (lt_of_block hl2)
        have hkk3 : W3.heap[w.heap.size]? = some (.deferred (some [])) := (hst3.block _ (lt_of_block hkk2) (by omega)).trans hkk2
        have hsz3 : W3.heap.size = W2.heap.size := by rw [← hW3]; simp
        refine wpIn_mono (hbody W3 hsz3 hst3) ?_
        have fin : ∀ (jump : Option Code) (W4 : World), KeepN M R (w.heap.size + 2) W3 W4 → ∃ W5,
            (Instr.endRound (w.heap.size + 1) jump).run P W4 = .ok (.bool jump.isNone) W5 ∧ Stp (fun b => b + 1 = w.heap.size + 2) W4 W5 ∧
            W5.heap[w.heap.size + 1]? = some (.loop (rec (if jump.isNone then .ready else .done) jump)) ∧ W5.heap[w.heap.size]? = some (.deferred (some [])) := fun jump W4 hk4 => by
          have hl4 := (hk4.block _ (lt_of_block hl3) (by simp)).trans hl3
          have hkk4 := (hk4.block _ (lt_of_block hkk3) (by simp)).trans hkk3
          have hr := run_endRound (P := P) jump hl4
          rw [hrec] at hr
          refine ⟨_, hr, Stp.putObj (Stp.refl (fun b => b + 1 = w.heap.size + 2) W4) (.inl rfl) _, ?_, ?_⟩
          · rw [World.putObj_heap_same (lt_of_block hl4), hrec]
          · rw [World.putObj_heap_other (by omega)]; exact hkk4
        have ab : ∀ {s : List α} {A B : World}, I s M A → W.heap.size ≤ A.heap.size → Stp (fun b => b + 1 = w.heap.size + 2) A B → I s M B := fun {s A B} ha hAW hab =>
          hI s M M A B ha (fun b h => (hm b h).1) (fun _ h => h) (fun _ h => .inl h) (fun b h => by have := (hm b h).2; have := hab.size; omega) (hab.mono fun b _ h => .inr (.inr (.inr h)))
        have abx : ∀ {c : Code} {s : List α} {A B : World}, Ix c s M A → W.heap.size ≤ A.heap.size → Stp (fun b => b + 1 = w.heap.size + 2) A B → Ix c s M B := fun {c s A B} ha hAW hab =>
          hIx c s M M A B ha (fun b h => (hm b h).1) (fun _ h => h) (fun _ h => .inl h) (fun b h => by have := (hm b h).2; have := hab.size; omega) (hab.mono fun b _ h => .inr (.inr (.inr h)))
        rintro e a3 W4 hp4
        cases e with
        | normal =>
          obtain ⟨hk4, hi4⟩ := hp4
          obtain ⟨W5, hr, h45, hl5, hkk5⟩ := fin none W4 hk4
          have hAW := Nat.le_trans (Nat.le_trans hk2.size hst3.size) hk4.size
          refine ⟨_, _, hr, .inl ⟨rfl, ⟨⟨ab hi4 hAW h45, hl5, hkk5⟩, fun b h => ⟨(hm b h).1, by have := (hm b h).2; have := h45.size; omega⟩⟩, ?_⟩⟩
          have q : ∀ b, ¬ (M b ∨ R b ∨ b + 2 = w.heap.size + 2 ∨ b + 1 = w.heap.size + 2) → ¬ (M b ∨ R b) := fun b h k => h (by rcases k with k | k; exact .inl k; exact .inr (.inl k))
          have q2 : ∀ b, b + 1 = w.heap.size + 2 → ¬ (M b ∨ R b) := fun b h k => by rcases k with k | k; (have := (hm b k).1; omega); (have := hR b k; omega)
          exact (((hk2.mono fun b _ => q b).trans (hst3.mono fun b _ => q2 b)).trans (hk4.mono fun b _ => q b)).trans (h45.mono fun b _ => q2 b)
        | ret =>
          obtain ⟨hk4, hi4⟩ := hp4
          obtain ⟨W5, hr, h45, hl5, hkk5⟩ := fin (some .ret) W4 hk4
          have hAW := Nat.le_trans (Nat.le_trans hk2.size hst3.size) hk4.size
          exact ⟨_, _, hr, .inr ⟨rfl, ⟨.ret, abx hi4 hAW h45, hl5, hkk5⟩, fun b h => ⟨(hm b h).1, by have := (hm b h).2; have := h45.size; omega⟩⟩⟩
        | exit id =>
          obtain ⟨hk4, hi4⟩ := hp4
          obtain ⟨W5, hr, h45, hl5, hkk5⟩ := fin (some (.exit id)) W4 hk4
          have hAW := Nat.le_trans (Nat.le_trans hk2.size hst3.size) hk4.size
          exact ⟨_, _, hr, .inr ⟨rfl, ⟨.exit id, abx hi4 hAW h45, hl5, hkk5⟩, fun b h => ⟨(hm b h).1, by have := (hm b h).2; have := h45.size; omega⟩⟩⟩
        | goto t =>
          obtain ⟨hk4, hi4⟩ := hp4
          obtain ⟨W5, hr, h45, hl5, hkk5⟩ := fin (some (.goto t)) W4 hk4
          have hAW := Nat.le_trans (Nat.le_trans hk2.size hst3.size) hk4.size
          exact ⟨_, _, hr, .inr ⟨rfl, ⟨.goto t, abx hi4 hAW h45, hl5, hkk5⟩, fun b h => ⟨(hm b h).1, by have := (hm b h).2; have := h45.size; omega⟩⟩⟩
        | panic ch => exact hp4.elim
        | outgrown => exact hp4.elim
      | ret => exact hp.elim
      | exit id => exact hp.elim
      | goto t => exact hp.elim
      | panic ch => exact hp.elim
      | outgrown => exact hp.elim
    · -- behind the iterator
      rintro e W2 ⟨⟨v, rfl⟩, (⟨M, ⟨hi, hl, hk⟩, hm⟩ | ⟨pre, rest, M, hx, ⟨c, hi, hl, hk⟩, hm⟩)⟩
      · refine ⟨none, _, by have := run_endLoop (P := P) hl (by rw [hrec]; simp); rw [hrec] at this; exact this, hdone M _ ?_ ((World.putObj_heap_other (by omega)).trans hk)⟩
        exact hI xs M M W2 _ hi (fun b h => (hm b h).1) (fun _ h => h) (fun _ h => .inl h) (fun b h => by simpa using (hm b h).2) ((Stp.refl _ _).putObj (.inl (.inr (.inr (.inr rfl)))) _)
      · refine ⟨some c, _, by have := run_endLoop (P := P) hl (by rw [hrec]; simp); rw [hrec] at this; exact this, hstop c pre rest M _ hx ?_ ((World.putObj_heap_other (by omega)).trans hk)⟩
        exact hIx c pre M M W2 _ hi (fun b h => (hm b h).1) (fun _ h => h) (fun _ h => .inl h) (fun b h => by simpa using (hm b h).2) ((Stp.refl _ _).putObj (.inl (.inr (.inr (.inr rfl)))) _)

section
variable {β : Type} {B : Nat} {K : Nat → Prop}
theorem AbideK.and {I I' : β → (Nat → Prop) → World → Prop} (h : AbideK K B I) (h' : AbideK K B I') : AbideK K B (fun s M W => I s M W ∧ I' s M W) :=
  fun s M M' W W' hs a b c d e => ⟨h s M M' W W' hs.1 a b c d e, h' s M M' W W' hs.2 a b c d e⟩
theorem abideK_pure (p : β → Prop) : AbideK K B (fun s (_ : Nat → Prop) (_ : World) => p s) := fun _ _ _ _ _ hs _ _ _ _ _ => hs
theorem abideK_below {W0 : World} {k : Nat} (hk : k + 2 ≤ B) (hK : ∀ b, K b → k ≤ b) : AbideK K B (fun (_ : β) (_ : Nat → Prop) W => Below k W0 W ∧ k ≤ W.heap.size) := fun _ M M' W W' hs hM hMM _ _ hst => by
  obtain ⟨h2, h3⟩ := hs
  exact ⟨h2.trans (hst.toBelow h3 (fun b hb hn => by rcases hn with hn | hn | hn | hn; (have := hM b (hMM b hn); omega); (have := hK b hn; omega); omega; omega)), Nat.le_trans h3 hst.size⟩
theorem abideK_row {g : Nat} {t e : TypeId} {sz : Nat} (k : β → Nat) (f : β → List Value) (hg : g + 2 < B) (hK : ∀ b, K b → b + 2 < B ∧ b ≠ g) :
    AbideK K B (fun s M W => ∃ v, Blk W g t #[v] ∧ W.ownsRow B e sz v (k s) (f s) ∧ ∀ b, v.ownBlock = some b → ¬ M b) := by
  rintro s M M' W W' ⟨v, hb, hr, hn⟩ hM hMM hnew _ hst
  refine ⟨v, hst.blk hb (fun h => by rcases h with h | h | h | h; (have := hM _ (hMM _ h); omega); (exact (hK _ h).2 rfl); omega; omega), ?_, ?_⟩
  · refine ⟨hr.1, ?_⟩
    rcases hr.2 with ⟨rfl, h0⟩ | ⟨g', cap, cur, rfl, hB, hh, h1, h2, h3, h4⟩
    · exact .inl ⟨rfl, h0⟩
    · exact .inr ⟨g', cap, cur, rfl, hB, (hst.block g' (lt_of_block hh) (fun h => by rcases h with h | h | h | h; (exact hn g' rfl h); (have := (hK _ h).1; omega); omega; omega)).trans hh, h1, h2, h3, h4⟩
  · intro b hvb hm
    rcases hr.2 with ⟨rfl, h0⟩ | ⟨g', cap, cur, rfl, hB, hh, h1, h2, h3, h4⟩
    · cases hvb
    · cases hvb
      rcases hnew _ hm with h | h
      · exact hn _ rfl h
      · have := lt_of_block hh; exact absurd h (by simp; omega)
theorem abideK_rd {α : Type} {enc : α → List Value} {sz : Nat} {A : Option Addr} {l : List α} (hA : ∀ ad, A = some ad → ad.block + 2 < B ∧ ¬ K ad.block) :
    AbideK K B (fun (_ : β) (_ : Nat → Prop) W => Rd enc sz W A l) := fun _ M M' W W' hs hM hMM _ _ hst =>
  hs.stp hst (fun ad e h => by have := hA ad e; rcases h with h | h | h | h; (have := hM _ (hMM _ h); omega); (exact this.2 h); omega; omega)
theorem abideK_blk {g : Nat} {t : TypeId} (f : β → Array Value) (hg : g + 2 < B) (hK : ¬ K g) : AbideK K B (fun s (_ : Nat → Prop) W => Blk W g t (f s)) := fun _ M M' W W' hs hM hMM _ _ hst =>
  hst.blk hs (fun hn => by rcases hn with hn | hn | hn | hn; (have := hM _ (hMM _ hn); omega); (exact hK hn); omega; omega)
end
end Go.Proofs.YtkeojokbpjdhpaaGreatDoor
