/- Gear: below as an iterator; a function that has run several ranges over functions leaves with their marks. -/
import Derived.Test.YtijlglanpgcdiaaGq
set_option linter.unusedSimpArgs false
set_option linter.unusedVariables false
namespace Go.Proofs.Ytijlglanpgcdiaa
open Go.RowKit Go.Shelf Go.Maps

abbrev mrk (D : Nat) : Deferred := { target := .collected D, args := #[] }
/-- blocks of the ranges that have run, each once, none of them shut -/
def Marks (w : World) (Ds : List Nat) : Prop := Ds.Nodup ∧ ∀ D ∈ Ds, w.heap[D]? = some (.deferred (some []))
theorem Marks.nil (w : World) : Marks w [] := ⟨List.nodup_nil, fun _ h => by cases h⟩
theorem Marks.stp {w w' : World} {Ds : List Nat} {N : Nat → Prop} (h : Marks w Ds) (k : Stp N w w') (hn : ∀ D ∈ Ds, ¬ N D) : Marks w' Ds :=
  ⟨h.1, fun D hD => (k.block D (lt_of_block (h.2 D hD)) (hn D hD)).trans (h.2 D hD)⟩
theorem Marks.cons {w : World} {Ds : List Nat} {D : Nat} (h : Marks w Ds) (hD : w.heap[D]? = some (.deferred (some []))) (hn : D ∉ Ds) : Marks w (D :: Ds) :=
  ⟨List.nodup_cons.2 ⟨hn, h.1⟩, fun E hE => by rcases List.mem_cons.1 hE with rfl | hE; exact hD; exact h.2 E hE⟩
theorem leaves_marks {F : Fence} {n : Nat} {P : Program} {fn : Func} {tmps : Array Value} {R : Ending → World → Prop} {u : FrameMode} (hu : u ≠ .run) : ∀ (Ds : List Nat) (w : World), Marks w Ds →
    (∀ w', Stp (fun b => b ∈ Ds) w w' → LeavesIn F n P fn tmps R [] u w') → LeavesInM F n P fn tmps R (Ds.map mrk) u w
  | [], w, _, h => h w (Stp.refl _ _)
  | D :: Ds, w, hm, h => by
    have hD := hm.2 D (List.mem_cons_self ..)
    obtain ⟨h1, h2⟩ := List.nodup_cons.1 hm.1
    refine ⟨hu, .inl ⟨D, _, rfl, run_takeDeferred hD, ?_⟩⟩
    have hs : Stp (fun b => b = D) w (w.putObj D (.deferred none)) := Stp.putObj (Stp.refl (fun b => b = D) w) (.inl rfl) _
    refine leaves_marks hu Ds _ ⟨h2, fun E hE => ?_⟩ fun w' hw' => ?_
    · exact (hs.block E (lt_of_block (hm.2 E (List.mem_cons_of_mem _ hE))) (fun e => h1 (e ▸ hE))).trans (hm.2 E (List.mem_cons_of_mem _ hE))
    · exact h w' ((hs.mono fun b _ hb => by subst hb; exact List.mem_cons_self ..).trans (hw'.mono fun b _ hb => List.mem_cons_of_mem _ hb))
theorem enters_below : ∀ args w, (callFunc 94 args).run Try.prog w = .ok (.enter 94 args) w := enters_of Try.func94 (by kernel_rfl) rfl
def nE (n : Nat) : Array Value := #[.int .i64 (n : Int)]
set_option maxHeartbeats 1000000 in
set_option maxRecDepth 20000 in
theorem below_seq {g : List It} {r : List Lk} (hv : VR g r) (fn : Nat) (B : Option Addr) (d i b1 b2 : Nat) (hi : i < r.length) (R : Nat → Prop) (w0 : World) (hS : Rd Lk.cs 2 w0 B r) (hRr : ∀ ad, B = some ad → R ad.block)
    (h1 : w0.cell? ⟨b1, 0, none⟩ = some (.slice B r.length d)) (h2 : w0.cell? ⟨b2, 0, none⟩ = some (.int .i64 (i : Nat))) (hR1 : R b1) (hR2 : R b2) :
    SeqIs fn Try.prog 94 #[.pointer (some ⟨b1, 0, none⟩), .pointer (some ⟨b2, 0, none⟩)] nE (ds r i) R w0 := by
  intro L J Jx W hW hJ hJx hY h0
  have c1 := hW.cell h1 (fun k => k hR1)
  have c2 := hW.cell h2 (fun k => k hR2)
  have hSW := Rd.stp hS hW (fun ad e k => k (hRr ad e))
  have HC := Lib.hid (callsIn_wide.1 (hang hv B d R hRr L W.heap.size J Jx hJ (ds r i) (fn - 1) (fun pre x rest W1 hx hj => hY pre x rest noB W1 hx hj) (r.length - i) i [] [] W hi (Nat.le_refl _) (by simp) h0 hSW))
  clear hJ hJx hY h0 h1 h2 hW hS hSW hRr hv
  refine callsIn_of_wp Try.func94 rfl trivial ?_
  simp only [Try.ntmps94, List.size_toArray, List.length_cons, List.length_nil, Nat.reduceAdd, Nat.reduceSub, Array.replicate_succ, Array.replicate_zero, List.push_toArray, List.append_toArray, List.nil_append, List.cons_append]
  gi_wp2
  refine ⟨trivial, fun h => by simp [Fence.wide] at h, ?_⟩
  refine (callsIn_wide.2 HC.out).mono ?_
  rintro e W4 (⟨rfl, hj4, hk4⟩ | ⟨rfl, pre', rest', hxx, hjx⟩)
  · gi_wp2
    go_end0
    exact ⟨⟨_, rfl⟩, .inl ⟨_, by simpa using hj4⟩⟩
  · gi_wp2
    go_end0
    exact ⟨⟨_, rfl⟩, .inr ⟨_, _, _, hxx, hjx⟩⟩
end Go.Proofs.Ytijlglanpgcdiaa
