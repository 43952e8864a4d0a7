/- The parts of the proof, part 17. -/
import Derived.Test.YtgemlddincnfcaaGreatDoorQ0
import Derived.Test.YtgemlddincnfcaaGreatDoorQ16
set_option maxHeartbeats 16000000
set_option maxRecDepth 20000
set_option linter.unusedSimpArgs false
set_option linter.unusedVariables false
namespace Go.Proofs.YtgemlddincnfcaaGreatDoor.Fi
open Go.Lib Tx
abbrev I64 (n : Int) : Prop := -9223372036854775808 <= n ∧ n <= 9223372036854775807
def CmOk : Cm -> Prop
 | .gust g => I64 g
 | .day => True
 | .dog i => I64 i
 | .rig i l => I64 i ∧ l.length <= 100000 ∧ ∀ k ∈ l, G.LW k
 | .strike r => I64 r
 | .up i m => I64 i ∧ I64 m
 | .down i m => I64 i ∧ I64 m
 | .lift r l => I64 r ∧ l.length <= 100000 ∧ ∀ n ∈ l, I64 n
 | .look m => m.size <= maxLen
 | .call b => b.size <= maxLen
 | .cut i => I64 i
 | .bill i => I64 i
theorem siteA_mem {x : St} {i : Int} (h : thB x i = true) : siteA x i ∈ x.sites := by
 unfold thB at h
 obtain ⟨h0, h1⟩ := wn_iff.1 h
 unfold siteA
 rw [List.getD_eq_getElem?_getD]
 obtain ⟨s, hs⟩ := get_lt (l := x.sites) (k := i.toNat) (by omega)
 rw [hs]
 exact List.mem_of_getElem? hs
theorem upN_ge {x : St} (h : ∀ s ∈ x.sites, 0 <= s.men) {s : Sit} (hs : s ∈ x.sites) : s.men <= upN x := by
 have go : ∀ (q : List Sit) (a : Int), (∀ s ∈ q, 0 <= s.men) -> a <= q.foldl (fun a s => a + s.men) a := fun q => by
  induction q with
  | nil => intro a _; simp
  | cons t q ih =>
   intro a hq
   have h1 := hq t (List.mem_cons_self ..)
   have h2 := ih (a + t.men) fun x hx => hq x (List.mem_cons_of_mem _ hx)
   simp only [List.foldl_cons]; omega
 have go2 : ∀ (q : List Sit) (a : Int), 0 <= a -> (∀ s ∈ q, 0 <= s.men) -> s ∈ q -> s.men <= q.foldl (fun a s => a + s.men) a := fun q => by
  induction q with
  | nil => intro a _ _ hm; cases hm
  | cons t q ih =>
   intro a ha hq hm
   have h1 := hq t (List.mem_cons_self ..)
   simp only [List.foldl_cons]
   rcases List.mem_cons.1 hm with rfl | hm
   ·have := go q (a + s.men) fun x hx => hq x (List.mem_cons_of_mem _ hx)
    omega
   ·exact ih (a + t.men) (by omega) (fun x hx => hq x (List.mem_cons_of_mem _ hx)) hm
 exact go2 x.sites 0 (by omega) h hs
theorem few_len {c : Cl} {l : List Jt} : ∀ (k : Nat) (b : Int) (d : List Nat), fewF c l k b = some d -> d.length <= k := by
 intro k
 induction k with
 | zero => intro b d h; unfold fewF at h; cases h
 | succ k ih =>
  intro b d h
  rw [fewF_step] at h
  cases hb : bstN c l b with
  | none => rw [hb] at h; cases h
  | some i =>
   rw [hb] at h
   dsimp only at h
   by_cases h1 : ndA c l i = 1
   ·rw [if_pos h1] at h; cases h; simp
   ·rw [if_neg h1] at h
    cases h2 : fewF c l k i with
    | none => rw [h2] at h; cases h
    | some e =>
     rw [h2] at h; cases h
     have := ih _ _ h2
     simp; omega
theorem fewL_len {c : Cl} {l : List Jt} (h : vJ l = true) : (fewL c l).length <= 300 := by
 have h2 : l.length <= 200 := by unfold vJ at h; exact of_decide_eq_true (Bool.and_eq_true_iff.1 h).2
 unfold fewL
 split
 ·cases hf : fewN c l with
  | none => simp
  | some d =>
   dsimp only
   unfold toZ
   rw [List.length_map]
   have := few_len _ _ _ (show fewF c l (l.length + 1) (-1) = some d from hf)
   omega
 ·simp
theorem hsh_lt (s : List UInt8) : hsh s < 18446744073709551616 := by
 unfold hsh
 have go : ∀ (s : List UInt8) (a : Nat), a < 18446744073709551616 -> s.foldl hshS a < 18446744073709551616 := by
  intro s
  induction s with
  | nil => intro a h; exact h
  | cons c s ih => intro a h; exact ih _ (by unfold hshS; omega)
 exact go s _ (by omega)
theorem nm_size {s : ByteArray} (h : G.nmB s = true) : s.size <= 16 := by
 unfold G.nmB at h
 have := (Bool.and_eq_true_iff.1 h).1
 have := (of_decide_eq_true (Bool.and_eq_true_iff.1 this).2)
 omega
theorem snd_parts {x : G.It} (h : G.sndI x = true) : G.nmB x.nm = true ∧ G.nmB x.bt = true ∧ (1 <= x.ld ∧ x.ld <= 1000000) ∧ (0 <= x.du ∧ x.du <= 100000) := by
 unfold G.sndI at h
 obtain ⟨h, h4⟩ := Bool.and_eq_true_iff.1 h
 obtain ⟨h, h3⟩ := Bool.and_eq_true_iff.1 h
 obtain ⟨h1, h2⟩ := Bool.and_eq_true_iff.1 h
 exact ⟨h1, h2, wn_iff.1 h3, wn_iff.1 h4⟩
theorem snd_iw {x : G.It} (h : G.sndI x = true) : G.IW x := by
 obtain ⟨h1, h2, h3, h4⟩ := snd_parts h
 have := nm_size h1
 have := nm_size h2
 exact ⟨by unfold maxLen; omega, by unfold maxLen; omega, by omega, by omega, by omega, by omega⟩
theorem vldG_snd {g : List G.It} (h : G.vldG g = true) : ∀ x ∈ g, G.sndI x = true := by
 intro x hx
 obtain ⟨i, hi⟩ := List.getElem?_of_mem hx
 unfold G.vldG at h
 have h1 := List.all_eq_true.1 (Bool.and_eq_true_iff.1 h).1 i (by simpa using (List.getElem?_eq_some_iff.1 hi).1)
 unfold G.okI at h1
 rw [G.itAt_of hi] at h1
 exact (Bool.and_eq_true_iff.1 h1).1
theorem idx_set {p : G.It -> Bool} : ∀ (l : List G.It) (i k : Nat) (x : G.It), (∀ y, l[i]? = some y -> p x = p y) -> idxOf p (l.set i x) k = idxOf p l k := by
 intro l
 induction l with
 | nil => intro i k x _; rfl
 | cons y l ih =>
  intro i k x h
  cases i with
  | zero =>
   rw [List.set_cons_zero]
   unfold idxOf
   rw [h y rfl]
  | succ i =>
   rw [List.set_cons_succ]
   unfold idxOf
   rw [ih i (k + 1) x fun z hz => h z hz]
theorem fnd_set (g : List G.It) (i : Nat) (d : Int) (s : ByteArray) : G.fndI (G.setDu g i d) s = G.fndI g s := by
 unfold G.fndI G.setDu
 refine idx_set g i 0 _ fun y hy => ?_
 rw [G.itAt_of hy]
theorem vld_set {g : List G.It} (h : G.vldG g = true) (i : Nat) {d : Int} (hd : wn d 0 100000 = true) : G.vldG (G.setDu g i d) = true := by
 have hl : (G.setDu g i d).length = g.length := by unfold G.setDu; rw [List.length_set]
 by_cases hi : i < g.length
 rotate_left
 ·have : G.setDu g i d = g := by unfold G.setDu; rw [List.set_eq_of_length_le (by omega)]
  rw [this]; exact h
 have hs := vldG_snd h
 unfold G.vldG at h ⊢
 rw [hl]
 obtain ⟨h1, h2⟩ := Bool.and_eq_true_iff.1 h
 rw [Bool.and_eq_true_iff]
 refine ⟨List.all_eq_true.2 fun j hj => ?_, h2⟩
 have h3 := List.all_eq_true.1 h1 j hj
 have hjl : j < g.length := by simpa using hj
 obtain ⟨y, hy⟩ := get_lt hjl
 unfold G.okI at h3 ⊢
 rw [fnd_set]
 rw [G.itAt_of hy] at h3
 by_cases hij : i = j
 ·subst hij
  have e : G.itAt (G.setDu g i d) i = ⟨y.nm, y.ld, d, y.bt⟩ := by
   unfold G.setDu
   rw [G.itAt_of hy]
   exact G.itAt_of (List.getElem?_set_self hjl)
  rw [e]
  have h4 := hs y (List.mem_of_getElem? hy)
  obtain ⟨_, h6⟩ := Bool.and_eq_true_iff.1 h3
  rw [Bool.and_eq_true_iff]
  refine ⟨?_, h6⟩
  unfold G.sndI at h4 ⊢
  obtain ⟨h7, _⟩ := Bool.and_eq_true_iff.1 h4
  rw [Bool.and_eq_true_iff]
  exact ⟨h7, hd⟩
 ·have e : G.itAt (G.setDu g i d) j = y := by
   unfold G.setDu
   exact G.itAt_of (by rw [List.getElem?_set_ne hij]; exact hy)
  rw [e]; exact h3
theorem vldR_parts {g : List G.It} {r : List G.Lk} (hg : G.vldG g = true) (h : G.vldR g r = true) : (1 <= r.length ∧ r.length <= 32) ∧ ∀ k ∈ r, 0 <= G.fndI g k.nm ∧ k.nm.size <= 16 ∧ -1 <= k.fr ∧ k.fr <= 32 := by
 unfold G.vldR at h
 obtain ⟨h1, h2⟩ := Bool.and_eq_true_iff.1 h
 obtain ⟨h3, h4⟩ := wn_iff.1 h2
 refine ⟨by omega, fun k hk => ?_⟩
 obtain ⟨i, hi⟩ := List.getElem?_of_mem hk
 have hil := (List.getElem?_eq_some_iff.1 hi).1
 have h5 := List.all_eq_true.1 h1 i (by simpa using hil)
 unfold G.okL at h5
 rw [G.lkAt_of hi] at h5
 obtain ⟨h5, _⟩ := Bool.and_eq_true_iff.1 h5
 obtain ⟨h5, h6⟩ := Bool.and_eq_true_iff.1 h5
 have h7 : 0 <= G.fndI g k.nm := of_decide_eq_true h5
 obtain ⟨n, hn⟩ := Int.eq_ofNat_of_zero_le h7
 obtain ⟨y, hy, he⟩ := G.fnd_at hn
 have h8 := nm_size (snd_parts (vldG_snd hg y (List.mem_of_getElem? hy))).1
 have h9 : k.nm.size = y.nm.size := by
  have := congrArg List.length he
  rw [ByteArray.toList_eq, ByteArray.toList_eq] at this
  simpa using this.symm
 refine ⟨h7, by omega, ?_⟩
 unfold G.frB at h6
 split at h6
 ·have := beq_iff_eq.1 h6; omega
 ·obtain ⟨a, b⟩ := wn_iff.1 h6; omega
theorem nT_len (n : Int) (h : I64 n) : (nT n).length <= 20 := by
 have := itoa_len (n := n) h.1 h.2
 unfold nT; omega
theorem fnd_size {g : List G.It} {s : ByteArray} (hg : G.vldG g = true) (h : 0 <= G.fndI g s) : s.size <= 16 := by
 obtain ⟨n, hn⟩ := Int.eq_ofNat_of_zero_le h
 obtain ⟨y, hy, he⟩ := G.fnd_at hn
 have h8 := nm_size (snd_parts (vldG_snd hg y (List.mem_of_getElem? hy))).1
 have h9 : s.size = y.nm.size := by
  have := congrArg List.length he
  rw [ByteArray.toList_eq, ByteArray.toList_eq] at this
  simpa using this.symm
 omega
theorem Inv.setS {x : St} (h : Inv x) (i : Int) (s : Sit) (h1 : 0 <= s.men ∧ s.men <= 16) (h2 : s.dogs.length <= 300) : Inv (setS x i s) := by
 have hm : ∀ t ∈ (x.sites.set i.toNat s), t ∈ x.sites ∨ t = s := fun t ht => List.mem_or_eq_of_mem_set ht
 unfold Fi.setS
 exact { h with
  rs := fun r hr => by have := h.rs r hr; rw [List.length_set]; exact this
  sl := by rw [List.length_set]; exact h.sl
  sm := fun t ht => by rcases hm t ht with h3 | rfl; exact h.sm t h3; exact h1
  sd := fun t ht => by rcases hm t ht with h3 | rfl; exact h.sd t h3; exact h2 }
theorem inv_deed {c : Cm} {x y : St} (hI : Inv x) (hc : CmOk c) (h : deed c x = .ok y) : Inv y ∧ y.lines = x.lines ∧ (txt c).length <= 5000 := by
 have hst := (vSu_parts hI.su).1
 cases c with
 | gust g =>
  unfold deed at h; dsimp only at h
  split at h; cases h
  rename_i h1
  split at h; cases h
  rename_i h2
  split at h; cases h
  cases h
  have h1 : wn g (-1) 200 = true := by simpa using h1
  obtain ⟨g0, g1⟩ := wn_iff.1 h1
  have h2 : x.gusts.length < 2000 := by omega
  refine ⟨{ hI with gl := by simp; omega, gb := fun q hq => ?_ }, rfl, ?_⟩
  ·rcases List.mem_append.1 hq with h3 | h3
   ·exact hI.gb q h3
   ·rw [List.mem_singleton.1 h3]; exact ⟨g0, g1⟩
  ·have := nT_len g hc
   simp [txt, wsT]; omega
 | day =>
  unfold deed at h; dsimp only at h
  split at h; cases h
  rename_i h1
  cases h
  have h1 : (decide (upN x = 0) && decide (x.day < 100000)) = true := by simpa using h1
  have h2 : x.day < 100000 := of_decide_eq_true (Bool.and_eq_true_iff.1 h1).2
  have := hI.d0
  exact ⟨{ hI with d0 := (by dsimp only; omega), d1 := (by dsimp only; omega), gl := (by simp), gb := fun q hq => by cases hq }, rfl, by simp [txt]⟩
 | dog i =>
  unfold deed at h; dsimp only at h
  split at h; cases h
  rename_i h1
  split at h; cases h
  split at h; cases h
  split at h; cases h
  cases h
  have h1 : thB x i = true := by simpa using h1
  have hm := siteA_mem h1
  refine ⟨hI.setS i _ (hI.sm (siteA x i) hm) ?_, rfl, ?_⟩
  ·refine fewL_len ?_
   unfold thB at h1
   obtain ⟨a, b⟩ := wn_iff.1 h1
   have hj := (vSu_parts hI.su).2.1
   have hs := hI.sl
   obtain ⟨z, hz⟩ := get_lt (l := x.x.jnt) (k := i.toNat) (by omega)
   have : jntA x i = z := by unfold jntA; rw [List.getD_eq_getElem?_getD, hz]; rfl
   rw [this]
   exact (vSu_parts hI.su).2.2.2.1 z (List.mem_of_getElem? hz)
  ·have := nT_len i hc
   simp [txt, wsT]; omega
 | rig i l =>
  unfold deed at h; dsimp only at h
  split at h; cases h
  rename_i h1
  split at h; cases h
  split at h; cases h
  rename_i h3
  split at h; cases h
  cases h
  have h1 : thB x i = true := by simpa using h1
  have h3 : ((G.vldG x.items && G.vldR x.items l) && decide (x.rigs.length < 50)) = true := by cases hb : ((G.vldG x.items && G.vldR x.items l) && decide (x.rigs.length < 50)); exact absurd hb h3; rfl
  obtain ⟨h3, h4⟩ := Bool.and_eq_true_iff.1 h3
  obtain ⟨h5, h6⟩ := Bool.and_eq_true_iff.1 h3
  have h4 := of_decide_eq_true h4
  obtain ⟨⟨q0, q1⟩, q2⟩ := vldR_parts h5 h6
  unfold thB at h1
  obtain ⟨a, b⟩ := wn_iff.1 h1
  refine ⟨{ hI with rl := by simp; omega, rs := fun r hr => ?_, rk := fun r hr => ?_ }, rfl, ?_⟩
  ·rcases List.mem_append.1 hr with hr | hr
   ·exact hI.rs r hr
   ·rw [List.mem_singleton.1 hr]; dsimp only; omega
  ·rcases List.mem_append.1 hr with hr | hr
   ·exact hI.rk r hr
   ·rw [List.mem_singleton.1 hr]; dsimp only
    exact ⟨q1, fun k hk => ⟨hc.2.2 k hk, (q2 k hk).2.1⟩⟩
  ·have e1 := nT_len i hc.1
   have go : ∀ q : List G.Lk, (∀ k ∈ q, k.nm.size <= 16 ∧ -1 <= k.fr ∧ k.fr <= 32) -> (q.flatMap fun k => 32 :: (k.nm.data.toList ++ 58 :: nT k.fr)).length <= 40 * q.length := fun q => by
    induction q with
    | nil => intro _; simp
    | cons k q ih =>
     intro hq
     have f1 := ih fun z hz => hq z (List.mem_cons_of_mem _ hz)
     obtain ⟨f2, f3, f4⟩ := hq k (List.mem_cons_self ..)
     have f5 := nT_len k.fr ⟨by omega, by omega⟩
     have f6 : k.nm.data.toList.length = k.nm.size := by simp
     simp only [List.flatMap_cons, List.length_append, List.length_cons]
     omega
   have f := go l fun k hk => (q2 k hk).2
   simp [txt, wsT] at f ⊢; omega
 | strike r =>
  unfold deed at h; dsimp only at h
  split at h; cases h
  rename_i h1
  split at h; cases h
  cases h
  have h1 : rtB x r = true := by simpa using h1
  refine ⟨{ hI with rl := by rw [List.length_set]; exact hI.rl, rs := fun q hq => ?_, rk := fun q hq => ?_ }, rfl, ?_⟩
  ·rcases List.mem_or_eq_of_mem_set hq with h3 | rfl
   ·exact hI.rs q h3
   ·unfold rtB at h1
    obtain ⟨a, b⟩ := wn_iff.1 h1
    unfold rigA
    rw [List.getD_eq_getElem?_getD]
    obtain ⟨z, hz⟩ := get_lt (l := x.rigs) (k := r.toNat) (by omega)
    rw [hz]
    exact hI.rs z (List.mem_of_getElem? hz)
  ·rcases List.mem_or_eq_of_mem_set hq with h3 | rfl
   ·exact hI.rk q h3
   ·exact ⟨by simp, fun k hk => by cases hk⟩
  ·have := nT_len r hc
   simp [txt, wsT]; omega
 | up i m =>
  unfold deed at h; dsimp only at h
  split at h; cases h
  rename_i h1
  split at h; cases h
  rename_i h2
  split at h; cases h
  rename_i h3
  split at h; cases h
  cases h
  have h1 : thB x i = true := by simpa using h1
  have h2 : wn m 2 16 = true := by simpa using h2
  have h3 : (!(siteA x i).fel && (decide (0 < (siteA x i).dogs.length) && decide (upN x + m <= x.x.men))) = true := by simpa using h3
  obtain ⟨m0, m1⟩ := wn_iff.1 h2
  have h4 := of_decide_eq_true (Bool.and_eq_true_iff.1 (Bool.and_eq_true_iff.1 h3).2).2
  have hm := siteA_mem h1
  have h5 := upN_ge (fun s hs => (hI.sm s hs).1) hm
  have h6 := (vSu_parts hI.su).2.2.2.2.2.2.2.2.2
  have h7 := hI.sm _ hm
  refine ⟨hI.setS i _ ⟨by dsimp only; omega, by dsimp only; omega⟩ (hI.sd (siteA x i) hm), rfl, ?_⟩
  have e1 := nT_len i hc.1
  have e2 := nT_len m hc.2
  simp [txt, wsT]; omega
 | down i m =>
  unfold deed at h; dsimp only at h
  split at h; cases h
  rename_i h1
  split at h; cases h
  rename_i h2
  split at h; cases h
  rename_i h3
  cases h
  have h1 : thB x i = true := by simpa using h1
  have h2 : wn m 1 16 = true := by simpa using h2
  have h3 : (decide (m <= (siteA x i).men) && !decide ((siteA x i).men - m = 1)) = true := by simpa using h3
  obtain ⟨m0, m1⟩ := wn_iff.1 h2
  have h4 := of_decide_eq_true (Bool.and_eq_true_iff.1 h3).1
  have hm := siteA_mem h1
  have h7 := hI.sm _ hm
  refine ⟨hI.setS i _ ⟨by dsimp only; omega, by dsimp only; omega⟩ (hI.sd (siteA x i) hm), rfl, ?_⟩
  have e1 := nT_len i hc.1
  have e2 := nT_len m hc.2
  simp [txt, wsT]; omega
 | lift r l =>
  unfold deed at h; dsimp only at h
  split at h; cases h
  rename_i h1
  split at h; cases h
  split at h; cases h
  split at h; cases h
  rename_i h4
  split at h; cases h
  cases h
  refine ⟨hI, rfl, ?_⟩
  have h1 : rtB x r = true := by simpa using h1
  have h4 : G.wkE x.items (rigA x r).lk x.back x.day l = 0 := by simpa using h4
  have h5 : (rigA x r).lk.length <= 32 := by
   unfold rtB at h1
   obtain ⟨a, b⟩ := wn_iff.1 h1
   unfold rigA
   rw [List.getD_eq_getElem?_getD]
   obtain ⟨z, hz⟩ := get_lt (l := x.rigs) (k := r.toNat) (by omega)
   rw [hz]
   exact (hI.rk z (List.mem_of_getElem? hz)).1
  have h6 : l.length <= 32 := by
   unfold G.wkE at h4
   split at h4
   ·split at h4
    ·split at h4
     ·rename_i h7
      have := G.endN_len (rigA x r).lk (rigA x r).lk.length
      omega
     ·cases h4
    ·cases h4
   ·cases h4
  have e1 := nT_len r hc.1
  have e2 := wsT_len l hc.2.2
  simp [txt, wsT] at e2 ⊢; omega
 | look m =>
  unfold deed at h; dsimp only at h
  split at h; cases h
  rename_i h1
  cases h
  have h1 : G.lkE x.items m (min (x.day + 180) 100000) = 0 := by simpa using h1
  have hL : G.lkL x.items m (min (x.day + 180) 100000) = G.setDu x.items (G.fndI x.items m).toNat (min (x.day + 180) 100000) := by unfold G.lkL; rw [if_pos h1]
  have h2 : wn (min (x.day + 180) 100000) 0 100000 = true ∧ 0 <= G.fndI x.items m := by
   unfold G.lkE at h1
   split at h1
   ·split at h1
    ·rename_i h3
     split at h1
     ·rename_i h4; exact ⟨h3, h4⟩
     ·cases h1
    ·cases h1
   ·cases h1
  have h3 := vld_set hI.it (G.fndI x.items m).toNat h2.1
  refine ⟨{ hI with it := by dsimp only; rw [hL]; exact h3, iw := fun i hi => ?_ }, rfl, ?_⟩
  ·dsimp only at hi
   rw [hL] at hi
   exact snd_iw (vldG_snd h3 i hi)
  ·have := fnd_size hI.it h2.2
   have e : m.data.toList.length = m.size := by simp
   simp [txt] at e ⊢; omega
 | call b =>
  unfold deed at h; dsimp only at h
  split at h; cases h
  rename_i h1
  split at h; cases h
  split at h; cases h
  rename_i h3
  cases h
  have h1 : G.nmB b = true := by simpa using h1
  have h4 := nm_size h1
  refine ⟨{ hI with bl := by simp; omega, bs := fun q hq => ?_ }, rfl, ?_⟩
  ·rcases List.mem_append.1 hq with h5 | h5
   ·exact hI.bs q h5
   ·rw [List.mem_singleton.1 h5]; exact h4
  ·have e : b.data.toList.length = b.size := by simp
   simp [txt] at e ⊢; omega
 | cut i =>
  unfold deed at h; dsimp only at h
  split at h; cases h
  rename_i h1
  split at h; cases h
  split at h; cases h
  split at h; cases h
  split at h; cases h
  cases h
  have h1 : thB x i = true := by simpa using h1
  have hm := siteA_mem h1
  refine ⟨hI.setS i _ (hI.sm (siteA x i) hm) (by simp), rfl, ?_⟩
  have := nT_len i hc
  simp [txt, wsT]; omega
 | bill i =>
  unfold deed at h; dsimp only at h
  split at h; cases h
  split at h; cases h
  split at h; cases h
  split at h; cases h
  rename_i h4
  cases h
  have h8 := pri_bd (h := (S.heightR (stkA x i)).1) (vSu_parts hI.su).2.2.2.2.2.2.2.1
  have := hI.m0
  refine ⟨{ hI with m0 := by dsimp only; omega, m1 := by dsimp only; omega }, rfl, ?_⟩
  have := nT_len i hc
  simp [txt, wsT]; omega
theorem Inv.line {x : St} (h : Inv x) (hl : x.lines.length < 2000) {t : ByteArray} (ht : t.size <= 100000) : Inv { x with lines := x.lines ++ [wrt x.lines x.day t] } :=
 { h with
  ll := by simp; omega
  lt := fun e he => by
   rcases List.mem_append.1 he with h1 | h1
   ·exact h.lt e h1
   ·rw [List.mem_singleton.1 h1]
    have := h.d0
    have := h.d1
    refine ⟨ht, hsh_lt _, ?_, ?_, ?_, ?_⟩ <;> (unfold wrt; dsimp only; omega) }
theorem inv_doC {c : Cm} {x : St} (hI : Inv x) (hc : CmOk c) : Inv (doC c x).2 := by
 unfold doC
 by_cases h1 : ¬ x.lines.length < 2000
 ·rw [if_pos h1]; exact hI
 ·rw [if_neg h1]
  cases hd : deed c x with
  | error e => exact hI
  | ok y =>
   dsimp only
   obtain ⟨h2, h3, h4⟩ := inv_deed hI hc hd
   exact h2.line (by rw [h3]; omega) (by rw [bts_size]; omega)
theorem inv_new {x : Su} (h : vSu x = true) : Inv (new x) := by
 have hp := vSu_parts h
 have hg := hp.2.2.2.2.2.1
 have hw : ∀ i ∈ x.gear, G.IW i := fun i hi => snd_iw (vldG_snd hg i hi)
 unfold new
 exact { su := h, gw := hw, d0 := (by dsimp only; omega), d1 := (by dsimp only; omega), gl := (by simp), gb := (fun g hg => by cases hg), rl := (by simp), rs := (fun r hr => by cases hr), rk := (fun r hr => by cases hr)
         sl := (by simp), sm := (fun s hs => by obtain ⟨_, _, rfl⟩ := List.mem_map.1 hs; dsimp only; omega), sd := (fun s hs => by obtain ⟨_, _, rfl⟩ := List.mem_map.1 hs; simp)
         it := hg, iw := hw, bl := (by simp), bs := (fun b hb => by cases hb), m0 := (by dsimp only; omega), m1 := (by dsimp only; omega), ll := (by simp), lt := (fun e he => by cases he) }
theorem bst_fol {c : Cl} {l : List Jt} {b : Int} {i : Nat} (h : bstN c l b = some i) : i < l.length ∧ 0 < ndA c l i ∧ folB c l b i = true := by
 have go : ∀ (s : List Nat) (a : Option Nat), (∀ k ∈ s, k < l.length) -> (∀ k, a = some k -> k < l.length ∧ 0 < ndA c l k ∧ folB c l b k = true) -> ∀ k, s.foldl (btr c l b) a = some k -> k < l.length ∧ 0 < ndA c l k ∧ folB c l b k = true := by
  intro s
  induction s with
  | nil => intro a _ ha k hk; exact ha k hk
  | cons x s ih =>
   intro a hs ha k hk
   rw [List.foldl_cons] at hk
   refine ih _ (fun y hy => hs y (List.mem_cons_of_mem _ hy)) ?_ k hk
   intro y hy
   unfold btr at hy
   split at hy
   ·rename_i hc
    rw [Bool.and_eq_true, decide_eq_true_eq] at hc
    have hx := hs x (List.mem_cons_self ..)
    cases a with
    | none => cases hy; exact ⟨hx, hc.1, hc.2⟩
    | some z =>
     dsimp only at hy
     split at hy
     ·cases hy; exact ⟨hx, hc.1, hc.2⟩
     ·exact ha y hy
   ·exact ha y hy
 exact go (sdN l l.length) none (fun k hk => (sdN_mem hk).1) (fun k hk => by cases hk) i h
theorem nd_last {c : Cl} {l : List Jt} {i : Nat} (hi : i < l.length) (h : ndA c l i = 1) : lastB c (jAt l i) = true := by
 have hj : l[i]? = some (jAt l i) := by unfold jAt; rw [List.getElem?_eq_getElem hi]; rfl
 rw [ndA_head hj] at h
 split at h
 ·split at h
  ·assumption
  ·rcases upF_mem _ _ _ (by omega) (by rw [List.foldl_map]; exact h : (List.map (fun q : Jt × Int => q.2) _).foldl upM 0 = 1) with h1 | ⟨h1, _⟩
   ·omega
   ·omega
 ·omega
structure Chn (c : Cl) (l : List Jt) (b : Int) (d : List Nat) : Prop where
 ne : 0 < d.length
 at_ : ∀ i, i < d.length -> d.getD i 0 < l.length ∧ (jAt l (d.getD i 0)).s = true ∧ folB c l (if i = 0 then b else ((d.getD (i - 1) 0 : Nat) : Int)) (d.getD i 0) = true
 last : lastB c (jAt l (d.getD (d.length - 1) 0)) = true
theorem few_chn {c : Cl} {l : List Jt} : ∀ (k : Nat) (b : Int) (d : List Nat), fewF c l k b = some d -> Chn c l b d
 | 0, b, d, h => by simp [fewF] at h
 | k + 1, b, d, h => by
  rw [fewF_step] at h
  cases hb : bstN c l b with
  | none => rw [hb] at h; cases h
  | some i =>
   rw [hb] at h
   dsimp only at h
   obtain ⟨h1, h2, h3⟩ := bst_fol hb
   have hs : (jAt l i).s = true := by
    cases hq : (jAt l i).s
    ·have := ndA_sound (c := c) hq; omega
    ·rfl
   split at h
   ·rename_i hn
    cases h
    exact ⟨by simp, fun j hj => by
     have : j = 0 := by simpa using hj
     subst this
     exact ⟨h1, hs, h3⟩, nd_last h1 hn⟩
   ·rename_i hn
    cases hr : fewF c l k i with
    | none => rw [hr] at h; cases h
    | some r =>
     rw [hr] at h
     cases h
     obtain ⟨q1, q2, q3⟩ := few_chn k i r hr
     refine ⟨by simp, fun j hj => ?_, ?_⟩
     ·cases j with
      | zero => exact ⟨h1, hs, h3⟩
      | succ j =>
       have hj' : j < r.length := by simpa using hj
       have := q2 j hj'
       rw [List.getD_cons_succ]
       refine ⟨this.1, this.2.1, ?_⟩
       have h4 := this.2.2
       cases j with
       | zero => exact h4
       | succ j => exact h4
     ·rw [List.length_cons, Nat.add_sub_cancel]
      obtain ⟨n, hn2⟩ : ∃ n, r.length = n + 1 := ⟨r.length - 1, by omega⟩
      rw [hn2, List.getD_cons_succ]
      rw [hn2] at q3
      exact q3
theorem zA_toZ (d : List Nat) (i : Nat) : zA (toZ d) i = ((d.getD i 0 : Nat) : Int) := by
 unfold zA toZ
 rw [List.getD_eq_getElem?_getD, List.getD_eq_getElem?_getD, List.getElem?_map]
 cases d[i]? <;> rfl
theorem few_right {c : Cl} {l : List Jt} {d : List Nat} (hv : (vCl c && vJ l) = true) (h : fewN c l = some d) : rgtB c l (toZ d) = true := by
 obtain ⟨h1, h2, h3⟩ := few_chn _ _ _ h
 have hl : (toZ d).length = d.length := by simp [toZ]
 have h4 : ascB l.length (toZ d) = true := by
  unfold ascB
  rw [List.all_eq_true]
  intro i hi
  rw [List.mem_range, hl] at hi
  obtain ⟨a1, a2, a3⟩ := h2 i hi
  unfold okA wn
  rw [zA_toZ, zA_toZ]
  simp only [Bool.and_eq_true, Bool.or_eq_true, decide_eq_true_eq]
  refine ⟨⟨by omega, by omega⟩, ?_⟩
  by_cases hi0 : i = 0
  ·exact .inl hi0
  ·right
   rw [if_neg hi0] at a3
   unfold folB at a3
   rw [if_neg (by omega), Bool.and_eq_true, decide_eq_true_eq] at a3
   exact a3.1
 have h5 : ((List.range (toZ d).length).all (stpB c l (toZ d))) = true := by
  rw [List.all_eq_true]
  intro i hi
  rw [List.mem_range, hl] at hi
  obtain ⟨a1, a2, a3⟩ := h2 i hi
  unfold stpB befA
  rw [zA_toZ, zA_toZ, Int.toNat_natCast, a2, a3]
  rfl
 unfold rgtB
 rw [hv, h4, h5, hl, zA_toZ, Int.toNat_natCast, h3, decide_eq_true h1]
 rfl
theorem fewL_right {c : Cl} {l : List Jt} (h : fewE c l = 0) : rgtB c l (fewL c l) = true := by
 unfold fewE at h
 unfold fewL
 split at h
 ·rename_i hv
  rw [if_pos hv]
  cases hd : fewN c l with
  | none => rw [hd] at h; cases h
  | some d => exact few_right hv hd
 ·cases h
def hungL (x : St) : List (List UInt8) := x.rigs.flatMap fun r => r.lk.map fun k => k.nm.data.toList
structure Safe (x : St) : Prop where
 up : upN x <= x.x.men
 go : upN x = 0 ∨ goB x x.gusts = true
 site : ∀ s ∈ x.sites, s.men ≠ 1 ∧ (0 < s.men -> s.fel = false ∧ 0 < s.dogs.length)
 dg : ∀ (i : Nat) (s : Sit), x.sites[i]? = some s -> s.dogs = [] ∨ rgtB x.x.cl (jntA x (i : Int)) s.dogs = true
 rg : ∀ r ∈ x.rigs, r.lk = [] ∨ G.vldR x.items r.lk = true
 once : (hungL x).Nodup
theorem upF (l : List Sit) : ∀ a : Int, l.foldl (fun a s => a + s.men) a = a + l.foldl (fun a s => a + s.men) 0 := by
 induction l with
 | nil => intro a; simp
 | cons s l ih =>
  intro a
  rw [List.foldl_cons, List.foldl_cons, ih, ih (0 + s.men)]
  omega
theorem upF_set : ∀ (l : List Sit) (i : Nat) (s t : Sit), l[i]? = some s -> (l.set i t).foldl (fun a s => a + s.men) 0 = l.foldl (fun a s => a + s.men) (0 : Int) - s.men + t.men
 | [], i, s, t, h => by simp at h
 | y :: l, 0, s, t, h => by
  cases h
  rw [List.set_cons_zero, List.foldl_cons, List.foldl_cons, upF, upF l (0 + y.men)]
  omega
 | y :: l, i + 1, s, t, h => by
  rw [List.set_cons_succ, List.foldl_cons, List.foldl_cons, upF, upF l, upF_set l i s t h]
  omega
theorem siteA_get {x : St} {i : Int} (h : thB x i = true) : x.sites[i.toNat]? = some (siteA x i) := by
 unfold thB at h
 obtain ⟨h1, h2⟩ := wn_iff.1 h
 have hl : i.toNat < x.sites.length := by omega
 unfold siteA
 rw [List.getD_eq_getElem?_getD, List.getElem?_eq_getElem hl]; rfl
theorem upN_set {x : St} {i : Int} (h : thB x i = true) (t : Sit) : upN (setS x i t) = upN x - (siteA x i).men + t.men := upF_set _ _ _ t (siteA_get h)
theorem Safe.set {x : St} (h : Safe x) {i : Int} (hi : thB x i = true) (t : Sit) (h1 : upN x - (siteA x i).men + t.men <= x.x.men) (h2 : upN x - (siteA x i).men + t.men = 0 ∨ goB x x.gusts = true)
  (h3 : t.men ≠ 1 ∧ (0 < t.men -> t.fel = false ∧ 0 < t.dogs.length)) (h4 : t.dogs = [] ∨ rgtB x.x.cl (jntA x i) t.dogs = true) : Safe (setS x i t) := by
 have hu := upN_set hi t
 have hi0 : ((i.toNat : Nat) : Int) = i := by
  unfold thB at hi
  have := (wn_iff.1 hi).1
  omega
 refine ⟨by rw [hu]; exact h1, by rw [hu]; exact h2, fun s hs => ?_, fun k s hs => ?_, h.rg, h.once⟩
 ·rcases List.mem_or_eq_of_mem_set hs with h5 | rfl
  ·exact h.site s h5
  ·exact h3
 ·have hs : (x.sites.set i.toNat t)[k]? = some s := hs
  rw [List.getElem?_set] at hs
  split at hs
  ·rename_i hk
   split at hs
   ·cases hs
    rw [← hk, hi0]
    exact h4
   ·cases hs
  ·exact h.dg k s hs
theorem Safe.zero {x : St} (h : Inv x) (h0 : upN x = 0) : ∀ s ∈ x.sites, s.men = 0 := fun s hs => by
 have h1 := upN_ge (fun s hs => (h.sm s hs).1) hs
 have := (h.sm s hs).1
 omega
theorem okL_set {g : List G.It} {r : List G.Lk} (i : Nat) (d : Int) (h : G.vldR g r = true) : G.vldR (G.setDu g i d) r = true := by
 unfold G.vldR at h ⊢
 rw [Bool.and_eq_true] at h ⊢
 refine ⟨?_, h.2⟩
 rw [List.all_eq_true] at h ⊢
 intro k hk
 have := h.1 k hk
 unfold G.okL at this ⊢
 rw [fnd_set]
 exact this
theorem mk_get {r : List G.Lk} {k : Nat} {x : G.Lk} (h : r[k]? = some x) : G.lkAt r k = x := by unfold G.lkAt; rw [h]; rfl
theorem vldR_once {g : List G.It} {r : List G.Lk} (h : G.vldR g r = true) : (r.map fun k => k.nm.data.toList).Nodup := by
 unfold G.vldR at h
 rw [Bool.and_eq_true, List.all_eq_true] at h
 rw [List.Nodup, List.pairwise_iff_getElem]
 intro i j hi hj hij heq
 rw [List.length_map] at hi hj
 rw [List.getElem_map, List.getElem_map] at heq
 have h1 := h.1 j (List.mem_range.2 hj)
 have hx : r[j]? = some r[j] := List.getElem?_eq_getElem hj
 unfold G.okL at h1
 rw [mk_get hx] at h1
 have h2 := G.fndl_of (g := r) (s := (r[j]).nm) (i := i) (x := r[i]) (List.getElem?_eq_getElem hi) (by rw [ByteArray.toList_eq, ByteArray.toList_eq]; exact heq)
 simp only [Bool.and_eq_true, Bool.not_eq_true', decide_eq_false_iff_not] at h1
 omega
theorem hang_of {x : St} {m : ByteArray} (h : hangB x m = false) : m.data.toList ∉ hungL x := by
 intro hm
 unfold hungL at hm
 rw [List.mem_flatMap] at hm
 obtain ⟨r, hr, hm⟩ := hm
 rw [List.mem_map] at hm
 obtain ⟨k, hk, he⟩ := hm
 have : hangB x m = true := by
  unfold hangB
  rw [List.any_eq_true]
  exact ⟨r, hr, List.any_eq_true.2 ⟨k, hk, by unfold eqB; exact decide_eq_true he⟩⟩
 rw [this] at h; cases h
theorem hung_set {R : List Rig} {i : Nat} {a : Int} : ((R.set i ⟨a, []⟩).flatMap fun r => r.lk.map fun k => k.nm.data.toList).Sublist (R.flatMap fun r => r.lk.map fun k => k.nm.data.toList) := by
 induction R generalizing i with
 | nil => simp
 | cons r R ih =>
  cases i with
  | zero =>
   rw [List.set_cons_zero, List.flatMap_cons, List.flatMap_cons]
   exact List.sublist_append_right _ _
  | succ i =>
   rw [List.set_cons_succ, List.flatMap_cons, List.flatMap_cons]
   exact List.Sublist.append_left ih _
theorem safe_deed {c : Cm} {x y : St} (hI : Inv x) (hS : Safe x) (h : deed c x = .ok y) : Safe y := by
 cases c with
 | gust g =>
  unfold deed at h; dsimp only at h
  split at h; cases h
  split at h; cases h
  split at h; cases h
  rename_i h3
  cases h
  have h3 : (decide (upN x = 0) || goB x (x.gusts ++ [g])) = true := eq_true_of_ne_false h3
  rw [Bool.or_eq_true, decide_eq_true_eq] at h3
  exact ⟨hS.up, h3, hS.site, hS.dg, hS.rg, hS.once⟩
 | day =>
  unfold deed at h; dsimp only at h
  split at h; cases h
  rename_i h1
  cases h
  have h1 : (decide (upN x = 0) && decide (x.day < 100000)) = true := by simpa using h1
  rw [Bool.and_eq_true, decide_eq_true_eq] at h1
  exact ⟨hS.up, .inl h1.1, hS.site, hS.dg, hS.rg, hS.once⟩
 | dog i =>
  unfold deed at h; dsimp only at h
  split at h; cases h
  rename_i h1
  split at h; cases h
  rename_i h2
  split at h; cases h
  split at h; cases h
  rename_i h4
  cases h
  have h1 : thB x i = true := by simpa using h1
  have h2 : (!(siteA x i).fel && decide ((siteA x i).dogs.length = 0)) = true := by simpa using h2
  rw [Bool.and_eq_true, decide_eq_true_eq] at h2
  have h4 : fewE x.x.cl (jntA x i) = 0 := by simpa using h4
  have hr := fewL_right h4
  have hm := hS.site _ (siteA_mem h1)
  refine hS.set h1 _ (by dsimp only; have := hS.up; omega) (by dsimp only; rcases hS.go with h | h; exact .inl (by omega); exact .inr h) ⟨hm.1, fun h0 => ?_⟩ (.inr hr)
  have := (hm.2 h0).2
  omega
 | rig i l =>
  unfold deed at h; dsimp only at h
  split at h; cases h
  split at h; cases h
  split at h; cases h
  rename_i h3
  split at h; cases h
  rename_i h4
  cases h
  have h3 : ((G.vldG x.items && G.vldR x.items l) && decide (x.rigs.length < 50)) = true := eq_true_of_ne_false h3
  have h5 : G.vldR x.items l = true := (Bool.and_eq_true_iff.1 (Bool.and_eq_true_iff.1 h3).1).2
  have h4 : l.any (badK x) = false := by simpa using h4
  refine ⟨hS.up, hS.go, hS.site, hS.dg, fun r hr => ?_, ?_⟩
  ·rcases List.mem_append.1 hr with h6 | h6
   ·exact hS.rg r h6
   ·rw [List.mem_singleton.1 h6]; exact .inr h5
  ·show (List.flatMap _ (x.rigs ++ [⟨i, l⟩])).Nodup
   rw [List.flatMap_append, List.flatMap_cons, List.flatMap_nil, List.append_nil, List.nodup_append]
   refine ⟨hS.once, vldR_once h5, ?_⟩
   intro a ha b hb hab
   subst hab
   rw [List.mem_map] at hb
   obtain ⟨k, hk, rfl⟩ := hb
   have h7 : badK x k = false := by
    rw [List.any_eq_false] at h4
    simpa using h4 k hk
   unfold badK at h7
   exact hang_of (Bool.or_eq_false_iff.1 h7).1 ha
 | strike r =>
  unfold deed at h; dsimp only at h
  split at h; cases h
  split at h; cases h
  cases h
  refine ⟨hS.up, hS.go, hS.site, hS.dg, fun q hq => ?_, hS.once.sublist hung_set⟩
  rcases List.mem_or_eq_of_mem_set hq with h6 | rfl
  ·exact hS.rg q h6
  ·exact .inl rfl
 | up i m =>
  unfold deed at h; dsimp only at h
  split at h; cases h
  rename_i h1
  split at h; cases h
  rename_i h2
  split at h; cases h
  rename_i h3
  split at h; cases h
  rename_i h4
  cases h
  have h1 : thB x i = true := by simpa using h1
  have h2 : wn m 2 16 = true := by simpa using h2
  have h2 := wn_iff.1 h2
  have h3 : (!(siteA x i).fel && (decide (0 < (siteA x i).dogs.length) && decide (upN x + m <= x.x.men))) = true := by simpa using h3
  simp only [Bool.and_eq_true, Bool.not_eq_true', decide_eq_true_eq] at h3
  have h4 : goB x x.gusts = true := by simpa using h4
  have hm := (hI.sm _ (siteA_mem h1)).1
  refine hS.set h1 _ (by dsimp only; omega) (.inr h4) ⟨by dsimp only; omega, fun _ => ⟨h3.1, h3.2.1⟩⟩ ?_
  have := hS.dg _ _ (siteA_get h1)
  have hi0 : ((i.toNat : Nat) : Int) = i := by
   unfold thB at h1
   have := (wn_iff.1 h1).1
   omega
  rwa [hi0] at this
 | down i m =>
  unfold deed at h; dsimp only at h
  split at h; cases h
  rename_i h1
  split at h; cases h
  rename_i h2
  split at h; cases h
  rename_i h3
  cases h
  have h1 : thB x i = true := by simpa using h1
  have h2 : wn m 1 16 = true := by simpa using h2
  have h2 := wn_iff.1 h2
  have h3 : (decide (m <= (siteA x i).men) && !decide ((siteA x i).men - m = 1)) = true := by simpa using h3
  simp only [Bool.and_eq_true, Bool.not_eq_true', decide_eq_true_eq, decide_eq_false_iff_not] at h3
  have hm := hS.site _ (siteA_mem h1)
  have hup := hS.up
  have hge := upN_ge (fun s hs => (hI.sm s hs).1) (siteA_mem h1)
  refine hS.set h1 _ (by dsimp only; omega) ?_ ⟨h3.2, fun h0 => hm.2 (by dsimp only at h0; omega)⟩ ?_
  ·rcases hS.go with h | h
   ·omega
   ·exact .inr h
  ·have := hS.dg _ _ (siteA_get h1)
   have hi0 : ((i.toNat : Nat) : Int) = i := by
    unfold thB at h1
    have := (wn_iff.1 h1).1
    omega
   rwa [hi0] at this
 | lift r l =>
  unfold deed at h; dsimp only at h
  split at h; cases h
  split at h; cases h
  split at h; cases h
  split at h; cases h
  split at h; cases h
  cases h
  exact hS
 | look m =>
  unfold deed at h; dsimp only at h
  split at h; cases h
  rename_i h1
  cases h
  have h1 : G.lkE x.items m (min (x.day + 180) 100000) = 0 := by simpa using h1
  refine ⟨hS.up, hS.go, hS.site, hS.dg, fun r hr => ?_, hS.once⟩
  rcases hS.rg r hr with h2 | h2
  ·exact .inl h2
  ·right
   show G.vldR (G.lkL x.items m (min (x.day + 180) 100000)) r.lk = true
   unfold G.lkL
   rw [if_pos h1]
   exact okL_set _ _ h2
 | call b =>
  unfold deed at h; dsimp only at h
  split at h; cases h
  split at h; cases h
  split at h; cases h
  cases h
  exact ⟨hS.up, hS.go, hS.site, hS.dg, hS.rg, hS.once⟩
 | cut i =>
  unfold deed at h; dsimp only at h
  split at h; cases h
  rename_i h1
  split at h; cases h
  rename_i h2
  split at h; cases h
  split at h; cases h
  split at h; cases h
  cases h
  have h1 : thB x i = true := by simpa using h1
  have h2 : (!(siteA x i).fel && (decide (upN x = 0) && !rggB x i)) = true := by simpa using h2
  simp only [Bool.and_eq_true, Bool.not_eq_true', decide_eq_true_eq] at h2
  have hz := Safe.zero hI h2.2.1 _ (siteA_mem h1)
  refine hS.set h1 _ (by dsimp only; have := hS.up; omega) (.inl (by dsimp only; omega)) ⟨by dsimp only; omega, fun h0 => by dsimp only at h0; omega⟩ (.inl rfl)
 | bill i =>
  unfold deed at h; dsimp only at h
  split at h; cases h
  split at h; cases h
  split at h; cases h
  split at h; cases h
  cases h
  exact ⟨hS.up, hS.go, hS.site, hS.dg, hS.rg, hS.once⟩
theorem safe_doC {c : Cm} {x : St} (hI : Inv x) (hS : Safe x) : Safe (doC c x).2 := by
 unfold doC
 split
 ·exact hS
 ·split
  ·exact hS
  ·rename_i y hy
   have := safe_deed hI hS hy
   exact ⟨this.up, this.go, this.site, this.dg, this.rg, this.once⟩
theorem safe_new (x : Su) (h : vSu x = true) : Safe (new x) := by
 have hz : ∀ l : List (List S.Course), ((l.map fun _ => (⟨[], false, 0⟩ : Sit))).foldl (fun a s => a + s.men) 0 = 0 := by
  intro l
  induction l with
  | nil => rfl
  | cons a l ih => rw [List.map_cons, List.foldl_cons]; exact ih
 have hu : upN (new x) = 0 := hz x.stk
 have hm := (vSu_parts h).2.2.2.2.2.2.2.2
 refine ⟨by rw [hu]; have := hm.1; show 0 <= x.men; omega, .inl hu, fun s hs => ?_, fun i s hs => ?_, fun r hr => (by cases hr), (by unfold hungL new; simp)⟩
 ·obtain ⟨_, _, rfl⟩ := List.mem_map.1 hs
  exact ⟨by decide, fun h => absurd h (by decide)⟩
 ·left
  have := List.mem_of_getElem? hs
  obtain ⟨_, _, rfl⟩ := List.mem_map.1 this
  rfl
end Go.Proofs.YtgemlddincnfcaaGreatDoor.Fi
