/- The parts of the proof, part 12. -/
import Derived.Test.YtmjgljdmjpabdaaGreatDoorP0
import Derived.Test.YtmjgljdmjpabdaaGreatDoorP2
import Derived.Test.YtmjgljdmjpabdaaGreatDoorP3
import Derived.Test.YtmjgljdmjpabdaaGreatDoorP6
import Derived.Test.YtmjgljdmjpabdaaGreatDoorP10
import Derived.Test.YtmjgljdmjpabdaaGreatDoorP11
import Derived.Deep.AppendLies
set_option linter.unusedSimpArgs false
set_option linter.unusedVariables false
namespace Go.Proofs.YtmjgljdmjpabdaaGreatDoor.Fi
open Go.Lib Tx
abbrev wn (n lo hi : Int) : Bool := decide (lo ≤ n) && decide (n ≤ hi)
structure Jt where
  h : Int
  s : Bool
structure Cl where
  fi : Int
  ga : Int
  tp : Int
  le : Int
  la : Int
  st : Int
structure Rt where
  lo : Int
  hi : Int
  ab : Int
  co : Int
def jAt (l : List Jt) (i : Nat) : Jt := l[i]?.getD ⟨0, false⟩
def okJ (l : List Jt) (i : Nat) : Bool := wn (jAt l i).h 1 200000 && (decide (i = 0) || decide ((jAt l (i - 1)).h < (jAt l i).h))
def vJ (l : List Jt) : Bool := (List.range l.length).all (okJ l) && decide (l.length ≤ 200)
def vCl (c : Cl) : Bool := wn c.fi 1 200000 && (wn c.ga 1 200000 && (wn c.tp 1 200000 && (wn c.le 1 200000 && (wn c.la 0 (c.le - 1) && wn c.st 1 1000000))))
def sdN (l : List Jt) (k : Nat) : List Nat := (List.range k).filter fun i => (jAt l i).s
def folB (c : Cl) (l : List Jt) (b : Int) (n : Nat) : Bool := if b < 0 then decide ((jAt l n).h ≤ c.fi) else decide (b < (n : Int)) && decide ((jAt l n).h - (jAt l b.toNat).h ≤ c.ga)
def lastB (c : Cl) (j : Jt) : Bool := decide (c.tp ≤ j.h + c.ga)
def upM (a m : Int) : Int := if 0 < m ∧ (a = 0 ∨ m + 1 < a) then m + 1 else a
def nds (c : Cl) : List Jt → List Int
  | [] => []
  | j :: r => (if j.s = true then (if lastB c j = true then 1 else ((r.zip (nds c r)).filter fun q => decide (q.1.h - j.h ≤ c.ga)).foldl (fun a q => upM a q.2) 0) else 0) :: nds c r
def ndA (c : Cl) (l : List Jt) (i : Nat) : Int := (nds c l).getD i 0
def btr (c : Cl) (l : List Jt) (at0 : Int) (b : Option Nat) (i : Nat) : Option Nat :=
  if (decide (0 < ndA c l i) && folB c l at0 i) = true then (match b with | none => some i | some k => if ndA c l i < ndA c l k then some i else some k) else b
def bstN (c : Cl) (l : List Jt) (at0 : Int) : Option Nat := (sdN l l.length).foldl (btr c l at0) none
def fewF (c : Cl) (l : List Jt) : Nat → Int → Option (List Nat)
  | 0, _ => none
  | k + 1, b => match bstN c l b with
    | none => none
    | some i => if ndA c l i = 1 then some [i] else (fewF c l k i).map (i :: ·)
def fewN (c : Cl) (l : List Jt) : Option (List Nat) := fewF c l (l.length + 1) (-1)
def toZ (l : List Nat) : List Int := l.map fun n : Nat => (n : Int)
def fewL (c : Cl) (l : List Jt) : List Int := if (vCl c && vJ l) = true then (match fewN c l with | some d => toZ d | none => []) else []
def fewE (c : Cl) (l : List Jt) : Int := if (vCl c && vJ l) = true then (match fewN c l with | some _ => 0 | none => 8) else 1
def vRt (r : Rt) : Bool := wn r.hi 1 200000 && (wn r.lo 0 1000000 && (wn r.ab 0 1000000 && wn r.co 0 1000000))
def mtr (h : Int) : Int := (h + 999) / 1000
def priE (r : Rt) (h : Int) : Int := if vRt r = true then (if wn h 0 200000 = true then 0 else 7) else 1
def priV (r : Rt) (h : Int) : Int := if priE r h = 0 then r.co + r.lo * mtr (min h r.hi) + r.ab * mtr (max 0 (h - r.hi)) else 0
def hshS (a : Nat) (c : UInt8) : Nat := ((a ^^^ c.toNat) * 1099511628211) % 18446744073709551616
def hsh (s : List UInt8) : Nat := s.foldl hshS 14695981039346656037
structure En where
  n : Int
  d : Int
  t : ByteArray
  s : Nat
structure Su where
  stk : List (List S.Course)
  jnt : List (List Jt)
  cl : Cl
  gear : List G.It
  ru : V.Ru
  rt : Rt
  men : Int
structure Sit where
  dogs : List Int
  fel : Bool
  men : Int
structure Rig where
  st : Int
  lk : List G.Lk
structure St where
  x : Su
  day : Int
  gusts : List Int
  rigs : List Rig
  sites : List Sit
  items : List G.It
  back : List ByteArray
  money : Int
  lines : List En
inductive Cm where
  | gust (g : Int)
  | day
  | dog (s : Int)
  | rig (s : Int) (l : List G.Lk)
  | strike (r : Int)
  | up (s m : Int)
  | down (s m : Int)
  | lift (r : Int) (l : List Int)
  | look (m : ByteArray)
  | call (b : ByteArray)
  | cut (s : Int)
  | bill (s : Int)
def vSu (x : Su) : Bool := wn x.stk.length 1 8 && (decide (x.jnt.length = x.stk.length) && (x.stk.all S.validC && (x.jnt.all vJ && (vCl x.cl && (G.vldG x.gear && (V.vRu x.ru && (vRt x.rt && wn x.men 1 16)))))))
def new (x : Su) : St := ⟨x, 0, [], [], x.stk.map (fun _ => ⟨[], false, 0⟩), x.gear, [], 0, []⟩
def nT (n : Int) : List UInt8 := itoa n
def wsT (l : List Int) : List UInt8 := l.flatMap fun n => 32 :: nT n
def sumL (b : Nat) (n d : Int) (t : List UInt8) : Nat := hsh (decDigits b ++ 32 :: (nT n ++ 32 :: (nT d ++ 32 :: t)))
def lastS (l : List En) : Nat := match l.getLast? with | some x => x.s | none => 0
def wrt (l : List En) (d : Int) (t : ByteArray) : En := ⟨l.length, d, t, sumL (lastS l) l.length d t.data.toList⟩
def siteA (x : St) (i : Int) : Sit := x.sites.getD i.toNat ⟨[], false, 0⟩
def rigA (x : St) (i : Int) : Rig := x.rigs.getD i.toNat ⟨0, []⟩
def stkA (x : St) (i : Int) : List S.Course := x.x.stk.getD i.toNat []
def jntA (x : St) (i : Int) : List Jt := x.x.jnt.getD i.toNat []
def upN (x : St) : Int := x.sites.foldl (fun a s => a + s.men) 0
def goB (x : St) (g : List Int) : Bool := decide (V.rsE x.x.ru g = 10)
def setS (x : St) (i : Int) (s : Sit) : St := { x with sites := x.sites.set i.toNat s }
def eqB (a b : ByteArray) : Bool := decide (a.data.toList = b.data.toList)
def memB (l : List ByteArray) (s : ByteArray) : Bool := l.any fun y => eqB y s
def hangB (x : St) (m : ByteArray) : Bool := x.rigs.any fun r => r.lk.any fun k => eqB k.nm m
def badK (x : St) (k : G.Lk) : Bool := hangB x k.nm || (decide ((G.itAt x.items (G.fndI x.items k.nm).toNat).du < x.day) || memB x.back (G.itAt x.items (G.fndI x.items k.nm).toNat).bt)
def rggB (x : St) (i : Int) : Bool := x.rigs.any fun r => decide (r.st = i) && decide (0 < r.lk.length)
def gstP (x : St) : Int := min (max 0 (x.gusts.getLastD 0) * max 0 (x.gusts.getLastD 0) / 20) 10000
def thB (x : St) (i : Int) : Bool := wn i 0 (x.sites.length - 1)
def rtB (x : St) (i : Int) : Bool := wn i 0 (x.rigs.length - 1)
def deed (c : Cm) (x : St) : Except Int St := match c with
  | .gust g => if wn g (-1) 200 = false then .error 7 else if ¬ x.gusts.length < 2000 then .error 10 else if (decide (upN x = 0) || goB x (x.gusts ++ [g])) = false then .error 11 else .ok { x with gusts := x.gusts ++ [g] }
  | .day => if (decide (upN x = 0) && decide (x.day < 100000)) = false then .error 10 else .ok { x with day := x.day + 1, gusts := [] }
  | .dog i => if thB x i = false then .error 5 else if (!(siteA x i).fel && decide ((siteA x i).dogs.length = 0)) = false then .error 10 else if goB x x.gusts = false then .error 11
      else if fewE x.x.cl (jntA x i) ≠ 0 then .error (fewE x.x.cl (jntA x i)) else .ok (setS x i { siteA x i with dogs := fewL x.x.cl (jntA x i) })
  | .rig i l => if thB x i = false then .error 5 else if (siteA x i).fel = true then .error 10 else if ((G.vldG x.items && G.vldR x.items l) && decide (x.rigs.length < 50)) = false then .error 1
      else if l.any (badK x) = true then .error 12 else .ok { x with rigs := x.rigs ++ [⟨i, l⟩] }
  | .strike r => if rtB x r = false then .error 5 else if (decide (0 < (rigA x r).lk.length) && decide ((siteA x (rigA x r).st).men = 0)) = false then .error 10
      else .ok { x with rigs := x.rigs.set r.toNat ⟨(rigA x r).st, []⟩ }
  | .up i m => if thB x i = false then .error 5 else if wn m 2 16 = false then .error 7
      else if (!(siteA x i).fel && (decide (0 < (siteA x i).dogs.length) && decide (upN x + m ≤ x.x.men))) = false then .error 10 else if goB x x.gusts = false then .error 11
      else .ok (setS x i { siteA x i with men := (siteA x i).men + m })
  | .down i m => if thB x i = false then .error 5 else if wn m 1 16 = false then .error 7
      else if (decide (m ≤ (siteA x i).men) && !decide ((siteA x i).men - m = 1)) = false then .error 10
      else .ok (setS x i { siteA x i with men := (siteA x i).men - m })
  | .lift r l => if rtB x r = false then .error 5 else if (decide (0 < (rigA x r).lk.length) && decide (0 < (siteA x (rigA x r).st).men)) = false then .error 10 else if goB x x.gusts = false then .error 11
      else if G.wkE x.items (rigA x r).lk x.back x.day l ≠ 0 then .error (G.wkE x.items (rigA x r).lk x.back x.day l) else if G.mayB x.items (rigA x r).lk x.back x.day l = false then .error 12 else .ok x
  | .look m => if G.lkE x.items m (min (x.day + 180) 100000) ≠ 0 then .error (G.lkE x.items m (min (x.day + 180) 100000)) else .ok { x with items := G.lkL x.items m (min (x.day + 180) 100000) }
  | .call b => if G.nmB b = false then .error 1 else if memB x.back b = true then .error 6 else if ¬ x.back.length < 100 then .error 4 else .ok { x with back := x.back ++ [b] }
  | .cut i => if thB x i = false then .error 5 else if (!(siteA x i).fel && (decide (upN x = 0) && !rggB x i)) = false then .error 10 else if goB x x.gusts = false then .error 11
      else if S.windyE (stkA x i) 0 (gstP x) 0 ≠ 0 then .error (S.windyE (stkA x i) 0 (gstP x) 0) else if ((List.range 4).all fun k => S.standsR (stkA x i) (gstP x) (k : Int)) = false then .error 11
      else .ok (setS x i { siteA x i with fel := true, dogs := [] })
  | .bill i => if thB x i = false then .error 5 else if (S.heightR (stkA x i)).2 ≠ 0 then .error (S.heightR (stkA x i)).2 else if priE x.x.rt (S.heightR (stkA x i)).1 ≠ 0 then .error (priE x.x.rt (S.heightR (stkA x i)).1)
      else if ¬ x.money + priV x.x.rt (S.heightR (stkA x i)).1 ≤ 1000000000000 then .error 4 else .ok { x with money := x.money + priV x.x.rt (S.heightR (stkA x i)).1 }
def txt (c : Cm) : List UInt8 := match c with
  | .gust g => [103, 117, 115, 116] ++ wsT [g]
  | .day => [100, 97, 121]
  | .dog i => [100, 111, 103] ++ wsT [i]
  | .rig i l => [114, 105, 103] ++ wsT [i] ++ l.flatMap fun k => 32 :: (k.nm.data.toList ++ 58 :: nT k.fr)
  | .strike r => [115, 116, 114, 105, 107, 101] ++ wsT [r]
  | .up i m => [117, 112] ++ wsT [i, m]
  | .down i m => [100, 111, 119, 110] ++ wsT [i, m]
  | .lift r l => [108, 105, 102, 116] ++ wsT [r] ++ wsT l
  | .look m => [108, 111, 111, 107, 32] ++ m.data.toList
  | .call b => [99, 97, 108, 108, 32] ++ b.data.toList
  | .cut i => [102, 101, 108, 108] ++ wsT [i]
  | .bill i => [98, 105, 108, 108] ++ wsT [i]
def doC (c : Cm) (x : St) : Int × St := if ¬ x.lines.length < 2000 then (4, x) else match deed c x with
  | .error e => (e, x)
  | .ok y => (0, { y with lines := y.lines ++ [wrt y.lines y.day (bts (txt c))] })
def nmsO : List (List UInt8) → Option (List Int)
  | [] => some []
  | w :: r => if T6.numB w = true then (nmsO r).map (T6.numV w :: ·) else none
def lksO : List (List UInt8) → Option (List G.Lk)
  | [] => some []
  | w :: r => if (decide ((cut w [58]).1 ≠ []) && T6.numB (cut w [58]).2.1) = true then (lksO r).map (⟨bts (cut w [58]).1, T6.numV (cut w [58]).2.1⟩ :: ·) else none
def sngO (w : List UInt8) (n : Int) : Option Cm :=
  if w = [103, 117, 115, 116] then some (.gust n) else if w = [100, 111, 103] then some (.dog n) else if w = [115, 116, 114, 105, 107, 101] then some (.strike n)
  else if w = [102, 101, 108, 108] then some (.cut n) else if w = [98, 105, 108, 108] then some (.bill n) else none
def cmdO (s : List UInt8) : Option Cm := match cutZ 32 s with
  | [] => none
  | w :: r =>
    if [] ∈ w :: r then none
    else if w = [114, 105, 103] ∧ 1 < r.length then (match nmsO (r.take 1), lksO (r.drop 1) with | some [n], some l => some (.rig n l) | _, _ => none)
    else if w = [108, 111, 111, 107] ∧ r.length = 1 then some (.look (bts (r.getD 0 [])))
    else if w = [99, 97, 108, 108] ∧ r.length = 1 then some (.call (bts (r.getD 0 [])))
    else match nmsO r with
      | none => none
      | some n =>
        if w = [108, 105, 102, 116] ∧ 1 < n.length then some (.lift (n.getD 0 0) (n.drop 1))
        else if w = [100, 97, 121] ∧ n.length = 0 then some .day
        else if n.length = 1 then sngO w (n.getD 0 0)
        else if w = [117, 112] ∧ n.length = 2 then some (.up (n.getD 0 0) (n.getD 1 0))
        else if w = [100, 111, 119, 110] ∧ n.length = 2 then some (.down (n.getD 0 0) (n.getD 1 0))
        else none
def errT (e : Int) : List UInt8 := [101, 114, 114, 111, 114, 32] ++ nT e
def okT : List UInt8 := [111, 107]
def repT (c : Cm) (x : St) : List UInt8 := if (doC c x).1 ≠ 0 then errT (doC c x).1 else match c with
  | .rig _ _ => nT ((doC c x).2.rigs.length - 1)
  | _ => okT
def tldT (e : Int) (l : List Int) : List UInt8 := if e ≠ 0 then errT e else (wsT l).drop 1
def qWd (w : List UInt8) : Bool := decide (w = [97, 108, 111, 102, 116]) || (decide (w = [104, 101, 105, 103, 104, 116]) || (decide (w = [115, 97, 102, 101]) || decide (w = [98, 101, 97, 114, 115])))
def ansO (bears : St → Int → List UInt8) (x : St) (s : List UInt8) : Option (List UInt8) :=
  if s = [110, 111, 119] then some (nT x.day) else if s = [109, 111, 110, 101, 121] then some (nT x.money)
  else if s = [103, 111, 101, 115] then some (if goB x x.gusts = true then [121, 101, 115] else [110, 111])
  else if T6.numB (cut s [32]).2.1 = false then none
  else if qWd (cut s [32]).1 = false then none
  else if thB x (T6.numV (cut s [32]).2.1) = false then some (errT 5)
  else if (cut s [32]).1 = [97, 108, 111, 102, 116] then some (nT (siteA x (T6.numV (cut s [32]).2.1)).men)
  else if (cut s [32]).1 = [104, 101, 105, 103, 104, 116] then some (tldT (S.heightR (stkA x (T6.numV (cut s [32]).2.1))).2 [(S.heightR (stkA x (T6.numV (cut s [32]).2.1))).1])
  else if (cut s [32]).1 = [115, 97, 102, 101] then some (tldT (S.leastR (stkA x (T6.numV (cut s [32]).2.1))).2.2 [(S.leastR (stkA x (T6.numV (cut s [32]).2.1))).1, (S.leastR (stkA x (T6.numV (cut s [32]).2.1))).2.1])
  else some (bears x (T6.numV (cut s [32]).2.1))
def linR (bears : St → Int → List UInt8) (x : St) (s : List UInt8) : List UInt8 × St :=
  if s = [] then ([], x) else match ansO bears x s with
    | some t => (t ++ [10], x)
    | none => match cmdO s with
      | none => (errT 14 ++ [10], x)
      | some c => (repT c x ++ [10], (doC c x).2)
def linsR (bears : St → Int → List UInt8) (x : St) : List (List UInt8) → List UInt8 × St
  | [] => ([], x)
  | s :: r => ((linR bears x s).1 ++ (linsR bears (linR bears x s).2 r).1, (linsR bears (linR bears x s).2 r).2)
def doR (bears : St → Int → List UInt8) (x : St) (s : List UInt8) : List UInt8 × St := if 65536 < s.length then (errT 3 ++ [10], x) else linsR bears x (cutZ 10 s)
def smallU : Su := ⟨[[⟨1000, 500, 300, 1000, 0, 0⟩]], [[⟨300, true⟩, ⟨700, true⟩]], ⟨400, 500, 1000, 900, 100, 2000⟩, [⟨⟨#[115, 108, 105, 110, 103]⟩, 500, 10, ⟨#[97]⟩⟩], ⟨50, 40, 2⟩, ⟨7, 5000, 9, 100⟩, 4⟩
end Go.Proofs.YtmjgljdmjpabdaaGreatDoor.Fi
set_option linter.unusedSimpArgs false
set_option linter.unusedVariables false
namespace Go.Proofs.YtmjgljdmjpabdaaGreatDoor.Fi
open Go.RowKit Go.Lib Tx
structure Sl (α : Type) where
  a : Option Addr
  l : List α
  c : Nat
abbrev Sl.v {α : Type} (x : Sl α) : Value := .slice x.a x.l.length x.c
def Sl.cs {α : Type} (x : Sl α) : List Value := [x.v]
theorem Sl.cs_len {α : Type} (x : Sl α) : x.cs.length = 1 := rfl
def Jt.cs (j : Jt) : List Value := [.int .i64 j.h, .bool j.s]
theorem Jt.cs_len (j : Jt) : j.cs.length = 2 := rfl
def En.cs (e : En) : List Value := [.int .i64 e.n, .int .i64 e.d, .string e.t, .int .u64 (e.s : Nat)]
theorem En.cs_len (e : En) : e.cs.length = 4 := rfl
structure LSu where
  stk : Sl (Sl S.Course)
  jnt : Sl (Sl Jt)
  cl : Cl
  gear : Sl G.It
  ru : V.Ru
  rt : Rt
  men : Int
structure LRg where
  st : Int
  lk : Sl G.Lk
structure LSi where
  dogs : Sl Int
  fel : Bool
  men : Int
structure LS where
  x : LSu
  day : Int
  gusts : Sl Int
  rigs : Sl LRg
  sites : Sl LSi
  items : Sl G.It
  back : Sl ByteArray
  money : Int
  lines : Sl En
def LRg.cs (r : LRg) : List Value := [.int .i64 r.st, r.lk.v]
theorem LRg.cs_len (r : LRg) : r.cs.length = 2 := rfl
def LSi.cs (s : LSi) : List Value := [s.dogs.v, .bool s.fel, .int .i64 s.men]
theorem LSi.cs_len (s : LSi) : s.cs.length = 3 := rfl
abbrev LSu.cs (x : LSu) : List Value := [x.stk.v, x.jnt.v, .int .i64 x.cl.fi, .int .i64 x.cl.ga, .int .i64 x.cl.tp, .int .i64 x.cl.le, .int .i64 x.cl.la, .int .i64 x.cl.st, x.gear.v, .int .i64 x.ru.s, .int .i64 x.ru.g, .int .i64 x.ru.c, .int .i64 x.rt.lo, .int .i64 x.rt.hi, .int .i64 x.rt.ab, .int .i64 x.rt.co, .int .i64 x.men]
abbrev LS.cs (x : LS) : List Value := [x.x.stk.v, x.x.jnt.v, .int .i64 x.x.cl.fi, .int .i64 x.x.cl.ga, .int .i64 x.x.cl.tp, .int .i64 x.x.cl.le, .int .i64 x.x.cl.la, .int .i64 x.x.cl.st, x.x.gear.v, .int .i64 x.x.ru.s, .int .i64 x.x.ru.g, .int .i64 x.x.ru.c, .int .i64 x.x.rt.lo, .int .i64 x.x.rt.hi, .int .i64 x.x.rt.ab, .int .i64 x.x.rt.co, .int .i64 x.x.men, .int .i64 x.day, x.gusts.v, x.rigs.v, x.sites.v, x.items.v, x.back.v, .int .i64 x.money, x.lines.v]
def LSu.val (x : LSu) : Su := ⟨x.stk.l.map (·.l), x.jnt.l.map (·.l), x.cl, x.gear.l, x.ru, x.rt, x.men⟩
def LRg.val (r : LRg) : Rig := ⟨r.st, r.lk.l⟩
def LSi.val (s : LSi) : Sit := ⟨s.dogs.l, s.fel, s.men⟩
def LS.val (x : LS) : St := ⟨x.x.val, x.day, x.gusts.l, x.rigs.l.map LRg.val, x.sites.l.map LSi.val, x.items.l, x.back.l, x.money, x.lines.l⟩
structure Got (T : Nat → Prop) (w : World) {α : Type} (enc : α → List Value) (sz : Nat) (x : Sl α) : Prop where
  rd : Rd enc sz w x.a x.l
  tt : x.l ≠ [] → ∀ a, x.a = some a → T a.block
  lc : x.l.length ≤ x.c
  cm : x.c ≤ maxLen
section
variable {T T' : Nat → Prop} {w w' : World} {α : Type} {enc : α → List Value} {sz : Nat} {x : Sl α}
theorem Got.len (h : Got T w enc sz x) : x.l.length ≤ maxLen := Nat.le_trans h.lc h.cm
theorem Got.stp {N : Nat → Prop} (h : Got T w enc sz x) (hs : Stp N w w') (hn : ∀ b, T b → ¬ N b) : Got T w' enc sz x := by
  refine ⟨fun hne => ?_, h.tt, h.lc, h.cm⟩
  obtain ⟨b, off, e, hb, hc⟩ := h.rd hne
  exact ⟨b, off, e, Nat.lt_of_lt_of_le hb hs.size, fun k y hy j v hv => hs.cell (hc k y hy j v hv) (hn b (h.tt hne _ e))⟩
theorem Got.on (h : Got T w enc sz x) (hb : Below w.heap.size w w') : Got T w' enc sz x := ⟨h.rd.on hb, h.tt, h.lc, h.cm⟩
theorem Got.mono (h : Got T w enc sz x) (ht : ∀ b, b < w.heap.size → T b → T' b) : Got T' w enc sz x := by
  refine ⟨h.rd, fun hne a ha => ?_, h.lc, h.cm⟩
  obtain ⟨b, off, e, hb, _⟩ := h.rd hne
  have := h.tt hne _ ha
  rw [e] at ha; cases ha
  exact ht b hb this
theorem got_nil (T : Nat → Prop) (w : World) (enc : α → List Value) (sz : Nat) : Got T w enc sz ⟨none, [], 0⟩ := ⟨Rd.nil_, fun h => absurd rfl h, by simp, by simp⟩
end
theorem own_caps {W : World} {base sz k : Nat} {e : TypeId} {A : Option Addr} {c : Nat} {xs : List Value} (h : W.ownsRow base e sz (.slice A k c) k xs) : k ≤ c ∧ c ≤ maxLen := by
  rcases h.2 with ⟨h1, h0⟩ | ⟨g', cap, cur, h1, hB, hh, h2, h3, h4, h5⟩
  · cases h1; exact ⟨Nat.le_refl _, by simp⟩
  · cases h1; exact ⟨h2, h3⟩
structure SuOk (T : Nat → Prop) (w : World) (x : LSu) : Prop where
  stk : Got T w Sl.cs 1 x.stk
  stks : ∀ y ∈ x.stk.l, Got T w S.Course.cs 6 y
  jnt : Got T w Sl.cs 1 x.jnt
  jnts : ∀ y ∈ x.jnt.l, Got T w Jt.cs 2 y
  gear : Got T w G.It.cs 4 x.gear
structure StOk (T : Nat → Prop) (w : World) (x : LS) : Prop where
  su : SuOk T w x.x
  gusts : Got T w zC 1 x.gusts
  rigs : Got T w LRg.cs 2 x.rigs
  rk : ∀ r ∈ x.rigs.l, Got T w G.Lk.cs 2 r.lk
  sites : Got T w LSi.cs 3 x.sites
  sk : ∀ s ∈ x.sites.l, Got T w zC 1 s.dogs
  items : Got T w G.It.cs 4 x.items
  back : Got T w G.sC 1 x.back
section
variable {T T' N : Nat → Prop} {w w' : World}
theorem SuOk.stp {x : LSu} (h : SuOk T w x) (hs : Stp N w w') (hn : ∀ b, T b → ¬ N b) : SuOk T w' x := ⟨h.stk.stp hs hn, fun y hy => (h.stks y hy).stp hs hn, h.jnt.stp hs hn, fun y hy => (h.jnts y hy).stp hs hn, h.gear.stp hs hn⟩
theorem SuOk.on {x : LSu} (h : SuOk T w x) (hb : Below w.heap.size w w') : SuOk T w' x := ⟨h.stk.on hb, fun y hy => (h.stks y hy).on hb, h.jnt.on hb, fun y hy => (h.jnts y hy).on hb, h.gear.on hb⟩
theorem SuOk.mono {x : LSu} (h : SuOk T w x) (ht : ∀ b, b < w.heap.size → T b → T' b) : SuOk T' w x := ⟨h.stk.mono ht, fun y hy => (h.stks y hy).mono ht, h.jnt.mono ht, fun y hy => (h.jnts y hy).mono ht, h.gear.mono ht⟩
theorem StOk.stp {x : LS} (h : StOk T w x) (hs : Stp N w w') (hn : ∀ b, T b → ¬ N b) : StOk T w' x :=
  ⟨h.su.stp hs hn, h.gusts.stp hs hn, h.rigs.stp hs hn, fun y hy => (h.rk y hy).stp hs hn, h.sites.stp hs hn, fun y hy => (h.sk y hy).stp hs hn, h.items.stp hs hn, h.back.stp hs hn⟩
theorem StOk.on {x : LS} (h : StOk T w x) (hb : Below w.heap.size w w') : StOk T w' x :=
  ⟨h.su.on hb, h.gusts.on hb, h.rigs.on hb, fun y hy => (h.rk y hy).on hb, h.sites.on hb, fun y hy => (h.sk y hy).on hb, h.items.on hb, h.back.on hb⟩
theorem StOk.mono {x : LS} (h : StOk T w x) (ht : ∀ b, b < w.heap.size → T b → T' b) : StOk T' w x :=
  ⟨h.su.mono ht, h.gusts.mono ht, h.rigs.mono ht, fun y hy => (h.rk y hy).mono ht, h.sites.mono ht, fun y hy => (h.sk y hy).mono ht, h.items.mono ht, h.back.mono ht⟩
end
def Foot (b : Nat) (L : LS) : Nat → Prop := fun g => g = b ∨ L.lines.v.ownBlock = some g
structure FirmAt (w : World) (b : Nat) (L : LS) (T : Nat → Prop) : Prop where
  blk : Blk w b 79 L.cs.toArray
  ok : StOk T w L
  row : w.ownsRow 0 66 4 L.lines.v L.lines.l.length (fl En.cs L.lines.l)
  ft : ∀ g, T g → ¬ Foot b L g
  bl : L.lines.v.ownBlock ≠ some b
theorem FirmAt.stp {w w' : World} {b : Nat} {L : LS} {T N : Nat → Prop} (h : FirmAt w b L T) (hs : Stp N w w') (hT : ∀ g, T g → ¬ N g) (hF : ∀ g, Foot b L g → ¬ N g) : FirmAt w' b L T := by
  refine ⟨hs.blk h.blk (hF b (.inl rfl)), h.ok.stp hs hT, ?_, h.ft, h.bl⟩
  refine ⟨h.row.1, ?_⟩
  rcases h.row.2 with ⟨h1, h0⟩ | ⟨g', cap, cur, h1, hB, hh, h2, h3, h4, h5⟩
  · exact .inl ⟨h1, h0⟩
  · exact .inr ⟨g', cap, cur, h1, hB, (hs.block g' (lt_of_block hh) (hF g' (.inr (by rw [h1]; rfl)))).trans hh, h2, h3, h4, h5⟩
theorem FirmAt.on {w w' : World} {b : Nat} {L : LS} {T : Nat → Prop} (h : FirmAt w b L T) (hb : Below w.heap.size w w') : FirmAt w' b L T :=
  ⟨h.blk.below hb h.blk.lt, h.ok.on hb, own_on h.row hb, h.ft, h.bl⟩
structure Fut (w : World) (b : Nat) (L : LS) (T : Nat → Prop) (w' : World) (L' : LS) (T' : Nat → Prop) : Prop where
  at_ : FirmAt w' b L' T'
  stp : Stp (Foot b L) w w'
  tt : ∀ g, T' g → T g ∨ w.heap.size ≤ g
  ff : ∀ g, Foot b L' g → Foot b L g ∨ w.heap.size ≤ g
theorem Fut.refl {w : World} {b : Nat} {L : LS} {T : Nat → Prop} (h : FirmAt w b L T) : Fut w b L T w L T := ⟨h, Stp.refl _ _, fun _ h => .inl h, fun _ h => .inl h⟩
theorem Fut.of_below {w w' : World} {b : Nat} {L : LS} {T : Nat → Prop} (h : FirmAt w b L T) (hb : Below w.heap.size w w') : Fut w b L T w' L T :=
  ⟨h.on hb, (Stp.refl _ _).below hb (Nat.le_refl _), fun _ h => .inl h, fun _ h => .inl h⟩
theorem stp_tr {N N' : Nat → Prop} {w w1 w2 : World} (h : Stp N w w1) (k : Stp N' w1 w2) (hn : ∀ g, N' g → N g ∨ w.heap.size ≤ g) : Stp N w w2 :=
  ⟨k.os.trans h.os, k.tape.trans h.tape, k.output.trans h.output, Nat.le_trans h.size k.size, fun g hg hng => (k.block g (Nat.lt_of_lt_of_le hg h.size) (fun q => by rcases hn g q with q | q; exact hng q; omega)).trans (h.block g hg hng)⟩
theorem Fut.trans {w w1 w2 : World} {b : Nat} {L L1 L2 : LS} {T T1 T2 : Nat → Prop} (h : Fut w b L T w1 L1 T1) (k : Fut w1 b L1 T1 w2 L2 T2) : Fut w b L T w2 L2 T2 := by
  have hs := h.stp.size
  refine ⟨k.at_, stp_tr h.stp k.stp h.ff, fun g hg => ?_, fun g hg => ?_⟩
  · rcases k.tt g hg with h1 | h1
    · exact h.tt g h1
    · exact .inr (Nat.le_trans hs h1)
  · rcases k.ff g hg with h1 | h1
    · exact h.ff g h1
    · exact .inr (Nat.le_trans hs h1)
end Go.Proofs.YtmjgljdmjpabdaaGreatDoor.Fi
set_option linter.unusedSimpArgs false
set_option linter.unusedVariables false
namespace Go.Proofs.YtmjgljdmjpabdaaGreatDoor.Fi
open Go.RowKit Go.Lib Tx
theorem wn_iff {n a b : Int} : wn n a b = true ↔ a ≤ n ∧ n ≤ b := by simp [wn]
abbrev clV (c : Cl) : Value := .agg #[.int .i64 c.fi, .int .i64 c.ga, .int .i64 c.tp, .int .i64 c.le, .int .i64 c.la, .int .i64 c.st]
abbrev clA (c : Cl) : Array Value := #[.int .i64 c.fi, .int .i64 c.ga, .int .i64 c.tp, .int .i64 c.le, .int .i64 c.la, .int .i64 c.st]
theorem l_within (n lo hi : Int) (w : World) :
    Calls Tryz.prog 102 #[.int .i64 n, .int .i64 lo, .int .i64 hi] w fun e w' => e = .returned (.bool (wn n lo hi)) ∧ w = w' := by
  by_cases h1 : lo ≤ n
  · have t1 : decide (lo ≤ n) = true := by simpa using h1
    go_enter Tryz.func102, Tryz.ntmps102
    go_wp2
    go_ret
    exact ⟨ret_bool (by simp [wn, h1]), rfl⟩
  · have t1 : decide (lo ≤ n) = false := by simpa using h1
    go_enter Tryz.func102, Tryz.ntmps102
    go_wp2
    go_ret
    exact ⟨ret_bool (by unfold wn; rw [t1]; rfl), rfl⟩
theorem l_withinV {n lo hi : Int} {b : Bool} (h : wn n lo hi = b) (w : World) :
    Calls Tryz.prog 102 #[.int .i64 n, .int .i64 lo, .int .i64 hi] w fun e w' => e = .returned (.bool b) ∧ w = w' := h ▸ l_within n lo hi w
theorem rdJ {w : World} {A : Option Addr} {l : List Jt} (h : Rd Jt.cs 2 w A l) {k : Nat} (hk : k < l.length) :
    ∃ x b off, l[k]? = some x ∧ A = some ⟨b, off, none⟩ ∧ b < w.heap.size ∧ w.cell? ⟨b, off + k * 2, none⟩ = some (.int .i64 x.h) ∧ w.cell? ⟨b, off + k * 2 + 1, none⟩ = some (.bool x.s) := by
  obtain ⟨x, hx⟩ := get_lt hk
  obtain ⟨b, off, e, hb, hc⟩ := h.get hx
  exact ⟨x, b, off, hx, e, hb, hc 0 _ rfl, hc 1 _ rfl⟩
theorem jAt_of {l : List Jt} {i : Nat} {x : Jt} (h : l[i]? = some x) : jAt l i = x := by simp [jAt, h]
theorem vJ_no {l : List Jt} {k : Nat} (hk : k < l.length) (h : okJ l k = false) : vJ l = false := by
  unfold vJ
  rw [Bool.and_eq_false_iff]; left
  rw [List.all_eq_false]
  exact ⟨k, by simpa using hk, by simp [h]⟩
theorem vJ_yes {l : List Jt} (h : (List.range l.length).all (okJ l) = true) : vJ l = decide (l.length ≤ 200) := by unfold vJ; rw [h, Bool.true_and]
theorem all_stepJ {p : Nat → Bool} {k : Nat} (h : (List.range k).all p = true) (hk : p k = true) : (List.range (k + 1)).all p = true := by
  rw [List.range_succ, List.all_append, h]; simp [hk]
set_option maxHeartbeats 4000000 in
set_option maxRecDepth 20000 in
theorem l_ValidJoints (A : Option Addr) (l : List Jt) (c : Nat) (w : World) (hl : l.length ≤ 100000) (hR : Rd Jt.cs 2 w A l) :
    Calls Tryz.prog 72 #[.slice A l.length c] w fun e w' => e = .returned (.bool (vJ l)) ∧ Below w.heap.size w w' := by
  go_enter Tryz.func72, Tryz.ntmps72
  go_wp2
  go_loopw [7] (fun i wr => ∃ k : Nat, k ≤ l.length ∧ i = .int .i64 k ∧ Below w.heap.size w wr ∧ Hid ((List.range k).all (okJ l) = true)) (fun i _ => l.length - (RowKit.intOf i).toNat)
  case atStart => exact ⟨0, by omega, rfl, below_refl _, Lib.hid rfl⟩
  case round =>
    obtain ⟨k, hk, rfl, hbw, HI⟩ := hrel
    have k0 : (0 : Int) ≤ (k : Int) := Int.natCast_nonneg _
    by_cases hlt : k < l.length
    · have k1 : (k : Int) < (l.length : Int) := by omega
      obtain ⟨x, b, off, hx, rfl, hb, c0, c1⟩ := rdJ (hR.on hbw) hlt
      have HX := Lib.hid (jAt_of hx)
      cases h1 : wn x.h 1 200000
      · have HE := Lib.hid (vJ_no hlt (by unfold okJ; rw [HX.out, h1]; rfl))
        obtain ⟨XH, XS⟩ := x
        dsimp only at *
        clear hx
        go_wp2
        go_quiet ((go_at_call 102; with_reducible exact quiet_left (l_withinV h1 _)))
        go_wp2
        go_ret
        exact ⟨ret_bool HE.out.symm, below_drewN (bl_alloc hbw _) _⟩
      by_cases hk0 : 0 < k
      · obtain ⟨y, b', off', hy, e', hb', d0, d1⟩ := rdJ (hR.on hbw) (show k - 1 < l.length by omega)
        cases e'
        have hw1 : IntKind.i64.wrap ((k : Int) - 1) = ((k - 1 : Nat) : Int) := by rw [fits_wrap ⟨by omega, by omega⟩]; omega
        have q0 : (0 : Int) ≤ ((k - 1 : Nat) : Int) := Int.natCast_nonneg _
        have q1 : ((k - 1 : Nat) : Int) < (l.length : Int) := by omega
        have HY := Lib.hid (jAt_of hy)
        by_cases h2 : x.h ≤ y.h
        · have HE := Lib.hid (vJ_no hlt (by unfold okJ; rw [HX.out, HY.out, h1, decide_eq_false (show ¬ k = 0 by omega), decide_eq_false (show ¬ y.h < x.h by omega)]; rfl))
          obtain ⟨XH, XS⟩ := x
          dsimp only at *
          clear hx hy
          go_wp2
          go_quiet ((go_at_call 102; with_reducible exact quiet_left (l_withinV h1 _)))
          go_wp2
          go_ret
          exact ⟨ret_bool HE.out.symm, below_drewN (bl_alloc hbw _) _⟩
        · have HO := Lib.hid (all_stepJ HI.out (show okJ l k = true by unfold okJ; rw [HX.out, HY.out, h1, decide_eq_true (show y.h < x.h by omega), Bool.or_true]; rfl))
          have n2 : decide (x.h ≤ y.h) = false := decide_eq_false h2
          obtain ⟨XH, XS⟩ := x
          dsimp only at *
          clear hx hy
          go_wp2
          go_quiet ((go_at_call 102; with_reducible exact quiet_left (l_withinV h1 _)))
          go_wp2
          go_roundw
          case rel => exact ⟨k + 1, by omega, by go_num, below_drewN (bl_alloc hbw _) _, HO⟩
          case measure => simp [RowKit.intOf]; omega
      · have hk00 : k = 0 := by omega
        have n8 : decide (0 < k) = false := decide_eq_false hk0
        have HO := Lib.hid (all_stepJ HI.out (show okJ l k = true by unfold okJ; rw [HX.out, h1, decide_eq_true hk00]; rfl))
        obtain ⟨XH, XS⟩ := x
        dsimp only at *
        clear hx hk00
        go_wp2
        go_quiet ((go_at_call 102; with_reducible exact quiet_left (l_withinV h1 _)))
        go_wp2
        go_roundw
        case rel => exact ⟨k + 1, by omega, by go_num, below_drewN (bl_alloc hbw _) _, HO⟩
        case measure => simp [RowKit.intOf]; omega
    · obtain rfl : k = l.length := by omega
      have HE := Lib.hid (vJ_yes HI.out)
      go_wp2
      go_ret
      exact ⟨ret_bool (by rw [HE.out]; simp; omega), hbw⟩
theorem l_ValidJointsV {A : Option Addr} {l : List Jt} {c : Nat} {w : World} {b : Bool} (h : vJ l = b) (hl : l.length ≤ 100000) (hR : Rd Jt.cs 2 w A l) :
    Calls Tryz.prog 72 #[.slice A l.length c] w fun e w' => e = .returned (.bool b) ∧ Below w.heap.size w w' := h ▸ l_ValidJoints A l c w hl hR
def clN (c : Cl) : List Int := [c.fi, c.ga, c.tp, c.le]
theorem vCl_no {c : Cl} {k : Nat} {x : Int} (hx : (clN c)[k]? = some x) (h : wn x 1 200000 = false) : vCl c = false := by
  unfold vCl
  match k, hx with
  | 0, hx => cases hx; rw [h]; rfl
  | 1, hx => cases hx; rw [h]; simp
  | 2, hx => cases hx; rw [h]; simp
  | 3, hx => cases hx; rw [h]; simp
  | k + 4, hx => simp [clN] at hx
theorem vCl_yes {c : Cl} (h : (clN c).all (fun x => wn x 1 200000) = true) : vCl c = (wn c.la 0 (c.le - 1) && wn c.st 1 1000000) := by
  rw [List.all_eq_true] at h
  unfold vCl
  rw [h c.fi (by simp [clN]), h c.ga (by simp [clN]), h c.tp (by simp [clN]), h c.le (by simp [clN])]; rfl
theorem all_take_step {α : Type} {p : α → Bool} {l : List α} {k : Nat} {x : α} (h : (l.take k).all p = true) (hx : l[k]? = some x) (hp : p x = true) : (l.take (k + 1)).all p = true := by
  rw [List.take_add_one, hx, List.all_append, h]; simp [hp]
set_option maxHeartbeats 4000000 in
set_option maxRecDepth 20000 in
theorem l_ValidClimb (c : Cl) (w : World) (hle : -9223372036854775808 < c.le ∧ c.le ≤ 9223372036854775807) :
    Calls Tryz.prog 73 #[clV c] w fun e w' => e = .returned (.bool (vCl c)) ∧ Below w.heap.size w w' := by
  have x0 := Blk.new w 25 (clA c)
  have B0 := bl_alloc (below_refl w) (.cells (clA c) 25)
  have hw1 : IntKind.i64.wrap (c.le - 1) = c.le - 1 := fits_wrap ⟨by omega, by omega⟩
  have HE := Lib.hid (fun h => vCl_yes (c := c) h)
  have q3 := x0.cell 3
  have q4 := x0.cell 4
  have q5 := x0.cell 5
  simp only [List.getElem?_toArray, List.getElem?_cons_zero, List.getElem?_cons_succ] at q3 q4 q5
  go_enter Tryz.func73, Tryz.ntmps73
  go_upto_region 2 with fail
  have B1 := bl_alloc B0 (.cells #[.int .i64 c.fi, .int .i64 c.ga, .int .i64 c.tp, .int .i64 c.le] 3)
  have r0 : Rd zC 1 ((w.alloc (.cells (clA c) 25)).alloc (.cells #[.int .i64 c.fi, .int .i64 c.ga, .int .i64 c.tp, .int .i64 c.le] 3)) (some ⟨w.heap.size + 1, 0, none⟩) (clN c) := by
    intro hne
    have hb := Blk.new (w.alloc (.cells (clA c) 25)) 3 #[.int .i64 c.fi, .int .i64 c.ga, .int .i64 c.tp, .int .i64 c.le]
    rw [World.size_alloc] at hb
    refine ⟨w.heap.size + 1, 0, rfl, hb.lt, fun k x hx j v hv => ?_⟩
    have hj : j = 0 := by
      rcases Nat.lt_or_ge j 1 with h | h
      · omega
      · rw [List.getElem?_eq_none (by simpa [zC] using h)] at hv; cases hv
    subst hj
    cases hv
    rw [show 0 + k * 1 + 0 = k by omega, hb.cell k]
    match k, hx with
    | 0, hx => cases hx; rfl
    | 1, hx => cases hx; rfl
    | 2, hx => cases hx; rfl
    | 3, hx => cases hx; rfl
    | k + 4, hx => simp [clN] at hx
  have x1 := x0.alloc (.cells #[.int .i64 c.fi, .int .i64 c.ga, .int .i64 c.tp, .int .i64 c.le] 3)
  clear q3 q4 q5 x0 B0
  generalize (w.alloc (.cells (clA c) 25)).alloc (.cells #[.int .i64 c.fi, .int .i64 c.ga, .int .i64 c.tp, .int .i64 c.le] 3) = w2 at *
  go_loopw [15] (fun i wr => ∃ k : Nat, k ≤ 4 ∧ i = .int .i64 k ∧ wr = w2 ∧ Hid (((clN c).take k).all (fun x => wn x 1 200000) = true)) (fun i _ => 4 - (RowKit.intOf i).toNat)
  case atStart => exact ⟨0, by omega, rfl, rfl, Lib.hid rfl⟩
  case round =>
    obtain ⟨k, hk, rfl, rfl, HI⟩ := hrel
    have k0 : (0 : Int) ≤ (k : Int) := Int.natCast_nonneg _
    by_cases hlt : k < 4
    · have k1 : (k : Int) < 4 := by omega
      obtain ⟨x, b, off, hx, e, hb, c0⟩ := rd_int r0 (show k < (clN c).length from hlt)
      cases e
      have HX := Lib.hid hx
      rw [Nat.zero_add] at c0
      clear hx
      cases h1 : wn x 1 200000
      · have HN := Lib.hid (vCl_no HX.out h1)
        go_wp2_with (go_at_call 102; ((with_reducible refine (l_withinV h1 _).mono ?_); rintro e w' ⟨rfl, rfl⟩))
        go_ret
        exact ⟨ret_bool HN.out.symm, B1⟩
      · have HS := Lib.hid (all_take_step HI.out HX.out h1)
        go_wp2_with (go_at_call 102; ((with_reducible refine (l_withinV h1 _).mono ?_); rintro e w' ⟨rfl, rfl⟩))
        go_roundw
        case rel => exact ⟨k + 1, by omega, by go_num, trivial, HS⟩
        case measure => simp [RowKit.intOf]; omega
    · obtain rfl : k = 4 := by omega
      have HV := Lib.hid (HE.out HI.out)
      have p3 := x1.cell 3
      have p4 := x1.cell 4
      have p5 := x1.cell 5
      simp only [List.getElem?_toArray, List.getElem?_cons_zero, List.getElem?_cons_succ] at p3 p4 p5
      clear HI
      cases h1 : wn c.la 0 (c.le - 1)
      · rw [h1] at HV
        go_wp2_with (go_at_call 102; ((with_reducible refine (l_withinV h1 _).mono ?_); rintro e w' ⟨rfl, rfl⟩))
        go_ret
        exact ⟨ret_bool (by rw [HV.out]; rfl), B1⟩
      · cases h2 : wn c.st 1 1000000
        all_goals
          rw [h1, h2] at HV
          go_wp2_with (first | (go_at_call 102; ((with_reducible refine (l_withinV h1 _).mono ?_); rintro e w' ⟨rfl, rfl⟩)) | (go_at_call 102; ((with_reducible refine (l_withinV h2 _).mono ?_); rintro e w' ⟨rfl, rfl⟩)))
          go_ret
          exact ⟨ret_bool (by rw [HV.out]; rfl), B1⟩
theorem l_ValidClimbV {c : Cl} {v : Bool} (h : vCl c = v) (w : World) (hle : -9223372036854775808 < c.le ∧ c.le ≤ 9223372036854775807) :
    Calls Tryz.prog 73 #[clV c] w fun e w' => e = .returned (.bool v) ∧ Below w.heap.size w w' := h ▸ l_ValidClimb c w hle
theorem l_last (c : Cl) (j : Jt) (w : World) (h0 : -1000000000000 ≤ j.h ∧ j.h ≤ 1000000000000) (h1 : -1000000000000 ≤ c.ga ∧ c.ga ≤ 1000000000000) :
    Calls Tryz.prog 190 #[clV c, .agg #[.int .i64 j.h, .bool j.s]] w fun e w' => e = .returned (.bool (lastB c j)) ∧ Below w.heap.size w w' := by
  have hw1 : IntKind.i64.wrap (j.h + c.ga) = j.h + c.ga := fits_wrap ⟨by omega, by omega⟩
  by_cases h : c.tp ≤ j.h + c.ga
  · have hd : decide (c.tp ≤ j.h + c.ga) = true := decide_eq_true h
    go_enter Tryz.func190, Tryz.ntmps190
    go_wp2
    go_ret
    exact ⟨ret_bool (by unfold lastB; rw [hd]), by (repeat' (first | assumption | exact below_refl _ | refine bl_alloc ?_ _ | refine Below.setCell ?_ ?_ _ | refine below_draw ?_ | refine below_drewN ?_ _ | refine below_tr ?_ (by assumption))) <;> (first | omega | (simp; done) | (simp; omega))⟩
  · have hd : decide (c.tp ≤ j.h + c.ga) = false := decide_eq_false h
    go_enter Tryz.func190, Tryz.ntmps190
    go_wp2
    go_ret
    exact ⟨ret_bool (by unfold lastB; rw [hd]), by (repeat' (first | assumption | exact below_refl _ | refine bl_alloc ?_ _ | refine Below.setCell ?_ ?_ _ | refine below_draw ?_ | refine below_drewN ?_ _ | refine below_tr ?_ (by assumption))) <;> (first | omega | (simp; done) | (simp; omega))⟩
end Go.Proofs.YtmjgljdmjpabdaaGreatDoor.Fi
