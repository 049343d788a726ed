/- Plain: blocks of prompts, command lines, output; what signs and shifts make of them. Conditions: none. -/
import Derived.Test.YtgfaincejebogaaPtPl
import Derived.Test.YtgfaincejebogaaShC
namespace Go.Proofs.Ytgfaincejebogaa

/-- A block: its places, as many as its phase has. -/
structure Ent where
  code : Int
  has : Bool
  cut : Bool
  dir : ByteArray
  line : ByteArray
  id : Int
  pl : List P2
  ph : Nat
structure EntOk (E : Ent) : Prop where
  four : E.pl.length = 4
  lo : 1 ≤ E.ph
  hi : E.ph ≤ 4
def Ent.at_ (E : Ent) (i : Nat) : P2 := E.pl.getD i (0, 0)
def Ent.last (E : Ent) : P2 := E.at_ (E.ph - 1)
def Ent.first (E : Ent) : P2 := E.at_ 0
/-- n phases on, at a place. -/
def reachN (E : Ent) (p : P2) : Nat → Ent
  | 0 => E
  | n + 1 => { reachN E p n with pl := (reachN E p n).pl.set (reachN E p n).ph p, ph := (reachN E p n).ph + 1 }
def reachE (E : Ent) (phase : Nat) (p : P2) : Ent := reachN E p (phase - E.ph)
def newE (id : Int) (dir : ByteArray) : Ent := ⟨0, false, false, dir, ByteArray.empty, id, [(0, 0), (0, 0), (0, 0), (0, 0)], 0⟩
theorem reachN_ph (E : Ent) (p : P2) : ∀ n, (reachN E p n).ph = E.ph + n
  | 0 => rfl
  | n + 1 => by rw [reachN, reachN_ph E p n]; rfl
theorem reachN_len (E : Ent) (p : P2) : ∀ n, (reachN E p n).pl.length = E.pl.length
  | 0 => rfl
  | n + 1 => by rw [reachN]; simp [reachN_len E p n]
theorem reachN_id (E : Ent) (p : P2) : ∀ n, (reachN E p n).id = E.id
  | 0 => rfl
  | n + 1 => by rw [reachN]; exact reachN_id E p n
structure Bs where
  ids : Int
  dir : ByteArray
  es : List Ent
def laterP (p q : P2) : P2 := if ltP p q then q else p
def startB (most : Nat) (S : Bs) (phase : Nat) (p : P2) : Bs :=
  let l := S.es ++ [reachE (newE (S.ids + 1) S.dir) phase p]
  ⟨S.ids + 1, S.dir, if most < l.length then l.drop 1 else l⟩
def setLast (l : List Ent) (f : Ent → Ent) : List Ent := match l.getLast? with
  | some E => l.dropLast ++ [f E]
  | none => []
/-- Is the newest block's phase one from one to another one? -/
def openB (S : Bs) (a b : Nat) : Bool := match S.es.getLast? with
  | some E => decide (a ≤ E.ph) && decide (E.ph ≤ b)
  | none => false
structure Sg where
  k : Int
  code : Int
  has : Bool
  text : ByteArray
def atB (S : Bs) (p : P2) : P2 := match S.es.getLast? with
  | some E => laterP p E.last
  | none => p
def takeB (most : Nat) (S : Bs) (x : Sg) (p0 : P2) : Bs :=
  if inB p0.1 && inB p0.2 then
    let p := atB S p0
    if x.k = 1 then startB most S 1 p
    else if x.k = 2 then (if openB S 1 1 then { S with es := setLast S.es fun E => reachE E 2 p } else startB most S 2 p)
    else if x.k = 3 then (if openB S 1 2 then { S with es := setLast S.es fun E => reachE E 3 p } else startB most S 3 p)
    else if x.k = 4 then (if openB S 1 3 then { S with es := setLast S.es fun E => { reachE E 4 p with code := x.code, has := x.has } } else S)
    else if x.k = 5 then (if openB S 1 3 then { S with es := setLast S.es fun E => { E with line := x.text } } else S)
    else if x.k = 6 then (if openB S 1 2 then { S with dir := x.text, es := setLast S.es fun E => { E with dir := x.text } } else { S with dir := x.text })
    else S
  else S
def lostP (k a n : Int) (p : P2) : Bool := lostB p.1 p.2 k a n
def evictL (k a n : Int) : List Ent → List Ent
  | E :: E2 :: l => if lostP k a n E.first && !ltP (n, 0) E2.first then evictL k a n (E2 :: l) else E :: E2 :: l
  | l => l
def cutE (k a n : Int) (E : Ent) : Ent := { E with cut := E.cut || lostP k a n E.first }
/-- The places that were reached, moved. -/
def moveE (k a n : Int) (E : Ent) : Ent := { E with pl := (E.pl.take E.ph).map (fun p => mv p.1 p.2 k a n) ++ E.pl.drop E.ph }
def shiftB (S : Bs) (k a n : Int) : Bs :=
  if rightS k a n then { S with es := ((if k = 2 then (evictL k a n S.es).map (cutE k a n) else S.es).map (moveE k a n)) } else S
end Go.Proofs.Ytgfaincejebogaa
