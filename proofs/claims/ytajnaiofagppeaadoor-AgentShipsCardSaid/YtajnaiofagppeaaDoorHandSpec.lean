/- Sides and messages of the handoff in plain Lean: which there may be, and what comes of a message. -/
import Derived.Test.YtajnaiofagppeaaDoorLeaseSpec
namespace Go.Proofs.YtajnaiofagppeaaDoor.HandSpec
open LeaseSpec

structure S where
  me : Int
  e : Int
  s : Int
  t : Int
  c : ByteArray
  k : Bool
deriving DecidableEq

structure M where
  kind : Int
  src : Int
  dst : Int
  ep : Int
  c : ByteArray
deriving DecidableEq

def noC : ByteArray := ⟨#[]⟩
def none_ (c : ByteArray) : Bool := c.toList.isEmpty

def rightS (x : S) : Bool :=
  if 8 ≤ x.me then false else if rightB x.e x.s x.t = false then false else if 500 < x.c.size then false
  else if x.s = 2 ∧ x.t = x.me then false else if x.k = true ∧ x.s ≠ 2 then false
  else none_ x.c || x.k || x.s == 1

def mayM (m : M) : Bool :=
  if m.kind < 1 then false else if 4 < m.kind then false else if m.ep < 1 then false else if 1048576 < m.ep then false
  else if 8 ≤ m.src then false else if 8 ≤ m.dst then false else if m.src = m.dst then false
  else none_ m.c || (m.kind == 3 && decide ((m.c.size : Int) ≤ 500))

def noM : M := ⟨0, 0, 0, 0, noC⟩

def askH (x : S) (to : Int) : M × Int :=
  if rightS x = false then (noM, 2) else if to = x.me then (noM, 2)
  else if (give x.e x.s x.t to).2 ≠ 0 then (noM, (give x.e x.s x.t to).2) else (⟨1, x.me, to, x.e, noC⟩, 0)

def givesH (x : S) : M := ⟨3, x.me, x.t, x.e + 1, x.c⟩
def againH (x : S) : Option M := if rightS x = false then none else if x.k = true then some (givesH x) else none

/-- What comes of a message that may be, at a side that may be. -/
def hearH (x : S) (m : M) : S × Option M × Int :=
  if m.kind = 1 then (if x.e < m.ep then (x, some ⟨2, x.me, m.src, m.ep, noC⟩, 0) else (x, none, 10))
  else if m.kind = 2 then
    (if x.k = true ∧ x.e = m.ep ∧ x.s = 2 ∧ x.t = m.src then (x, againH x, 0)
     else if speaksB x.e x.s x.t m.ep = true then
       (if x.e = 1048576 then (x, none, 3) else (⟨x.me, x.e, 2, m.src, x.c, true⟩, some ⟨3, x.me, m.src, x.e + 1, x.c⟩, 0))
     else (x, none, 10))
  else if m.kind = 3 then
    (if x.e < m.ep then (⟨x.me, m.ep, 1, 0, m.c, false⟩, some ⟨4, x.me, m.src, m.ep, noC⟩, 0) else (x, some ⟨4, x.me, m.src, m.ep, noC⟩, 0))
  else (if x.k = true ∧ x.e = m.ep - 1 ∧ x.s = 2 ∧ x.t = m.src then (⟨x.me, x.e, x.s, x.t, noC, false⟩, none, 0) else (x, none, 10))

def hearA (x : S) (m : M) : S × Option M × Int :=
  if rightS x = false then (x, none, 2) else if mayM m = false then (x, none, 2) else if m.dst ≠ x.me then (x, none, 2)
  else hearH x m

end Go.Proofs.YtajnaiofagppeaaDoor.HandSpec
