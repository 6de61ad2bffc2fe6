/- Leases in plain Lean: which there may be, what Take and Give make of them. -/
namespace Go.Proofs.YtajnaiofagppeaaDoor.LeaseSpec

def epochB (n : Int) : Bool := decide (1 ≤ n) && decide (n ≤ 1048576)
def rightB (e s t : Int) : Bool := if s = 0 then e == 0 && t == 0 else if s = 1 then epochB e && t == 0 else if s = 2 then epochB e && decide (t < 8) else false
def speaksB (e s t n : Int) : Bool := rightB e s t && s == 1 && e == n

structure L where
  e : Int
  s : Int
  t : Int
deriving DecidableEq

def take (e s t n : Int) : L × Int :=
  if rightB e s t = false then (⟨e, s, t⟩, 2) else if epochB n = false then (⟨e, s, t⟩, 2) else if speaksB e s t n = true then (⟨e, s, t⟩, 8) else if n ≤ e then (⟨e, s, t⟩, 10) else (⟨n, 1, 0⟩, 0)
def give (e s t to : Int) : L × Int :=
  if rightB e s t = false then (⟨e, s, t⟩, 2) else if 8 ≤ to then (⟨e, s, t⟩, 2) else if s = 1 then (if e = 1048576 then (⟨e, s, t⟩, 3) else (⟨e, 2, to⟩, 0)) else (⟨e, s, t⟩, 7)

end Go.Proofs.YtajnaiofagppeaaDoor.LeaseSpec
