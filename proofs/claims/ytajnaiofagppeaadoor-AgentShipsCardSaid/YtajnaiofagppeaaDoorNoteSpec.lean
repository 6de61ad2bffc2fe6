/- Notes in plain Lean: which there may be. -/
namespace Go.Proofs.YtajnaiofagppeaaDoor.NoteSpec

structure N where
  k : Int
  m : Int
  tx : Int
  ep : Int
  v : Int
  hk : Int
  hf : Int
  ht : Int
  he : Int
  hc : ByteArray
deriving DecidableEq

def epochB (n : Int) : Bool := decide (1 ≤ n) && decide (n ≤ 1048576)
def handed (mk mf mt me : Int) (mc : ByteArray) : Bool := decide (1 ≤ mk) && decide (mk ≤ 4) && decide (mf < 8) && decide (mt < 8) && epochB me && decide (mc.size ≤ 500)
def noMsg (mk mf mt me : Int) (mc : ByteArray) : Bool := (mk == 0) && (mf == 0) && (mt == 0) && (me == 0) && (mc.toList == [])
/-- May there be such a note? -/
def rightB (k m tx ep v mk mf mt me : Int) (mc : ByteArray) : Bool :=
  decide (m < 8) && decide (0 ≤ tx) && decide (tx < 1000) &&
  (if k = 1 then (tx == 0) && (ep == 0) && (v == 0) && handed mk mf mt me mc
   else noMsg mk mf mt me mc &&
    (if k = 2 then epochB ep && ((v == 1) || (v == 2)) else if k = 3 then epochB ep && (v == 0) else if k = 4 then (ep == 0) && (v == 0)
     else if k = 5 then (ep == 0) && decide (0 ≤ v) && decide (v ≤ 2) else false))
end Go.Proofs.YtajnaiofagppeaaDoor.NoteSpec
