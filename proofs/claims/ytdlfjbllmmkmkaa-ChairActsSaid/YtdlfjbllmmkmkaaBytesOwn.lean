/- Bytes in a row of one's own. -/
import Derived.Test.YtdlfjbllmmkmkaaBytes
import Derived.OwnWalk
import Derived.Maps.AppendAt
namespace Go.Proofs.Ytdlfjbllmmkmkaa.ByteMem
open Go.RowKit Flat
set_option linter.unusedSimpArgs false
set_option linter.unusedVariables false
theorem infoU : (Try.prog.info? 5).map (fun i => (i.zero, i.size, i.bytes)) = some (some (.int .u8 0), 1, 1) := by kernel_rfl
def bcl (l : List UInt8) : List Value := l.map fun c => .int .u8 (c.toNat : Int)
theorem bcl_one (l : List UInt8) : ∀ u ∈ bcl l, u.oneCell' = true := by
  intro u hu
  obtain ⟨c, _, rfl⟩ := List.mem_map.1 hu
  rfl
theorem bcl_append (a b : List UInt8) : bcl (a ++ b) = bcl a ++ bcl b := by simp [bcl]
theorem own_isb {w : World} {B : Nat} {v : Value} {l : List UInt8} (h : w.ownsRow B 5 1 v l.length (bcl l)) : ∃ a0 cap, v = .slice a0 l.length cap ∧ l.length ≤ cap ∧ cap ≤ maxLen ∧ IsB w w.heap.size a0 l := by
  have hlt := h.lt
  have hc := fun g => World.ownsRow.cells (g := g) h
  rcases h.2 with ⟨h1, h2⟩ | ⟨g, cap, cur, h1, hB, hg, h2, h3, _⟩
  · exact ⟨none, 0, by rw [h1, h2], by omega, by decide, fun hl => by omega⟩
  · subst h1
    refine ⟨_, cap, rfl, h2, h3, fun _ => ⟨g, 0, rfl, (hlt g rfl).2, fun i hi => ?_⟩⟩
    have := hc g rfl i (.int .u8 (l[i].toNat : Int)) (by simp [bcl, hi])
    have e : ((⟨g, 0, none⟩ : Addr).add i) = ⟨g, 0 + i, none⟩ := by unfold Addr.add; split <;> simp_all
    rwa [e] at this
end Go.Proofs.Ytdlfjbllmmkmkaa.ByteMem
