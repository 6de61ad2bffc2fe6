/- A new block that is not written yet. -/
import Derived.Test.YtdlfjbllmmkmkaaFlat
namespace Go.Proofs.Ytdlfjbllmmkmkaa.Flat
open Go.RowKit

/-- A new block, not written yet, from block B on. -/
def Zero (w : World) (B g : Nat) (cs : List Value) : Prop := B ≤ g ∧ g < w.heap.size ∧ (∀ i, w.cell? ⟨g, i, none⟩ = cs[i]?) ∧ ∀ o, w.frozen? ⟨g, o, none⟩ = false
theorem zero_alloc {v v6 : World} {cs : Array Value} {t : TypeId} {B : Nat} (h : v.alloc (.cells cs t) = v6) (hB : B ≤ v.heap.size) : Zero v6 B v.heap.size cs.toList := by
  refine ⟨hB, (alloc_facts h).2.1, fun i => ?_, fun o => ?_⟩
  · rw [(alloc_facts h).2.2 i]; simp
  · rw [← h]; exact World.frozen?_alloc_at _ _ _ _ rfl
theorem zero_stay {w w' : World} {B g : Nat} {cs : List Value} (hb : Below w.heap.size w w') (h : Zero w B g cs) : Zero w' B g cs := by
  obtain ⟨h1, h2, h3, h4⟩ := h
  exact ⟨h1, Nat.lt_of_lt_of_le h2 hb.size, fun i => (hb.cell (p := ⟨g, i, none⟩) h2).trans (h3 i), fun o => stayf hb h2 (h4 o)⟩
end Go.Proofs.Ytdlfjbllmmkmkaa.Flat
