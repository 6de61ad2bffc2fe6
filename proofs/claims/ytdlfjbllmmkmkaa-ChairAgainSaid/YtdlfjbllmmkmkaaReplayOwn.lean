/- Replay of a row of records. -/
import Derived.Test.YtdlfjbllmmkmkaaReplay
import Derived.Test.YtdlfjbllmmkmkaaZero
import Derived.Test.YtdlfjbllmmkmkaaOpen
namespace Go.Proofs.Ytdlfjbllmmkmkaa.Chair
open Go.RowKit Go.Maps Flat ChairSpec News Go.Proofs.YtdlfjbllmmkmkaaW.PrintLast
set_option linter.unusedSimpArgs false
set_option linter.unusedVariables false
set_option maxRecDepth 100000
theorem rcl_get (l : List Re) : ∀ i (h : i < l.length) j, j < 8 → (rcl l)[i * 8 + j]? = (rec1 l[i])[j]? := by
  induction l with
  | nil => intro i h; exact absurd h (Nat.not_lt_zero _)
  | cons r l ih =>
    intro i h j hj
    have e : rcl (r :: l) = rec1 r ++ rcl l := by simp [rcl]
    have e8 : (rec1 r).length = 8 := rfl
    rw [e]
    cases i with
    | zero => rw [List.getElem?_append_left (by omega)]; simp
    | succ i =>
      rw [List.getElem?_append_right (by omega), e8, show (i + 1) * 8 + j - 8 = i * 8 + j by omega]
      exact ih i (by simpa using h) j hj
theorem replay_own (w : World) (B : Nat) (v : Value) (l : List Re) (n : Nat) (hn : l.length = n) (hl6 : l.length < 1000000) (hok : ∀ r ∈ l, 0 ≤ r.who ∧ r.who ≤ 255) (hown : w.ownsRow B 33 8 v n (rcl l)) :
    Calls Try.prog 22 #[v] w (ReplayPost w l) := by
  subst hn
  rcases hown.2 with ⟨h1, h2⟩ | ⟨g, cap, cur, h1, hB, hg, hnc, hcm, _⟩
  · subst h1
    have k := replay_any w none 0 l (by unfold maxLen; omega) (by omega) hl6 hok (fun h => absurd h (by omega))
    rwa [h2] at k
  · subst h1
    refine replay_any w _ cap l hcm hnc hl6 hok (fun h => ⟨g, 0, rfl, (hown.lt g rfl).2, fun i hi j u hu => ?_⟩)
    have hj : j < 8 := (List.getElem?_eq_some_iff.1 hu).1
    rw [Nat.zero_add, World.ownsRow.cellAt hown (i * 8 + j) (by omega), rcl_get l i hi j hj]
    exact hu
theorem replay_none (w : World) (B : Nat) (v : Value) (l : List Re) (n : Nat) (hn : l.length = n) (hl6 : l.length < 1000000) (hok : ∀ r ∈ l, 0 ≤ r.who ∧ r.who ≤ 255) (hown : w.ownsRow B 33 8 v n (rcl l)) (h0 : replayF c0 l = none) :
    Calls Try.prog 22 #[v] w fun e w' => e = .returned (.tuple #[.pointer none, .int .i64 4]) ∧ Below w.heap.size w w' := by
  refine (replay_own w B v l n hn hl6 hok hown).mono ?_
  rintro e w' ⟨hb, h⟩
  rw [h0] at h
  exact ⟨h, hb⟩
theorem replay_some (w : World) (B : Nat) (v : Value) (l : List Re) (n : Nat) (hn : l.length = n) (hl6 : l.length < 1000000) (hok : ∀ r ∈ l, 0 ≤ r.who ∧ r.who ≤ 255) (hown : w.ownsRow B 33 8 v n (rcl l)) (s : Ch) (h0 : replayF c0 l = some s) :
    Calls Try.prog 22 #[v] w fun e w' => ∃ g bm lv c, e = .returned (.tuple #[.pointer (some ⟨g, 0, none⟩), .int .i64 0]) ∧ ChairAt w' g bm lv c s ∧ w.heap.size ≤ bm ∧ Below w.heap.size w w' := by
  refine (replay_own w B v l n hn hl6 hok hown).mono ?_
  rintro e w' ⟨hb, h⟩
  rw [h0] at h
  obtain ⟨g, bm, lv, c, h1, h2, h3⟩ := h
  exact ⟨g, bm, lv, c, h1, h2, h3, hb⟩
theorem row_mono {w : World} {base base' n k : Nat} {e : TypeId} {v : Value} {l : List Value} (h : w.ownsRow base e k v n l) (hb : base' ≤ base) : w.ownsRow base' e k v n l :=
  ⟨h.1, h.2.imp id fun ⟨g, cap, cur, h1, h2, h3⟩ => ⟨g, cap, cur, h1, Nat.le_trans hb h2, h3⟩⟩
theorem zero_news {w : World} {B g : Nat} {cs : List Value} (h : Zero w B g cs) (j : Nat) (u : Value) (hu : cs[j]? = some u) : w.cell? ((⟨g, 0, none⟩ : Addr).add j) = some u := by
  have e : ((⟨g, 0, none⟩ : Addr).add j) = ⟨g, j, none⟩ := by unfold Addr.add; split <;> simp_all
  rw [e, h.2.2.1 j, hu]
end Go.Proofs.Ytdlfjbllmmkmkaa.Chair
