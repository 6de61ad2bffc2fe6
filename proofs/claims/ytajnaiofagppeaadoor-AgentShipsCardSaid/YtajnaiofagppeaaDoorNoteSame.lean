/- Two notes compared. -/
import Derived.Test.YtajnaiofagppeaaDoorSpeak
namespace Go.Proofs.YtajnaiofagppeaaDoor.Speak
open Go Go.RowKit NoteSpec Flat
set_option linter.unusedSimpArgs false
set_option linter.unusedVariables false
theorem ba_eq {a b : ByteArray} (h : a.toList = b.toList) : a = b := by
  rw [ByteArray.toList_eq, ByteArray.toList_eq] at h
  cases a; cases b
  simpa using h
def nB (a b : N) : Bool := decide (a = b)
theorem nB_same (a : N) : nB a a = true := by simp [nB]
set_option maxHeartbeats 1000000 in
theorem note_eq (a b : N) (w : World) : (binOp .eql 75 (.agg #[.int .i64 a.k, .int .u8 a.m, .int .i64 a.tx, .int .i64 a.ep, .int .i64 a.v, .int .i64 a.hk, .int .u8 a.hf, .int .u8 a.ht, .int .i64 a.he, .string a.hc]) (.agg #[.int .i64 b.k, .int .u8 b.m, .int .i64 b.tx, .int .i64 b.ep, .int .i64 b.v, .int .i64 b.hk, .int .u8 b.hf, .int .u8 b.ht, .int .i64 b.he, .string b.hc])).run Tryd.prog w = .ok (.bool (nB a b)) w := by
  obtain ⟨a1, a2, a3, a4, a5, a6, a7, a8, a9, a10⟩ := a; obtain ⟨b1, b2, b3, b4, b5, b6, b7, b8, b9, b10⟩ := b; dsimp only; unfold nB; exact (by by_cases h1 : a1 = b1; rotate_left; (simp [go_sem, h1]); subst h1; by_cases h2 : a2 = b2; rotate_left; (simp [go_sem, h2]); subst h2; by_cases h3 : a3 = b3; rotate_left; (simp [go_sem, h3]); subst h3; by_cases h4 : a4 = b4; rotate_left; (simp [go_sem, h4]); subst h4; by_cases h5 : a5 = b5; rotate_left; (simp [go_sem, h5]); subst h5; by_cases h6 : a6 = b6; rotate_left; (simp [go_sem, h6]); subst h6; by_cases h7 : a7 = b7; rotate_left; (simp [go_sem, h7]); subst h7; by_cases h8 : a8 = b8; rotate_left; (simp [go_sem, h8]); subst h8; by_cases h9 : a9 = b9; rotate_left; (simp [go_sem, h9]); subst h9; by_cases h10 : a10 = b10; rotate_left; (have h10' : ¬ a10.toList = b10.toList := fun h => h10 (ba_eq h); simp [go_sem, h10, h10']); subst h10; simp [go_sem])
set_option maxHeartbeats 1000000 in
theorem rnote_eq (a b : N) (w : World) : (binOp .eql 110 (.agg #[.int .i64 a.k, .int .u8 a.m, .int .i64 a.tx, .int .i64 a.ep, .int .i64 a.v, .int .i64 a.hk, .int .u8 a.hf, .int .u8 a.ht, .int .i64 a.he, .string a.hc]) (.agg #[.int .i64 b.k, .int .u8 b.m, .int .i64 b.tx, .int .i64 b.ep, .int .i64 b.v, .int .i64 b.hk, .int .u8 b.hf, .int .u8 b.ht, .int .i64 b.he, .string b.hc])).run Tryd.prog w = .ok (.bool (nB a b)) w := by
  obtain ⟨a1, a2, a3, a4, a5, a6, a7, a8, a9, a10⟩ := a; obtain ⟨b1, b2, b3, b4, b5, b6, b7, b8, b9, b10⟩ := b; dsimp only; unfold nB; exact (by by_cases h1 : a1 = b1; rotate_left; (simp [go_sem, h1]); subst h1; by_cases h2 : a2 = b2; rotate_left; (simp [go_sem, h2]); subst h2; by_cases h3 : a3 = b3; rotate_left; (simp [go_sem, h3]); subst h3; by_cases h4 : a4 = b4; rotate_left; (simp [go_sem, h4]); subst h4; by_cases h5 : a5 = b5; rotate_left; (simp [go_sem, h5]); subst h5; by_cases h6 : a6 = b6; rotate_left; (simp [go_sem, h6]); subst h6; by_cases h7 : a7 = b7; rotate_left; (simp [go_sem, h7]); subst h7; by_cases h8 : a8 = b8; rotate_left; (simp [go_sem, h8]); subst h8; by_cases h9 : a9 = b9; rotate_left; (simp [go_sem, h9]); subst h9; by_cases h10 : a10 = b10; rotate_left; (have h10' : ¬ a10.toList = b10.toList := fun h => h10 (ba_eq h); simp [go_sem, h10, h10']); subst h10; simp [go_sem])
/-! ### Notes in memory -/
def Ten (w : World) (g o : Nat) (n : N) : Prop :=
  w.cell? ⟨g, o, none⟩ = some (.int .i64 n.k) ∧ w.cell? ⟨g, o + 1, none⟩ = some (.int .u8 n.m) ∧ w.cell? ⟨g, o + 2, none⟩ = some (.int .i64 n.tx) ∧ w.cell? ⟨g, o + 3, none⟩ = some (.int .i64 n.ep) ∧ w.cell? ⟨g, o + 4, none⟩ = some (.int .i64 n.v) ∧
  w.cell? ⟨g, o + 5, none⟩ = some (.int .i64 n.hk) ∧ w.cell? ⟨g, o + 6, none⟩ = some (.int .u8 n.hf) ∧ w.cell? ⟨g, o + 7, none⟩ = some (.int .u8 n.ht) ∧ w.cell? ⟨g, o + 8, none⟩ = some (.int .i64 n.he) ∧ w.cell? ⟨g, o + 9, none⟩ = some (.string n.hc)
def IsNot (w : World) (v : Value) (l : List N) : Prop :=
  ∃ a cap, v = .slice a l.length cap ∧ l.length ≤ cap ∧ cap ≤ maxLen ∧ (0 < l.length → ∃ g off, a = some ⟨g, off, none⟩ ∧ g < w.heap.size ∧ ∀ i (h : i < l.length), Ten w g (off + i * 10) l[i])
theorem Ten.below {w w' : World} {g o C : Nat} {n : N} (h : Ten w g o n) (hb : Below C w w') (hg : g < C) : Ten w' g o n := by
  obtain ⟨h0, h1, h2, h3, h4, h5, h6, h7, h8, h9⟩ := h
  exact ⟨(hb.cell (p := ⟨g, _, none⟩) hg).trans h0, (hb.cell (p := ⟨g, _, none⟩) hg).trans h1, (hb.cell (p := ⟨g, _, none⟩) hg).trans h2, (hb.cell (p := ⟨g, _, none⟩) hg).trans h3, (hb.cell (p := ⟨g, _, none⟩) hg).trans h4, (hb.cell (p := ⟨g, _, none⟩) hg).trans h5, (hb.cell (p := ⟨g, _, none⟩) hg).trans h6, (hb.cell (p := ⟨g, _, none⟩) hg).trans h7, (hb.cell (p := ⟨g, _, none⟩) hg).trans h8, (hb.cell (p := ⟨g, _, none⟩) hg).trans h9⟩
theorem IsNot.below {w w' : World} {v : Value} {l : List N} (h : IsNot w v l) (hb : Below w.heap.size w w') : IsNot w' v l := by
  obtain ⟨a, cap, hv, h1, h2, hc⟩ := h
  refine ⟨a, cap, hv, h1, h2, fun hl => ?_⟩
  obtain ⟨b, off, ha, hb2, hd⟩ := hc hl
  exact ⟨b, off, ha, Nat.lt_of_lt_of_le hb2 hb.size, fun i hi => (hd i hi).below hb hb2⟩
theorem ncl_at : ∀ (l : List N) (i : Nat) (h : i < l.length) (j : Nat), j < 10 → (ncl l)[i * 10 + j]? = (not1 l[i])[j]?
  | b :: l, 0, h, j, hj => by
    show (not1 b ++ ncl l)[0 * 10 + j]? = _
    rw [Nat.zero_mul, Nat.zero_add, List.getElem?_append_left (by show j < 10; exact hj)]
    rfl
  | b :: l, i + 1, h, j, hj => by
    show (not1 b ++ ncl l)[(i + 1) * 10 + j]? = _
    rw [List.getElem?_append_right (by show 10 ≤ _; omega), show (i + 1) * 10 + j - (not1 b).length = i * 10 + j by show _ - 10 = _; omega, ncl_at l i (by simpa using h) j hj]
    rfl
/-- A row of notes of one's own, read. -/
theorem own_not {w : World} {B : Nat} {v : Value} {l : List N} (h : OwnN w B v l) : IsNot w v l := by
  have hc := fun g => World.ownsRow.cells (g := g) h
  have hlt := h.lt
  rcases h.2 with ⟨h1, h2⟩ | ⟨g, cap, cur, h1, _, _, h3, h4, _⟩
  · exact ⟨none, 0, by rw [h1, h2], by omega, Nat.zero_le _, fun h => by omega⟩
  · subst h1
    refine ⟨_, cap, rfl, h3, h4, fun hl => ⟨g, 0, rfl, (hlt g rfl).2, fun i hi => ?_⟩⟩
    have q : ∀ j u, j < 10 → (not1 l[i])[j]? = some u → w.cell? ⟨g, 0 + i * 10 + j, none⟩ = some u := fun j u hj hu => by
      have k := hc g rfl (i * 10 + j) u (by rw [ncl_at l i hi j hj]; exact hu)
      rw [show ((⟨g, 0, none⟩ : Addr).add (i * 10 + j)) = ⟨g, 0 + i * 10 + j, none⟩ by unfold Addr.add; split <;> simp_all [Nat.add_assoc]] at k
      exact k
    exact ⟨q 0 _ (by omega) rfl, q 1 _ (by omega) rfl, q 2 _ (by omega) rfl, q 3 _ (by omega) rfl, q 4 _ (by omega) rfl, q 5 _ (by omega) rfl, q 6 _ (by omega) rfl, q 7 _ (by omega) rfl, q 8 _ (by omega) rfl, q 9 _ (by omega) rfl⟩
end Go.Proofs.YtajnaiofagppeaaDoor.Speak
