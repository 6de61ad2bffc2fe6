/- A map keyed by whole numbers as a function to values, whatever these are; over the kit's word for a map that the call owns. -/
import Derived.Test.YtdlfjbllmmkmkaaProg
import Derived.WalkKit
import Derived.Maps.Own
import Derived.Maps.OwnOps
import Derived.Maps.OwnSet
import Derived.Maps.Views
import Derived.Below
import Derived.Deep.AppendLies
namespace Go.Proofs.Ytdlfjbllmmkmkaa.MapV
open Go.RowKit Go.Maps
set_option linter.unusedVariables false

section
variable {P : Program} {q : IntKind} {kt t et : TypeId} {w : World} {b n c : Nat} {f : Int → Option Value}

/-- Every value reads as itself. -/
def RV (v : Value) : Option (DataW Value × List MemPlace) := some (.held v, [])
def set (f : Int → Option Value) (k : Int) (v : Value) : Int → Option Value := fun j => if j = k then some v else f j
def drop (f : Int → Option Value) (k : Int) : Int → Option Value := fun j => if j = k then none else f j
def none_ : Int → Option Value := fun _ => none
theorem set_same (f : Int → Option Value) (k : Int) (v : Value) : set f k v k = some v := if_pos rfl
theorem set_other (f : Int → Option Value) {k j : Int} (v : Value) (h : j ≠ k) : set f k v j = f j := if_neg h
/-- The datum reads as f, of c entries. -/
def Reads (q : IntKind) (D : DataW Value) (f : Int → Option Value) (c : Nat) : Prop :=
  Maps.size D = c ∧ ∀ k, Maps.has D (.int q k) = (f k).isSome ∧ ∀ z, D.atKey (.int q k) (.held z) = .held ((f k).getD z)
/-- Block b is a map that reads as f: at most n entries, c of them. -/
def Own (P : Program) (q : IntKind) (kt : TypeId) (w : World) (b : Nat) (f : Int → Option Value) (c : Nat) : Prop :=
  ∃ D : DataW Value, w.ownsMap P kt RV b c D ∧ Reads q D f c

theorem ne_kl {j k : Int} (h : j ≠ k) : Lit.int q j ≠ Lit.int q k := fun e => h (by cases e; rfl)
theorem reads_none : Reads q (.map []) none_ 0 := ⟨rfl, fun k => ⟨rfl, fun z => rfl⟩⟩
theorem reads_set {D : DataW Value} (ht : Tidy D) (h : Reads q D f c) (k : Int) (v : Value) (hk : WideAt.IsKeyLit (.int q k)) :
    Reads q (D.put (.int q k) (.held v)) (set f k v) (if (f k).isSome then c else c + 1) := by
  refine ⟨?_, fun j => ?_⟩
  · rw [size_put ht, (h.2 k).1, h.1]
  · by_cases hj : j = k
    · subst hj
      simp only [set, if_true]
      exact ⟨has_put_same ht.isMap hk _, fun z => atKey_put_same ht.isMap hk _ _⟩
    · simp only [set, if_neg hj]
      exact ⟨by rw [has_put_other (ne_kl hj)]; exact (h.2 j).1, fun z => by rw [atKey_put_other (ne_kl hj)]; exact (h.2 j).2 z⟩
theorem reads_drop {D : DataW Value} (ht : Tidy D) (h : Reads q D f c) (k : Int) :
    Reads q (D.del (.int q k)) (drop f k) (if (f k).isSome then c - 1 else c) := by
  refine ⟨?_, fun j => ?_⟩
  · have := size_del (k := .int q k) ht
    rw [(h.2 k).1, h.1] at this
    split <;> simp_all <;> omega
  · by_cases hj : j = k
    · subst hj
      simp only [drop, if_true]
      exact ⟨has_del_same, fun z => atKey_del_same _⟩
    · simp only [drop, if_neg hj]
      exact ⟨by rw [has_del_other (ne_kl hj)]; exact (h.2 j).1, fun z => by rw [atKey_del_other (ne_kl hj)]; exact (h.2 j).2 z⟩
theorem tight {D : DataW Value} (h : w.ownsMap P kt RV b n D) : w.ownsMap P kt RV b (Maps.size D) D := by
  obtain ⟨es, clock, hb, F, _, rfl⟩ := h
  exact ⟨es, clock, hb, F, by simp only [Maps.size]; rw [length_read]; exact Nat.le_refl _, rfl⟩
theorem own_of {D : DataW Value} (h : w.ownsMap P kt RV b n D) (hD : Reads q D f c) : Own P q kt w b f c := by
  have := tight h
  rw [hD.1] at this
  exact ⟨D, this, hD⟩
theorem Own.heap {w' : World} (h : Own P q kt w b f c) (e : w'.heap[b]? = w.heap[b]?) : Own P q kt w' b f c := by
  obtain ⟨D, ⟨es, clock, hb, r⟩, hD⟩ := h
  exact ⟨D, ⟨es, clock, e.trans hb, r⟩, hD⟩
theorem Own.lt (h : Own P q kt w b f c) : b < w.heap.size := by
  obtain ⟨D, h, hD⟩ := h; exact h.lt
theorem Own.below {w' : World} {B : Nat} (h : Own P q kt w b f c) (hb : Below B w w') (hlt : b < B) : Own P q kt w' b f c := h.heap (hb.block b hlt)
theorem own_made (w : World) : Own P q kt (w.alloc (.map #[] 0)) w.heap.size none_ 0 := own_of (World.ownsMap_made w P kt RV) reads_none
/-- What is a map is no row of cells. -/
theorem Own.ne_cells {g o : Nat} {v : Value} (h : Own P q kt w b f c) (hg : w.cell? ⟨g, o, none⟩ = some v) : b ≠ g := by
  intro e
  subst e
  obtain ⟨D, ⟨es, clock, hb, _⟩, _⟩ := h
  simp [World.cell?, hb] at hg
theorem Own.setCell {g o : Nat} {v : Value} (h : Own P q kt w b f c) (hg : b ≠ g) : Own P q kt (w.setCell ⟨g, o, none⟩ v) b f c := by
  refine h.heap ?_
  simp only [World.setCell, Array.getElem?_modify]
  rw [if_neg (fun e => hg e.symm)]

/-- 'v, ok := m[k]'. -/
theorem Own.look_ok (h : Own P q kt w b f c) (K : Keyed P kt) (ht : P.underlying t = some (.map kt et)) {z : Value} (hz : ∀ w, (zeroValue et).run P w = .ok z w) {k : Int} (hk : keyOf P kt (.int q k) = some (.int q k)) :
    (Instr.lookup t (.map (some b)) (.int q k) true).run P w = .ok (.tuple #[(f k).getD z, .bool (f k).isSome]) w := by
  obtain ⟨D, h, hD⟩ := h
  obtain ⟨v, ps, hrun, hv⟩ := h.look_ok K ht (hz w) (show RV z = some (.held z, []) from rfl) hk
  rw [(hD.2 k).2 z] at hv
  have e : v = (f k).getD z := by
    simp only [RV, Option.some.injEq, Prod.mk.injEq, DataW.held.injEq] at hv
    exact hv.1
  rw [hrun, e, (hD.2 k).1]
/-- 'm[k]'. -/
theorem Own.look (h : Own P q kt w b f c) (K : Keyed P kt) (ht : P.underlying t = some (.map kt et)) {z : Value} (hz : ∀ w, (zeroValue et).run P w = .ok z w) {k : Int} (hk : keyOf P kt (.int q k) = some (.int q k)) :
    (Instr.lookup t (.map (some b)) (.int q k) false).run P w = .ok ((f k).getD z) w := by
  have hc := h.look_ok (t := t) (et := et) K ht hz hk
  obtain ⟨D, ⟨es, clock, hb, F, _, rfl⟩, hD⟩ := h
  have h1 := (hD.2 k).2 z
  rcases Maps.fit_look false K ht (hz w) hb F hk with ⟨hrun, _, hat⟩ | ⟨e0, y, _, _, hrun, hRv, hat, _⟩
  · rw [hat] at h1
    rw [hrun]
    simp only [DataW.held.injEq] at h1
    rw [← h1]
    rfl
  · rw [hat] at h1
    rw [hrun]
    have e : y = (.held e0.val, []) := by simpa [RV] using hRv.symm
    rw [e] at h1
    simp only [DataW.held.injEq] at h1
    rw [← h1]
    rfl
/-- 'm[k] = v'. -/
theorem Own.store (h : Own P q kt w b f c) (K : Keyed P kt) (ht : P.underlying t = some (.map kt et)) (hn : c < maxLen) {k : Int} (hk : keyOf P kt (.int q k) = some (.int q k)) (v : Value) :
    ∃ w', (Instr.mapUpdate t (.map (some b)) (.int q k) v).run P w = .ok () w' ∧ Own P q kt w' b (set f k v) (if (f k).isSome then c else c + 1) ∧ w.mapTurned w' b := by
  obtain ⟨D, h, hD⟩ := h
  obtain ⟨w', hrun, ho, hm⟩ := h.store K ht hn hk (show RV v = some (.held v, []) from rfl)
  exact ⟨w', hrun, own_of ho (reads_set (h.tidy K) hD k v (K.key hk)), hm⟩
/-- 'delete(m, k)'. -/
theorem Own.dropped (h : Own P q kt w b f c) (K : Keyed P kt) (ht : P.underlying t = some (.map kt et)) {k : Int} (hk : keyOf P kt (.int q k) = some (.int q k)) (ty : TypeId) :
    ∃ w', (Builtin.delete_ #[t, kt] ty #[.map (some b), .int q k]).run P w = .ok (.tuple #[]) w' ∧ Own P q kt w' b (drop f k) (if (f k).isSome then c - 1 else c) ∧ w.mapTurned w' b := by
  obtain ⟨D, h, hD⟩ := h
  obtain ⟨w', hrun, ho, hm⟩ := h.drop K ht hk ty
  exact ⟨w', hrun, own_of ho (reads_drop (h.tidy K) hD k), hm⟩
/-- 'len(m)'. -/
theorem Own.len (h : Own P q kt w b f c) (ht : P.underlying t = some (.map kt et)) (ty : TypeId) : (Builtin.len_ #[t] ty #[.map (some b)]).run P w = .ok (.int .i64 (c : Int)) w := by
  obtain ⟨D, h, hD⟩ := h
  rw [h.len ht ty, hD.1]
/-- What a store into the map leaves of the rest. -/
theorem turned_below {w' : World} {B : Nat} (h : w.mapTurned w' b) (hB : B ≤ b) (hw : B ≤ w.heap.size) : Below B w w' := by
  have g := h.grown
  exact ⟨g.os, g.tape, g.output, g.size, fun i hi => g.block i (by omega) (fun e => by cases e; omega)⟩
theorem turned_cell {w' : World} {g o : Nat} (h : w.mapTurned w' b) (hg : g ≠ b) (hl : g < w.heap.size) : w'.cell? ⟨g, o, none⟩ = w.cell? ⟨g, o, none⟩ :=
  h.grown.cell_far ⟨g, o, none⟩ hl (fun e => hg (by cases e; rfl))
theorem turned_size {w' : World} (h : w.mapTurned w' b) : w'.heap.size = w.heap.size := by
  obtain ⟨_, _, _, _, _, rfl⟩ := h
  simp [Go.ChangeMaps.setBlock]
theorem turned_frozen {w' : World} {g o : Nat} (h : w.mapTurned w' b) : w'.frozen? ⟨g, o, none⟩ = w.frozen? ⟨g, o, none⟩ := h.frozen _
theorem turned_block {w' : World} {g : Nat} (h : w.mapTurned w' b) (hg : g ≠ b) (hl : g < w.heap.size) : w'.heap[g]? = w.heap[g]? := h.grown.block g hl (fun e => hg (by cases e; rfl))
end
end Go.Proofs.Ytdlfjbllmmkmkaa.MapV
