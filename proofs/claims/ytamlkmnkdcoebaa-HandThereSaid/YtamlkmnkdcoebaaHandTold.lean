/- What Hear tells, for the statements' walks. -/
import Derived.Test.YtamlkmnkdcoebaaHandAlive
import Derived.Test.YtamlkmnkdcoebaaHandRefTop
import Derived.Test.YtamlkmnkdcoebaaHandLaws
import Derived.Test.YtamlkmnkdcoebaaZero
namespace Go.Proofs.Ytamlkmnkdcoebaa.Hand
open Go.RowKit LeaseSpec Flat Lease HandSpec Hand Go.Proofs.YtamlkmnkdcoebaaW.PrintLast
set_option linter.unusedSimpArgs false
set_option linter.unusedVariables false

/-- What is said lies elsewhere. -/
def Apart (v : Value) (g : Nat) : Prop := ∀ gm l n, v = .slice (some ⟨gm, 0, none⟩) l n → gm ≠ g
theorem apart_old {w : World} {B g : Nat} {o : Option M} {v : Value} (h : Said w B o v) (hg : g < B) : Apart v g := by
  intro gm l n hv
  cases o with
  | none => have h' : v = .slice none 0 0 := h; rw [h'] at hv; cases hv
  | some m => obtain ⟨g', hv', hB, _⟩ := h; rw [hv'] at hv; cases hv; omega
theorem apart_new {w : World} {B : Nat} {o : Option M} {v : Value} (h : Said w B o v) : Apart v w.heap.size := by
  intro gm l n hv
  cases o with
  | none => have h' : v = .slice none 0 0 := h; rw [h'] at hv; cases hv
  | some m => obtain ⟨g', hv', hB, hl, _⟩ := h; rw [hv'] at hv; cases hv; omega
theorem said_set_apart {w : World} {B g o' : Nat} {u v : Value} {o : Option M} (h : Said w B o v) (ha : Apart v g) : Said (w.setCell ⟨g, o', none⟩ u) B o v := by
  cases o with
  | none => exact h
  | some m =>
    obtain ⟨g', hv, hB, hlt, h0, h1, h2, h3, h4⟩ := h
    have hne := ha _ _ _ hv
    have ne : ∀ i, (w.setCell ⟨g, o', none⟩ u).cell? ⟨g', i, none⟩ = w.cell? ⟨g', i, none⟩ := fun i => World.cell?_setCell_other _ _ _ _ (by intro e; injection e with e1; exact hne e1.symm)
    exact ⟨g', hv, hB, by simpa using hlt, by rw [ne, h0], by rw [ne, h1], by rw [ne, h2], by rw [ne, h3], by rw [ne, h4]⟩

def HearT (T : S × Option M × Int) (w : World) (r : Ending) (w' : World) : Prop :=
  ∃ v, r = .returned (.tuple #[.agg #[.int .u8 T.1.me, .int .i64 T.1.e, .int .i64 T.1.s, .int .u8 T.1.t, .string T.1.c, .bool T.1.k], v, .int .i64 T.2.2]) ∧ Below w.heap.size w w' ∧ Said w' w.heap.size T.2.1 v
theorem hear_told (x : S) (m : M) (w : World) (hc : x.c.size ≤ maxLen) (hcm : m.c.size ≤ maxLen) :
    Calls Try.prog 10 #[.agg #[.int .u8 x.me, .int .i64 x.e, .int .i64 x.s, .int .u8 x.t, .string x.c, .bool x.k], .agg #[.int .i64 m.kind, .int .u8 m.src, .int .u8 m.dst, .int .i64 m.ep, .string m.c]] w (HearT (hearA x m) w) :=
  (hear_top x m w hc hcm).mono fun _ _ h => h

end Go.Proofs.Ytamlkmnkdcoebaa.Hand
