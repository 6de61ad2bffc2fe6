/- A map keyed by small numbers, as a function; over the kit's word for a map that the call owns. -/
import Derived.Test.YtcenfolmajegeaaProg
import Derived.WalkKit
import Derived.WalkSpells
import Derived.Maps.Own
import Derived.Maps.OwnOps
import Derived.Maps.OwnSet
import Derived.Maps.Views
import Derived.Below
namespace Go.Proofs.Ytcenfolmajegeaa.CellMap
open Go.RowKit Go.Maps
set_option linter.unusedVariables false

abbrev DM := DataW Unit
abbrev kl (k : Int) : Lit := .int .u8 k
/-- The datum reads as the function f, of c entries. -/
def Reads (D : DM) (f : Int → Option Int) (c : Nat) : Prop :=
  Maps.size D = c ∧ ∀ k, Maps.has D (kl k) = (f k).isSome ∧ D.atKey (kl k) (.lit (.int .i64 0)) = .lit (.int .i64 ((f k).getD 0))
def set (f : Int → Option Int) (k v : Int) : Int → Option Int := fun j => if j = k then some v else f j
def drop (f : Int → Option Int) (k : Int) : Int → Option Int := fun j => if j = k then none else f j
def none_ : Int → Option Int := fun _ => none

theorem reads_none : Reads (.map []) none_ 0 := ⟨rfl, fun k => ⟨rfl, rfl⟩⟩
theorem ne_kl {j k : Int} (h : j ≠ k) : kl j ≠ kl k := fun e => h (by cases e; rfl)
theorem reads_set {D : DM} {f : Int → Option Int} {c : Nat} (ht : Tidy D) (h : Reads D f c) (k v : Int) (hk : WideAt.IsKeyLit (kl k)) :
    Reads (D.put (kl k) (.lit (.int .i64 v))) (set f k v) (if (f k).isSome then c else c + 1) := by
  refine ⟨?_, fun j => ?_⟩
  · rw [size_put ht, (h.2 k).1, h.1]
  · by_cases hj : j = k
    · subst hj
      simp only [set, if_true]
      exact ⟨has_put_same ht.isMap hk _, atKey_put_same ht.isMap hk _ _⟩
    · simp only [set, if_neg hj]
      exact ⟨by rw [has_put_other (ne_kl hj)]; exact (h.2 j).1, by rw [atKey_put_other (ne_kl hj)]; exact (h.2 j).2⟩
theorem reads_drop {D : DM} {f : Int → Option Int} {c : Nat} (ht : Tidy D) (h : Reads D f c) (k : Int) :
    Reads (D.del (kl k)) (drop f k) (if (f k).isSome then c - 1 else c) := by
  refine ⟨?_, fun j => ?_⟩
  · have := size_del (k := kl k) ht
    rw [(h.2 k).1, h.1] at this
    split <;> simp_all <;> omega
  · by_cases hj : j = k
    · subst hj
      simp only [drop, if_true]
      exact ⟨has_del_same, atKey_del_same _⟩
    · simp only [drop, if_neg hj]
      exact ⟨by rw [has_del_other (ne_kl hj)]; exact (h.2 j).1, by rw [atKey_del_other (ne_kl hj)]; exact (h.2 j).2⟩
end Go.Proofs.Ytcenfolmajegeaa.CellMap
