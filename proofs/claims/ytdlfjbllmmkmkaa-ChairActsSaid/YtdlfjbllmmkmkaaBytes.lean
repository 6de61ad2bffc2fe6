/- Bytes that came in: a row of them at an address, its rests and beginnings; bytes as an argument. Light: of no package of the program. -/
import Derived.Test.YtdlfjbllmmkmkaaFlat
import Derived.WalkKit
import Derived.Below
import Derived.OpenShut
import Derived.Lib.Hide
namespace Go.Proofs.Ytdlfjbllmmkmkaa.ByteMem
open Go.RowKit Flat
set_option linter.unusedSimpArgs false
set_option linter.unusedVariables false

/-- Bytes that lie at an address, in a block below B. -/
def IsB (w : World) (B : Nat) (a : Option Addr) (l : List UInt8) : Prop :=
  0 < l.length → ∃ b off, a = some ⟨b, off, none⟩ ∧ b < B ∧ ∀ i (h : i < l.length), w.cell? ⟨b, off + i, none⟩ = some (.int .u8 (l[i].toNat : Int))
theorem IsB.take {w : World} {B : Nat} {a : Option Addr} {l : List UInt8} (h : IsB w B a l) (n : Nat) : IsB w B a (l.take n) := by
  intro hl
  rw [List.length_take] at hl
  obtain ⟨b, off, rfl, hb, hc⟩ := h (by omega)
  refine ⟨b, off, rfl, hb, fun i hi => ?_⟩
  rw [List.length_take] at hi
  rw [hc i (by omega), List.getElem_take]
theorem IsB.drop {w : World} {B : Nat} {a : Option Addr} {l : List UInt8} (h : IsB w B a l) (n : Nat) : IsB w B (a.map fun x => x.add n) (l.drop n) := by
  intro hl
  rw [List.length_drop] at hl
  obtain ⟨b, off, rfl, hb, hc⟩ := h (by omega)
  refine ⟨b, off + n, ?_, hb, fun i hi => ?_⟩
  · simp only [Option.map_some]
    unfold Addr.add
    split <;> simp_all
  · rw [List.length_drop] at hi
    rw [List.getElem_drop, ← hc (n + i) (by omega)]
    congr 2
    omega
/-- A rest, as the model lays it: of no room it does not move. -/
theorem IsB.rest {w : World} {B : Nat} {a : Option Addr} {l : List UInt8} (h : IsB w B a l) (n cap : Nat) (hc : l.length ≤ cap) : IsB w B (if cap = n then a else a.map fun x => x.add n) (l.drop n) := by
  split
  · intro hl
    rw [List.length_drop] at hl
    omega
  · exact h.drop n
theorem IsB.nil (w : World) (B : Nat) (a : Option Addr) : IsB w B a [] := fun h => absurd h (by simp)
theorem IsB.kept {w w' : World} {B : Nat} {a : Option Addr} {l : List UInt8} (h : IsB w B a l) (hk : ∀ b o, b < B → w'.cell? ⟨b, o, none⟩ = w.cell? ⟨b, o, none⟩) : IsB w' B a l := by
  intro hl
  obtain ⟨b, off, ha, hb, hc⟩ := h hl
  exact ⟨b, off, ha, hb, fun i hi => (hk b _ hb).trans (hc i hi)⟩
theorem IsB.mono {w : World} {B B' : Nat} {a : Option Addr} {l : List UInt8} (h : IsB w B a l) (hB : B ≤ B') : IsB w B' a l := by
  intro hl
  obtain ⟨b, off, ha, hb, hc⟩ := h hl
  exact ⟨b, off, ha, Nat.lt_of_lt_of_le hb hB, hc⟩
theorem IsB.below {w w' : World} {B : Nat} {a : Option Addr} {l : List UInt8} (h : IsB w B a l) (hb : Below B w w') : IsB w' B a l :=
  h.kept fun b o hlt => hb.cell (p := ⟨b, o, none⟩) hlt
/-- Bytes that came in. -/
theorem rows_bytes {w : World} {a : Option Addr} {len cap : Nat} {r : List (List Value)} (h : IsRows [.int .u8] w a len cap r) : ∃ l : List UInt8, l.length = len ∧ len ≤ cap ∧ cap ≤ maxLen ∧ IsB w w.heap.size a l := by
  obtain ⟨hl, hlc, hcm, hf, hc⟩ := h
  have key : ∀ rows : List (List Value), (∀ x ∈ rows, Fits [.int .u8] x) → ∃ l : List UInt8, l.length = rows.length ∧ ∀ i (h : i < l.length), rows.getD i [] = [.int .u8 (l[i].toNat : Int)] := by
    intro rows
    induction rows with
    | nil => intro _; exact ⟨[], rfl, fun i hi => absurd hi (by simp)⟩
    | cons row rows ih =>
      intro hall
      obtain ⟨l, h1, h3⟩ := ih (fun x hx => hall x (List.mem_cons_of_mem _ hx))
      obtain ⟨n, _, rfl, wn, x1⟩ := (hall row (by simp)).int
      obtain rfl := x1.done
      obtain ⟨b1, b2⟩ := bounds_u8 wn
      refine ⟨UInt8.ofNat n.toNat :: l, by simp [h1], ?_⟩
      intro i hi
      cases i with
      | zero =>
        have : ((UInt8.ofNat n.toNat).toNat : Int) = n := by
          rw [UInt8.toNat_ofNat']
          omega
        show [Value.int .u8 n] = [.int .u8 ((UInt8.ofNat n.toNat).toNat : Int)]
        rw [this]
      | succ i => exact h3 i (by simpa using hi)
  obtain ⟨l, h1, h3⟩ := key r hf
  have hll : l.length = len := by rw [h1, hl]
  refine ⟨l, hll, hlc, hcm, fun hpos => ?_⟩
  obtain ⟨b, off, ha, hd⟩ := hc (by omega)
  have hd0 : ∀ i (h : i < l.length), w.cell? ⟨b, off + i, none⟩ = some (.int .u8 (l[i].toNat : Int)) := fun i hi => by
    have e0 := hd i (by omega) 0 (by decide)
    rw [h3 i hi] at e0
    simpa using e0
  exact ⟨b, off, ha, Flat.cell_lt (hd0 0 hpos), hd0⟩
end Go.Proofs.Ytdlfjbllmmkmkaa.ByteMem
