/- Steps in a slice, and what a step of any kind makes of a play. -/
import Derived.Test.YtamlkmnkdcoebaaPlayLaw
import Derived.OpenShut
namespace Go.Proofs.Ytamlkmnkdcoebaa.Play
open Go.RowKit LeaseSpec LeaseFwd Flat Lease HandSpec HandLaws Hand HandPlay Go.Proofs.YtamlkmnkdcoebaaW.PrintLast
set_option linter.unusedSimpArgs false
set_option linter.unusedVariables false

theorem u8_nat {n : Int} (h : (Lit.int .u8 n).wf = true) : ∃ m : Nat, n = (m : Int) ∧ m < 256 := by
  obtain ⟨h1, h2⟩ := bounds_u8 h
  exact ⟨n.toNat, by omega, by omega⟩
theorem u16_nat {n : Int} (h : (Lit.int .u16 n).wf = true) : ∃ m : Nat, n = (m : Int) ∧ m < 65536 := by
  obtain ⟨h1, h2⟩ := bounds_u16 h
  exact ⟨n.toNat, by omega, by omega⟩
theorem step_any {p : PS} {f : Int → Option Value} {E : Int} {fl : Bool} {hh gg y : Int} (kn at_ an bn : Nat) (c : ByteArray) (w : World) {g bm B : Nat} (h : PlayAt w g bm B p) (G : Good p f E fl hh gg y) (h16 : at_ < 65536) (hc : c.size ≤ maxLen) (hl : p.said.length ≤ 1000) :
    Calls Try.prog 22 #[.pointer (some ⟨g, 0, none⟩), .agg #[.int .u8 (kn : Int), .int .u16 (at_ : Int), .int .u8 (an : Int), .int .u8 (bn : Int), .string c]] w fun r w' => r = .returned (.tuple #[]) ∧ PlayAt w' g bm B (stepP p (kn % 6) at_ (an % 4) (bn % 4) c) ∧ Kb B g w w' := by
  obtain ⟨s1, s2⟩ := good_sizes G
  have ha : (an : Int) % 4 = ((an % 4 : Nat) : Int) := by omega
  have hb : (bn : Int) % 4 = ((bn % 4 : Nat) : Int) := by omega
  have ha4 : an % 4 < 4 := Nat.mod_lt _ (by decide)
  have hb4 : bn % 4 < 4 := Nat.mod_lt _ (by decide)
  have hk : (kn : Int) % 6 = ((kn % 6 : Nat) : Int) := by omega
  have hk6 : kn % 6 < 6 := Nat.mod_lt _ (by decide)
  unfold stepP
  generalize hkd : kn % 6 = kd at *
  generalize an % 4 = a at *
  generalize bn % 4 = b at *
  by_cases h3 : kd < 3
  · rw [if_pos h3]
    exact step_hear p kn at_ an bn a b kd c w g bm B h hk h3 ha hb s2 hl h16
  · rw [if_neg h3]
    by_cases e3 : kd = 3
    · rw [if_pos e3]
      subst e3
      exact step_ask p kn at_ an bn a b c w g bm B h hk ha hb ha4 hb4 (s1 a ha4) hl
    · rw [if_neg e3]
      by_cases e4 : kd = 4
      · rw [if_pos e4]
        subst e4
        exact step_again p kn at_ an bn a b c w g bm B h hk ha hb ha4 hb4 (s1 a ha4) hl
      · rw [if_neg e4]
        obtain rfl : kd = 5 := by omega
        exact step_cargo p kn at_ an bn a b c w g bm B h hk ha hb ha4 hb4 hc
theorem step_cells {w : World} {a : Option Addr} {len cap : Nat} {r : List (List Value)} (h : IsRows [.int .u8, .int .u16, .int .u8, .int .u8, .str] w a len cap r) (hpos : 0 < len) :
    ∃ b off, a = some ⟨b, off, none⟩ ∧ b < w.heap.size ∧ ∀ i, i < len → ∃ kn at_ an bn : Nat, ∃ c : ByteArray, at_ < 65536 ∧ c.size ≤ maxLen ∧ kn < 256 ∧ an < 256 ∧ bn < 256 ∧ w.cell? ⟨b, off + i * 5, none⟩ = some (.int .u8 kn) ∧ w.cell? ⟨b, off + i * 5 + 1, none⟩ = some (.int .u16 at_) ∧ w.cell? ⟨b, off + i * 5 + 2, none⟩ = some (.int .u8 an) ∧
      w.cell? ⟨b, off + i * 5 + 3, none⟩ = some (.int .u8 bn) ∧ w.cell? ⟨b, off + i * 5 + 4, none⟩ = some (.string c) := by
  obtain ⟨hl, _, _, hf, hc⟩ := h
  obtain ⟨b, off, rfl, hd⟩ := hc hpos
  have key : ∀ i, i < len → ∃ kn at_ an bn : Nat, ∃ c : ByteArray, at_ < 65536 ∧ c.size ≤ maxLen ∧ kn < 256 ∧ an < 256 ∧ bn < 256 ∧ w.cell? ⟨b, off + i * 5, none⟩ = some (.int .u8 kn) ∧ w.cell? ⟨b, off + i * 5 + 1, none⟩ = some (.int .u16 at_) ∧ w.cell? ⟨b, off + i * 5 + 2, none⟩ = some (.int .u8 an) ∧
      w.cell? ⟨b, off + i * 5 + 3, none⟩ = some (.int .u8 bn) ∧ w.cell? ⟨b, off + i * 5 + 4, none⟩ = some (.string c) := fun i hi => by
    have h0 := hd i hi 0 (by decide)
    have h1 := hd i hi 1 (by decide)
    have h2 := hd i hi 2 (by decide)
    have h3 := hd i hi 3 (by decide)
    have h4 := hd i hi 4 (by decide)
    have hr : r.getD i [] = r[i]'(by omega) := by simp [List.getD, List.getElem?_eq_getElem (show i < r.length by omega)]
    rw [hr] at h0 h1 h2 h3 h4
    have hfit := hf (r[i]'(by omega)) (List.getElem_mem _)
    generalize r[i]'(by omega) = row at h0 h1 h2 h3 h4 hfit
    obtain ⟨x0, _, rfl, w0, x1⟩ := hfit.int
    obtain ⟨x2, _, rfl, w1, x3⟩ := x1.int
    obtain ⟨x4, _, rfl, w2, x5⟩ := x3.int
    obtain ⟨x6, _, rfl, w3, x7⟩ := x5.int
    obtain ⟨c, _, rfl, hcs, x8⟩ := x7.str
    obtain rfl := x8.done
    obtain ⟨kn, rfl, q0⟩ := u8_nat w0
    obtain ⟨at_, rfl, q1⟩ := u16_nat w1
    obtain ⟨an, rfl, q2⟩ := u8_nat w2
    obtain ⟨bn, rfl, q3⟩ := u8_nat w3
    exact ⟨kn, at_, an, bn, c, q1, hcs, q0, q2, q3, h0, h1, h2, h3, h4⟩
  refine ⟨b, off, rfl, ?_, key⟩
  obtain ⟨_, _, _, _, _, _, _, _, _, _, h0, _⟩ := key 0 hpos
  exact Flat.cell_lt h0
theorem HeldM.kb {w w' : World} {bm g B : Nat} {f : Int → Option Value} {c : Nat} (h : HeldM w bm f c) (hk : Kb B g w w') (h1 : bm < B) (h2 : bm ≠ g) : HeldM w' bm f c := h.heap (hk.block bm h1 h2)
/-- A play in order behind k steps. -/
def InOrder (w : World) (g bm B B0 k : Nat) (wr : World) : Prop :=
  ∃ (p : PS) (f : Int → Option Value) (n : Nat) (E : Int) (fl : Bool) (h gg y : Int), PlayAt wr g bm B p ∧ HeldM wr bm f n ∧ Good p f E fl h gg y ∧ n ≤ 1 + 4 * k ∧ p.said.length ≤ k ∧ Below B0 w wr
end Go.Proofs.Ytamlkmnkdcoebaa.Play
