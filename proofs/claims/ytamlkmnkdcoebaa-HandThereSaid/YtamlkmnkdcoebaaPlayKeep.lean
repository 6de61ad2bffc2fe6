/- What a round of a keeper's word makes of a play in order. -/
import Derived.Test.YtamlkmnkdcoebaaPlayEnd
import Derived.Deep.MidRow
namespace Go.Proofs.Ytamlkmnkdcoebaa.Play
open Go.RowKit LeaseSpec LeaseFwd Flat Lease HandSpec HandLaws Hand HandPlay Go.Proofs.YtamlkmnkdcoebaaW.PrintLast
set_option linter.unusedSimpArgs false
set_option linter.unusedVariables false

def stC (s0 s1 s2 : Int → S) : Nat → Int → S
  | 0 => s0
  | 1 => s1
  | _ => s2
def rowC (m r : M) : Nat → List M
  | 0 => [m]
  | _ => [m, r]
def msgC (m r : M) : Nat → M
  | 0 => m
  | _ => r
def dstC (t a : Nat) : Nat → Nat
  | 0 => t
  | _ => a
theorem two_cases {k : Nat} (h : k < 2) : k = 0 ∨ k = 1 := by omega
theorem chain_of {s : Int → S} {m r : M} {t a : Nat} {T1 U1 : S} {n1 n2 : Int} (ht : t < 4) (ha : a < 4) (hm : m.dst = (t : Int)) (hr : r.dst = (a : Int)) (h1 : hearA (s t) m = (T1, some r, n1)) (h2 : hearA (upd s t T1 a) r = (U1, none, n2))
    (c1 : m.c.size ≤ maxLen) (c2 : r.c.size ≤ maxLen) (c3 : (s t).c.size ≤ maxLen) (c4 : (upd s t T1 a).c.size ≤ maxLen) : Chain 2 (stC s (upd s t T1) (upd (upd s t T1) a U1)) (rowC m r) (msgC m r) (dstC t a) := by
  refine ⟨by decide, rfl, fun k hk => ?_, rfl, fun k hk => ?_, fun k hk => ?_, fun k hk => ?_, fun k hk => ?_, fun k hk => ?_⟩
  all_goals rcases two_cases hk with rfl | rfl
  · exact ⟨by simp [rowC], by simp [rowC]⟩
  · exact ⟨by simp [rowC], by simp [rowC]⟩
  · rfl
  · rfl
  · exact ⟨ht, hm⟩
  · exact ⟨ha, hr⟩
  · exact ⟨c1, c3⟩
  · exact ⟨c2, c4⟩
  · show upd s t T1 = upd s t (hearA (s t) m).1
    rw [h1]
  · show upd (upd s t T1) a U1 = upd (upd s t T1) a (hearA (upd s t T1 a) r).1
    rw [h2]
  · show [m, r] = [m] ++ (hearA (s t) m).2.1.toList
    rw [h1]; rfl
  · show [m, r] = [m, r] ++ (hearA (upd s t T1 a) r).2.1.toList
    rw [h2]; rfl
/-- The play in order, and who keeps. -/
def Ended (w : World) (g bm B B0 : Nat) (P : Int → Prop) (wr : World) : Prop :=
  ∃ (p : PS) (f : Int → Option Value) (n : Nat) (E : Int) (fl : Bool) (h gg y : Int), PlayAt wr g bm B p ∧ HeldM wr bm f n ∧ Good p f E fl h gg y ∧ n ≤ 1000 ∧ Below B0 w wr ∧ ∀ i, four i → (p.s i).k = true → P i
theorem round_keeper {p : PS} {f : Int → Option Value} {E : Int} {fl : Bool} {h gg y : Int} (G : Good p f E fl h gg y) {a : Nat} (ha : a < 4) (hk : (p.s a).k = true) (w : World) {g bm B : Nat} (hP : PlayAt w g bm B p) :
    Calls Try.prog 24 #[.pointer (some ⟨g, 0, none⟩), .agg #[.int .i64 3, .int .u8 (p.s a).me, .int .u8 (p.s a).t, .int .i64 ((p.s a).e + 1), .string (p.s a).c]] w fun r w' =>
      r = .returned (.tuple #[]) ∧ ∃ s' : Int → S, PlayAt w' g bm B ⟨s', p.said, p.cargo⟩ ∧ Kb B g w w' ∧ (∃ E' fl' h' g' y', Good ⟨s', p.said, p.cargo⟩ f E' fl' h' g' y') ∧ ∀ i, four i → (s' i).k = true → (p.s i).k = true ∧ i ≠ (a : Int) := by
  obtain ⟨T1, U1, r, n1, n2, h1, hr, hrc, ht, hne, h2, ⟨E', fl', h', g', y', I, hf⟩, hkk⟩ := keeper_round G.inv (four_nat ha) hk
  obtain ⟨t, ht4, htt⟩ := four_of ht
  have hsz := (good_sizes G).1
  rw [htt] at h1 h2 I hkk hne
  have hgv : givesH (p.s a) = ⟨3, (p.s a).me, (t : Int), (p.s a).e + 1, (p.s a).c⟩ := by unfold givesH; rw [htt]
  rw [hgv] at h1
  have hc := chain_of (s := p.s) ht4 ha (m := ⟨3, (p.s a).me, (t : Int), (p.s a).e + 1, (p.s a).c⟩) rfl hr h1 h2 (hsz a ha) (by unfold maxLen; omega) (hsz t ht4) (by rw [upd_other _ _ hne]; exact hsz a ha)
  rw [htt]
  refine (round_any p hc 3 (p.s a).me t ((p.s a).e + 1) (p.s a).c rfl rfl w g bm B hP).mono ?_
  rintro r w' ⟨rfl, hP', hK⟩
  exact ⟨rfl, _, hP', hK, ⟨E', fl', h', g', y', I, hf f G.map⟩, hkk⟩
/-- The four sides as one row of cells. -/
def row24 (p : PS) : List Value := [.int .u8 (p.s 0).me, .int .i64 (p.s 0).e, .int .i64 (p.s 0).s, .int .u8 (p.s 0).t, .string (p.s 0).c, .bool (p.s 0).k, .int .u8 (p.s 1).me, .int .i64 (p.s 1).e, .int .i64 (p.s 1).s, .int .u8 (p.s 1).t, .string (p.s 1).c, .bool (p.s 1).k, .int .u8 (p.s 2).me, .int .i64 (p.s 2).e, .int .i64 (p.s 2).s, .int .u8 (p.s 2).t, .string (p.s 2).c, .bool (p.s 2).k, .int .u8 (p.s 3).me, .int .i64 (p.s 3).e, .int .i64 (p.s 3).s, .int .u8 (p.s 3).t, .string (p.s 3).c, .bool (p.s 3).k]
theorem idx4r (p : PS) (i : Nat) (hi : i < 4) (w : World) : (Instr.index 62 (.agg (row24 p).toArray) (.int .i64 (i : Int))).run Try.prog w = .ok (.agg #[.int .u8 (p.s i).me, .int .i64 (p.s i).e, .int .i64 (p.s i).s, .int .u8 (p.s i).t, .string (p.s i).c, .bool (p.s i).k]) w := idx4 p i hi w
theorem PlayAt.row24 {w : World} {g bm B : Nat} {p : PS} (h : PlayAt w g bm B p) : w.rangeAt g 0 (Play.row24 p) := by
  have hs := h.side
  intro j v hv
  rw [Nat.zero_add]
  have hj : j < 24 := (List.getElem?_eq_some_iff.mp hv).1
  have key : ∀ i : Nat, i < 4 → ∀ k, j = i * 6 + k → k < 6 → w.cell? ⟨g, j, none⟩ = some v := by
    intro i hi k hj hk
    obtain ⟨a0, a1, a2, a3, a4, a5⟩ := hs i hi
    subst hj
    rcases four_cases hi with rfl | rfl | rfl | rfl <;> rcases (by omega : k = 0 ∨ k = 1 ∨ k = 2 ∨ k = 3 ∨ k = 4 ∨ k = 5) with rfl | rfl | rfl | rfl | rfl | rfl <;> (cases hv; assumption)
  exact key (j / 6) (by omega) (j % 6) (by omega) (by omega)
end Go.Proofs.Ytamlkmnkdcoebaa.Play
