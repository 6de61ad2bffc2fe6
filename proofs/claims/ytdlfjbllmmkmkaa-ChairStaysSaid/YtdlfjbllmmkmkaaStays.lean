/- Outcomes stay; what a commit wants: in plain Lean. -/
import Derived.Test.YtdlfjbllmmkmkaaTold
namespace Go.Proofs.Ytdlfjbllmmkmkaa.Chair
open Go.RowKit Go.Maps Flat ChairSpec News Go.Proofs.YtdlfjbllmmkmkaaW.PrintLast
set_option linter.unusedSimpArgs false
set_option linter.unusedVariables false
set_option maxRecDepth 100000
theorem out_one {t : Ta} (h : outT t = 1) : ∀ i, i < 8 → t.who i = true → t.votes i = 1 := by
  intro i hi hw
  unfold outT at h
  split at h
  · cases h
  · rename_i hr
    split at h
    · cases h
    · rename_i h2
      split at h
      · cases h
      · rename_i h3
        have h2' : ¬ t.votes i = 2 := fun e => h2 (List.any_eq_true.2 ⟨i, List.mem_range.2 hi, by simpa using e⟩)
        have h3' : ¬ t.votes i = 0 := fun e => h3 (List.any_eq_true.2 ⟨i, List.mem_range.2 hi, by simp [hw, e]⟩)
        have hr' : rightT t = true := by simpa using hr
        simp only [rightT, Bool.and_eq_true, List.all_eq_true] at hr'
        have hb := hr'.1 i (List.mem_range.2 hi)
        simp only [badT, Bool.not_eq_true', decide_eq_false_iff_not, not_or, Int.not_lt] at hb
        omega
/-- What an open deal that is committed was told. -/
theorem commit_law {s : Ch} {r : Re} {d d2 : De} (h : s.deals r.tx = some d) (h0 : d.out = 0) (h2 : (doC s r).1.deals r.tx = some d2) (h1 : d2.out = 1) : r.kind = 2 ∧ overTe d.te r.now = false ∧ ∀ i, i < 8 → d2.ta.who i = true → d2.ta.votes i = 1 := by
  unfold doC at h2
  split at h2
  · rw [h] at h2; cases h2; rw [h0] at h1; cases h1
  · split at h2
    · rw [h] at h2; cases h2; rw [h0] at h1; cases h1
    · rename_i hb he
      dsimp only at h2
      unfold stepC at h2 he
      split at h2
      · rename_i h4
        dsimp only at h2
        rw [h] at h2
        simp only [Option.map_some, Option.some.injEq] at h2
        subst h2
        unfold tickD at h1
        split at h1
        · cases h1
        · rw [h0] at h1; cases h1
      · rename_i h4
        rw [if_neg h4] at he
        split at h2
        · dsimp only at h2; rw [h] at h2; cases h2; rw [h0] at h1; cases h1
        · rename_i h5
          rw [if_neg h5] at he
          dsimp only [setD] at h2
          rw [if_pos rfl] at h2
          cases h2
          unfold oneC at h1 h5 ⊢
          simp only [h] at h1 h5 ⊢
          by_cases k1 : r.kind = 1
          · rw [if_pos k1] at h5; exact absurd (show (8 : Int) ≠ 0 by decide) h5
          · rw [if_neg k1, if_neg (fun a => a h0)] at h1 h5
            rw [if_neg k1, if_neg (fun a => a h0)]
            by_cases k2 : r.kind = 2
            · rw [if_pos k2] at h1 h5
              rw [if_pos k2]
              unfold voteD at h1 h5 ⊢
              by_cases ho : overTe d.te r.now = true
              · rw [if_pos ho] at h5; exact absurd (show (11 : Int) ≠ 0 by decide) h5
              · rw [if_neg ho] at h1
                rw [if_neg ho]
                exact ⟨k2, by simpa using ho, out_one h1⟩
            · rw [if_neg k2] at h1
              unfold extendD at h1
              split at h1
              · rw [h0] at h1; cases h1
              · dsimp only at h1; rw [h0] at h1; cases h1
/-- An outcome stays. -/
theorem stays_law {s : Ch} {r : Re} {t : Int} {d : De} (h : s.deals t = some d) (h0 : d.out ≠ 0) : (doC s r).1.deals t = some d := by
  unfold doC
  split
  · exact h
  · split
    · exact h
    · rename_i hb he
      dsimp only
      unfold stepC at he ⊢
      split
      · dsimp only
        rw [h, Option.map_some, tickD, if_neg (fun a => h0 a.1)]
      · rename_i h4
        rw [if_neg h4] at he
        split
        · exact h
        · rename_i h5
          dsimp only [setD]
          split
          · rename_i ht
            subst ht
            exfalso
            apply h5
            unfold oneC
            simp only [h, if_pos h0]
            split
            · exact (by decide : (8 : Int) ≠ 0)
            · exact (by decide : (13 : Int) ≠ 0)
          · exact h
/-- Numbers as values of a map. -/
def mi (O : Int → Option Int) : Int → Option Value := fun k => (O k).map fun o => .int .i64 o
def setO (O : Int → Option Int) (k o : Int) : Int → Option Int := fun j => if j = k then some o else O j
theorem mi_set (O : Int → Option Int) (x o : Int) : mi (setO O x o) = MapV.set (mi O) x (.int .i64 o) := by
  funext j
  unfold mi setO MapV.set
  split <;> rfl
/-- The outcomes that were noted. -/
def OutOk (O : Int → Option Int) (f : Int → Option De) : Prop := ∀ t o, O t = some o → o ≠ 0 ∧ ∃ d, f t = some d ∧ d.out = o
theorem OutOk.step {O : Int → Option Int} {s : Ch} (h : OutOk O s.deals) (r : Re) : OutOk O (doC s r).1.deals := fun t o ho => by
  obtain ⟨h1, d, hd, rfl⟩ := h t o ho
  exact ⟨h1, d, stays_law hd h1, rfl⟩
theorem OutOk.set {O : Int → Option Int} {f : Int → Option De} {t : Int} {d : De} (h : OutOk O f) (hd : f t = some d) (h0 : d.out ≠ 0) : OutOk (setO O t d.out) f := fun x o ho => by
  unfold setO at ho
  split at ho
  · rename_i e; subst e; cases ho; exact ⟨h0, d, hd, rfl⟩
  · exact h x o ho
/-- What the step of a loop over outcomes hands out. -/
theorem came_i {D : DataW Value} {O : Int → Option Int} {c : Nat} {x : Int} {v : Value} {y : DataW Value × List MemPlace} (hD : MapV.Reads .i64 D (mi O) c) (hv : MapV.RV v = some y) (hat : ∀ zd, D.atKey (.int .i64 x) zd = y.1) :
    ∃ o, O x = some o ∧ v = .int .i64 o := by
  have hy : y.1 = .held v := by
    simp only [MapV.RV, Option.some.injEq] at hv
    rw [← hv]
  have h1 := fun z => ((hD.2 x).2 z).symm.trans ((hat _).trans hy)
  cases hf : O x with
  | none =>
    have e : mi O x = none := by simp [mi, hf]
    have a := h1 (.bool true)
    have b := h1 (.bool false)
    rw [e] at a b
    simp only [Option.getD_none, DataW.held.injEq] at a b
    rw [← a] at b
    cases b
  | some d =>
    have e : mi O x = some (.int .i64 d) := by simp [mi, hf]
    have a := h1 (.bool true)
    rw [e] at a
    simp only [Option.getD_some, DataW.held.injEq] at a
    exact ⟨d, rfl, a.symm⟩
end Go.Proofs.Ytdlfjbllmmkmkaa.Chair
