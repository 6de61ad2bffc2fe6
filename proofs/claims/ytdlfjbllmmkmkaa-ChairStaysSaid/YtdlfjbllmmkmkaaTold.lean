/- Deals that were told into another map; operations behind a guard; two unlike deals. -/
import Derived.Test.YtdlfjbllmmkmkaaNobody
namespace Go.Proofs.Ytdlfjbllmmkmkaa.Chair
open Go.RowKit Go.Maps Flat ChairSpec News Go.Proofs.YtdlfjbllmmkmkaaW.PrintLast
set_option linter.unusedSimpArgs false
set_option linter.unusedVariables false
set_option maxRecDepth 100000
/-- The deals, of the first k calls, as a chair has them. -/
def bef (f : Int → Option De) (l : List Re) : Nat → Int → Option De
  | 0 => fun _ => none
  | k + 1 => match l[k]? with
    | some r => match f r.tx with
      | some d => setD (bef f l k) r.tx d
      | none => bef f l k
    | none => bef f l k
theorem bef_hit (f : Int → Option De) (l : List Re) (k : Nat) (h : k < l.length) (d : De) (hd : f l[k].tx = some d) : bef f l (k + 1) = setD (bef f l k) l[k].tx d := by
  rw [bef, List.getElem?_eq_getElem h]
  simp only [hd]
theorem bef_miss (f : Int → Option De) (l : List Re) (k : Nat) (h : k < l.length) (hd : f l[k].tx = none) : bef f l (k + 1) = bef f l k := by
  rw [bef, List.getElem?_eq_getElem h]
  simp only [hd]
theorem bef_some (f : Int → Option De) (l : List Re) (k : Nat) : ∀ t d, bef f l k t = some d → f t = some d := by
  induction k with
  | zero => intro t d h; cases h
  | succ k ih =>
    intro t d h
    by_cases hk : k < l.length
    · cases hf : f l[k].tx with
      | none => rw [bef_miss f l k hk hf] at h; exact ih t d h
      | some e =>
        rw [bef_hit f l k hk e hf] at h
        unfold setD at h
        split at h
        · rename_i ht; rw [ht, hf]; exact h
        · exact ih t d h
    · rw [bef, List.getElem?_eq_none (by omega)] at h
      exact ih t d h
theorem bef_has (f : Int → Option De) (l : List Re) (k : Nat) : ∀ i (h : i < l.length), i < k → ∀ d, f l[i].tx = some d → bef f l k l[i].tx = some d := by
  induction k with
  | zero => intro i h h0; omega
  | succ k ih =>
    intro i h hik d hd
    by_cases hk : k < l.length
    · cases hf : f l[k].tx with
      | none =>
        rw [bef_miss f l k hk hf]
        by_cases he : i = k
        · subst he; rw [hf] at hd; cases hd
        · exact ih i h (by omega) d hd
      | some e =>
        rw [bef_hit f l k hk e hf]
        unfold setD
        split
        · rename_i ht; rw [ht, hf] at hd; exact hd
        · rename_i ht
          by_cases he : i = k
          · subst he; exact absurd rfl ht
          · exact ih i h (by omega) d hd
    · rw [bef, List.getElem?_eq_none (by omega)]
      exact ih i h (by omega) d hd
theorem stepC_keys {f : Int → Option De} {r : Re} {t : Int} (h : ((stepC f r).1 t).isSome = true) : t = r.tx ∨ (f t).isSome = true := by
  unfold stepC at h
  split at h
  · right; simpa using h
  · split at h
    · exact .inr h
    · dsimp only [setD] at h
      split at h
      · rename_i e; exact .inl e
      · exact .inr h
theorem doC_keys {s : Ch} {r : Re} {t : Int} (h : ((doC s r).1.deals t).isSome = true) : t = r.tx ∨ (s.deals t).isSome = true := by
  unfold doC at h
  split at h
  · exact .inr h
  · split at h
    · exact .inr h
    · exact stepC_keys h
theorem play_keys (l : List Re) (k : Nat) : ∀ t, ((playC l k).deals t).isSome = true → ∃ i, ∃ h : i < l.length, i < k ∧ l[i].tx = t := by
  induction k with
  | zero => intro t h; cases h
  | succ k ih =>
    intro t h
    by_cases hk : k < l.length
    · rw [play_succ l k hk] at h
      rcases doC_keys h with e | e
      · exact ⟨k, hk, by omega, e.symm⟩
      · obtain ⟨i, hi, hik, e⟩ := ih t e
        exact ⟨i, hi, by omega, e⟩
    · have e : playC l (k + 1) = playC l k := by rw [playC, playC, List.take_of_length_le (by omega), List.take_of_length_le (by omega)]
      rw [e] at h
      obtain ⟨i, hi, hik, e⟩ := ih t h
      exact ⟨i, hi, by omega, e⟩
theorem bef_end (l : List Re) : bef (played l).deals l (min l.length 120) = (played l).deals := by
  funext t
  cases hf : (played l).deals t with
  | none =>
    cases hb : bef (played l).deals l (min l.length 120) t with
    | none => rfl
    | some d => rw [bef_some _ _ _ t d hb] at hf; cases hf
  | some d =>
    obtain ⟨i, hi, hik, e⟩ := play_keys l (min l.length 120) t (by rw [show playC l (min l.length 120) = played l from rfl, hf]; rfl)
    subst e
    exact bef_has _ _ _ i hi hik d hf
/-- What the step of a loop over deals hands out. -/
theorem came_ {D : DataW Value} {F : Int → Option De} {c : Nat} {x : Int} {v : Value} {y : DataW Value × List MemPlace} (hD : MapV.Reads .i64 D (mv F) c) (hv : MapV.RV v = some y) (hat : ∀ zd, D.atKey (.int .i64 x) zd = y.1) :
    ∃ d, F x = some d ∧ v = .agg (dc d).toArray := by
  have hy : y.1 = .held v := by
    simp only [MapV.RV, Option.some.injEq] at hv
    rw [← hv]
  have h1 := fun z => ((hD.2 x).2 z).symm.trans ((hat _).trans hy)
  cases hf : F x with
  | none =>
    have e : mv F x = none := by simp [mv, hf]
    have a := h1 (.bool true)
    have b := h1 (.bool false)
    rw [e] at a b
    simp only [Option.getD_none, DataW.held.injEq] at a b
    rw [← a] at b
    cases b
  | some d =>
    have e : mv F x = some (dv d) := by simp [mv, hf]
    have a := h1 (.bool true)
    rw [e] at a
    simp only [Option.getD_some, DataW.held.injEq] at a
    exact ⟨d, rfl, a.symm⟩
theorem de_set_other {w : World} {b g o : Nat} {v : Value} {d : De} (h : DeAt w b d) (hne : g ≠ b) : DeAt (w.setCell ⟨g, o, none⟩ v) b d := fun j u hj => (World.cell?_setCell_other _ _ _ _ (fun e => hne (congrArg Addr.block e))).trans (h j u hj)
/-- An operation that gives a value, guarded or not. -/
theorem wpList_of_runG {P : Program} {ops : Array Oper} {rest : List Oper} {o : Oper} {a : Act} {w : World} {Q : Exit → Act → World → Prop} {v : Value} (hw : Region.wanted o (yielded ops a.tmps) = true) (hrun : (execOp a.eval o).run P w = .ok (.value v) w) (h : wpList P ops Q rest (a.put o.dst v) w) : wpList P ops Q (o :: rest) a w := by
  rw [wpList, if_pos hw]
  left
  unfold Oper.wp
  rw [hrun]
  exact h
set_option maxHeartbeats 4000000 in
theorem deal_same_ne (d : De) (w : World) : (binOp .neq 44 (.agg (dc d).toArray) (.agg (dc d).toArray)).run Try.prog w = .ok (.bool false) w := by
  have hb := fun w => bools_same (d.ta.who 0) (d.ta.who 1) (d.ta.who 2) (d.ta.who 3) (d.ta.who 4) (d.ta.who 5) (d.ta.who 6) (d.ta.who 7) w
  have hv := fun w => ints_same (d.ta.votes 0) (d.ta.votes 1) (d.ta.votes 2) (d.ta.votes 3) (d.ta.votes 4) (d.ta.votes 5) (d.ta.votes 6) (d.ta.votes 7) w
  have he := fun w => ints_same (d.ta.epochs 0) (d.ta.epochs 1) (d.ta.epochs 2) (d.ta.epochs 3) (d.ta.epochs 4) (d.ta.epochs 5) (d.ta.epochs 6) (d.ta.epochs 7) w
  have e : (dc d).toArray = #[.bool (d.ta.who 0), .bool (d.ta.who 1), .bool (d.ta.who 2), .bool (d.ta.who 3), .bool (d.ta.who 4), .bool (d.ta.who 5), .bool (d.ta.who 6), .bool (d.ta.who 7), .int .i64 (d.ta.votes 0), .int .i64 (d.ta.votes 1), .int .i64 (d.ta.votes 2), .int .i64 (d.ta.votes 3), .int .i64 (d.ta.votes 4), .int .i64 (d.ta.votes 5), .int .i64 (d.ta.votes 6), .int .i64 (d.ta.votes 7), .int .i64 (d.ta.epochs 0), .int .i64 (d.ta.epochs 1), .int .i64 (d.ta.epochs 2), .int .i64 (d.ta.epochs 3), .int .i64 (d.ta.epochs 4), .int .i64 (d.ta.epochs 5), .int .i64 (d.ta.epochs 6), .int .i64 (d.ta.epochs 7), .int .i64 d.te.dl, .int .i64 d.te.span, .int .i64 d.te.used, .int .i64 d.te.cap, .int .i64 d.out] := rfl
  rw [e]
  clear e
  simp [go_sem, hb, hv, he]
theorem neq_run {P : Program} {oi : Oper} {a : Act} {w : World} {t t2 : TypeId} {x y : Operand} {xs ys : Array Value} {v : Value} (ho : oi.op = .binOp .neq t x y t2) (hx : a.eval x = .agg xs) (hy : a.eval y = .agg ys) (hm : P.eqGuardType P.depth t = false) (h : (binOp .neq t (.agg xs) (.agg ys)).run P w = .ok v w) : (execOp a.eval oi).run P w = .ok (.value v) w := by
  unfold execOp
  simp only [ho, hx, hy, run_eqGuard_agg w .neq t x y xs ys hm, h, Sem.run_bind, Sem.run_pure, Result.andThen_ok]
end Go.Proofs.Ytdlfjbllmmkmkaa.Chair
