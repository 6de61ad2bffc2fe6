/- A call that only reads may be taken first in a region that draws its order, as a load may: where its contract holds in every world that meets S, and leaves that world alone. -/
import Derived.Test.YtbkkomknajgpdaaDoorWLast
namespace Go.Proofs.YtbkkomknajgpdaaDoor.Takeq
open Go Go.Proofs.YtbkkomknajgpdaaDoorW.PrintLast
set_option linter.unusedVariables false

section
variable {P : Program} {ops : Array Oper} {Q : Exit → Act → World → Prop} {md : Region.Mode} {S : World → Prop} {ds : List Nat}

/-- In state a the call o is carried out, and answers v in every world that meets S, which stays as it is. -/
structure Reads (P : Program) (ops : Array Oper) (S : World → Prop) (o : Oper) (v : Value) (f : FuncId) (args : Array Value) (a : Act) : Prop where
  wanted : Region.wanted o (yielded ops a.tmps) = true
  enters : ∀ w, (execOp a.eval o).run P w = .ok (.enter f args) w
  calls : ∀ w, S w → Calls P f args w fun e w' => e = .returned v ∧ w = w'

theorem Reads.same {o : Oper} {v : Value} {f : FuncId} {args : Array Value} {a b : Act} (h : Reads P ops S o v f args a) (he : execOp b.eval o = execOp a.eval o)
    (hw : Region.wanted o (yielded ops b.tmps) = Region.wanted o (yielded ops a.tmps)) : Reads P ops S o v f args b :=
  ⟨hw.trans h.wanted, fun w => by rw [he]; exact h.enters w, h.calls⟩

theorem Reads.goes {i : Nat} {o : Oper} {v : Value} {f : FuncId} {args : Array Value} {a : Act} (hi : ops[i]? = some o) (h : Reads P ops S o v f args a) {K : Act → World → Prop} {w : World} (hS : S w)
    (hk : K (a.put o.dst v) w) : wpOp P ops Q i K a w := by
  unfold wpOp
  simp only [hi, h.wanted, if_true, Oper.wp, h.enters w, Oper.upon]
  refine .inl ((h.calls w hS).mono ?_)
  rintro e w' ⟨rfl, rfl⟩
  exact hk

/-- Another operation, apart from the call: whether the call's value is there already makes no odds to it, nor it to the call. -/
theorem step_apart {j : Nat} {o p : Oper} {v : Value} {f : FuncId} {args : Array Value} (hj : ops[j]? = some p) (hap : o.apart ops p = true) (hso : ∀ cs b, o.op ≠ .select cs b) (hsp : ∀ cs b, p.op ≠ .select cs b)
    (hQ : ∀ c a w, Q (.panic c) (a.put o.dst v) w → Q (.panic c) a w) {K : Act → World → Prop} {a : Act} {w : World} (hr : Reads P ops S o v f args a) (h : wpOp P ops Q j K (a.put o.dst v) w) :
    wpOp P ops Q j (fun b w' => Reads P ops S o v f args b ∧ K (b.put o.dst v) w') a w := by
  obtain ⟨h1, h2, h3⟩ := Oper.apart_spec hap
  have put : ∀ (b : Act) u, Reads P ops S o v f args b → Reads P ops S o v f args (b.put p.dst u) := fun b u hb => hb.same (execOp_put o hso b p.dst u h3) (wanted_put o b p.dst u h3)
  have both : ∀ (b : Act) u w', Reads P ops S o v f args b → K ((b.put o.dst v).put p.dst u) w' → Reads P ops S o v f args (b.put p.dst u) ∧ K ((b.put p.dst u).put o.dst v) w' :=
    fun b u w' hb hk => ⟨put b u hb, by rw [← Act.put_comm b v u h2]; exact hk⟩
  unfold wpOp at h ⊢
  simp only [hj] at h ⊢
  rw [wanted_put p a o.dst v h1] at h
  by_cases hw : Region.wanted p (yielded ops a.tmps) = true
  · rw [if_pos hw] at h ⊢
    have hrun : ∀ w0, (execOp (a.put o.dst v).eval p).run P w0 = (execOp a.eval p).run P w0 := fun w0 => by rw [execOp_put p hsp a o.dst v h1]
    rcases h with h | ⟨has, hl⟩
    · left
      unfold Oper.wp at h ⊢
      rw [hrun w] at h
      cases hres : (execOp a.eval p).run P w with
      | ok n w' =>
        rw [hres] at h
        cases n with
        | value u => exact both a u w' hr h
        | skip => exact both a undef w' hr h
        | defer d =>
          have hd : Reads P ops S o v f args { a with defers := d :: a.defers } := hr.same rfl rfl
          refine both _ undef w' hd ?_
          rw [← Act.put_defers]
          exact h
        | enter g as =>
          refine Calls.mono h fun e w'' he => ?_
          cases e with
          | returned u => exact both a u w'' hr he
          | panicked c => exact hQ _ _ _ he
          | outgrown => exact he
        | row r as => exact Rows.mono h fun u w'' he => both a u w'' hr he
        | _ => exact h.elim
      | halt x w' =>
        rw [hres] at h
        cases x with
        | panic u => exact hQ _ _ _ h
        | _ => exact h.elim
    · refine .inr ⟨?_, hl⟩
      unfold Oper.asks at has ⊢
      rw [execOp_put p hsp a o.dst v h1] at has
      exact has
  · rw [if_neg hw] at h ⊢
    exact both a undef w hr h

theorem lt_of_false {l : Array Bool} {i : Nat} (h : l.getD i true = false) : l.getD i false = false := by
  rcases Nat.lt_or_ge i l.size with h' | h'
  · simp [h'] at h ⊢; exact h
  · simp [Array.getElem?_eq_none h'] at h

theorem first_ {i : Nat} {o : Oper} {v : Value} {f : FuncId} {args : Array Value} (hi : ops[i]? = some o) (hsel : ∀ (j : Nat) (p : Oper) cs b, ops[j]? = some p → p.op ≠ .select cs b)
    (hQ : ∀ c a w, Q (.panic c) (a.put o.dst v) w → Q (.panic c) a w) (n : Nat) :
    ∀ (fuel : Nat) (l : Array Bool) (a : Act) (w : World),
      (∀ j p, ops[j]? = some p → j ≠ i → l.getD j true = false → (∀ e ∈ p.after, Region.binds md e = true → e.on ≠ i) → o.apart ops p = true) →
      ListedClosed md ops l → (∀ d ∈ ds, l.getD d true = false → Region.reachB md ops i n d = true) →
      i ∈ Region.ready md ops l → Reads P ops S o v f args a → S w →
      wpAnyLast P md ops Q S ds fuel (l.setIfInBounds i true) (a.put o.dst v) w → wpAnyLast P md ops Q S ds (fuel + 1) l a w := by
  intro fuel
  induction fuel with
  | zero =>
    intro l a w _ _ _ hr hy hS H
    refine ⟨fun h => (by rw [h] at hr; cases hr), fun j hj => ?_⟩
    by_cases hji : j = i
    · rw [hji]; exact hy.goes hi hS ⟨fun _ h => h, H⟩
    · have hm := ready_mono hj hji
      rw [H.1] at hm
      cases hm
  | succ fuel ih =>
    intro l a w hfree hc hd hr hy hS H
    refine ⟨fun h => (by rw [h] at hr; cases hr), fun j hj => ?_⟩
    by_cases hji : j = i
    · rw [hji]; exact hy.goes hi hS ⟨fun _ h => h, H⟩
    obtain ⟨hjun, p, hp, hall⟩ := mem_ready.1 hj
    have hiun := (mem_ready.1 hr).1
    have hnot : ∀ e ∈ p.after, Region.binds md e = true → e.on ≠ i := fun e he hb heq => by
      have h1 := hall e he hb
      rw [heq, lt_of_false hiun] at h1
      cases h1
    have hjd : j ∉ ds := fun hm => Region.reach_not_ready hc (hd j hm hjun) hiun hj
    have back : ∀ k, (l.setIfInBounds j true).getD k true = false → l.getD k true = false := fun k hun => by
      by_cases hjk : j = k
      · rw [← hjk]; exact hjun
      · rwa [getD_set_ne true hjk] at hun
    refine wpOp_mono (fun b w' hb => ⟨hb.2.1, ih (l.setIfInBounds j true) b w' (fun k q hk hki hun hno => hfree k q hk hki (back k hun) hno) (hc.set hj) (fun d hm hun => hd d hm (back d hun)) (ready_mono hr (Ne.symm hji)) hb.1 (hb.2.1 hjd hS) ?_⟩)
      (step_apart hp (hfree j p hp hji hjun hnot) (fun cs b => hsel i o cs b hi) (fun cs b => hsel j p cs b hp) hQ hy (H.2 j (ready_mono hj hji)))
    rw [Array.setIfInBounds_comm _ _ hji]
    exact hb.2.2

/-- A call of a function value, its run. -/
theorem enter_val {o : Oper} {a : Act} {f : FuncId} {fn : Func} {ov : Operand} {as : Array Operand} {ts : Array TypeId} {lb : Array Value} (hf : P.funcs[f]? = some fn) (hname : (fn.name == "runtime.NumGoroutine") = false) (hb : fn.body.isSome = true) (args : Array Value)
    (hop : o.op = .call { callee := .value ov, args := as, argTypes := ts }) (hv : a.eval ov = .func (.func f) #[] lb) (hargs : as.map a.eval ++ lb = args) : ∀ w, (execOp a.eval o).run P w = .ok (.enter f args) w := by
  intro w
  have he := enters_ hf hname hb args w
  unfold execOp
  simp [hop, resolve, Deferred.ofValue, invoke, hv, hargs, he]
/-- A call that only reads, of a function value or of a function, taken first. -/
theorem takeq_ {i : Nat} {N : Option Tmp} {o : Oper} {v : Value} {fuel : Nat} {l : Array Bool} {a : Act} {w : World} (l' : Array Bool) (f : FuncId) (args : Array Value) (hi : ops[i]? = some o) (hN : o.dst = N) (hc : takeB md ops ds l l' i = true)
    (hQ : ∀ c a w, Q (.panic c) (a.put o.dst v) w → Q (.panic c) a w) (hw : Region.wanted o (yielded ops a.tmps) = true) (he : ∀ w, (execOp a.eval o).run P w = .ok (.enter f args) w)
    (hcall : ∀ w, S w → Calls P f args w fun e w' => e = .returned v ∧ w = w') (hS : S w) {a' : Act} (ha : a.put N v = a')
    (h : wpAnyLast P md ops Q S ds fuel l' a' w) : wpAnyLast P md ops Q S ds (fuel + 1) l a w := by
  subst ha
  subst hN
  simp only [takeB, Bool.and_eq_true, beq_iff_eq] at hc
  obtain ⟨⟨⟨⟨⟨h1, h2⟩, h3⟩, h4⟩, h5⟩, h6⟩ := hc
  subst h6
  exact first_ hi (Region.noSelect_spec h1) hQ ops.size fuel l a w (Region.free_spec hi h2) (Region.closedB_spec h4)
    (fun d hm hun => by have := List.all_eq_true.1 h5 d hm; rw [hun] at this; simpa using this) (by simpa using h3) ⟨hw, he, hcall⟩ hS h
end
end Go.Proofs.YtbkkomknajgpdaaDoor.Takeq
