/- A slice copied by 'append([]T{}, s...)'; the document's deals and records in slices. -/
import Derived.Test.YtdlfjbllmmkmkaaRDeal
import Derived.Test.YtdlfjbllmmkmkaaPlayed
namespace Go.Proofs.Ytdlfjbllmmkmkaa.Chair
open Go.RowKit Flat ChairSpec News Go.Proofs.YtdlfjbllmmkmkaaW.PrintLast
set_option linter.unusedSimpArgs false
set_option linter.unusedVariables false
set_option maxRecDepth 100000
theorem infoRD : (Try.prog.info? 75).map (fun i => (i.zero.isSome, i.size, i.bytes)) = some (true, 30, 184) := by kernel_rfl
theorem zcellsRD : ((Try.prog.info? 75).bind (·.zero)).map (·.cells.size) = some 30 := by kernel_rfl
theorem infoRR : (Try.prog.info? 34).map (fun i => (i.zero.isSome, i.size, i.bytes)) = some (true, 8, 64) := by kernel_rfl
theorem zcellsRR : ((Try.prog.info? 34).bind (·.zero)).map (·.cells.size) = some 8 := by kernel_rfl
theorem info_zero {P : Program} {e : TypeId} {size bytes : Nat} (h : (P.info? e).map (fun i => (i.zero.isSome, i.size, i.bytes)) = some (true, size, bytes)) (hz : ((P.info? e).bind (·.zero)).map (·.cells.size) = some size) :
    ∃ i z, P.info? e = some i ∧ i.zero = some z ∧ i.size = size ∧ i.bytes = bytes ∧ z.cells.size = size := by
  obtain ⟨i, hi, hzz⟩ := Option.map_eq_some_iff.1 h
  simp only [Prod.mk.injEq] at hzz
  obtain ⟨z, hz1⟩ := Option.isSome_iff_exists.1 hzz.1
  rw [hi] at hz
  simp only [Option.bind_some, hz1, Option.map_some, Option.some.injEq] at hz
  exact ⟨i, z, hi, hz1, hzz.2.1, hzz.2.2, hz⟩
/-- Cells in a slice: n elements, all cells one behind the other. -/
def IsSl (w : World) (v : Value) (n : Nat) (xs : List Value) : Prop :=
  ∃ a cap, v = .slice a n cap ∧ n ≤ cap ∧ cap ≤ maxLen ∧ (0 < n → ∃ b off, a = some ⟨b, off, none⟩ ∧ b < w.heap.size ∧ w.rangeAt b off xs)
theorem IsSl.below {w w' : World} {v : Value} {n : Nat} {xs : List Value} (h : IsSl w v n xs) (hb : Below w.heap.size w w') : IsSl w' v n xs := by
  obtain ⟨a, cap, hv, h1, h2, hc⟩ := h
  refine ⟨a, cap, hv, h1, h2, fun hl => ?_⟩
  obtain ⟨b, off, ha, hb2, hd⟩ := hc hl
  exact ⟨b, off, ha, Nat.lt_of_lt_of_le hb2 hb.size, fun j u hu => (hb.cell (p := ⟨b, _, none⟩) hb2).trans (hd j u hu)⟩
theorem run_append_nothing {P : Program} (w : World) (t ty e : TypeId) (i : TypeInfo) (ht : P.underlying t = some (.slice e)) (hi : P.info? e = some i) (H cap : Nat) (ad : Option Addr) (hfit : ad = none ∨ True) :
    (Builtin.append_ #[t, t] ty #[.slice (some ⟨H, 0, none⟩) 0 0, .slice ad 0 cap]).run P w = .ok (.slice (some ⟨H, 0, none⟩) 0 0) w := by
  cases ad with
  | none => simp [Builtin.append_, run_underlying ht, sizeOf, typeInfo, hi, Builtin.lenOf, Builtin.firstCells, storeCells]
  | some ad => simp [Builtin.append_, run_underlying ht, sizeOf, typeInfo, hi, Builtin.lenOf, Builtin.firstCells, storeCells, loadCells, loadCellsFrom]
/-- 'append([]T{}, s...)': a row of the call's own with all that s has. -/
theorem wpList_copy {P : Program} {w : World} {ops : Array Oper} {rest : List Oper} {o : Oper} {a : Act} {Q : Exit → Act → World → Prop} (hgd : o.guard = none) (s x : Operand) (t : TypeId)
    (ho : o.op = .call { callee := .builtin .append, args := #[s, x], argTypes := #[t, t] })
    (base : Nat) (e : TypeId) (i : TypeInfo) (z : Value) (size bytes : Nat) (ht : P.underlying t = some (.slice e)) (hi : P.info? e = some i) (hz : i.zero = some z)
    (hsize : i.size = size) (hby : i.bytes = bytes) (hzs : z.cells.size = size) (hsz : 0 < size)
    (H : Nat) (hs : a.eval s = .slice (some ⟨H, 0, none⟩) 0 0) (hown : w.ownsRow base e size (.slice (some ⟨H, 0, none⟩) 0 0) 0 [])
    (sv : Value) (n : Nat) (xs : List Value) (hx : a.eval x = sv) (hsrc : IsSl w sv n xs) (hl : xs.length = n * size) (h1 : ∀ u ∈ xs, u.oneCell' = true)
    (hbytes : n * bytes ≤ 140737488355328) (hbase : base ≤ w.heap.size)
    (h : ∀ v' w', w'.ownsRow base e size v' n xs → Below base w w' → wpList P ops Q rest (a.put o.dst v') w') : wpList P ops Q (o :: rest) a w := by
  obtain ⟨ad, cap, hsv, hlc, hcm, hc⟩ := hsrc
  subst hsv
  by_cases hn : n = 0
  · subst hn
    have hxs : xs = [] := List.eq_nil_of_length_eq_zero (by simpa using hl)
    subst hxs
    refine wpList_plain hgd fun K hK => ?_
    unfold Oper.wp execOp
    simp only [ho, resolve, invoke, builtin, Sem.run_bind, Sem.run_pure, Result.andThen_ok, List.map_toArray, List.map_cons, List.map_nil, hs, hx, run_append_nothing (P := P) w t o.type e i ht hi H cap ad (.inr trivial)]
    exact hK _ _ (h _ w hown (Below.refl _ _))
  · obtain ⟨b, off, rfl, hbl, hcells⟩ := hc (by omega)
    refine wpList_append_own_at w hgd s x t ho base e i z size bytes ht hi hz hsize hby hzs hsz _ 0 [] hs hown ⟨b, off, none⟩ n cap xs hx hl (fun j u hu => by rw [Addr.add_mid]; exact hcells j u hu) h1 (by omega) (by rw [Nat.zero_add]; exact hbytes) hbase ?_
    intro v' w' ho' hg' _ _
    rw [Nat.zero_add, List.nil_append] at ho'
    exact h v' w' ho' ((Below.refl base w).grown hg' hbase fun j hj => (hown.lt j hj).1)
/-! ### flat lists of rows -/
theorem flat_split {α : Type} (f : α → List Value) (k : Nat) (hf : ∀ x, (f x).length = k) {w : World} {b : Nat} : ∀ (l : List α) (off : Nat), w.rangeAt b off (l.flatMap f) → ∀ i (h : i < l.length), w.rangeAt b (off + i * k) (f l[i])
  | [], off, _, i, h => absurd h (Nat.not_lt_zero _)
  | x :: l, off, hr, 0, _ => by
    rw [Nat.zero_mul, Nat.add_zero]
    exact (range_split (ys := l.flatMap f) (by rw [← List.flatMap_cons]; exact hr)).1
  | x :: l, off, hr, i + 1, h => by
    have h2 := (range_split (xs := f x) (ys := l.flatMap f) (by rw [← List.flatMap_cons]; exact hr)).2
    rw [hf] at h2
    have := flat_split f k hf l (off + k) h2 i (by simpa using h)
    rw [show off + (i + 1) * k = off + k + i * k by rw [Nat.succ_mul]; omega]
    exact this
theorem flat_join {α : Type} (f : α → List Value) (k : Nat) (hf : ∀ x, (f x).length = k) {w : World} {b : Nat} : ∀ (l : List α) (off : Nat), (∀ i (h : i < l.length), w.rangeAt b (off + i * k) (f l[i])) → w.rangeAt b off (l.flatMap f)
  | [], off, _ => fun j v hv => by cases hv
  | x :: l, off, hr => by
    rw [List.flatMap_cons]
    refine range_join ?_ ?_
    · have := hr 0 (by simp)
      rw [Nat.zero_mul, Nat.add_zero] at this
      exact this
    · rw [hf]
      refine flat_join f k hf l (off + k) fun i h => ?_
      have := hr (i + 1) (by simpa using h)
      rw [show off + (i + 1) * k = off + k + i * k by rw [Nat.succ_mul]; omega] at this
      exact this
theorem flat_len {α : Type} (f : α → List Value) (k : Nat) (hf : ∀ x, (f x).length = k) (l : List α) : (l.flatMap f).length = l.length * k := by
  induction l with
  | nil => simp
  | cons x l ih => rw [List.flatMap_cons, List.length_append, ih, hf, List.length_cons, Nat.succ_mul]; omega
/-! ### deals, records -/
def rd1 (x : Int × De) : List Value := rdc x.1 x.2
def dcl (D : List (Int × De)) : List Value := D.flatMap rd1
theorem dcl_len (D : List (Int × De)) : (dcl D).length = D.length * 30 := flat_len rd1 30 (fun _ => rfl) D
theorem dcl_one (D : List (Int × De)) : ∀ u ∈ dcl D, u.oneCell' = true := by
  intro u hu
  obtain ⟨x, _, hx⟩ := List.mem_flatMap.1 hu
  exact rdc_one _ _ u hx
theorem IsDeals.sl {w : World} {v : Value} {D : List (Int × De)} (h : IsDeals w v D) : IsSl w v D.length (dcl D) := by
  obtain ⟨a, cap, hv, h1, h2, hc⟩ := h
  refine ⟨a, cap, hv, h1, h2, fun hl => ?_⟩
  obtain ⟨b, off, ha, hb, hd⟩ := hc hl
  exact ⟨b, off, ha, hb, flat_join rd1 30 (fun _ => rfl) D off hd⟩
theorem isDeals_of {w : World} {v : Value} {D : List (Int × De)} (h : IsSl w v D.length (dcl D)) : IsDeals w v D := by
  obtain ⟨a, cap, hv, h1, h2, hc⟩ := h
  refine ⟨a, cap, hv, h1, h2, fun hl => ?_⟩
  obtain ⟨b, off, ha, hb, hd⟩ := hc hl
  exact ⟨b, off, ha, hb, flat_split rd1 30 (fun _ => rfl) D off hd⟩
theorem own_sl {w : World} {base size n : Nat} {e : TypeId} {v : Value} {xs : List Value} (h : w.ownsRow base e size v n xs) : IsSl w v n xs := by
  rcases h.2 with ⟨h1, h2⟩ | ⟨g, cap, cur, h1, h2, h3, h4, h5, _⟩
  · subst h2; exact ⟨none, 0, h1, Nat.le_refl _, Nat.zero_le _, fun h => absurd h (Nat.lt_irrefl _)⟩
  · subst h1
    exact ⟨_, cap, rfl, h4, h5, fun _ => ⟨g, 0, rfl, (h.lt g rfl).2, fun j u hu => by rw [← Addr.add_mid]; exact h.cells rfl j u hu⟩⟩
/-- Records in a slice. -/
def IsLog (w : World) (v : Value) (l : List Re) : Prop := IsSl w v l.length (rcl l)
end Go.Proofs.Ytdlfjbllmmkmkaa.Chair
