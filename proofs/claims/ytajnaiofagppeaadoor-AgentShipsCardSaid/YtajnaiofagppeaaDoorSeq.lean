/- A range over a function, for iterators that range over iterators themselves: what a round leaves alone is told by blocks, and by the one row that the loop's body appends to. -/
import Derived.RangeFuncNested
import Derived.RangeFuncBound
import Derived.RangeFuncCalls
import Derived.RangeFuncLeaves
import Derived.Shelf.Abstract
import Derived.Test.YtajnaiofagppeaaDoorProg
namespace Go.Proofs.YtajnaiofagppeaaDoor.SeqOver
open Go Go.RowKit
set_option linter.unusedVariables false

/-- Of what lay, from block B on, nothing has turned but the row. -/
structure Keep (B : Nat) (row : Option Nat) (W W' : World) : Prop where
  size : W.heap.size ≤ W'.heap.size
  same : ∀ i, B ≤ i → i < W.heap.size → some i ≠ row → W'.heap[i]? = W.heap[i]?
/-- The row stays where it is, or is a new one. -/
def Next (row row' : Option Nat) (W : World) : Prop := row' = row ∨ ∀ r, row' = some r → W.heap.size ≤ r
theorem Keep.refl (B : Nat) (row : Option Nat) (W : World) : Keep B row W W := ⟨Nat.le_refl _, fun _ _ _ _ => rfl⟩
theorem Keep.mono {B C : Nat} {row : Option Nat} {W W' : World} (h : Keep B row W W') (hBC : B ≤ C) : Keep C row W W' := ⟨h.size, fun i h1 h2 h3 => h.same i (Nat.le_trans hBC h1) h2 h3⟩
theorem Keep.trans {B : Nat} {row row' : Option Nat} {A W W' : World} (h : Keep B row A W) (k : Keep B row' W W') (hn : Next row row' A) : Keep B row A W' :=
  ⟨Nat.le_trans h.size k.size, fun i h1 h2 h3 => (k.same i h1 (Nat.lt_of_lt_of_le h2 h.size) (fun e => by
    rcases hn with hn | hn
    · exact h3 (e.trans hn)
    · exact absurd (hn i e.symm) (by omega))).trans (h.same i h1 h2 h3)⟩
theorem Next.refl (row : Option Nat) (W : World) : Next row row W := .inl rfl
theorem Next.trans {row row' row'' : Option Nat} {W W' : World} (h : Next row row' W) (k : Next row' row'' W') (hs : W.heap.size ≤ W'.heap.size) : Next row row'' W := by
  rcases k with rfl | k
  · exact h
  · exact .inr fun r e => Nat.le_trans hs (k r e)
theorem Keep.of_grown {B : Nat} {row t : Option Nat} {W W' : World} (hg : W.grownBy W' t) (ht : ∀ r, t = some r → r < B ∨ t = row) : Keep B row W W' :=
  ⟨hg.size, fun i h1 h2 h3 => hg.block i h2 (fun e => by
    rcases ht i e.symm with h | h
    · omega
    · exact h3 (e.trans h))⟩
/-- What is said abides the turn of any block from B on, but of the row. -/
def Abs {β : Type} (B : Nat) (J : β → Option Nat → World → Prop) : Prop :=
  ∀ s row W W' t, J s row W → W.grownBy W' t → (∀ r, t = some r → B ≤ r ∧ some r ≠ row) → J s row W'
theorem Abs.mono {β : Type} {B C : Nat} {J : β → Option Nat → World → Prop} (h : Abs B J) (hBC : B ≤ C) : Abs C J := fun s row W W' t hs hg ht => h s row W W' t hs hg (fun r e => ⟨Nat.le_trans hBC (ht r e).1, (ht r e).2⟩)
theorem Abs.alloc {β : Type} {B : Nat} {J : β → Option Nat → World → Prop} (h : Abs B J) {s : β} {row : Option Nat} {W : World} (o : Obj) (hs : J s row W) : J s row (W.alloc o) :=
  h s row W _ none hs (World.grownBy_alloc W o none) (fun r e => by cases e)
theorem Abs.put {β : Type} {B : Nat} {J : β → Option Nat → World → Prop} (h : Abs B J) {s : β} {row : Option Nat} {W : World} {l : Nat} (o : Obj) (hs : J s row W) (hB : B ≤ l) (hr : row ≠ some l) : J s row (W.putObj l o) :=
  h s row W _ (some l) hs (grownBy_putObj' W l o) (fun r e => by cases e; exact ⟨hB, fun e => hr e.symm⟩)
theorem Abs.and {β : Type} {B : Nat} {J J' : β → Option Nat → World → Prop} (h : Abs B J) (h' : Abs B J') : Abs B (fun s row W => J s row W ∧ J' s row W) :=
  fun s row W W' t hs hg ht => ⟨h s row W W' t hs.1 hg ht, h' s row W W' t hs.2 hg ht⟩
theorem abs_false {β : Type} (B : Nat) : Abs B (fun (_ : β) _ _ => False) := fun _ _ _ _ _ h _ _ => h
theorem abs_pure {β : Type} (B : Nat) (p : β → Option Nat → Prop) : Abs B (fun s row _ => p s row) := fun _ _ _ _ _ h _ _ => h
/-- What lies below C ≤ B. -/
theorem abs_below {β : Type} {B C : Nat} {w : World} (hw : C ≤ w.heap.size) (hC : C ≤ B) : Abs B (fun (_ : β) _ W => Below C w W) :=
  fun _ _ _ _ _ hs hg ht => hs.grown hg (Nat.le_trans hw hs.size) (fun r e => Nat.le_trans hC (ht r e).1)

/-- The contract of an iterator's value. -/
def SeqO {α : Type} (F : Fence) (n : Nat) (P : Program) (g : Nat) (lb : Array Value) (encs : α → Array Value) (Kp : World → World → Prop) (S Sp : List α → Prop) (N : Nat) (w : World) : Prop :=
  ∀ (l : Nat) (J Jx : List α → Option Nat → World → Prop) (row : Option Nat) (W : World), Below w.heap.size w W → Abs W.heap.size J → Abs W.heap.size Jx → (∀ s row W, J s row W → ∀ r, row = some r → r < W.heap.size) →
    (∀ pre row x W1, J pre row W1 → pre.length < N → YieldAt F (n - 1) P l (encs x) W1 fun e W' => ∃ row', Next row row' W1 ∧ Keep W.heap.size row W1 W' ∧
      ((e = .returned (.bool true) ∧ J (pre ++ [x]) row' W' ∧ Kp W1 W') ∨ (e = .returned (.bool false) ∧ Jx (pre ++ [x]) row' W'))) →
    J [] row W →
    CallsIn F n P g (#[.func (.yield l) #[] #[]] ++ lb) W fun e W' => (∃ v, e = .returned v) ∧ ∃ row', (∃ xs, S xs ∧ J xs row' W') ∨ (∃ pre, Sp pre ∧ Jx pre row' W')

/-- How the body of a round may be left. -/
def roundO {α : Type} (B : Nat) (Kp : World → World → Prop) (I : List α → Option Nat → World → Prop) (Ix : Code → List α → Option Nat → World → Prop) (xs : List α) (row : Option Nat) (W : World) : Exit → Act → World → Prop
  | .normal, _, W' => ∃ row', Next row row' W ∧ Keep B row W W' ∧ Kp W W' ∧ I xs row' W'
  | .ret, _, W' => ∃ row', Next row row' W ∧ Keep B row W W' ∧ Ix .ret xs row' W'
  | .exit id, _, W' => ∃ row', Next row row' W ∧ Keep B row W W' ∧ Ix (.exit id) xs row' W'
  | .goto t, _, W' => ∃ row', Next row row' W ∧ Keep B row W W' ∧ Ix (.goto t) xs row' W'
  | .panic _, _, _ => False
  | .outgrown, _, _ => False

variable {F : Fence} {n : Nat} {P : Program}

/-- 'for .. := range g { .. }', outside any round. -/
theorem range_over {α : Type} {g : Operand} {ps : Array Tmp} {assign body : Code} {Q : Exit → Act → World → Prop} {a : Act} {w : World}
    (hro : F.round = none) (h1 : 1 ≤ n) {gf : Nat} {lb : Array Value} (hg : a.eval g = .func (.func gf) #[] lb) (hFg : F.fn gf) (eg : ∀ args w, (callFunc gf args).run P w = .ok (.enter gf args) w)
    {encs : α → Array Value} {Kp : World → World → Prop} {S Sp : List α → Prop} {N : Nat} {w0 : World} (hseq : SeqO F (n - 1) P gf lb encs Kp S Sp N w0)
    (hKt : ∀ {A B C : World}, Kp A B → Kp B C → Kp A C) (hKb : ∀ (W W' : World) (t : Option Nat), w.heap.size ≤ W.heap.size → W.grownBy W' t → (∀ r, t = some r → w.heap.size ≤ r) → Kp W W') (hb0 : Below w0.heap.size w0 w) (hps : ∀ x, (encs x).size = ps.size)
    (I : List α → Option Nat → World → Prop) (Ix : Code → List α → Option Nat → World → Prop) (hI : Abs w.heap.size I) (hIx : ∀ c, Abs w.heap.size (Ix c)) (hlt : ∀ s row W, I s row W → ∀ r, row = some r → r < W.heap.size)
    (row : Option Nat) (hrow : ∀ r, row = some r → r < w.heap.size) (h0 : I [] row w) (Ax : α → Act → World → Prop) (hAx : ∀ x a' W W' t, Ax x a' W → W.grownBy W' t → (∀ r, t = some r → ∃ o, W.heap[r]? = some (.loop o)) → Ax x a' W')
    (hassign : ∀ (l : Nat) (pre : List α) (row : Option Nat) (x : α) (W : World) (K : Act → World → Prop), pre.length < N → I pre row W → (∀ a' W', Keep w.heap.size row W W' → Kp W W' → I pre row W' → Ax x a' W' → K a' W') →
      assign.wpIn (F.inRound l) (n - 1 - 1) P (Exit.then K (fun _ _ _ => False)) { tmps := (ps.zip (encs x)).foldl (fun t (p, v) => t.setIfInBounds p v) a.tmps, defers := [] } W)
    (hbody : ∀ (l : Nat) (pre : List α) (row : Option Nat) (x : α) (a' : Act) (W : World), w.heap.size ≤ l → I pre row W → Ax x a' W → pre.length < N → body.wpIn (F.inRound l) (n - 1 - 1) P (roundO w.heap.size Kp I Ix (pre ++ [x]) row W) a' W)
    (hdone : ∀ (D : Nat) (xs : List α) (row : Option Nat) (W : World), w.heap.size ≤ D → S xs → I xs row W → row ≠ some D → W.heap[D]? = some (.deferred (some [])) → Q .normal { a with defers := { target := .collected D, args := #[] } :: a.defers } W)
    (hstop : ∀ (D : Nat) (c : Code) (pre : List α) (row : Option Nat) (W : World), w.heap.size ≤ D → Sp pre → Ix c pre row W → row ≠ some D → W.heap[D]? = some (.deferred (some [])) → c.wpIn F n P Q { a with defers := { target := .collected D, args := #[] } :: a.defers } W) :
    (Code.rangeFunc g ps assign body).wpIn F n P Q a w := by
  refine wpIn_rangeFunc fun fn hfn => ?_
  rw [hro]
  -- the record of the loop, in whatever state; its block L, and D for the deferred calls
  generalize hD : w.heap.size = D at *
  obtain ⟨rc, hrc⟩ : ∃ rc : LoopState → Option Code → Loop, rc = fun st pe => { state := st, pending := pe, fn, tmps := a.tmps, params := ps, assign, body, defers := D } := ⟨_, rfl⟩
  obtain ⟨V, hV⟩ : ∃ V, (w.alloc (.deferred (some []))).alloc (.loop (rc .ready none)) = V := ⟨_, rfl⟩
  have vL : V.heap[D + 1]? = some (.loop (rc .ready none)) := by
    have k := World.alloc_heap_new (w.alloc (.deferred (some []))) (.loop (rc .ready none))
    rw [World.size_alloc, hD, hV] at k
    exact k
  have vD : V.heap[D]? = some (.deferred (some [])) := by
    rw [← hV, ← hD]
    exact (Below.heap_alloc _ _ _ (by simp)).trans (World.alloc_heap_new w _)
  have vI : I [] row V := by rw [← hV]; exact hI.alloc _ (hI.alloc _ h0)
  have vS : V.heap.size = D + 2 := by rw [← hV]; simp [hD]
  have vB : Below w0.heap.size w0 V := by
    rw [← hV]
    exact hb0.trans ((((Below.refl _ w).alloc (Nat.le_refl _) _).alloc (by simp) _).mono hb0.size)
  refine ⟨D + 1, [{ target := .collected D, args := #[] }], V, { target := .fn (.func gf) lb, args := #[.func (.yield (D + 1)) #[] #[]] }, V, gf, #[.func (.yield (D + 1)) #[] #[]] ++ lb, V, ?_, ?_, ?_, ?_, fun _ => h1, ?_⟩
  · have k := run_enterLoop_outer (P := P) (w := w) fn a.tmps ps assign body
    rw [hD] at k
    rw [k, ← hV, hrc]
  · simp only [resolve, hg]
    simp [go_sem]
  · intro f' hf'
    simp [Target.leads] at hf'
    subst hf'
    exact hFg
  · simp [invoke, go_sem, eg]
  -- what the iterator is told: the caller's own, and its two blocks
  let J : List α → Option Nat → World → Prop := fun pre row W => I pre row W ∧ row ≠ some D ∧ row ≠ some (D + 1) ∧ W.heap[D + 1]? = some (.loop (rc .ready none)) ∧ W.heap[D]? = some (.deferred (some []))
  let Jx : List α → Option Nat → World → Prop := fun pre row W => ∃ c, Ix c pre row W ∧ row ≠ some D ∧ row ≠ some (D + 1) ∧ W.heap[D + 1]? = some (.loop (rc .done (some c))) ∧ W.heap[D]? = some (.deferred (some []))
  have far : ∀ {W W' : World} {t : Option Nat} {i : Nat} {o : Obj}, W.grownBy W' t → (∀ r, t = some r → V.heap.size ≤ r) → i < D + 2 → W.heap[i]? = some o → W'.heap[i]? = some o := fun {W W' t i o} hg' ht hi ho =>
    (hg'.block i (Array.getElem?_eq_some_iff.1 ho).1 (fun e => by have := ht i e.symm; omega)).trans ho
  refine (hseq (D + 1) J Jx row V vB
    (fun s row W W' t hs hg' ht => ⟨hI s row W W' t hs.1 hg' (fun r e => ⟨by have := (ht r e).1; omega, (ht r e).2⟩), hs.2.1, hs.2.2.1, far hg' (fun r e => (ht r e).1) (by omega) hs.2.2.2.1, far hg' (fun r e => (ht r e).1) (by omega) hs.2.2.2.2⟩)
    (fun s row W W' t hs hg' ht => by
      obtain ⟨c, h1, h2, h3, h4, h5⟩ := hs
      exact ⟨c, hIx c s row W W' t h1 hg' (fun r e => ⟨by have := (ht r e).1; omega, (ht r e).2⟩), h2, h3, far hg' (fun r e => (ht r e).1) (by omega) h4, far hg' (fun r e => (ht r e).1) (by omega) h5⟩)
    (fun s row W hs => hlt s row W hs.1) ?_ ⟨vI, fun e => by have := hrow _ e; omega, fun e => by have := hrow _ e; omega, vL, vD⟩).mono ?_
  · -- one round
    rintro pre row x W ⟨hi, hn1, hn2, hl, hk⟩ hlen
    have hy := run_yield (P := P) (args := encs x) hl (by rw [hrc]; exact hps x)
    rw [hrc] at hy
    refine ⟨fn, _, assign, body, hy, roundIn_of_wpIn hfn (hassign _ pre row x W _ hlen hi ?_)⟩
    clear hy
    intro a' X hkX hpX hiX hax
    have lt0 : D + 1 < W.heap.size := (Array.getElem?_eq_some_iff.1 hl).1
    have xL := (hkX.same (D + 1) (by omega) lt0 (fun e => hn2 e.symm)).trans hl
    have xD := (hkX.same D (by omega) (by omega) (fun e => hn1 e.symm)).trans hk
    refine ⟨_, run_beginRound xL (by rw [hrc]), ?_⟩
    have ltX : D + 1 < X.heap.size := (Array.getElem?_eq_some_iff.1 xL).1
    obtain ⟨Y, hY⟩ : ∃ Y, X.putObj (D + 1) (.loop { rc .ready none with state := .busy }) = Y := ⟨_, rfl⟩
    have gXY : X.grownBy Y (some (D + 1)) := by rw [← hY]; exact grownBy_putObj' _ _ _
    have yL : Y.heap[D + 1]? = some (.loop { rc .ready none with state := .busy }) := by rw [← hY]; exact World.putObj_heap_same ltX
    have yD : Y.heap[D]? = some (.deferred (some [])) := by rw [← hY]; exact (World.putObj_heap_other (by omega)).trans xD
    have pXY : Kp X Y := hKb _ _ _ (by omega) gXY (fun r e => by cases e; omega)
    have iY : I pre row Y := by rw [← hY]; exact hI.put _ hiX (by omega) hn2
    rw [hY]
    refine wpIn_mono (hbody (D + 1) pre row x a' Y (by omega) iY (hAx x a' _ _ _ hax gXY (fun r e => by cases e; exact ⟨_, xL⟩)) hlen) ?_
    -- the round's end
    have kWY : Keep V.heap.size row W Y := ⟨Nat.le_trans hkX.size gXY.size, fun i h1 h2 h3 => (gXY.block i (Nat.lt_of_lt_of_le h2 hkX.size) (fun e => by cases e; omega)).trans (hkX.same i (by omega) h2 h3)⟩
    have fin : ∀ (jump : Option Code) (row' : Option Nat) (Z : World), Next row row' Y → Keep D row Y Z →
        ∃ Z', (Instr.endRound (D + 1) jump).run P Z = .ok (.bool jump.isNone) Z' ∧ Z.grownBy Z' (some (D + 1)) ∧ row' ≠ some D ∧ row' ≠ some (D + 1) ∧ Next row row' W ∧ Keep V.heap.size row W Z' ∧ Z' = Z.putObj (D + 1) (.loop (rc (if jump.isNone then .ready else .done) jump)) ∧
          Z'.heap[D + 1]? = some (.loop (rc (if jump.isNone then .ready else .done) jump)) ∧ Z'.heap[D]? = some (.deferred (some [])) := fun jump row' Z hnx hkz => by
      have ltY : D + 1 < Y.heap.size := (Array.getElem?_eq_some_iff.1 yL).1
      have zL := (hkz.same (D + 1) (by omega) ltY (fun e => hn2 e.symm)).trans yL
      have zD := (hkz.same D (by omega) (by omega) (fun e => hn1 e.symm)).trans yD
      have ltZ : D + 1 < Z.heap.size := (Array.getElem?_eq_some_iff.1 zL).1
      have sWY := kWY.size
      have r1 : row' ≠ some D := by
        rcases hnx with rfl | h
        · exact hn1
        · intro e; have := h _ e; omega
      have r2 : row' ≠ some (D + 1) := by
        rcases hnx with rfl | h
        · exact hn2
        · intro e; have := h _ e; omega
      have hrun := run_endRound (P := P) jump zL
      rw [hrc] at hrun
      refine ⟨_, hrun, grownBy_putObj' _ _ _, r1, r2, ?_, ?_, by rw [hrc], ?_, ?_⟩
      · rcases hnx with h | h
        · exact .inl h
        · exact .inr fun r e => Nat.le_trans sWY (h r e)
      · have hg2 := grownBy_putObj' Z (D + 1) (.loop { state := if jump.isNone then .ready else .done, pending := jump, fn, tmps := a.tmps, params := ps, assign, body, defers := D })
        exact ⟨Nat.le_trans sWY (Nat.le_trans hkz.size hg2.size), fun i h1 h2 h3 => (hg2.block i (by have := hkz.size; omega) (fun e => by cases e; omega)).trans ((hkz.same i (by omega) (by omega) h3).trans (kWY.same i h1 h2 h3))⟩
      · rw [hrc]; exact World.putObj_heap_same ltZ
      · exact (World.putObj_heap_other (by omega)).trans zD
    rintro e a3 Z hp
    cases e with
    | normal =>
      obtain ⟨row', hnx, hkz, hpz, hiz⟩ := hp
      obtain ⟨Z', hr, hg3, r1, r2, hnw, hkw, hze, zL, zD⟩ := fin none row' Z hnx hkz
      have sz3 : D ≤ Z.heap.size := by have := hkz.size; have := (Array.getElem?_eq_some_iff.1 yD).1; omega
      exact ⟨_, _, hr, row', hnw, hkw, .inl ⟨rfl, ⟨hI _ _ _ _ _ hiz hg3 (fun r e => by cases e; exact ⟨by omega, fun e => r2 e.symm⟩), r1, r2, zL, zD⟩, hKt hpX (hKt pXY (hKt hpz (hKb _ _ _ sz3 hg3 (fun r e => by cases e; omega))))⟩⟩
    | ret =>
      obtain ⟨row', hnx, hkz, hiz⟩ := hp
      obtain ⟨Z', hr, hg3, r1, r2, hnw, hkw, hze, zL, zD⟩ := fin (some .ret) row' Z hnx hkz
      exact ⟨_, _, hr, row', hnw, hkw, .inr ⟨rfl, .ret, hIx _ _ _ _ _ _ hiz hg3 (fun r e => by cases e; exact ⟨by omega, fun e => r2 e.symm⟩), r1, r2, zL, zD⟩⟩
    | exit id =>
      obtain ⟨row', hnx, hkz, hiz⟩ := hp
      obtain ⟨Z', hr, hg3, r1, r2, hnw, hkw, hze, zL, zD⟩ := fin (some (.exit id)) row' Z hnx hkz
      exact ⟨_, _, hr, row', hnw, hkw, .inr ⟨rfl, .exit id, hIx _ _ _ _ _ _ hiz hg3 (fun r e => by cases e; exact ⟨by omega, fun e => r2 e.symm⟩), r1, r2, zL, zD⟩⟩
    | goto t =>
      obtain ⟨row', hnx, hkz, hiz⟩ := hp
      obtain ⟨Z', hr, hg3, r1, r2, hnw, hkw, hze, zL, zD⟩ := fin (some (.goto t)) row' Z hnx hkz
      exact ⟨_, _, hr, row', hnw, hkw, .inr ⟨rfl, .goto t, hIx _ _ _ _ _ _ hiz hg3 (fun r e => by cases e; exact ⟨by omega, fun e => r2 e.symm⟩), r1, r2, zL, zD⟩⟩
    | panic ch => exact hp.elim
    | outgrown => exact hp.elim
  · -- behind the iterator
    rintro e W2 ⟨⟨v, rfl⟩, row', (⟨xs, hS, hi, r1, r2, hl, hk⟩ | ⟨pre, hSp, c, hi, r1, r2, hl, hk⟩)⟩
    · have k := run_endLoop (P := P) hl (by rw [hrc]; simp)
      rw [hrc] at k
      exact ⟨none, _, k, hdone _ xs row' _ (Nat.le_refl _) hS (hI.put _ hi (by omega) r2) r1 ((World.putObj_heap_other (by omega)).trans hk)⟩
    · have k := run_endLoop (P := P) hl (by rw [hrc]; simp)
      rw [hrc] at k
      exact ⟨some c, _, k, hstop _ c pre row' _ (Nat.le_refl _) hSp ((hIx c).put _ hi (by omega) r2) r1 ((World.putObj_heap_other (by omega)).trans hk)⟩
/-- The same, where the assignments ahead of a round only set slots. -/
theorem range_set {α : Type} {g : Operand} {ps : Array Tmp} {assign body : Code} {Q : Exit → Act → World → Prop} {a : Act} {w : World}
    (hro : F.round = none) (h1 : 1 ≤ n) {gf : Nat} {lb : Array Value} (hg : a.eval g = .func (.func gf) #[] lb) (hFg : F.fn gf) (eg : ∀ args w, (callFunc gf args).run P w = .ok (.enter gf args) w)
    {encs : α → Array Value} {Kp : World → World → Prop} {S Sp : List α → Prop} {N : Nat} {w0 : World} (hseq : SeqO F (n - 1) P gf lb encs Kp S Sp N w0)
    (hKt : ∀ {A B C : World}, Kp A B → Kp B C → Kp A C) (hKb : ∀ (W W' : World) (t : Option Nat), w.heap.size ≤ W.heap.size → W.grownBy W' t → (∀ r, t = some r → w.heap.size ≤ r) → Kp W W') (hb0 : Below w0.heap.size w0 w) (hps : ∀ x, (encs x).size = ps.size)
    (hKr : ∀ W, Kp W W)
    (I : List α → Option Nat → World → Prop) (Ix : Code → List α → Option Nat → World → Prop) (hI : Abs w.heap.size I) (hIx : ∀ c, Abs w.heap.size (Ix c)) (hlt : ∀ s row W, I s row W → ∀ r, row = some r → r < W.heap.size)
    (row : Option Nat) (hrow : ∀ r, row = some r → r < w.heap.size) (h0 : I [] row w) (asg : α → Array Value → Array Value)
    (hassign : ∀ (l : Nat) (x : α) (W : World) (K : Act → World → Prop), K { tmps := asg x ((ps.zip (encs x)).foldl (fun t (p, v) => t.setIfInBounds p v) a.tmps), defers := [] } W →
      assign.wpIn (F.inRound l) (n - 1 - 1) P (Exit.then K (fun _ _ _ => False)) { tmps := (ps.zip (encs x)).foldl (fun t (p, v) => t.setIfInBounds p v) a.tmps, defers := [] } W)
    (hbody : ∀ (l : Nat) (pre : List α) (row : Option Nat) (x : α) (W : World), w.heap.size ≤ l → I pre row W → pre.length < N → body.wpIn (F.inRound l) (n - 1 - 1) P (roundO w.heap.size Kp I Ix (pre ++ [x]) row W) { tmps := asg x ((ps.zip (encs x)).foldl (fun t (p, v) => t.setIfInBounds p v) a.tmps), defers := [] } W)
    (hdone : ∀ (D : Nat) (xs : List α) (row : Option Nat) (W : World), w.heap.size ≤ D → S xs → I xs row W → row ≠ some D → W.heap[D]? = some (.deferred (some [])) → Q .normal { a with defers := { target := .collected D, args := #[] } :: a.defers } W)
    (hstop : ∀ (D : Nat) (c : Code) (pre : List α) (row : Option Nat) (W : World), w.heap.size ≤ D → Sp pre → Ix c pre row W → row ≠ some D → W.heap[D]? = some (.deferred (some [])) → c.wpIn F n P Q { a with defers := { target := .collected D, args := #[] } :: a.defers } W) :
    (Code.rangeFunc g ps assign body).wpIn F n P Q a w :=
  range_over hro h1 hg hFg eg hseq hKt hKb hb0 hps I Ix hI hIx hlt row hrow h0 (fun x a' _ => a' = { tmps := asg x ((ps.zip (encs x)).foldl (fun t (p, v) => t.setIfInBounds p v) a.tmps), defers := [] }) (fun _ _ _ _ _ h _ _ => h)
    (fun l pre row x W K _ hi hK => hassign l x W K (hK _ _ (Keep.refl _ _ _) (hKr W) hi rfl))
    (fun l pre row x a' W hl hi e hlen => by subst e; exact hbody l pre row x W hl hi hlen) hdone hstop
end Go.Proofs.YtajnaiofagppeaaDoor.SeqOver
