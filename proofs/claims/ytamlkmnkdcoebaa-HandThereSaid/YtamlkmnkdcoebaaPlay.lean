/- A play in memory: four sides in an array, all messages that were said, the cargo; what the steps leave of it. -/
import Derived.Test.YtamlkmnkdcoebaaHandPlay
import Derived.Test.YtamlkmnkdcoebaaHandTold
import Derived.Deep.Onto
import Derived.Maps.AppendAt
namespace Go.Proofs.Ytamlkmnkdcoebaa.Play
open Go.RowKit LeaseSpec Flat Lease HandSpec HandLaws Hand HandPlay Go.Proofs.YtamlkmnkdcoebaaW.PrintLast
set_option linter.unusedSimpArgs false
set_option linter.unusedVariables false
set_option maxRecDepth 100000

/-- Blocks below B, but for g, are as they were. -/
structure Kb (B g : Nat) (w w' : World) : Prop where
  os : w'.os = w.os
  tape : w'.tape = w.tape
  output : w'.output = w.output
  size : w.heap.size ≤ w'.heap.size
  block : ∀ b, b < B → b ≠ g → w'.heap[b]? = w.heap[b]?
theorem Kb.of_below {B g : Nat} {w w' : World} (h : Below B w w') : Kb B g w w' := ⟨h.os, h.tape, h.output, h.size, fun b hb _ => h.block b hb⟩
theorem Kb.refl (B g : Nat) (w : World) : Kb B g w w := ⟨rfl, rfl, rfl, Nat.le_refl _, fun _ _ _ => rfl⟩
theorem Kb.trans {B g : Nat} {u v w : World} (h : Kb B g u v) (k : Kb B g v w) : Kb B g u w :=
  ⟨k.os.trans h.os, k.tape.trans h.tape, k.output.trans h.output, Nat.le_trans h.size k.size, fun b hb hg => (k.block b hb hg).trans (h.block b hb hg)⟩
theorem Kb.below {B g n : Nat} {w w' : World} (h : Kb B g w w') (hn : n ≤ B) (hg : n ≤ g) : Below n w w' :=
  ⟨h.os, h.tape, h.output, h.size, fun b hb => h.block b (by omega) (by omega)⟩
theorem Kb.set {B g o : Nat} {w w' : World} (h : Kb B g w w') (v : Value) : Kb B g w (w'.setCell ⟨g, o, none⟩ v) := by
  have k : Below g w' (w'.setCell ⟨g, o, none⟩ v) := (Below.refl g w').setCell (p := ⟨g, o, none⟩) (Nat.le_refl _) v
  refine h.trans ⟨k.os, k.tape, k.output, k.size, fun b _ hg => ?_⟩
  have : (w'.setCell ⟨g, o, none⟩ v).heap[b]? = w'.heap[b]? := by
    simp only [World.setCell, Array.getElem?_modify]
    rw [if_neg (fun e => hg e.symm)]
  exact this

def mcell (m : M) : List Value := [.int .i64 m.kind, .int .u8 m.src, .int .u8 m.dst, .int .i64 m.ep, .string m.c]
def mcells (l : List M) : List Value := l.flatMap mcell
theorem mcells_append (a b : List M) : mcells (a ++ b) = mcells a ++ mcells b := by simp [mcells]
theorem mcells_length (l : List M) : (mcells l).length = l.length * 5 := by
  induction l with
  | nil => rfl
  | cons x l ih =>
    have e : mcells (x :: l) = mcell x ++ mcells l := rfl
    rw [e, List.length_append, ih, List.length_cons]
    simp only [mcell, List.length_cons, List.length_nil]
    omega
theorem mcells_get : ∀ (l : List M) (i : Nat) (h : i < l.length) (j : Nat), j < 5 → (mcells l)[i * 5 + j]? = (mcell l[i])[j]?
  | x :: l, 0, _, j, hj => by
    have e : mcells (x :: l) = mcell x ++ mcells l := rfl
    rw [e, Nat.zero_mul, Nat.zero_add, List.getElem?_append_left (by exact hj)]
    rfl
  | x :: l, i + 1, h, j, hj => by
    have e : mcells (x :: l) = mcell x ++ mcells l := rfl
    rw [e, List.getElem?_append_right (by simp only [mcell, List.length_cons, List.length_nil]; omega)]
    have := mcells_get l i (by simpa using h) j hj
    rw [show (i + 1) * 5 + j - (mcell x).length = i * 5 + j by simp only [mcell, List.length_cons, List.length_nil]; omega, this]
    rfl
/-- v is a row of messages of the call's own, behind block B. -/
def OwnM (w : World) (B : Nat) (v : Value) (l : List M) : Prop := w.ownsRow B 37 5 v l.length (mcells l)
theorem infoM : (Try.prog.info? 37).map (fun i => (i.zero, i.size, i.bytes)) = some (some (.agg #[.int .i64 0, .int .u8 0, .int .u8 0, .int .i64 0, .string ⟨#[]⟩]), 5, 40) := by kernel_rfl
theorem ownm_nil (w : World) (B : Nat) : OwnM w B (.slice none 0 0) [] := World.ownsRow_nil w B _ 5
theorem grown_b {w w' : World} {row : Option Nat} (h : Below w.heap.size w w') : w.grownBy w' row := ⟨h.os, h.tape, h.output, h.size, fun i hi _ => h.block i hi⟩
theorem ownm_below {w w' : World} {B : Nat} {v : Value} {l : List M} (h : OwnM w B v l) (hb : Below w.heap.size w w') : OwnM w' B v l :=
  World.ownsRow.kept h (row := none) (grown_b hb) (by cases v.ownBlock <;> simp)
theorem ownm_lo {w : World} {B : Nat} {v : Value} {l : List M} (h : OwnM w B v l) : ∀ j, v.ownBlock = some j → B ≤ j ∧ j < w.heap.size := fun j hj => h.lt j hj

/-- A message that was said, read. -/
theorem ownm_read {w : World} {B : Nat} {v : Value} {l : List M} (h : OwnM w B v l) (hl : 0 < l.length) :
    ∃ g cap, v = .slice (some ⟨g, 0, none⟩) l.length cap ∧ l.length ≤ cap ∧ cap ≤ maxLen ∧ B ≤ g ∧ g < w.heap.size ∧ ∀ i (h : i < l.length), w.cell? ⟨g, i * 5, none⟩ = some (.int .i64 l[i].kind) ∧ w.cell? ⟨g, i * 5 + 1, none⟩ = some (.int .u8 l[i].src) ∧
      w.cell? ⟨g, i * 5 + 2, none⟩ = some (.int .u8 l[i].dst) ∧ w.cell? ⟨g, i * 5 + 3, none⟩ = some (.int .i64 l[i].ep) ∧ w.cell? ⟨g, i * 5 + 4, none⟩ = some (.string l[i].c) := by
  have hc := fun g => World.ownsRow.cells (g := g) h
  have hlt := h.lt
  rcases h.2 with ⟨h1, h2⟩ | ⟨g, cap, cur, h1, _, _, h3, h4, _⟩
  · omega
  · subst h1
    refine ⟨g, cap, rfl, h3, h4, (hlt g rfl).1, (hlt g rfl).2, fun i hi => ?_⟩
    have e : ∀ j, ((⟨g, 0, none⟩ : Addr).add j) = ⟨g, j, none⟩ := fun j => by unfold Addr.add; split <;> simp_all
    have key : ∀ j v, j < 5 → (mcell l[i])[j]? = some v → w.cell? ⟨g, i * 5 + j, none⟩ = some v := fun j v hj hv => by
      have := hc g rfl (i * 5 + j) v (by rw [mcells_get l i hi j hj]; exact hv)
      rwa [e] at this
    exact ⟨key 0 _ (by decide) rfl, key 1 _ (by decide) rfl, key 2 _ (by decide) rfl, key 3 _ (by decide) rfl, key 4 _ (by decide) rfl⟩

/-- A slice appended, in a region that draws its order: where the source is one row. -/
theorem append_row_ {P : Program} {ops : Array Oper} {Q : Exit → Act → World → Prop} {oi : Oper} {N : Option Tmp} {a : Act} {w : World} {K : Act → World → Prop} (hw : Region.wanted oi (yielded ops a.tmps) = true) (hN : oi.dst = N)
    (s x : Operand) (t : TypeId) (ho : oi.op = .call { callee := .builtin .append, args := #[s, x], argTypes := #[t, t] })
    (base : Nat) (e : TypeId) (i : TypeInfo) (z : Value) (size bytes : Nat) (ht : P.underlying t = some (.slice e)) (hi : P.info? e = some i) (hz : i.zero = some z)
    (hsize : i.size = size) (hby : i.bytes = bytes) (hzs : z.cells.size = size) (hsz : 0 < size)
    (v : Value) (n : Nat) (xs : List Value) (hs : a.eval s = v) (hown : w.ownsRow base e size v n xs)
    (ad : Addr) (m c : Nat) (news : List Value) (hx : a.eval x = .slice (some ad) m c) (hl : news.length = m * size) (hnews : ∀ j u, news[j]? = some u → w.cell? (ad.add j) = some u) (h1 : ∀ u ∈ news, u.oneCell' = true)
    (h63 : n + m ≤ maxLen) (hbytes : (n + m) * bytes ≤ 140737488355328) (hbase : base ≤ w.heap.size)
    (h : ∀ v' w', w'.ownsRow base e size v' (n + m) (xs ++ news) → w.grownBy w' v.ownBlock → K (a.put N v') w') :
    if Region.wanted oi (yielded ops a.tmps) = true then Oper.wp P oi a w K Q else K (a.put N undef) w := by
  rw [if_pos hw]
  subst hN
  obtain ⟨v', w', hr, h2, h3, h4, h5⟩ := run_append_own_at (P := P) w base t oi.type e i z size bytes ht hi hz hsize hby hzs hsz v n xs hown ad m c news hl hnews h1 h63 hbytes hbase
  unfold Oper.wp execOp
  simp only [ho, resolve, invoke, builtin, Sem.run_bind, Sem.run_pure, Result.andThen_ok, List.map_toArray, List.map_cons, List.map_nil, hs, hx, hr]
  exact h v' w' h2 h3
/-- .. where the source is nil. -/
theorem append_none_ {P : Program} {ops : Array Oper} {Q : Exit → Act → World → Prop} {oi : Oper} {N : Option Tmp} {a : Act} {w : World} {K : Act → World → Prop} (hw : Region.wanted oi (yielded ops a.tmps) = true) (hN : oi.dst = N)
    (s x : Operand) (t : TypeId) (ho : oi.op = .call { callee := .builtin .append, args := #[s, x], argTypes := #[t, t] })
    (base : Nat) (e : TypeId) (i : TypeInfo) (size : Nat) (ht : P.underlying t = some (.slice e)) (hi : P.info? e = some i)
    (v : Value) (n : Nat) (xs : List Value) (hs : a.eval s = v) (hown : w.ownsRow base e size v n xs) (hx : a.eval x = .slice none 0 0)
    (h : K (a.put N v) w) :
    if Region.wanted oi (yielded ops a.tmps) = true then Oper.wp P oi a w K Q else K (a.put N undef) w := by
  rw [if_pos hw]
  subst hN
  have hr : (Builtin.append_ #[t, t] oi.type #[v, .slice none 0 0]).run P w = .ok v w := by
    rcases hown.2 with ⟨rfl, _⟩ | ⟨g, cap, cur, rfl, _, _, hnc, _⟩
    · simp [Builtin.append_, run_underlying ht, sizeOf, typeInfo, hi, Builtin.lenOf, Builtin.firstCells]
    · simp [Builtin.append_, run_underlying ht, sizeOf, typeInfo, hi, Builtin.lenOf, Builtin.firstCells, hnc, storeCells]
  unfold Oper.wp execOp
  simp only [ho, resolve, invoke, builtin, Sem.run_bind, Sem.run_pure, Result.andThen_ok, List.map_toArray, List.map_cons, List.map_nil, hs, hx, hr]
  exact h

structure PS where
  s : Int → S
  said : List M
  cargo : ByteArray
/-- Side i of a play. -/
def Side (w : World) (g i : Nat) (x : S) : Prop :=
  w.cell? ⟨g, i * 6, none⟩ = some (.int .u8 x.me) ∧ w.cell? ⟨g, i * 6 + 1, none⟩ = some (.int .i64 x.e) ∧ w.cell? ⟨g, i * 6 + 2, none⟩ = some (.int .i64 x.s) ∧ w.cell? ⟨g, i * 6 + 3, none⟩ = some (.int .u8 x.t) ∧
    w.cell? ⟨g, i * 6 + 4, none⟩ = some (.string x.c) ∧ w.cell? ⟨g, i * 6 + 5, none⟩ = some (.bool x.k)
/-- A play at block g: its map in block bm, what was said behind block B. -/
structure PlayAt (w : World) (g bm B : Nat) (p : PS) : Prop where
  lo : g < B
  hi : B ≤ w.heap.size
  side : ∀ i : Nat, i < 4 → Side w g i (p.s i)
  cargo : w.cell? ⟨g, 25, none⟩ = some (.string p.cargo)
  map : w.cell? ⟨g, 26, none⟩ = some (.map (some bm))
  fz : ∀ o, w.frozen? ⟨g, o, none⟩ = false
  row : ∃ u, w.cell? ⟨g, 24, none⟩ = some u ∧ OwnM w B u p.said
theorem PlayAt.lt {w : World} {g bm B : Nat} {p : PS} (h : PlayAt w g bm B p) : g < w.heap.size := Nat.lt_of_lt_of_le h.lo h.hi
theorem PlayAt.kept {w w' : World} {g bm B : Nat} {p : PS} (h : PlayAt w g bm B p) (hb : Below w.heap.size w w') : PlayAt w' g bm B p := by
  have c : ∀ o, w'.cell? ⟨g, o, none⟩ = w.cell? ⟨g, o, none⟩ := fun o => hb.cell (p := ⟨g, o, none⟩) h.lt
  refine ⟨h.lo, Nat.le_trans h.hi hb.size, fun i hi => ?_, by rw [c]; exact h.cargo, by rw [c]; exact h.map, fun o => (hb.frozen (p := ⟨g, o, none⟩) h.lt).trans (h.fz o), ?_⟩
  · unfold Side
    simp only [c]
    exact h.side i hi
  · obtain ⟨u, hu, ho⟩ := h.row
    exact ⟨u, by rw [c]; exact hu, ownm_below ho hb⟩
/-- One cell of the play's block written: what is elsewhere stays. -/
theorem set_other {w : World} {g a b : Nat} {v : Value} (h : a ≠ b) : (w.setCell ⟨g, a, none⟩ v).cell? ⟨g, b, none⟩ = w.cell? ⟨g, b, none⟩ :=
  World.cell?_setCell_other _ _ _ _ (by simp <;> exact h)
theorem set_same {w : World} {g a : Nat} {u v : Value} (h : w.cell? ⟨g, a, none⟩ = some u) : (w.setCell ⟨g, a, none⟩ v).cell? ⟨g, a, none⟩ = some v :=
  World.cell?_setCell_same' _ _ _ (by rw [h]; rfl)
theorem ownm_set {w : World} {g a B : Nat} {u v : Value} {l : List M} (h : OwnM w B u l) (hg : g < B) : OwnM (w.setCell ⟨g, a, none⟩ v) B u l := by
  refine World.ownsRow.kept h (row := some g) ⟨rfl, rfl, rfl, by simp, fun i hi hne => ?_⟩ (.inr (fun e => by have := (h.lt g e).1; omega))
  simp only [World.setCell, Array.getElem?_modify]
  rw [if_neg (fun e => hne (by rw [e]))]
theorem PlayAt.setSide {w : World} {g bm B : Nat} {p : PS} (h : PlayAt w g bm B p) {d : Nat} (hd : d < 4) (x : S) :
    PlayAt ((((((w.setCell ⟨g, d * 6, none⟩ (.int .u8 x.me)).setCell ⟨g, d * 6 + 1, none⟩ (.int .i64 x.e)).setCell ⟨g, d * 6 + 2, none⟩ (.int .i64 x.s)).setCell ⟨g, d * 6 + 3, none⟩ (.int .u8 x.t)).setCell ⟨g, d * 6 + 4, none⟩ (.string x.c)).setCell ⟨g, d * 6 + 5, none⟩ (.bool x.k)) g bm B ⟨upd p.s d x, p.said, p.cargo⟩ := by
  obtain ⟨a0, a1, a2, a3, a4, a5⟩ := h.side d hd
  refine ⟨h.lo, by simpa using h.hi, fun i hi => ?_, ?_, ?_, fun o => ?_, ?_⟩
  · by_cases e : i = d
    · subst e
      show Side _ g i (upd p.s i x i)
      rw [upd_same]
      refine ⟨?_, ?_, ?_, ?_, ?_, ?_⟩
      · rw [set_other (by omega), set_other (by omega), set_other (by omega), set_other (by omega), set_other (by omega)]; exact set_same a0
      · rw [set_other (by omega), set_other (by omega), set_other (by omega), set_other (by omega)]; exact set_same (by rw [set_other (by omega)]; exact a1)
      · rw [set_other (by omega), set_other (by omega), set_other (by omega)]; exact set_same (by rw [set_other (by omega), set_other (by omega)]; exact a2)
      · rw [set_other (by omega), set_other (by omega)]; exact set_same (by rw [set_other (by omega), set_other (by omega), set_other (by omega)]; exact a3)
      · rw [set_other (by omega)]; exact set_same (by rw [set_other (by omega), set_other (by omega), set_other (by omega), set_other (by omega)]; exact a4)
      · exact set_same (by rw [set_other (by omega), set_other (by omega), set_other (by omega), set_other (by omega), set_other (by omega)]; exact a5)
    · show Side _ g i (upd p.s d x i)
      rw [upd_other _ _ (by omega)]
      have hs := h.side i hi
      unfold Side at hs ⊢
      have far : ∀ j, j < 6 → i * 6 + j ≠ d * 6 ∧ i * 6 + j ≠ d * 6 + 1 ∧ i * 6 + j ≠ d * 6 + 2 ∧ i * 6 + j ≠ d * 6 + 3 ∧ i * 6 + j ≠ d * 6 + 4 ∧ i * 6 + j ≠ d * 6 + 5 := fun j hj => by omega
      have key : ∀ j, j < 6 → ((((((w.setCell ⟨g, d * 6, none⟩ (.int .u8 x.me)).setCell ⟨g, d * 6 + 1, none⟩ (.int .i64 x.e)).setCell ⟨g, d * 6 + 2, none⟩ (.int .i64 x.s)).setCell ⟨g, d * 6 + 3, none⟩ (.int .u8 x.t)).setCell ⟨g, d * 6 + 4, none⟩ (.string x.c)).setCell ⟨g, d * 6 + 5, none⟩ (.bool x.k)).cell? ⟨g, i * 6 + j, none⟩ = w.cell? ⟨g, i * 6 + j, none⟩ := fun j hj => by
        obtain ⟨f0, f1, f2, f3, f4, f5⟩ := far j hj
        rw [set_other f5.symm, set_other f4.symm, set_other f3.symm, set_other f2.symm, set_other f1.symm, set_other f0.symm]
      have k0 := key 0 (by decide)
      simp only [Nat.add_zero] at k0
      rw [k0, key 1 (by decide), key 2 (by decide), key 3 (by decide), key 4 (by decide), key 5 (by decide)]
      exact hs
  · rw [set_other (by omega), set_other (by omega), set_other (by omega), set_other (by omega), set_other (by omega), set_other (by omega)]; exact h.cargo
  · rw [set_other (by omega), set_other (by omega), set_other (by omega), set_other (by omega), set_other (by omega), set_other (by omega)]; exact h.map
  · simp only [World.frozen?_setCell]; exact h.fz o
  · obtain ⟨u, hu, ho⟩ := h.row
    refine ⟨u, ?_, ?_⟩
    · rw [set_other (by omega), set_other (by omega), set_other (by omega), set_other (by omega), set_other (by omega), set_other (by omega)]; exact hu
    · exact ownm_set (ownm_set (ownm_set (ownm_set (ownm_set (ownm_set ho h.lo) h.lo) h.lo) h.lo) h.lo) h.lo
/-- What was said, laid anew. -/
theorem PlayAt.setSaid {w w' : World} {g bm B : Nat} {p : PS} (h : PlayAt w g bm B p) {u : Value} {l : List M} (hg : Below B w w') (ho : OwnM w' B u l) : PlayAt (w'.setCell ⟨g, 24, none⟩ u) g bm B ⟨p.s, l, p.cargo⟩ := by
  have c : ∀ o, w'.cell? ⟨g, o, none⟩ = w.cell? ⟨g, o, none⟩ := fun o => hg.cell (p := ⟨g, o, none⟩) h.lo
  obtain ⟨u0, hu0, _⟩ := h.row
  refine ⟨h.lo, by have := h.hi; have := hg.size; simp; omega, fun i hi => ?_, ?_, ?_, fun o => ?_, u, ?_, ownm_set ho h.lo⟩
  · obtain ⟨a0, a1, a2, a3, a4, a5⟩ := h.side i hi
    refine ⟨?_, ?_, ?_, ?_, ?_, ?_⟩
    all_goals (rw [set_other (by omega), c]; assumption)
  · rw [set_other (by omega), c]; exact h.cargo
  · rw [set_other (by omega), c]; exact h.map
  · rw [World.frozen?_setCell]; exact (hg.frozen (p := ⟨g, o, none⟩) h.lo).trans (h.fz o)
  · exact set_same (by rw [c]; exact hu0)
end Go.Proofs.Ytamlkmnkdcoebaa.Play
