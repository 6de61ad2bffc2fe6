/- A loop that goes through cells: which blocks it turns; what came so far. -/
import Derived.Test.YtcenfolmajegeaaWordIter
import Derived.Test.YtcenfolmajegeaaCellMem
import Derived.Lib.MinMax
namespace Go.Proofs.Ytcenfolmajegeaa.Through
open Go Go.RowKit Go.Maps Flat SeqOver WordCells WordIter
set_option linter.unusedSimpArgs false
set_option linter.unusedVariables false
/-- Nothing that lay has turned but the blocks of L. -/
structure Chg (L : List Nat) (W W' : World) : Prop where
  os : W'.os = W.os
  tape : W'.tape = W.tape
  output : W'.output = W.output
  size : W.heap.size ≤ W'.heap.size
  block : ∀ i, i < W.heap.size → i ∉ L → W'.heap[i]? = W.heap[i]?
theorem Chg.refl (L : List Nat) (W : World) : Chg L W W := ⟨rfl, rfl, rfl, Nat.le_refl _, fun _ _ _ => rfl⟩
theorem Chg.trans {L : List Nat} {A B C : World} (h : Chg L A B) (k : Chg L B C) : Chg L A C :=
  ⟨k.os.trans h.os, k.tape.trans h.tape, k.output.trans h.output, Nat.le_trans h.size k.size, fun i hi hn => (k.block i (Nat.lt_of_lt_of_le hi h.size) hn).trans (h.block i hi hn)⟩
theorem Chg.cell (L : List Nat) (W : World) (b o : Nat) (v : Value) (h : b ∈ L) : Chg L W (W.setCell ⟨b, o, none⟩ v) :=
  ⟨rfl, rfl, rfl, by simp, fun i _ hn => Below.heap_setCell _ _ _ _ (fun e => hn (by rw [e]; exact h))⟩
theorem Chg.grown {L : List Nat} {W W' : World} {b : Nat} (h : W.grownBy W' (some b)) (hb : b ∈ L) : Chg L W W' :=
  ⟨h.os, h.tape, h.output, h.size, fun i hi hn => h.block i hi (fun e => hn (by cases e; exact hb))⟩
theorem Chg.of_below {L : List Nat} {W W' : World} (h : Below W.heap.size W W') : Chg L W W' := ⟨h.os, h.tape, h.output, h.size, fun i hi _ => h.block i hi⟩
theorem Chg.below {L : List Nat} {B : Nat} {w W W' : World} (h : Chg L W W') (hb : Below B w W) (hB : B ≤ w.heap.size) (hL : ∀ i ∈ L, B ≤ i) : Below B w W' :=
  ⟨h.os.trans hb.os, h.tape.trans hb.tape, h.output.trans hb.output, Nat.le_trans hb.size h.size, fun i hi => (h.block i (by have := hb.size; omega) (fun hm => by have := hL i hm; omega)).trans (hb.block i hi)⟩
theorem Chg.keep {L : List Nat} {B : Nat} {W W' : World} (h : Chg L W W') (hL : ∀ i ∈ L, i < B) (row : Option Nat) : Keep B row W W' :=
  ⟨h.size, fun i h1 h2 _ => h.block i h2 (fun hm => by have := hL i hm; omega)⟩
theorem Chg.more {L L' : List Nat} {W W' : World} (h : Chg L W W') (hs : ∀ i ∈ L, i ∈ L') : Chg L' W W' := ⟨h.os, h.tape, h.output, h.size, fun i hi hn => h.block i hi (fun hm => hn (hs i hm))⟩
/-- What lies still: a cell that may be written. -/
def At (W : World) (b : Nat) (v : Value) : Prop := W.cell? ⟨b, 0, none⟩ = some v ∧ W.frozen? ⟨b, 0, none⟩ = false
theorem At.heap {W W' : World} {b : Nat} {v : Value} (h : At W b v) (e : W'.heap[b]? = W.heap[b]?) : At W' b v := ⟨(World.cell?_of_block (a := ⟨b, 0, none⟩) e).trans h.1, (World.frozen?_of_block (a := ⟨b, 0, none⟩) e).trans h.2⟩
theorem At.lt {W : World} {b : Nat} {v : Value} (h : At W b v) : b < W.heap.size := Flat.cell_lt h.1
theorem At.chg {L : List Nat} {W W' : World} {b : Nat} {v : Value} (h : At W b v) (k : Chg L W W') (hb : b ∉ L) : At W' b v := h.heap (k.block b h.lt hb)
theorem At.set {W : World} {b : Nat} {v : Value} (h : At W b v) (u : Value) : At (W.setCell ⟨b, 0, none⟩ u) b u := ⟨World.cell?_setCell_same _ _ _ h.1, by rw [World.frozen?_setCell]; exact h.2⟩
theorem at_new (W : World) (v : Value) (t : TypeId) : At (W.alloc (.cells #[v] t)) W.heap.size v := ⟨by simp [go_sem], World.frozen?_alloc_at _ _ _ _ rfl⟩
theorem _root_.Go.Proofs.Ytcenfolmajegeaa.WordCells.Box.chg {L : List Nat} {W W' : World} {g bn c : Nat} {f : Int → Option Value} (h : Box W g bn f c) (k : Chg L W W') (h1 : g ∉ L) (h2 : bn ∉ L) : Box W' g bn f c := h.heap (k.block g h.lt.1 h1) (k.block bn h.lt.2 h2)
/-- The last key that came. -/
def lastOf (pre : List (I64 × ByteArray)) : Int := match pre.getLast? with | some x => x.1.1 | none => 0
theorem lastOf_snoc (pre : List (I64 × ByteArray)) (x : I64 × ByteArray) : lastOf (pre ++ [x]) = x.1.1 := by simp [lastOf]
theorem last_wf (pre : List (I64 × ByteArray)) : (Lit.int .i64 (lastOf pre)).wf = true := by
  unfold lastOf
  cases pre.getLast? with
  | none => rfl
  | some x => exact x.1.2
section
variable {f : Int → Option Value} {c : Nat} {X : ByteArray} {zs : List I64} {pre : List (I64 × ByteArray)} {x : I64 × ByteArray}
theorem pre_len (h : Keys f c zs) (hp : pre <+: zs.map (pr f X)) : pre.length ≤ c := by
  have := hp.length_le
  rw [List.length_map, h.len] at this
  exact this
theorem pre_val (h : Keys f c zs) (hp : pre ++ [x] <+: zs.map (pr f X)) : x.2 = X := by
  have hm : x ∈ zs.map (pr f X) := hp.subset (by simp)
  obtain ⟨z, hz, rfl⟩ := List.mem_map.1 hm
  unfold pr
  rw [if_pos (h.there z hz)]
theorem pre_rise (h : Keys f c zs) (hp : pre ++ [x] <+: zs.map (pr f X)) (hne : pre ≠ []) : lastOf pre < x.1.1 := by
  have hw : (zs.map (pr f X)).Pairwise (fun a b => a.1.1 < b.1.1) := by
    rw [List.pairwise_map]
    exact h.rises.imp fun {a b} k => k
  have hq := hw.sublist hp.sublist
  obtain ⟨q, y, rfl⟩ : ∃ q y, pre = q ++ [y] := ⟨pre.dropLast, pre.getLast hne, (List.dropLast_concat_getLast hne).symm⟩
  rw [lastOf_snoc]
  rw [List.pairwise_append] at hq
  exact hq.2.2 y (by simp) x (by simp)
end
theorem put_cell {w : World} {l b o : Nat} {x : Obj} (hb : b < w.heap.size) (h : b ≠ l) : (w.putObj l x).cell? ⟨b, o, none⟩ = w.cell? ⟨b, o, none⟩ :=
  (grownBy_putObj' w l x).cell_far ⟨b, o, none⟩ hb (fun e => h (Option.some.inj e))
/-- The blocks of the walk: who goes through (b3: how far; b4: the answer; b5: the cells; b8: how many there were; b9: how many came; b10: the last key), and the cells' own. -/
structure Pl where
  b3 : Nat
  b4 : Nat
  b5 : Nat
  b8 : Nat
  b9 : Nat
  b10 : Nat
  g : Nat
  bn : Nat
structure St (w : World) (p : Pl) (st n c : Nat) (W : World) (pre : List (I64 × ByteArray)) : Prop where
  c3 : W.cell? ⟨p.b3, 0, none⟩ = some (.int .u8 (st : Int))
  c4 : At W p.b4 (.bool false)
  c5 : At W p.b5 (.pointer (some ⟨p.g, 0, none⟩))
  c8 : At W p.b8 (.int .i64 (n : Int))
  c9 : At W p.b9 (.int .i64 (pre.length : Int))
  c10 : At W p.b10 (.int .i64 (lastOf pre))
  box : ∃ f' c', Box W p.g p.bn f' c' ∧ c' ≤ c + pre.length
  blw : Below p.b3 w W
structure Low (p : Pl) (D : Nat) : Prop where
  b3 : p.b3 < D
  b4 : p.b4 < D
  b5 : p.b5 < D
  b8 : p.b8 < D
  b9 : p.b9 < D
  b10 : p.b10 < D
  g : p.g < D
  bn : p.bn < D
theorem St.grown {w : World} {p : Pl} {st n c D : Nat} {W W' : World} {pre : List (I64 × ByteArray)} {t : Option Nat} (h : St w p st n c W pre) (hl : Low p D) (hg : W.grownBy W' t) (ht : ∀ r, t = some r → D ≤ r) (hw : p.b3 ≤ w.heap.size) : St w p st n c W' pre := by
  have e : ∀ i, i < D → i < W.heap.size → W'.heap[i]? = W.heap[i]? := fun i h1 h2 => hg.block i h2 (fun e => absurd (ht i e.symm) (by omega))
  obtain ⟨f', c', hb, hc⟩ := h.box
  exact ⟨(World.cell?_of_block (a := ⟨p.b3, 0, none⟩) (e _ hl.b3 (Flat.cell_lt h.c3))).trans h.c3, h.c4.heap (e _ hl.b4 h.c4.lt), h.c5.heap (e _ hl.b5 h.c5.lt), h.c8.heap (e _ hl.b8 h.c8.lt), h.c9.heap (e _ hl.b9 h.c9.lt), h.c10.heap (e _ hl.b10 h.c10.lt),
    ⟨f', c', hb.heap (e _ hl.g hb.lt.1) (e _ hl.bn hb.lt.2), hc⟩, h.blw.grown hg (Nat.le_trans hw h.blw.size) (fun r er => Nat.le_trans (Nat.le_of_lt hl.b3) (ht r er))⟩
end Go.Proofs.Ytcenfolmajegeaa.Through
