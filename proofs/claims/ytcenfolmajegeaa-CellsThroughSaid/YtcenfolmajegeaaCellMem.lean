/- What serves all statements on cells: the rows of calls that came in, the cells behind a store, and local arrays. -/
import Derived.Test.YtcenfolmajegeaaCellAlive
import Derived.Test.YtcenfolmajegeaaFlat
import Derived.Lib.Hide
import Derived.LoopTactic
import Derived.RegionTactic
import Derived.ChangeAlike
import Derived.Deep.LoopGhost
import Derived.Deep.DeepCutAuto
import Derived.Deep.CutBlock
import Derived.OwnWalk
import Derived.OpenShut
import Derived.Laws.NewBlocks
namespace Go.Proofs.Ytcenfolmajegeaa.CellMem
open Go.RowKit Go.Maps CellMap Cells CellAlive Flat
set_option linter.unusedSimpArgs false
set_option linter.unusedVariables false
theorem reads_pos {D : DM} {f : Int → Option Int} {c : Nat} (h : Reads D f c) {k x : Int} (hk : f k = some x) : 1 ≤ c := by
  have h1 := (h.2 k).1
  rw [hk] at h1
  have h2 := h.1
  cases D <;> simp [Maps.has, Maps.size] at h1 h2
  rename_i l
  cases l with
  | nil => simp at h1
  | cons a l => simp at h2; omega
theorem _root_.Go.Proofs.Ytcenfolmajegeaa.Cells.Own.pos {w : World} {b c : Nat} {f : Int → Option Int} (h : Own w b f c) {k x : Int} (hk : f k = some x) : 1 ≤ c := by
  obtain ⟨D, _, h⟩ := h; exact reads_pos h hk
theorem u8_nat {n : Int} (h : (Lit.int .u8 n).wf = true) : ∃ m : Nat, n = (m : Int) ∧ m < 256 := by
  have := bounds_u8 h
  exact ⟨n.toNat, by omega, by omega⟩
theorem _root_.Go.Proofs.Ytcenfolmajegeaa.Cells.Box.alloc {w : World} {g : Nat} {room : Int} {bn bs : Nat} {fn : Int → Option Int} {cn : Nat} {fs : Int → Option Int} {cs : Nat} (h : Box w g room bn bs fn cn fs cs) (o : Obj) : Box (w.alloc o) g room bn bs fn cn fs cs :=
  h.kept (World.grownBy_alloc w o none) (by simp) (by simp) (by simp)
theorem _root_.Go.Proofs.Ytcenfolmajegeaa.Cells.Box.stored {w : World} {g : Nat} {room : Int} {bn bs : Nat} {fn : Int → Option Int} {cn : Nat} {fs : Int → Option Int} {cs : Nat} {p : Addr} {v : Value} (h : Box w g room bn bs fn cn fs cs) (h1 : g ≠ p.block) (h2 : bn ≠ p.block) (h3 : bs ≠ p.block) : Box (w.setCell p v) g room bn bs fn cn fs cs := by
  have e : ∀ o, p ≠ ⟨g, o, none⟩ := fun o e => h1 (by rw [e])
  exact ⟨(World.cell?_setCell_other _ _ _ _ (e _)).trans h.c0, (World.cell?_setCell_other _ _ _ _ (e _)).trans h.c1, (World.cell?_setCell_other _ _ _ _ (e _)).trans h.c2, by simp [h.f1], by simp [h.f2], h.own.setCell h2 _, h.owns.setCell h3 _, h.ng, h.sg, h.ns, h.lo, h.hi, h.le, h.les⟩
theorem _root_.Go.Proofs.Ytcenfolmajegeaa.Cells.Box.drew {w : World} {g : Nat} {room : Int} {bn bs : Nat} {fn : Int → Option Int} {cn : Nat} {fs : Int → Option Int} {cs : Nat} (h : Box w g room bn bs fn cn fs cs) : Box w.drew g room bn bs fn cn fs cs := h.drewN 1
theorem rows_cells {w : World} {a : Option Addr} {len cap : Nat} {r : List (List Value)} (h : IsRows [.int .u8, .int .u8, .int .i64] w a len cap r) (hpos : 0 < len) :
    ∃ b off, a = some ⟨b, off, none⟩ ∧ b < w.heap.size ∧ ∀ i, i < len → ∃ t k : Nat, ∃ v : Int, t < 256 ∧ k < 256 ∧ (Lit.int .i64 v).wf = true ∧ w.cell? ⟨b, off + i * 3, none⟩ = some (.int .u8 t) ∧ w.cell? ⟨b, off + i * 3 + 1, none⟩ = some (.int .u8 k) ∧ w.cell? ⟨b, off + i * 3 + 2, none⟩ = some (.int .i64 v) := by
  obtain ⟨hl, _, _, hf, hc⟩ := h
  obtain ⟨b, off, rfl, hd⟩ := hc hpos
  have key : ∀ i, i < len → ∃ t k : Nat, ∃ v : Int, t < 256 ∧ k < 256 ∧ (Lit.int .i64 v).wf = true ∧ w.cell? ⟨b, off + i * 3, none⟩ = some (.int .u8 t) ∧ w.cell? ⟨b, off + i * 3 + 1, none⟩ = some (.int .u8 k) ∧ w.cell? ⟨b, off + i * 3 + 2, none⟩ = some (.int .i64 v) := fun i hi => by
    have h0 := hd i hi 0 (by decide)
    have h1 := hd i hi 1 (by decide)
    have h2 := hd i hi 2 (by decide)
    have hr : r.getD i [] = r[i]'(by omega) := by simp [List.getD, List.getElem?_eq_getElem (show i < r.length by omega)]
    rw [hr] at h0 h1 h2
    have hfit := hf (r[i]'(by omega)) (List.getElem_mem _)
    generalize r[i]'(by omega) = row at h0 h1 h2 hfit
    obtain ⟨g, _, rfl, wg, x1⟩ := hfit.int
    obtain ⟨n, _, rfl, wn, x2⟩ := x1.int
    obtain ⟨v, _, rfl, wv, x3⟩ := x2.int
    obtain rfl := x3.done
    have bg := u8_nat wg
    have bn := u8_nat wn
    obtain ⟨g, rfl, hg⟩ := bg
    obtain ⟨n, rfl, hn⟩ := bn
    exact ⟨g, n, v, hg, hn, wv, h0, h1, h2⟩
  refine ⟨b, off, rfl, ?_, key⟩
  obtain ⟨_, _, _, _, _, _, h0, _⟩ := key 0 hpos
  exact Flat.cell_lt h0

/-- The local arrays tell what the map holds. -/
structure Arr (w : World) (bl bh : Nat) (f : Int → Option Int) : Prop where
  l : ∀ j : Nat, j < 256 → w.cell? ⟨bl, j, none⟩ = some (.int .i64 ((f j).getD 0))
  h : ∀ j : Nat, j < 256 → w.cell? ⟨bh, j, none⟩ = some (.bool (f j).isSome)
  fl : ∀ j : Nat, w.frozen? ⟨bl, j, none⟩ = false
  fh : ∀ j : Nat, w.frozen? ⟨bh, j, none⟩ = false
  ne : bl ≠ bh

theorem Arr.lt {w : World} {bl bh : Nat} {f : Int → Option Int} (h : Arr w bl bh f) : bl < w.heap.size ∧ bh < w.heap.size := ⟨Flat.cell_lt (h.l 0 (by decide)), Flat.cell_lt (h.h 0 (by decide))⟩
theorem Arr.kept {w w' : World} {bl bh : Nat} {f : Int → Option Int} {row : Option Nat} (h : Arr w bl bh f) (hg : w.grownBy w' row) (h1 : some bl ≠ row) (h2 : some bh ≠ row) : Arr w' bl bh f :=
  have q := h.lt
  ⟨fun j hj => (hg.cell_far _ q.1 h1).trans (h.l j hj), fun j hj => (hg.cell_far _ q.2 h2).trans (h.h j hj), fun j => (hg.frozen_far _ q.1 h1).trans (h.fl j), fun j => (hg.frozen_far _ q.2 h2).trans (h.fh j), h.ne⟩
theorem Arr.stored {w : World} {bl bh key : Nat} {v : Int} {f : Int → Option Int} (h : Arr w bl bh f) (hk : key < 256) :
    Arr ((w.setCell ⟨bl, key, none⟩ (.int .i64 v)).setCell ⟨bh, key, none⟩ (.bool true)) bl bh (CellMap.set f key v) := by
  have hne := h.ne
  refine ⟨fun j hj => ?_, fun j hj => ?_, fun j => by simp [h.fl j], fun j => by simp [h.fh j], hne⟩
  · rw [World.cell?_setCell_other _ _ _ _ (by simp [hne.symm])]
    by_cases e : j = key
    · subst e; rw [World.cell?_setCell_same _ _ _ (h.l j hj)]; simp [CellMap.set]
    · rw [World.cell?_setCell_other _ _ _ _ (by simp [Ne.symm e]), h.l j hj]
      simp only [CellMap.set, if_neg (show ¬ (j : Int) = (key : Int) by omega)]
  · by_cases e : j = key
    · subst e
      rw [World.cell?_setCell_same _ _ _ ((World.cell?_setCell_other _ _ _ _ (by simp [hne])).trans (h.h j hj))]; simp [CellMap.set]
    · rw [World.cell?_setCell_other _ _ _ _ (by simp [Ne.symm e]), World.cell?_setCell_other _ _ _ _ (by simp [hne]), h.h j hj]
      simp only [CellMap.set, if_neg (show ¬ (j : Int) = (key : Int) by omega)]
theorem Arr.drew {w : World} {bl bh : Nat} {f : Int → Option Int} (h : Arr w bl bh f) : Arr w.drew bl bh f := ⟨h.l, h.h, h.fl, h.fh, h.ne⟩
theorem zero26 : Try.zeroCells26 = Array.replicate 256 (.int .i64 0) := by kernel_rfl
theorem zero27 : Try.zeroCells27 = Array.replicate 256 (.bool false) := by kernel_rfl
theorem arr_made (w : World) : Arr ((w.alloc (.cells Try.zeroCells26 26)).alloc (.cells Try.zeroCells27 27)) w.heap.size (w.heap.size + 1) none_ := by
  have e1 : (w.alloc (.cells Try.zeroCells26 26)).heap.size = w.heap.size + 1 := by simp
  refine ⟨fun j hj => ?_, fun j hj => ?_, fun j => ?_, fun j => ?_, by omega⟩
  · rw [World.cell?_alloc_past _ _ _ (by omega), World.cell?_alloc_at _ _ _ _ rfl, zero26]
    simp [hj, none_]
  · rw [World.cell?_alloc_at _ _ _ _ e1.symm, zero27]
    simp [hj, none_]
  · rw [World.frozen?_alloc_past _ _ _ (by omega), World.frozen?_alloc_at _ _ _ _ rfl]
  · rw [World.frozen?_alloc_at _ _ _ _ e1.symm]

end Go.Proofs.Ytcenfolmajegeaa.CellMem
