/- What is set for one key changes no other one, and the last value that was set counts: for every row of calls, key and value the statement's call returns true. -/
import Derived.Test.YtcenfolmajegeaaCellAlive
import Derived.Test.YtcenfolmajegeaaFlat
import Derived.Lib.Hide
import Derived.LoopTactic
import Derived.RegionTactic
import Derived.ChangeAlike
import Derived.Deep.LoopGhost
import Derived.Deep.DeepCutAuto
import Derived.Deep.CutBlock
import Derived.OwnWalk
import Derived.OpenShut
import Derived.Laws.NewBlocks
namespace Go.Proofs.Ytcenfolmajegeaa.LCellsKeys
open Go.RowKit Go.Maps CellMap Cells CellAlive Flat
set_option linter.unusedSimpArgs false
set_option linter.unusedVariables false

theorem u8_nat {n : Int} (h : (Lit.int .u8 n).wf = true) : ∃ m : Nat, n = (m : Int) ∧ m < 256 := by
  have := bounds_u8 h
  exact ⟨n.toNat, by omega, by omega⟩
theorem _root_.Go.Proofs.Ytcenfolmajegeaa.Cells.Box.alloc {w : World} {g : Nat} {room : Int} {bn bs : Nat} {fn : Int → Option Int} {cn : Nat} {fs : Int → Option Int} {cs : Nat} (h : Box w g room bn bs fn cn fs cs) (o : Obj) : Box (w.alloc o) g room bn bs fn cn fs cs :=
  h.kept (World.grownBy_alloc w o none) (by simp) (by simp) (by simp)
theorem _root_.Go.Proofs.Ytcenfolmajegeaa.Cells.Box.stored {w : World} {g : Nat} {room : Int} {bn bs : Nat} {fn : Int → Option Int} {cn : Nat} {fs : Int → Option Int} {cs : Nat} {p : Addr} {v : Value} (h : Box w g room bn bs fn cn fs cs) (h1 : g ≠ p.block) (h2 : bn ≠ p.block) (h3 : bs ≠ p.block) : Box (w.setCell p v) g room bn bs fn cn fs cs := by
  have e : ∀ o, p ≠ ⟨g, o, none⟩ := fun o e => h1 (by rw [e])
  exact ⟨(World.cell?_setCell_other _ _ _ _ (e _)).trans h.c0, (World.cell?_setCell_other _ _ _ _ (e _)).trans h.c1, (World.cell?_setCell_other _ _ _ _ (e _)).trans h.c2, by simp [h.f1], by simp [h.f2], h.own.setCell h2 _, h.owns.setCell h3 _, h.ng, h.sg, h.ns, h.lo, h.hi, h.le, h.les⟩
theorem _root_.Go.Proofs.Ytcenfolmajegeaa.Cells.Box.drew {w : World} {g : Nat} {room : Int} {bn bs : Nat} {fn : Int → Option Int} {cn : Nat} {fs : Int → Option Int} {cs : Nat} (h : Box w g room bn bs fn cn fs cs) : Box w.drew g room bn bs fn cn fs cs := h.drewN 1
theorem rows_cells {w : World} {a : Option Addr} {len cap : Nat} {r : List (List Value)} (h : IsRows [.int .u8, .int .u8, .int .i64] w a len cap r) (hpos : 0 < len) :
    ∃ b off, a = some ⟨b, off, none⟩ ∧ b < w.heap.size ∧ ∀ i, i < len → ∃ t k : Nat, ∃ v : Int, t < 256 ∧ k < 256 ∧ (Lit.int .i64 v).wf = true ∧ w.cell? ⟨b, off + i * 3, none⟩ = some (.int .u8 t) ∧ w.cell? ⟨b, off + i * 3 + 1, none⟩ = some (.int .u8 k) ∧ w.cell? ⟨b, off + i * 3 + 2, none⟩ = some (.int .i64 v) := by
  obtain ⟨hl, _, _, hf, hc⟩ := h
  obtain ⟨b, off, rfl, hd⟩ := hc hpos
  have key : ∀ i, i < len → ∃ t k : Nat, ∃ v : Int, t < 256 ∧ k < 256 ∧ (Lit.int .i64 v).wf = true ∧ w.cell? ⟨b, off + i * 3, none⟩ = some (.int .u8 t) ∧ w.cell? ⟨b, off + i * 3 + 1, none⟩ = some (.int .u8 k) ∧ w.cell? ⟨b, off + i * 3 + 2, none⟩ = some (.int .i64 v) := fun i hi => by
    have h0 := hd i hi 0 (by decide)
    have h1 := hd i hi 1 (by decide)
    have h2 := hd i hi 2 (by decide)
    have hr : r.getD i [] = r[i]'(by omega) := by simp [List.getD, List.getElem?_eq_getElem (show i < r.length by omega)]
    rw [hr] at h0 h1 h2
    have hfit := hf (r[i]'(by omega)) (List.getElem_mem _)
    generalize r[i]'(by omega) = row at h0 h1 h2 hfit
    obtain ⟨g, _, rfl, wg, x1⟩ := hfit.int
    obtain ⟨n, _, rfl, wn, x2⟩ := x1.int
    obtain ⟨v, _, rfl, wv, x3⟩ := x2.int
    obtain rfl := x3.done
    have bg := u8_nat wg
    have bn := u8_nat wn
    obtain ⟨g, rfl, hg⟩ := bg
    obtain ⟨n, rfl, hn⟩ := bn
    exact ⟨g, n, v, hg, hn, wv, h0, h1, h2⟩
  refine ⟨b, off, rfl, ?_, key⟩
  obtain ⟨_, _, _, _, _, _, h0, _⟩ := key 0 hpos
  exact Flat.cell_lt h0

/-- The local arrays tell what the map holds. -/
structure Arr (w : World) (bl bh : Nat) (f : Int → Option Int) : Prop where
  l : ∀ j : Nat, j < 256 → w.cell? ⟨bl, j, none⟩ = some (.int .i64 ((f j).getD 0))
  h : ∀ j : Nat, j < 256 → w.cell? ⟨bh, j, none⟩ = some (.bool (f j).isSome)
  fl : ∀ j : Nat, w.frozen? ⟨bl, j, none⟩ = false
  fh : ∀ j : Nat, w.frozen? ⟨bh, j, none⟩ = false
  ne : bl ≠ bh

theorem Arr.lt {w : World} {bl bh : Nat} {f : Int → Option Int} (h : Arr w bl bh f) : bl < w.heap.size ∧ bh < w.heap.size := ⟨Flat.cell_lt (h.l 0 (by decide)), Flat.cell_lt (h.h 0 (by decide))⟩
theorem Arr.kept {w w' : World} {bl bh : Nat} {f : Int → Option Int} {row : Option Nat} (h : Arr w bl bh f) (hg : w.grownBy w' row) (h1 : some bl ≠ row) (h2 : some bh ≠ row) : Arr w' bl bh f :=
  have q := h.lt
  ⟨fun j hj => (hg.cell_far _ q.1 h1).trans (h.l j hj), fun j hj => (hg.cell_far _ q.2 h2).trans (h.h j hj), fun j => (hg.frozen_far _ q.1 h1).trans (h.fl j), fun j => (hg.frozen_far _ q.2 h2).trans (h.fh j), h.ne⟩
theorem Arr.stored {w : World} {bl bh key : Nat} {v : Int} {f : Int → Option Int} (h : Arr w bl bh f) (hk : key < 256) :
    Arr ((w.setCell ⟨bl, key, none⟩ (.int .i64 v)).setCell ⟨bh, key, none⟩ (.bool true)) bl bh (CellMap.set f key v) := by
  have hne := h.ne
  refine ⟨fun j hj => ?_, fun j hj => ?_, fun j => by simp [h.fl j], fun j => by simp [h.fh j], hne⟩
  · rw [World.cell?_setCell_other _ _ _ _ (by simp [hne.symm])]
    by_cases e : j = key
    · subst e; rw [World.cell?_setCell_same _ _ _ (h.l j hj)]; simp [CellMap.set]
    · rw [World.cell?_setCell_other _ _ _ _ (by simp [Ne.symm e]), h.l j hj]
      simp only [CellMap.set, if_neg (show ¬ (j : Int) = (key : Int) by omega)]
  · by_cases e : j = key
    · subst e
      rw [World.cell?_setCell_same _ _ _ ((World.cell?_setCell_other _ _ _ _ (by simp [hne])).trans (h.h j hj))]; simp [CellMap.set]
    · rw [World.cell?_setCell_other _ _ _ _ (by simp [Ne.symm e]), World.cell?_setCell_other _ _ _ _ (by simp [hne]), h.h j hj]
      simp only [CellMap.set, if_neg (show ¬ (j : Int) = (key : Int) by omega)]
theorem Arr.drew {w : World} {bl bh : Nat} {f : Int → Option Int} (h : Arr w bl bh f) : Arr w.drew bl bh f := ⟨h.l, h.h, h.fl, h.fh, h.ne⟩
theorem zero26 : Try.zeroCells26 = Array.replicate 256 (.int .i64 0) := by kernel_rfl
theorem zero27 : Try.zeroCells27 = Array.replicate 256 (.bool false) := by kernel_rfl
theorem arr_made (w : World) : Arr ((w.alloc (.cells Try.zeroCells26 26)).alloc (.cells Try.zeroCells27 27)) w.heap.size (w.heap.size + 1) none_ := by
  have e1 : (w.alloc (.cells Try.zeroCells26 26)).heap.size = w.heap.size + 1 := by simp
  refine ⟨fun j hj => ?_, fun j hj => ?_, fun j => ?_, fun j => ?_, by omega⟩
  · rw [World.cell?_alloc_past _ _ _ (by omega), World.cell?_alloc_at _ _ _ _ rfl, zero26]
    simp [hj, none_]
  · rw [World.cell?_alloc_at _ _ _ _ e1.symm, zero27]
    simp [hj, none_]
  · rw [World.frozen?_alloc_past _ _ _ (by omega), World.frozen?_alloc_at _ _ _ _ rfl]
  · rw [World.frozen?_alloc_at _ _ _ _ e1.symm]

def Rel (w : World) (len B g bn bs bl bh : Nat) (i : Value) (wr : World) : Prop :=
  ∃ (k : Nat) (f : Int → Option Int) (c : Nat), k ≤ len ∧ i = .int .i64 k ∧ c ≤ k ∧ Below B w wr ∧ B ≤ wr.heap.size ∧ Box wr g 300 bn bs f c none_ 0 ∧ Arr wr bl bh f

set_option maxRecDepth 100000 in
set_option maxHeartbeats 4000000 in
theorem walk (a0 : Option Addr) (len0 cap0 : Nat) (r0 : List (List Value)) (a1 : Int) (a2 : Int) (w : World) (w0 : IsRows [.int .u8, .int .u8, .int .i64] w a0 len0 cap0 r0) (w1 : (Lit.int .u8 a1).wf = true) (w2 : (Lit.int .i64 a2).wf = true) :
    Calls Try.prog 3 #[.slice a0 len0 cap0, .int .u8 a1, .int .i64 a2] w fun e w' => e = .returned (.bool true) ∧ Below w.heap.size w w' := by
  have hmax : len0 ≤ maxLen := Nat.le_trans w0.2.1 w0.2.2.1
  unfold maxLen at hmax
  by_cases hlen : 100 < len0
  · have hlenI : (100 : Int) < (len0 : Int) := by omega
    go_enter Try.func3, Try.ntmps3
    go_wp2_with fail
    refine (alive_any _).mono ?_
    rintro r v1 ⟨rfl, hb1⟩
    go_wp2_with fail
    refine (new_any 300 _ (by omega) (by omega)).mono ?_
    rintro e v2 ⟨g, bn, bs, rfl, hb, hB, hg, hn, hs⟩
    go_wp2_with fail
    go_ret
    exact ⟨rfl, hb1.trans (hB.mono hb1.size)⟩
  · have hlenI : ¬ (100 : Int) < (len0 : Int) := by omega
    go_enter Try.func3, Try.ntmps3
    go_wp2_with fail
    refine (alive_any _).mono ?_
    rintro r v1 ⟨rfl, hb1⟩
    go_wp2_with fail
    refine (new_any 300 _ (by omega) (by omega)).mono ?_
    rintro e v2 ⟨g, bn, bs, rfl, hb, hB, hg, hn, hs⟩
    go_wp2_with fail
    have z3 : v2.heap.size ≤ ((v2.alloc (.cells Try.zeroCells26 26)).alloc (.cells Try.zeroCells27 27)).heap.size := by simp; omega
    have B3 : Below w.heap.size w ((v2.alloc (.cells Try.zeroCells26 26)).alloc (.cells Try.zeroCells27 27)) := by
      have q := hb1.trans (hB.mono hb1.size)
      exact (q.alloc q.size _).alloc (Nat.le_trans q.size (by simp)) _
    have hb3 : Box ((v2.alloc (.cells Try.zeroCells26 26)).alloc (.cells Try.zeroCells27 27)) g 300 bn bs none_ 0 none_ 0 := (hb.alloc _).alloc _
    have ha3 : Arr ((v2.alloc (.cells Try.zeroCells26 26)).alloc (.cells Try.zeroCells27 27)) v2.heap.size (v2.heap.size + 1) none_ := arr_made v2
    have hq := hb.lt
    have hgl : g ≠ v2.heap.size ∧ g ≠ v2.heap.size + 1 ∧ bn ≠ v2.heap.size ∧ bn ≠ v2.heap.size + 1 ∧ bs ≠ v2.heap.size ∧ bs ≠ v2.heap.size + 1 := by omega
    have hLo : w.heap.size ≤ g ∧ w.heap.size ≤ bn ∧ w.heap.size ≤ bs ∧ w.heap.size ≤ v2.heap.size ∧ w.heap.size ≤ v2.heap.size + 1 := by
      have := hb1.size
      have := hB.size
      omega
    generalize World.alloc (World.alloc v2 _) _ = v3 at z3 B3 hb3 ha3 ⊢
    generalize hbl : v2.heap.size = bl at *
    generalize hbh : bl + 1 = bh at *
    clear hb hB
    go_loopw [29] (fun i wr => Rel w len0 w.heap.size g bn bs bl bh i wr) (fun i wr => len0 - (intOf i).toNat)
    case atStart => exact ⟨0, none_, 0, Nat.zero_le _, rfl, Nat.le_refl _, B3, B3.size, hb3, ha3⟩
    case round =>
      obtain ⟨wo, h_wo⟩ : ∃ v : World, v = wr := ⟨_, rfl⟩; subst h_wo
      obtain ⟨k, f, c, hk, rfl, hc, hB, hsz, hb, ha⟩ := hrel
      by_cases hkl : k < len0
      · obtain ⟨b, off, hab, hbw, hcells⟩ := rows_cells w0 (by omega)
        subst hab
        obtain ⟨t, key, v, ht, hkey, hv, d0, d1, d2⟩ := hcells k hkl
        rw [← hB.cell (p := ⟨b, _, none⟩) hbw] at d0 d1 d2
        clear hcells
        have hkI : (k : Int) < (len0 : Int) := by omega
        have hbr : b < wo.heap.size := Nat.lt_of_lt_of_le hbw hsz
        go_wp2_with fail
        generalize h4 : World.alloc wo _ = w4
        have hb4 : Box w4 g 300 bn bs f c none_ 0 := by rw [← h4]; exact hb.alloc _
        have ha4 : Arr w4 bl bh f := by rw [← h4]; exact ha.kept (World.grownBy_alloc wo _ none) (by simp) (by simp)
        obtain ⟨B4, z4, k4⟩ := alloc_facts h4
        have q1 := k4 1
        have q2 := k4 2
        have hlo := ha.lt
        have hlb := hb.lt
        clear h4 k4
        refine (set_fits (k := key) (v := v) _ hb4 (by exact Go.WalkArith.wf_u8 (by omega)) hv (Or.inr (by omega))).mono ?_
        rintro e w5 ⟨rfl, hb5, hg5⟩
        have ha5 : Arr w5 bl bh f := ha4.kept hg5 (by simp; omega) (by simp; omega)
        have p1 := (hg5.cell_far ⟨wo.heap.size, 1, none⟩ z4 (by simp; omega)).trans q1
        have p2 := (hg5.cell_far ⟨wo.heap.size, 2, none⟩ z4 (by simp; omega)).trans q2
        have l1 := ha5.l key hkey
        have l2 := ha5.h key hkey
        have l3 := ha5.fl key
        have l4 := ha5.fh key
        have l5 := ha5.ne
        clear q1 q2 d0 d1 d2
        go_wp2_with fail
        go_region
        go_wp2
        go_roundw
        case rel =>
          refine ⟨k + 1, CellMap.set f key v, setC f c key, by omega, by go_num, by unfold setC; split <;> omega, ?_, ?_, ?_, ?_⟩
          · exact ((((hB.trans (B4.mono hsz)).grown hg5 (Nat.le_trans hsz (Nat.le_of_lt z4)) (fun j hj => by cases hj; omega)).setCell (by show _ ≤ bl; omega) _).setCell (by show _ ≤ bh; omega) _).drew
          · have := hg5.size
            simp; omega
          · exact (((hb5.stored (by dsimp only; omega) (by dsimp only; omega) (by dsimp only; omega)).stored (by dsimp only; omega) (by dsimp only; omega) (by dsimp only; omega)).drew)
          · exact (ha5.stored hkey).drew
        case measure => simp [intOf]; omega
      · have hkI : ¬ (k : Int) < (len0 : Int) := by omega
        go_wp2_with fail
        obtain ⟨key, rfl, hkey⟩ := u8_nat w1
        have hlo := ha.lt
        have hlb := hb.lt
        refine (set_fits (k := key) (v := a2) _ hb w1 w2 (Or.inr (by omega))).mono ?_
        rintro e w5 ⟨rfl, hb5, hg5⟩
        have ha5 : Arr w5 bl bh f := ha.kept hg5 (by simp; omega) (by simp; omega)
        have l1 := ha5.l key hkey
        have l2 := ha5.h key hkey
        have l3 := ha5.fl key
        have l4 := ha5.fh key
        have l5 := ha5.ne
        go_wp2_with fail
        have B6 : Below w.heap.size w ((w5.setCell ⟨bl, key, none⟩ (.int .i64 a2)).setCell ⟨bh, key, none⟩ (.bool true)) :=
          ((hB.grown hg5 hsz (fun j hj => by cases hj; omega)).setCell (by show _ ≤ bl; omega) _).setCell (by show _ ≤ bh; omega) _
        have hb6 := (hb5.stored (p := ⟨bl, key, none⟩) (v := .int .i64 a2) (by dsimp only; omega) (by dsimp only; omega) (by dsimp only; omega)).stored (p := ⟨bh, key, none⟩) (v := .bool true) (by dsimp only; omega) (by dsimp only; omega) (by dsimp only; omega)
        have ha6 := ha5.stored (v := a2) hkey
        generalize World.setCell (World.setCell w5 _ _) _ _ = w6 at B6 hb6 ha6 ⊢
        clear hb5 ha5 l1 l2 l3 l4 hg5 hb ha hB
        go_loop [58] (fun i => ∃ j : Nat, j ≤ 256 ∧ i = .int .i64 j) (fun i => (256 - intOf i).toNat)
        case atStart => exact ⟨0, by omega, rfl⟩
        case round =>
          obtain ⟨j, hj, rfl⟩ := hrel
          by_cases hjl : j < 256
          · have HG := get_any (k := j) _ hb6 (Go.WalkArith.wf_u8 (by omega))
            have a1 := ha6.l j hjl
            have a2 := ha6.h j hjl
            have hj2 : (j : Int) < 256 := by omega
            cases hf : CellMap.set f key _ (j : Int) with
            | none =>
              rw [hf] at HG a1 a2
              simp only [Option.isSome_none, Bool.false_eq_true, if_false, Option.getD_none] at HG a1 a2
              clear hf
              go_wp2_with (go_at_call 12; refine HG.mono ?_; rintro e w' ⟨rfl, rfl⟩)
              go_round
              case rel => exact ⟨j + 1, by omega, by go_num⟩
              case measure => simp [intOf]; omega
            | some x =>
              rw [hf] at HG a1 a2
              simp only [Option.isSome_some, if_true, Option.getD_some] at HG a1 a2
              clear hf
              go_wp2_with (go_at_call 12; refine HG.mono ?_; rintro e w' ⟨rfl, rfl⟩)
              go_round
              case rel => exact ⟨j + 1, by omega, by go_num⟩
              case measure => simp [intOf]; omega
          · obtain rfl : j = 256 := by omega
            go_wp2_with fail
            go_ret
            exact ⟨rfl, B6⟩
end Go.Proofs.Ytcenfolmajegeaa.LCellsKeys
