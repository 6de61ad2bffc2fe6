/- Cells at keys that are texts: All of none. -/
import Derived.Test.YtcenfolmajegeaaSeq
import Derived.Test.YtcenfolmajegeaaFlat
import Derived.Shelf.SlIter.Nil
import Derived.Shelf.SortM.Plain
import Derived.Shelf.SortM.SortNone
import Derived.Ground.GgzProg
import Derived.Ground.SlgmProg
import Derived.OwnWalkIn
import Derived.TacticsInMore
import Derived.LoopNIn
import Derived.LoopIn
namespace Go.Proofs
open Go.RowKit Go.Maps Go.Sort Go.Shelf
set_option linter.unusedSimpArgs false
set_option linter.unusedVariables false
shelf_lay_g SlLaysZ.n7 Ggz 7 at Try 49 as Try.keysS
shelf_lay_g SlLaysZ.n6 Ggz 6 at Try 48 as Try.sortedS
shelf_lay_g SlLaysM.n6 Slgm 6 at Try 61 as Try.sortS
theorem Try.sortsS (m : Nat) : AnyZ.SortsIn Try.prog Try.sortedS_ren Fence.wide m :=
  ⟨fun blk off cap ss W hH hblk hsz => callsIn_wide.2 (AnyM.slices_Sort_string Try.sortS blk off cap ss W hH hblk hsz),
   fun p cap W => callsIn_wide.2 (AnyM.slices_Sort_string_none Try.sortS p cap W)⟩
end Go.Proofs
namespace Go.Proofs.Ytcenfolmajegeaa.CellIter
open Go Go.RowKit Go.Maps Go.Shelf Flat SeqOver
set_option linter.unusedSimpArgs false
set_option linter.unusedVariables false
set_option maxRecDepth 100000
attribute [local go_sem] Oper.semAt_some
theorem keysS (mb : Option Nat) (W : World) : Calls Try.prog 49 #[.map mb] W fun e w' => ∃ g, e = .returned (.func (.func 62) #[] #[.pointer (some ⟨g, 0, none⟩)]) ∧ w'.cell? ⟨g, 0, none⟩ = some (.map mb) ∧ Below W.heap.size W w' := by
  refine (callsIn_wide.1 (AnyZ.keys_in Try.keysS Fence.wide 5 trivial rfl mb W)).mono ?_
  rintro e w' ⟨rfl, rfl⟩
  exact ⟨W.heap.size, rfl, by simp, (Below.refl _ W).alloc (Nat.le_refl _) _⟩
theorem sortedS_nil (g : Nat) (w : World) (h : w.cell? ⟨g, 0, none⟩ = some (.map none)) :
    Calls Try.prog 48 #[.func (.func 62) #[] #[.pointer (some ⟨g, 0, none⟩)]] w fun e w' => e = .returned (.slice none 0 0) ∧ Below w.heap.size w w' := by
  have hseq : SeqGives Fence.wide 2 Try.prog 62 #[.pointer (some ⟨g, 0, none⟩)] encStr (fun ss : List (List UInt8) => ss = []) 0 w :=
    AnyZ.keys_gives_nil (ρ := Try.keysS_ren) { Try.keysS with } Fence.wide _ trivial rfl g _ (Flat.cell_lt h) h
  refine (callsIn_wide.1 (AnyZ.sorted_in Try.sortedS Fence.wide 5 trivial trivial trivial trivial rfl (by omega) (Try.sortsS _) (enters_of Try.func61 (by kernel_rfl) rfl) 62 #[.pointer (some ⟨g, 0, none⟩)] trivial (enters_of Try.func62 (by kernel_rfl) rfl) _ 0 (Nat.zero_le _) (by omega) _ hseq)).mono ?_
  rintro e w' ⟨v, ss, rfl, rfl, hrow, hnil, hb⟩
  obtain rfl : v = .slice none 0 0 := hnil.2 rfl
  exact ⟨rfl, hb⟩
/-- A round that never comes. -/
theorem valsS_none (n : Nat) (B : Nat) (w : World) (hB : w.cell? ⟨B, 0, none⟩ = some (.slice none 0 0)) :
    SeqO Fence.wide n Try.prog 59 #[.pointer (some ⟨B, 0, none⟩)] (fun _ : Unit => #[.bool true]) (fun _ _ => True) (fun xs => xs = []) (fun _ => False) 0 w := fun l J Jx row W hW hJ hJx hlt hY h0 => by
  have hb := (hW.cell (p := ⟨B, 0, none⟩) (Flat.cell_lt hB)).trans hB
  refine callsIn_of_wp Try.func59 rfl trivial ?_ rfl
  simp only [Try.ntmps59, List.size_toArray, List.length_cons, List.length_nil, Nat.reduceAdd, Nat.reduceSub, Array.replicate_succ, Array.replicate_zero, List.push_toArray, List.append_toArray, List.nil_append, List.cons_append]
  gi_wp2
  refine wpIn_loop_rounds 1 ?_
  rw [roundsIn_succ]
  gi_wp2
  go_end0
  exact ⟨⟨_, rfl⟩, row, .inl ⟨[], rfl, h0⟩⟩
theorem valuesS (w : World) : Calls Try.prog 47 #[.slice none 0 0] w fun e w' => ∃ g, e = .returned (.func (.func 59) #[] #[.pointer (some ⟨g, 0, none⟩)]) ∧ w'.cell? ⟨g, 0, none⟩ = some (.slice none 0 0) ∧ Below w.heap.size w w' := by
  go_enter Try.func47, Try.ntmps47
  go_wp2_with fail
  go_ret
  exact ⟨w.heap.size, rfl, by simp, (Below.refl _ w).alloc (Nat.le_refl _) _⟩
theorem grown_below {v w : World} (h : Below v.heap.size v w) (row : Option Nat) : v.grownBy w row := ⟨h.os, h.tape, h.output, h.size, fun i hi _ => h.block i hi⟩
set_option maxHeartbeats 2000000 in
/-- All of none: no round. -/
theorem allS_none (n : Nat) (hn : 3 ≤ n) (B : Nat) (w : World) (hB : w.cell? ⟨B, 0, none⟩ = some (.map none)) :
    SeqO Fence.wide n Try.prog 46 #[.pointer (some ⟨B, 0, none⟩)] (fun _ : Unit => #[.bool true, .bool true]) (fun _ _ => True) (fun xs => xs = []) (fun _ => False) 0 w := fun l J Jx row W hW hJ hJx hlt hY h0 => by
  have hb := (hW.cell (p := ⟨B, 0, none⟩) (Flat.cell_lt hB)).trans hB
  have h1 : 1 ≤ n := by omega
  have hBl := Flat.cell_lt hb
  have hfK : Fence.wide.fn 49 := trivial
  have hfS : Fence.wide.fn 48 := trivial
  have hfV : Fence.wide.fn 47 := trivial
  have hba := fun o => (((Below.refl W.heap.size W).alloc (Nat.le_refl _) o).cell (p := ⟨B, 0, none⟩) hBl).trans hb
  refine callsIn_of_wp_marks Try.func46 rfl trivial ?_ rfl
  simp only [Try.ntmps46, List.size_toArray, List.length_cons, List.length_nil, Nat.reduceAdd, Nat.reduceSub, Array.replicate_succ, Array.replicate_zero, List.push_toArray, List.append_toArray, List.nil_append, List.cons_append]
  gi_wp2_with fail
  generalize hv1 : World.alloc W _ = v1
  obtain ⟨hb1, hz1, _⟩ := alloc_facts hv1
  clear hv1
  refine (callsIn_wide.2 (keysS none v1)).mono ?_
  rintro e v2 ⟨g2, rfl, hc2, hb2⟩
  gi_wp2_with fail
  refine (callsIn_wide.2 (sortedS_nil g2 v2 hc2)).mono ?_
  rintro e v3 ⟨rfl, hb3⟩
  gi_wp2_with fail
  refine (callsIn_wide.2 (valuesS v3)).mono ?_
  rintro e v4 ⟨g4, rfl, hc4, hb4⟩
  gi_wp2_with fail
  have hB4 : Below W.heap.size W v4 := hb1.trans (((hb2.mono (Nat.le_of_lt hz1))).trans ((hb3.mono (Nat.le_trans (Nat.le_of_lt hz1) hb2.size)).trans (hb4.mono (Nat.le_trans (Nat.le_trans (Nat.le_of_lt hz1) hb2.size) hb3.size))))
  have hs4 := hB4.size
  have h04 : J [] row v4 := hJ _ _ W v4 none h0 (grown_below hB4 none) (fun r e => by cases e)
  refine range_over (n := n) rfl h1 (gf := 59) (lb := #[.pointer (some ⟨g4, 0, none⟩)]) rfl trivial (enters_of Try.func59 (by kernel_rfl) rfl)
    (valsS_none (n - 1) g4 v4 hc4) (fun _ _ => trivial) (fun _ _ _ _ _ => trivial) (Below.refl _ _) (fun _ => rfl)
    (fun _ row W => J [] row W) (fun _ _ _ _ => False) (fun s row W W' t h => (hJ.mono hs4) [] row W W' t h) (fun _ => abs_false _) (fun _ row W h => hlt [] row W h) row (fun r e => Nat.lt_of_lt_of_le (hlt _ _ _ h0 r e) hs4) h04
    (fun _ _ _ => True) (fun _ _ _ _ _ _ _ _ => trivial) (fun _ pre _ _ _ _ hl => absurd hl (Nat.not_lt_zero _)) (fun _ pre _ _ _ _ _ _ _ hl => absurd hl (Nat.not_lt_zero _)) ?done (fun _ _ _ _ _ _ h => h.elim)
  case done =>
    intro D xs row2 W2 hD _ hi hne hk
    gi_wp2
    refine ⟨by simp, .inl ⟨_, _, rfl, run_takeDeferred hk, ?_⟩⟩
    refine ⟨_, results_none rfl _ _ _, ⟨_, rfl⟩, row2, .inl ⟨[], rfl, (hJ.mono hs4).put _ hi hD hne⟩⟩
end Go.Proofs.Ytcenfolmajegeaa.CellIter
