/- What a chair that no call made answers. -/
import Derived.Test.YtdlfjbllmmkmkaaPlayed
import Derived.Test.YtdlfjbllmmkmkaaDealSame
namespace Go.Proofs.Ytdlfjbllmmkmkaa.Chair
open Go.RowKit Go.Maps Flat ChairSpec News Go.Proofs.YtdlfjbllmmkmkaaW.PrintLast
set_option linter.unusedSimpArgs false
set_option linter.unusedVariables false
set_option maxRecDepth 100000
theorem de_apart {w w' : World} {g bm b : Nat} {lv : Value} {d : De} (h : DeAt w b d) (hap : Apart w w' g bm lv) (h1 : b ≠ g) (h2 : b ≠ bm) (h3 : some b ≠ lv.ownBlock) : DeAt w' b d := fun j v hv => (hap.cell h.lt h1 h2 h3).trans (h j v hv)
def NotGood (w : World) (p : Option Addr) : Prop := p = none ∨ ∃ g, p = some ⟨g, 0, none⟩ ∧ w.cell? ⟨g, 0, none⟩ = some (.map none)
theorem NotGood.below {w w' : World} {p : Option Addr} (h : NotGood w p) (hb : Below w.heap.size w w') : NotGood w' p := by
  rcases h with h | ⟨g, h, hc⟩
  · exact .inl h
  · exact .inr ⟨g, h, (hb.cell (p := ⟨g, 0, none⟩) (Flat.cell_lt hc)).trans hc⟩
theorem good_nobody (p : Option Addr) (w : World) (h : NotGood w p) : Calls Try.prog 23 #[.pointer p] w fun r w' => r = .returned (.bool false) ∧ w' = w := by
  have hnm := fun w => run_neq_map_nil (P := Try.prog) w 52 3 44 none Try.underlying52
  rcases h with rfl | ⟨g, rfl, hc⟩
  · go_enter Try.func23, Try.ntmps23
    go_wp2_with fail
    go_ret
    exact ⟨rfl, rfl⟩
  · go_enter Try.func23, Try.ntmps23
    go_wp2_with fail
    go_ret
    exact ⟨rfl, rfl⟩
set_option maxHeartbeats 2000000 in
theorem do_nobody (p : Option Addr) (r : Re) (w : World) (h : NotGood w p) : Calls Try.prog 12 #[.pointer p, .agg #[.int .i64 r.kind, .int .i64 r.tx, .int .u8 r.who, .int .i64 r.epoch, .int .i64 r.vote, .int .i64 r.now, .int .i64 r.span, .int .i64 r.cap]] w fun e w' => e = .returned (.tuple #[.int .i64 0, .int .i64 1]) ∧ Below w.heap.size w w' := by
  have HN := Lib.hid (fun W h => good_nobody p W h)
  have HB := Lib.hid (fun o => (Below.refl w.heap.size w).alloc (Nat.le_refl _) o)
  have HG := Lib.hid h
  clear h
  go_enter Try.func12, Try.ntmps12
  go_wp2_with fail
  refine (HN.out _ (HG.out.below (HB.out _))).mono ?_
  rintro e v ⟨rfl, rfl⟩
  go_wp2_with fail
  go_ret2
  exact ⟨rfl, HB.out _⟩
set_option maxHeartbeats 2000000 in
theorem open_nobody (p : Option Addr) (w : World) (h : NotGood w p) : Calls Try.prog 18 #[.pointer p] w fun e w' => e = .returned (.slice none 0 0) ∧ Below w.heap.size w w' := by
  have HN := Lib.hid (fun W h => good_nobody p W h)
  have HB := Lib.hid (fun o => (Below.refl w.heap.size w).alloc (Nat.le_refl _) o)
  have HG := Lib.hid h
  clear h
  go_enter Try.func18, Try.ntmps18
  go_wp2_with fail
  refine (HN.out _ (HG.out.below (HB.out _))).mono ?_
  rintro e v ⟨rfl, rfl⟩
  go_wp2_with fail
  go_ret
  exact ⟨rfl, HB.out _⟩
set_option maxHeartbeats 2000000 in
theorem log_nobody (p : Option Addr) (w : World) (h : NotGood w p) : Calls Try.prog 19 #[.pointer p] w fun e w' => e = .returned (.slice none 0 0) ∧ Below w.heap.size w w' := by
  have HN := Lib.hid (fun W h => good_nobody p W h)
  have HG := Lib.hid h
  clear h
  go_enter Try.func19, Try.ntmps19
  go_wp2_with fail
  refine (HN.out _ HG.out).mono ?_
  rintro e v ⟨rfl, rfl⟩
  go_wp2_with fail
  go_ret
  exact ⟨rfl, Below.refl _ _⟩
set_option maxHeartbeats 4000000 in
theorem deal_nobody (p : Option Addr) (tx : Int) (w : World) (h : NotGood w p) : Calls Try.prog 14 #[.pointer p, .int .i64 tx] w fun e w' => e = .returned (.tuple #[.agg (dc zDe).toArray, .bool false]) ∧ Below w.heap.size w w' := by
  have HN := Lib.hid (fun W h => good_nobody p W h)
  have HG := Lib.hid h
  clear h
  go_enter Try.func14, Try.ntmps14
  go_wp2_with fail
  generalize hv1 : World.alloc w _ = v1
  obtain ⟨hb1, hz1, hc1⟩ := alloc_facts hv1
  have ht1 : v1.there w.heap.size 0 29 := by rw [← hv1]; exact there_de w _ _ rfl
  have HT1 := Lib.hid ht1
  have HB1 := Lib.hid hb1
  clear hv1 hc1 ht1 hb1
  refine (HN.out _ (HG.out.below HB1.out)).mono ?_
  rintro e v1 ⟨rfl, rfl⟩
  go_wp2_with (refine wpList_store_mid rfl 44 _ _ rfl (w.heap.size) 0 (dc zDe).toArray (by rfl) (by rfl) (HT1.out) infoDe (all_oneCell_toArray (dc_one _)) ?_; generalize hw9 : World.setCells _ _ _ _ = w9 at *; have HTR := Lib.hid (de_stored' HT1.out zDe hw9); have HB9 := Lib.hid (below_cells _ _ _ HB1.out (Nat.le_refl _) hw9); clear hw9)
  refine bodyPost_ret (fin_de rfl _ _ _ rfl _ HTR.out) rfl ?_
  exact ⟨rfl, HB9.out⟩
end Go.Proofs.Ytdlfjbllmmkmkaa.Chair
