/- What cells that no call made answer. -/
import Derived.Test.YtcenfolmajegeaaCellIter
import Derived.Test.YtcenfolmajegeaaCellAlive
namespace Go.Proofs.Ytcenfolmajegeaa.CellNobody
open Go Go.RowKit Go.Maps Flat SeqOver
set_option linter.unusedSimpArgs false
set_option linter.unusedVariables false
set_option maxRecDepth 100000
def NotGood (w : World) (p : Option Addr) : Prop := p = none ∨ ∃ g, p = some ⟨g, 0, none⟩ ∧ w.cell? ⟨g, 0, none⟩ = some (.int .i64 0)
theorem NotGood.below {w w' : World} {p : Option Addr} (h : NotGood w p) (hb : Below w.heap.size w w') : NotGood w' p := by
  rcases h with h | ⟨g, h, hc⟩
  · exact .inl h
  · exact .inr ⟨g, h, (hb.cell (p := ⟨g, 0, none⟩) (Flat.cell_lt hc)).trans hc⟩
theorem good_n (p : Option Addr) (w : World) (h : NotGood w p) : Calls Try.prog 44 #[.pointer p] w fun r w' => r = .returned (.bool false) ∧ w' = w := by
  rcases h with rfl | ⟨g, rfl, hc⟩
  · go_enter Try.func44, Try.ntmps44
    go_wp2_with fail
    go_ret
    exact ⟨rfl, rfl⟩
  · go_enter Try.func44, Try.ntmps44
    go_wp2_with fail
    go_ret
    exact ⟨rfl, rfl⟩
theorem get_n (p : Option Addr) (k : ByteArray) (w : World) (h : NotGood w p) : Calls Try.prog 26 #[.pointer p, .string k] w fun r w' => r = .returned (.tuple #[.int .i64 0, .int .i64 1]) ∧ w' = w := by
  have HN := Lib.hid (fun W h => good_n p W h)
  have HG := Lib.hid h
  clear h
  go_enter Try.func26, Try.ntmps26
  go_wp2_with fail
  refine (HN.out _ HG.out).mono ?_
  rintro e v ⟨rfl, rfl⟩
  go_wp2_with fail
  go_ret2
  exact ⟨rfl, rfl⟩
theorem set_n (p : Option Addr) (k : ByteArray) (x : Int) (w : World) (h : NotGood w p) : Calls Try.prog 28 #[.pointer p, .string k, .int .i64 x] w fun r w' => r = .returned (.int .i64 1) ∧ w' = w := by
  have HN := Lib.hid (fun W h => get_n p k W h)
  have HG := Lib.hid h
  clear h
  go_enter Try.func28, Try.ntmps28
  go_wp2_with fail
  refine (HN.out _ HG.out).mono ?_
  rintro e v ⟨rfl, rfl⟩
  go_wp2_with fail
  go_ret
  exact ⟨rfl, rfl⟩
theorem drop_n (p : Option Addr) (k : ByteArray) (w : World) (h : NotGood w p) : Calls Try.prog 29 #[.pointer p, .string k] w fun r w' => r = .returned (.int .i64 1) ∧ w' = w := by
  have HN := Lib.hid (fun W h => get_n p k W h)
  have HG := Lib.hid h
  clear h
  go_enter Try.func29, Try.ntmps29
  go_wp2_with fail
  refine (HN.out _ HG.out).mono ?_
  rintro e v ⟨rfl, rfl⟩
  go_wp2_with fail
  go_ret
  exact ⟨rfl, rfl⟩
theorem sync_n (p : Option Addr) (w : World) (h : NotGood w p) : Calls Try.prog 30 #[.pointer p] w fun r w' => r = .returned (.int .i64 1) ∧ w' = w := by
  have HN := Lib.hid (fun W h => good_n p W h)
  have HG := Lib.hid h
  clear h
  go_enter Try.func30, Try.ntmps30
  go_wp2_with fail
  refine (HN.out _ HG.out).mono ?_
  rintro e v ⟨rfl, rfl⟩
  go_wp2_with fail
  go_ret
  exact ⟨rfl, rfl⟩
theorem crash_n (p : Option Addr) (w : World) (h : NotGood w p) : Calls Try.prog 31 #[.pointer p] w fun r w' => r = .returned (.int .i64 1) ∧ w' = w := by
  have HN := Lib.hid (fun W h => good_n p W h)
  have HG := Lib.hid h
  clear h
  go_enter Try.func31, Try.ntmps31
  go_wp2_with fail
  refine (HN.out _ HG.out).mono ?_
  rintro e v ⟨rfl, rfl⟩
  go_wp2_with fail
  go_ret
  exact ⟨rfl, rfl⟩
theorem len_n (p : Option Addr) (w : World) (h : NotGood w p) : Calls Try.prog 32 #[.pointer p] w fun r w' => r = .returned (.int .i64 0) ∧ w' = w := by
  have HN := Lib.hid (fun W h => good_n p W h)
  have HG := Lib.hid h
  clear h
  go_enter Try.func32, Try.ntmps32
  go_wp2_with fail
  refine (HN.out _ HG.out).mono ?_
  rintro e v ⟨rfl, rfl⟩
  go_wp2_with fail
  go_ret
  exact ⟨rfl, rfl⟩
theorem all_n (p : Option Addr) (w : World) (h : NotGood w p) : Calls Try.prog 27 #[.pointer p] w fun r w' => ∃ g, r = .returned (.func (.func 46) #[] #[.pointer (some ⟨g, 0, none⟩)]) ∧ w'.cell? ⟨g, 0, none⟩ = some (.map none) ∧ Below w.heap.size w w' := by
  have HN := Lib.hid (fun W h => good_n p W h)
  have HG := Lib.hid h
  clear h
  go_enter Try.func27, Try.ntmps27
  go_wp2_with fail
  generalize hv1 : World.alloc w _ = v1
  obtain ⟨hb1, hz1, hc1⟩ := alloc_facts hv1
  have hc := hc1 0
  clear hv1 hc1
  refine (HN.out _ (HG.out.below hb1)).mono ?_
  rintro e v ⟨rfl, rfl⟩
  go_wp2_with fail
  go_ret
  exact ⟨w.heap.size, rfl, hc, hb1⟩
end Go.Proofs.Ytcenfolmajegeaa.CellNobody
