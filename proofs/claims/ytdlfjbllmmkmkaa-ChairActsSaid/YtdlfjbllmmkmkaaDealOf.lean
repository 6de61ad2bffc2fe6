/- What chair.Deal and chair.Log answer. -/
import Derived.Test.YtdlfjbllmmkmkaaDoAny
namespace Go.Proofs.Ytdlfjbllmmkmkaa.Chair
open Go.RowKit Go.Maps Flat ChairSpec News Go.Proofs.YtdlfjbllmmkmkaaW.PrintLast
set_option linter.unusedSimpArgs false
set_option linter.unusedVariables false
set_option maxRecDepth 100000
theorem wpList_of_run {P : Program} {ops : Array Oper} {rest : List Oper} {o : Oper} {a : Act} {w : World} {Q : Exit → Act → World → Prop} {v : Value} (hg : o.guard = none) (hrun : (execOp a.eval o).run P w = .ok (.value v) w) (h : wpList P ops Q rest (a.put o.dst v) w) : wpList P ops Q (o :: rest) a w :=
  wpList_plain hg fun K hK => by
    unfold Oper.wp
    rw [hrun]
    exact hK _ _ h
def dealOf (s : Ch) (tx : Int) : De := (s.deals tx).getD zDe
set_option maxHeartbeats 4000000 in
theorem deal_any (g bm c : Nat) (lv : Value) (s : Ch) (tx : Int) (hwf : (Lit.int .i64 tx).wf = true) (w : World) (h : ChairAt w g bm lv c s) :
    Calls Try.prog 14 #[.pointer (some ⟨g, 0, none⟩), .int .i64 tx] w fun e w' => e = .returned (.tuple #[.agg (dc (dealOf s tx)).toArray, .bool (s.deals tx).isSome]) ∧ Below w.heap.size w w' := by
  have HC := Lib.hid h
  have HKEY : Hid (keyOf Try.prog 3 (.int .i64 tx) = some (.int .i64 tx)) := Lib.hid (keyOf_int_mk Try.underlying3 hwf)
  clear h
  obtain ⟨dd, HD⟩ : ∃ dd, Hid (dealOf s tx = dd) := ⟨_, Lib.hid rfl⟩
  rw [HD.out]
  go_enter Try.func14, Try.ntmps14
  go_wp2_with fail
  generalize hv1 : World.alloc w _ = v1
  obtain ⟨hb1, hz1, hc1⟩ := alloc_facts hv1
  have ht1 : v1.there w.heap.size 0 29 := by rw [← hv1]; exact there_de w _ _ rfl
  have HT1 := Lib.hid ht1
  have HB1 := Lib.hid hb1
  have HC1 := Lib.hid (HC.out.below hb1)
  have hg1 := HC1.out.map
  clear hv1 hb1 ht1 hc1
  refine (chair_good g bm v1 hg1).mono ?_
  rintro r v1 ⟨rfl, rfl⟩
  have HL : Hid ((Instr.lookup 52 (.map (some bm)) (.int .i64 tx) true).run Try.prog v1 = .ok (.tuple #[.agg (dc dd).toArray, .bool (s.deals tx).isSome]) v1) := Lib.hid (by
    have k := MapV.Own.look_ok (t := 52) (et := 44) HC1.out.own (int_keyed Try.underlying3) Try.underlying52 (z := dv zDe) zero_de HKEY.out
    have e1 : (mv s.deals tx).getD (dv zDe) = dv dd := by
      rw [← HD.out]
      unfold mv dealOf
      cases s.deals tx <;> rfl
    have e2 : (mv s.deals tx).isSome = (s.deals tx).isSome := by simp [mv]
    rw [e1, e2] at k
    exact k)
  have HNEW := Lib.hid (fun B hB => there_de v1 B 44 hB)
  go_wp2_with (first
    | (refine wpList_of_run rfl (look_run (t := 52) (m := .tmp 16) (x := .tmp 17) rfl rfl rfl HL.out) ?_)
    | (refine wpList_store_mid rfl 44 _ _ rfl (v1.heap.size) 0 (dc dd).toArray (by rfl) (by rfl) (HNEW.out _ rfl) infoDe (all_oneCell_toArray (dc_one _)) ?_; generalize hw5 : World.setCells _ _ _ _ = w5 at *; have hnd := new_de dd rfl hw5; have HD5 := Lib.hid hnd.2.2.1; have HT5 := Lib.hid (there_below HT1.out hnd.1); have HB5 := Lib.hid (HB1.out.trans (hnd.1.mono (Nat.le_of_lt hz1))); clear hw5 hnd)
    | (refine wpList_load_mid rfl 44 _ rfl (v1.heap.size) 0 rfl (dc dd) _ (HD5.out) Try.underlying44 rfl infoDe ?_)
    | (refine wpList_store_mid rfl 44 _ _ rfl (w.heap.size) 0 (dc dd).toArray (by rfl) (by rfl) (HT5.out) infoDe (all_oneCell_toArray (dc_one _)) ?_; generalize hw9 : World.setCells _ _ _ _ = w9 at *; have HTR := Lib.hid (de_stored' HT5.out dd hw9); have HB9 := Lib.hid (below_cells _ _ _ HB5.out (Nat.le_refl _) hw9); clear hw9))
  refine bodyPost_ret (fin_de rfl _ _ _ rfl _ HTR.out) rfl ?_
  exact ⟨rfl, HB9.out⟩
end Go.Proofs.Ytdlfjbllmmkmkaa.Chair
