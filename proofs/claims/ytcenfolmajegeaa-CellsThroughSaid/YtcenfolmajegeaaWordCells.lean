/- Cells at keys int64 and values that are texts. -/
import Derived.Test.YtcenfolmajegeaaMapV
import Derived.Test.YtcenfolmajegeaaFlat
import Derived.BigQuiet
import Derived.Deep.QuietTactic
import Derived.RowKit3
import Derived.Outline
import Derived.Lib.Hide
import Derived.WalkSpells
import Derived.Shelf.SlMaps.Clone
namespace Go.Proofs.Ytcenfolmajegeaa.WordCells
open Go Go.RowKit Go.Maps Flat
set_option linter.unusedSimpArgs false
set_option linter.unusedVariables false
set_option maxRecDepth 100000
abbrev KT : TypeId := 2
theorem keyed : Keyed Try.prog KT := int_keyed Try.underlying2
theorem keyw {k : Int} (hk : (Lit.int .i64 k).wf = true) : keyOf Try.prog KT (.int .i64 k) = some (.int .i64 k) := keyOf_int_mk Try.underlying2 hk
theorem zeroE (w : World) : (zeroValue 9).run Try.prog w = .ok (.string ⟨#[]⟩) w := by kernel_rfl
def Own (w : World) (b : Nat) (f : Int → Option Value) (c : Nat) : Prop := MapV.Own Try.prog .i64 KT w b f c
/-- Cells at block g: room for 300, what is now in the map bn. -/
structure Box (w : World) (g bn : Nat) (f : Int → Option Value) (c : Nat) : Prop where
  c0 : w.cell? ⟨g, 0, none⟩ = some (.int .i64 300)
  c1 : w.cell? ⟨g, 1, none⟩ = some (.map (some bn))
  own : Own w bn f c
  ng : bn ≠ g
theorem Box.heap {w w' : World} {g bn c : Nat} {f : Int → Option Value} (h : Box w g bn f c) (h1 : w'.heap[g]? = w.heap[g]?) (h2 : w'.heap[bn]? = w.heap[bn]?) : Box w' g bn f c :=
  ⟨(World.cell?_of_block h1).trans h.c0, (World.cell?_of_block h1).trans h.c1, MapV.Own.heap h.own h2, h.ng⟩
theorem Box.lt {w : World} {g bn c : Nat} {f : Int → Option Value} (h : Box w g bn f c) : g < w.heap.size ∧ bn < w.heap.size := ⟨Flat.cell_lt h.c0, MapV.Own.lt h.own⟩
theorem Box.below {w w' : World} {g bn c : Nat} {f : Int → Option Value} (h : Box w g bn f c) (hb : Below w.heap.size w w') : Box w' g bn f c := h.heap (hb.block _ h.lt.1) (hb.block _ h.lt.2)
theorem Box.drewN {w : World} {g bn c : Nat} {f : Int → Option Value} (h : Box w g bn f c) (n : Nat) : Box (w.drewN n) g bn f c := h.heap rfl rfl
theorem wpList_of_run {P : Program} {ops : Array Oper} {rest : List Oper} {o : Oper} {a : Act} {w : World} {Q : Exit → Act → World → Prop} {v : Value} (hg : o.guard = none) (hrun : (execOp a.eval o).run P w = .ok (.value v) w) (h : wpList P ops Q rest (a.put o.dst v) w) : wpList P ops Q (o :: rest) a w :=
  wpList_plain hg fun K hK => by
    unfold Oper.wp
    rw [hrun]
    exact hK _ _ h
theorem look_run {P : Program} {oi : Oper} {a : Act} {w : World} {t : TypeId} {m x : Operand} {mm key v : Value} (ho : oi.op = .lookup t m x true) (hm : a.eval m = mm) (hx : a.eval x = key) (h : (Instr.lookup t mm key true).run P w = .ok v w) : (execOp a.eval oi).run P w = .ok (.value v) w := by
  unfold execOp
  simp only [ho, hm, hx, h, Sem.run_bind, Sem.run_pure, Result.andThen_ok]
theorem good_any (g : Nat) (w : World) (c0 : w.cell? ⟨g, 0, none⟩ = some (.int .i64 300)) : Calls Try.prog 38 #[.pointer (some ⟨g, 0, none⟩)] w fun r w' => r = .returned (.bool true) ∧ w' = w := by
  go_enter Try.func38, Try.ntmps38
  go_wp2_with fail
  go_ret
  exact ⟨rfl, rfl⟩
def getE (f : Int → Option Value) (k : Int) : Int := if (f k).isSome then 0 else 7
set_option maxHeartbeats 1000000 in
theorem get_any {g bn c : Nat} {f : Int → Option Value} {k : Int} (w : World) (hb : Box w g bn f c) (hk : (Lit.int .i64 k).wf = true) :
    Calls Try.prog 37 #[.pointer (some ⟨g, 0, none⟩), .int .i64 k] w fun r w' => (∃ v, r = .returned (.tuple #[v, .int .i64 (getE f k)])) ∧ w' = w := by
  have HL := Lib.hid (MapV.Own.look_ok (t := 80) (et := 9) hb.own keyed Try.underlying80 (z := .string ⟨#[]⟩) zeroE (keyw hk))
  have c0 := hb.c0
  have c1 := hb.c1
  have HG := Lib.hid (good_any g w c0)
  unfold getE
  generalize (f k).getD (.string ⟨#[]⟩) = v at *
  cases hf : (f k).isSome
  all_goals
    rw [hf] at HL
    clear hf hb
    go_enter Try.func37, Try.ntmps37
    go_wp2_with fail
    refine HG.out.mono ?_
    rintro e w ⟨rfl, rfl⟩
    go_wp2_with (refine wpList_of_run rfl (look_run (t := 80) (m := .tmp 17) (x := .tmp 18) rfl rfl rfl HL.out) ?_)
    go_ret2
    exact ⟨⟨_, rfl⟩, rfl⟩
set_option maxHeartbeats 1000000 in
theorem len_any {g bn c : Nat} {f : Int → Option Value} (w : World) (hb : Box w g bn f c) :
    Calls Try.prog 23 #[.pointer (some ⟨g, 0, none⟩)] w fun r w' => r = .returned (.int .i64 (c : Int)) ∧ w' = w := by
  have hlen : ∀ ty, (Builtin.len_ #[80] ty #[.map (some bn)]).run Try.prog w = .ok (.int .i64 (c : Int)) w := fun ty => MapV.Own.len hb.own Try.underlying80 ty
  have c0 := hb.c0
  have c1 := hb.c1
  have HG := Lib.hid (good_any g w c0)
  clear hb
  go_enter Try.func23, Try.ntmps23
  go_wp2_with fail
  refine HG.out.mono ?_
  rintro e w ⟨rfl, rfl⟩
  go_wp2_with fail
  go_ret
  exact ⟨rfl, rfl⟩
/-- What Set leaves. -/
def SetPost (w : World) (g bn : Nat) (f : Int → Option Value) (c : Nat) (e : Ending) (w' : World) : Prop := (∃ v, e = .returned v) ∧ (∃ f' c', c' ≤ c + 1 ∧ Box w' g bn f' c') ∧ w.grownBy w' (some bn)
theorem set_done {w w1 : World} {g bn c : Nat} {f : Int → Option Value} {k : Int} {v : Value} (hb : Box w g bn f c) (h : Own w1 bn (MapV.set f k v) (if (f k).isSome then c else c + 1)) (hg : w.grownBy w1 (some bn)) : Box w1 g bn (MapV.set f k v) (if (f k).isSome then c else c + 1) :=
  have hn : some g ≠ some bn := fun e => hb.ng (Option.some.inj e).symm
  ⟨(hg.cell_far _ hb.lt.1 hn).trans hb.c0, (hg.cell_far _ hb.lt.1 hn).trans hb.c1, h, hb.ng⟩
set_option maxHeartbeats 2000000 in
theorem set_any {g bn c : Nat} {f : Int → Option Value} {k : Int} {v : ByteArray} (w : World) (hb : Box w g bn f c) (hk : (Lit.int .i64 k).wf = true) (hc : c < 300) :
    Calls Try.prog 22 #[.pointer (some ⟨g, 0, none⟩), .int .i64 k, .string v] w fun r w' => r = .returned (.int .i64 0) ∧ Box w' g bn (MapV.set f k (.string v)) (if (f k).isSome then c else c + 1) ∧ w.grownBy w' (some bn) := by
  have HG := Lib.hid (get_any w hb hk)
  have HB := Lib.hid hb
  have HS := Lib.hid (fun n => MapV.Own.store (t := 80) (et := 9) (hb.drewN n).own keyed Try.underlying80 (by unfold maxLen; omega) (keyw hk) (.string v))
  have c0 := hb.c0
  have c1 := hb.c1
  have hlen : ∀ n ty, (Builtin.len_ #[80] ty #[.map (some bn)]).run Try.prog (w.drewN n) = .ok (.int .i64 (c : Int)) (w.drewN n) := fun n ty => MapV.Own.len (hb.drewN n).own Try.underlying80 ty
  have hge : decide ((300 : Int) ≤ ((c : Nat) : Int)) = false := by simp; omega
  unfold getE at HG
  clear hb
  cases hf : (f k).isSome
  all_goals
    rw [hf] at HG
    simp only [Bool.false_eq_true, if_false, if_true] at HG
    have FIN := Lib.hid (fun (w1 : World) h hg => set_done (w1 := w1) (k := k) (v := .string v) HB.out h hg)
    rw [hf] at FIN HS
    clear hf
    go_enter Try.func22, Try.ntmps22
    go_wp2_with fail
    refine HG.out.mono ?_
    rintro e w ⟨⟨v0, rfl⟩, rfl⟩
    go_wp2_with fail
    go_quiet (fail)
    obtain ⟨w8, hrun8, ho8, ht8⟩ := HS.out nq
    go_wp2_with fail
    go_ret
    have hg : w.grownBy w8 (some bn) := ⟨ht8.grown.os, ht8.grown.tape, ht8.grown.output, ht8.grown.size, ht8.grown.block⟩
    exact ⟨rfl, FIN.out w8 ho8 hg, hg⟩
set_option maxHeartbeats 2000000 in
theorem drop_any {g bn c : Nat} {f : Int → Option Value} {k : Int} (w : World) (hb : Box w g bn f c) (hk : (Lit.int .i64 k).wf = true) :
    Calls Try.prog 25 #[.pointer (some ⟨g, 0, none⟩), .int .i64 k] w fun r w' => (∃ v, r = .returned v) ∧ (∃ f' c', c' ≤ c ∧ Box w' g bn f' c') ∧ w.grownBy w' (some bn) := by
  have HG := Lib.hid (get_any w hb hk)
  have HB := Lib.hid hb
  have HS := Lib.hid (fun ty => MapV.Own.dropped (t := 80) (et := 9) hb.own keyed Try.underlying80 (keyw hk) ty)
  have c0 := hb.c0
  have c1 := hb.c1
  unfold getE at HG
  clear hb
  cases hf : (f k).isSome
  · rw [hf] at HG
    simp only [Bool.false_eq_true, if_false] at HG
    clear hf
    go_enter Try.func25, Try.ntmps25
    go_wp2_with fail
    refine HG.out.mono ?_
    rintro e w ⟨⟨v0, rfl⟩, rfl⟩
    go_wp2_with fail
    go_ret
    exact ⟨⟨_, rfl⟩, ⟨f, c, Nat.le_refl _, HB.out⟩, ⟨rfl, rfl, rfl, Nat.le_refl _, fun _ _ _ => rfl⟩⟩
  · rw [hf] at HG HS
    simp only [if_true] at HG HS
    clear hf
    go_enter Try.func25, Try.ntmps25
    go_wp2_with fail
    refine HG.out.mono ?_
    rintro e w ⟨⟨v0, rfl⟩, rfl⟩
    obtain ⟨w8, hrun8, ho8, ht8⟩ := HS.out 0
    go_wp2_with fail
    go_ret
    have hn : some g ≠ some bn := fun e => HB.out.ng (Option.some.inj e).symm
    exact ⟨⟨_, rfl⟩, ⟨_, c - 1, by omega, ⟨(ht8.grown.cell_far _ HB.out.lt.1 hn).trans HB.out.c0, (ht8.grown.cell_far _ HB.out.lt.1 hn).trans HB.out.c1, ho8, HB.out.ng⟩⟩, ht8.grown⟩
set_option maxHeartbeats 1000000 in
theorem clone_any {b c : Nat} {f : Int → Option Value} (w : World) (h : Own w b f c) :
    Calls Try.prog 39 #[.map (some b)] w fun e w' => e = .returned (.map (some w.heap.size)) ∧ Own w' w.heap.size f c ∧ Below w.heap.size w w' := by
  obtain ⟨D, hown, hD⟩ := h
  obtain ⟨es, clock, hb, F, hs, rfl⟩ := hown
  have H : Calls Try.prog 39 #[.map (some b)] w fun e w' => e = .returned (.map (some w.heap.size)) ∧ w' = w.alloc (.map es clock) := by
    clear hs hD F
    have hq := fun w => run_eql_map_nil_sl (P := Try.prog) w 80 _ _ (some b) Try.underlying80
    go_enter Try.func39, Try.ntmps39
    go_wp2
    rw [run_callFunc_extern Try.func50 (by kernel_rfl) (by kernel_rfl) (by kernel_rfl) (e := Extern.MapsClone.clone) (by kernel_rfl), run_maps_clone_sl w 80 hb]
    simp only [Result.andThen]
    rw [Oper.upon_value]
    go_wp2
    rw [run_typeAssert_map_sl _ 80 20 _ _ _ Try.underlying80]
    simp only [Result.andThen]
    rw [Oper.upon_value]
    go_wp2
    go_ret
    exact ⟨rfl, rfl⟩
  refine H.mono ?_
  rintro e w' ⟨he, rfl⟩
  exact ⟨he, ⟨_, ⟨es, clock, (MapKept.heap_alloc w _).1, F, hs, rfl⟩, hD⟩, (Below.refl _ w).alloc (Nat.le_refl _) _⟩
set_option maxHeartbeats 1000000 in
theorem new_any (w : World) : Calls Try.prog 21 #[.int .i64 300] w fun e w' => ∃ g bn, e = .returned (.pointer (some ⟨g, 0, none⟩)) ∧ Box w' g bn MapV.none_ 0 ∧ w.heap.size ≤ g ∧ w.heap.size ≤ bn ∧ Below w.heap.size w w' := by
  have hmm := @run_makeMap Try.prog
  go_enter Try.func21, Try.ntmps21
  go_wp2_with fail
  go_ret
  have ho := MapV.own_made (P := Try.prog) (q := .i64) (kt := KT) w
  refine ⟨w.heap.size + 1 + 1, w.heap.size, by first | rfl | simp, ⟨by simp [go_sem], by simp [go_sem], ?_, by omega⟩, by omega, Nat.le_refl _, ?_⟩
  · refine MapV.Own.below (B := w.heap.size + 1) ho ?_ (by omega)
    exact (((Below.refl _ _).alloc (by simp) _).alloc (by simp) _)
  · exact (((Below.refl _ w).alloc (Nat.le_refl _) _).alloc (by simp) _).alloc (by simp; omega) _
set_option maxHeartbeats 1000000 in
theorem all_any {g bn c : Nat} {f : Int → Option Value} (w : World) (hb : Box w g bn f c) :
    Calls Try.prog 24 #[.pointer (some ⟨g, 0, none⟩)] w fun e w' => ∃ B mb, e = .returned (.func (.func 40) #[] #[.pointer (some ⟨B, 0, none⟩)]) ∧ w'.cell? ⟨B, 0, none⟩ = some (.map (some mb)) ∧ Own w' mb f c ∧ w.heap.size ≤ B ∧ w.heap.size ≤ mb ∧ Below w.heap.size w w' := by
  have HB := Lib.hid hb
  have HG := Lib.hid (fun W c0 => good_any g W c0)
  clear hb
  go_enter Try.func24, Try.ntmps24
  go_wp2_with fail
  generalize hv1 : World.alloc w _ = v1
  obtain ⟨hb1, hz1, hc1⟩ := alloc_facts hv1
  have hr1 : v1.frozen? ⟨w.heap.size, 0, none⟩ = false := by rw [← hv1]; exact World.frozen?_alloc_at _ _ _ _ rfl
  have hc := hc1 0
  clear hv1 hc1
  have h1 := HB.out.below hb1
  have c0 := h1.c0
  have c1 := h1.c1
  refine (HG.out v1 c0).mono ?_
  rintro e v1 ⟨rfl, rfl⟩
  go_wp2_with fail
  refine (clone_any v1 h1.own).mono ?_
  rintro e v2 ⟨rfl, ho2, hb2⟩
  have hc2 := (hb2.cell (p := ⟨w.heap.size, 0, none⟩) hz1).trans hc
  have hr2 := (hb2.frozen (p := ⟨w.heap.size, 0, none⟩) hz1).trans hr1
  go_wp2_with fail
  go_ret
  exact ⟨w.heap.size, v1.heap.size, rfl, World.cell?_setCell_same _ _ _ hc2, MapV.Own.setCell ho2 (by omega), Nat.le_refl _, Nat.le_of_lt hz1, (hb1.trans (hb2.mono (Nat.le_of_lt hz1))).setCell (p := ⟨w.heap.size, 0, none⟩) (Nat.le_refl _) _⟩
end Go.Proofs.Ytcenfolmajegeaa.WordCells
