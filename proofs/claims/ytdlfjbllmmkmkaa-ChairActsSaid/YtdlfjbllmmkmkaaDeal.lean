/- A deal's cells; three blocks laid, and what lies in them. -/
import Derived.Test.YtdlfjbllmmkmkaaTallyOut
namespace Go.Proofs.Ytdlfjbllmmkmkaa.Chair
open Go.RowKit Flat ChairSpec Go.Proofs.YtdlfjbllmmkmkaaW.PrintLast
set_option linter.unusedSimpArgs false
set_option linter.unusedVariables false
set_option maxRecDepth 100000
def tec (t : Te) : List Value := [.int .i64 t.dl, .int .i64 t.span, .int .i64 t.used, .int .i64 t.cap]
def dc (d : De) : List Value := tc d.ta ++ (tec d.te ++ [.int .i64 d.out])
theorem dc_len (d : De) : (dc d).length = 29 := rfl
theorem tec_one (t : Te) : ∀ v ∈ tec t, v.oneCell' = true := by
  intro v hv
  simp only [tec, List.mem_cons, List.not_mem_nil, or_false] at hv
  rcases hv with rfl | rfl | rfl | rfl <;> rfl
theorem dc_one (d : De) : ∀ v ∈ dc d, v.oneCell' = true := by
  intro v hv
  simp only [dc, List.mem_append, List.mem_singleton] at hv
  rcases hv with h | h | rfl
  · exact tc_one _ v h
  · exact tec_one _ v h
  · rfl
theorem infoDe : (Try.prog.info? 44).map (·.size) = some 29 := by kernel_rfl
theorem infoTe : (Try.prog.info? 42).map (·.size) = some 4 := by kernel_rfl
def DeAt (w : World) (b : Nat) (d : De) : Prop := w.rangeAt b 0 (dc d)
theorem dc_ta (d : De) {i : Nat} {v : Value} (h : (tc d.ta)[i]? = some v) : (dc d)[i]? = some v := by
  have hi : i < (tc d.ta).length := (List.getElem?_eq_some_iff.1 h).1
  rw [dc, List.getElem?_append_left hi]; exact h
theorem dc_te (d : De) {i : Nat} {v : Value} (h : (tec d.te)[i]? = some v) : (dc d)[24 + i]? = some v := by
  have hi : i < (tec d.te).length := (List.getElem?_eq_some_iff.1 h).1
  rw [dc, List.getElem?_append_right (by rw [tc_len]; omega), tc_len, Nat.add_sub_cancel_left, List.getElem?_append_left hi]; exact h
theorem dc_out (d : De) : (dc d)[28]? = some (.int .i64 d.out) := rfl
theorem DeAt.ta {w : World} {b : Nat} {d : De} (h : DeAt w b d) : w.rangeAt b 0 (tc d.ta) := fun j v hv => h j v (dc_ta d hv)
theorem DeAt.te {w : World} {b : Nat} {d : De} (h : DeAt w b d) : w.rangeAt b 24 (tec d.te) := fun j v hv => by
  have := h (24 + j) v (dc_te d hv)
  rwa [Nat.zero_add] at this
theorem DeAt.out {w : World} {b : Nat} {d : De} (h : DeAt w b d) : w.cell? ⟨b, 28, none⟩ = some (.int .i64 d.out) := h 28 _ (dc_out d)
theorem DeAt.lt {w : World} {b : Nat} {d : De} (h : DeAt w b d) : b < w.heap.size := Flat.cell_lt h.out
theorem DeAt.below {w w' : World} {b : Nat} {d : De} (h : DeAt w b d) (hb : Below w.heap.size w w') : DeAt w' b d := fun j v hv => by
  have hc := h j v hv
  exact (hb.cell (p := ⟨b, 0 + j, none⟩) (Flat.cell_lt hc)).trans hc
/-- A deal of its parts. -/
theorem de_parts {w : World} {b : Nat} {d : De} (h1 : w.rangeAt b 0 (tc d.ta)) (h2 : w.rangeAt b 24 (tec d.te)) (h3 : w.cell? ⟨b, 28, none⟩ = some (.int .i64 d.out)) : DeAt w b d := fun j v hv => by
  by_cases hj : j < 24
  · rw [dc, List.getElem?_append_left (by rw [tc_len]; exact hj)] at hv
    exact h1 j v hv
  · rw [dc, List.getElem?_append_right (by rw [tc_len]; omega), tc_len] at hv
    by_cases hj2 : j < 28
    · rw [List.getElem?_append_left (by show j - 24 < 4; omega)] at hv
      have := h2 (j - 24) v hv
      rwa [show 24 + (j - 24) = 0 + j by omega] at this
    · rw [List.getElem?_append_right (by show 4 ≤ j - 24; omega)] at hv
      have hj3 : j = 28 := by
        have := (List.getElem?_eq_some_iff.1 hv).1
        simp [tec] at this
        omega
      subst hj3
      have e : v = .int .i64 d.out := by simpa [tec] using hv.symm
      rw [e]
      exact h3
theorem there_pre {w : World} {b n m : Nat} (h : w.there b 0 n) (hm : m ≤ n) : w.there b 0 m := fun j hj => h j (by omega)
theorem there_at {w : World} {b n o m : Nat} (h : w.there b 0 n) (hm : o + m ≤ n) : w.there b o m := fun j hj => by
  have := h (o + j) (by omega)
  rwa [Nat.zero_add] at this
theorem there_cells {w w' : World} {b c o n : Nat} {vs : List Value} (h : w.there b 0 n) (e : w.setCells c o vs = w') : w'.there b 0 n := by
  rw [← e]; exact World.there_setCells h _ _ _
theorem cells_apart {w w' : World} {b c o i : Nat} {vs : List Value} (e : w.setCells c o vs = w') (h : b ≠ c) : w'.cell? ⟨b, i, none⟩ = w.cell? ⟨b, i, none⟩ := by
  rw [← e]; exact World.cell?_setCells_out c vs o w ⟨b, i, none⟩ (fun hb _ => absurd hb h)
/-- Three blocks. -/
theorem three_ready {w v3 v4 : World} {d : De} {R B : Array Value} {t1 t2 t3 : TypeId} (h : ((w.alloc (.cells (dc d).toArray t1)).alloc (.cells R t2)).alloc (.cells B t3) = v3) (hB : B.size = 29) (hb : Below v3.heap.size v3 v4) :
    Below w.heap.size w v4 ∧ w.heap.size + 1 + 1 < v4.heap.size ∧ DeAt v4 w.heap.size d ∧ v4.there w.heap.size 0 29 ∧ (∀ i, v4.cell? ⟨w.heap.size + 1, i, none⟩ = R[i]?) ∧ v4.there (w.heap.size + 1 + 1) 0 29 := by
  obtain ⟨h1, h2, h3, h4, h5, h6⟩ := two_blocks (w := w) (A := (dc d).toArray) (B := R) (t1 := t1) (t2 := t2) rfl
  generalize hv2 : (w.alloc (.cells (dc d).toArray t1)).alloc (.cells R t2) = v2 at *
  have hs2 : v2.heap.size = w.heap.size + 1 + 1 := by rw [← hv2]; simp
  obtain ⟨k1, k2, k3⟩ := alloc_facts h
  have kf : ∀ o, v3.frozen? ⟨v2.heap.size, o, none⟩ = false := fun o => by rw [← h]; exact World.frozen?_alloc_at _ _ _ _ rfl
  have hl0 : w.heap.size < v2.heap.size := by omega
  have hl1 : w.heap.size + 1 < v2.heap.size := by omega
  have kb : Below v2.heap.size v2 v4 := k1.trans (hb.mono (Nat.le_of_lt k2))
  refine ⟨h1.trans (kb.mono (by omega)), by have := hb.size; omega, fun j v hv => ?_, fun j hj => ⟨?_, ?_⟩, fun i => (kb.cell (p := ⟨w.heap.size + 1, i, none⟩) hl1).trans (h4 i), fun j hj => ⟨?_, ?_⟩⟩
  · rw [Nat.zero_add]
    exact (kb.cell (p := ⟨w.heap.size, j, none⟩) hl0).trans ((h3 j).trans (by simpa using hv))
  · rw [Nat.zero_add, kb.cell (p := ⟨w.heap.size, j, none⟩) hl0, h3 j, Array.getElem?_eq_getElem (by simp [dc_len]; omega)]; rfl
  · rw [Nat.zero_add]; exact (kb.frozen (p := ⟨w.heap.size, j, none⟩) hl0).trans (h5 j)
  · rw [Nat.zero_add, ← hs2, hb.cell (p := ⟨v2.heap.size, j, none⟩) k2, k3 j, Array.getElem?_eq_getElem (by omega)]; rfl
  · rw [Nat.zero_add, ← hs2]; exact (hb.frozen (p := ⟨v2.heap.size, j, none⟩) k2).trans (kf j)
theorem three_lo (d : De) (w : World) (t1 t2 t3 : TypeId) (R B : Array Value) : DeAt (((w.alloc (.cells (dc d).toArray t1)).alloc (.cells R t2)).alloc (.cells B t3)) w.heap.size d := by
  have h0 : DeAt (w.alloc (.cells (dc d).toArray t1)) w.heap.size d := fun j v hv => by
    rw [Nat.zero_add, World.cell?_alloc_new]; simpa using hv
  exact (h0.below ((Below.refl _ _).alloc (Nat.le_refl _) _)).below ((Below.refl _ _).alloc (Nat.le_refl _) _)
theorem fin_de {fn : Func} {p u : Tmp} (h : fn.results = #[.cell p 44, .tmp u]) (tmps : Array Value) (w : World) (b : Nat) (hp : tmps.getD p undef = .pointer (some ⟨b, 0, none⟩)) (d : De) (hd : DeAt w b d) :
    (results fn tmps).run Try.prog w = .ok (.tuple #[.agg (dc d).toArray, tmps.getD u undef]) w := by
  have hl := run_loadVar_mid (P := Try.prog) w b 0 44 (dc d) _ hd Try.underlying44 rfl infoDe
  rw [results_cell_tmp h, hp]
  simp [asAddr, hl]
theorem de_stored' {w w' : World} {b : Nat} (h : w.there b 0 29) (d : De) (e : w.setCells b 0 (dc d).toArray.toList = w') : DeAt w' b d := by
  rw [← e]; exact World.rangeAt_setCells_same w b 0 (dc d) h
/-- A tally stored at the head of a deal. -/
theorem ta_into {w w' : World} {b : Nat} {d : De} (h : DeAt w b d) (ht : w.there b 0 29) (u : Ta) (e : w.setCells b 0 (tc u).toArray.toList = w') :
    DeAt w' b ⟨u, d.te, d.out⟩ ∧ w'.there b 0 29 ∧ w'.cell? ⟨b, 28, none⟩ = some (.int .i64 d.out) ∧ w'.frozen? ⟨b, 28, none⟩ = false := by
  have h1 : w'.rangeAt b 0 (tc u) := by rw [← e]; exact ta_stored w b u (there_pre ht (by decide))
  have h2 : w'.rangeAt b 24 (tec d.te) := by
    rw [← e]
    exact World.rangeAt_setCells_apart h.te b 0 _ (.inr (.inr (by show 0 + (tc u).length ≤ 24; rw [tc_len]; decide)))
  have h3 : w'.cell? ⟨b, 28, none⟩ = some (.int .i64 d.out) := by
    rw [← e, World.cell?_setCells_out b _ 0 w ⟨b, 28, none⟩ (fun _ _ => .inr (by show 0 + (tc u).length ≤ 28; rw [tc_len]; decide))]
    exact h.out
  have h4 := there_cells ht e
  exact ⟨de_parts h1 h2 h3, h4, h3, (h4 28 (by decide)).2⟩
/-- Terms stored in a deal. -/
theorem te_into {w w' : World} {b : Nat} {d : De} (h : DeAt w b d) (ht : w.there b 0 29) (u : Te) (e : w.setCells b 24 (tec u).toArray.toList = w') : DeAt w' b ⟨d.ta, u, d.out⟩ ∧ w'.there b 0 29 := by
  have h1 : w'.rangeAt b 0 (tc d.ta) := by
    rw [← e]
    exact World.rangeAt_setCells_apart h.ta b 24 _ (.inr (.inl (by show 0 + (tc d.ta).length ≤ 24; rw [tc_len]; decide)))
  have h2 : w'.rangeAt b 24 (tec u) := by rw [← e]; exact World.rangeAt_setCells_same w b 24 (tec u) (there_at ht (Nat.le_succ 28))
  have h3 : w'.cell? ⟨b, 28, none⟩ = some (.int .i64 d.out) := by
    rw [← e, World.cell?_setCells_out b (tec u).toArray.toList 24 w ⟨b, 28, none⟩ (fun _ _ => .inr (Nat.le_refl 28))]
    exact h.out
  exact ⟨de_parts h1 h2 h3, there_cells ht e⟩
theorem de_out {w : World} {b : Nat} {d : De} {o : Int} (h : DeAt w b d) : DeAt (w.setCell ⟨b, 28, none⟩ (.int .i64 o)) b ⟨d.ta, d.te, o⟩ := by
  refine de_parts (fun j v hv => ?_) (fun j v hv => ?_) (World.cell?_setCell_same _ _ _ h.out)
  · have hj : j < 24 := (List.getElem?_eq_some_iff.1 hv).1
    exact (World.cell?_setCell_other _ _ _ _ (by first | (simp; done) | (simp; omega))).trans (h.ta j v hv)
  · have hj : j < 4 := (List.getElem?_eq_some_iff.1 hv).1
    exact (World.cell?_setCell_other _ _ _ _ (by first | (simp; done) | (simp; omega))).trans (h.te j v hv)
/-- A load of a whole range, as an operation carried out. -/
theorem range_run {P : Program} {oi : Oper} {a : Act} {w : World} {ty : TypeId} {x : Operand} {b o : Nat} {cs : List Value} {d : TypeDesc} (ho : oi.op = .load ty x) (hx : a.eval x = .pointer (some ⟨b, o, none⟩)) (hc : w.rangeAt b o cs)
    (hu : P.underlying ty = some d) (hd : d.isRow = true) (hi : (P.info? ty).map (·.size) = some cs.length) : (execOp a.eval oi).run P w = .ok (.value (.agg cs.toArray)) w := by
  unfold execOp
  simp only [ho, hx, Instr.loadAt, Instr.sureAddr, Sem.run_bind, Sem.run_pure, Result.andThen_ok, run_loadVar_mid w b o ty cs d hc hu hd hi]
/-- A store of a whole range, in a region that draws its order. -/
theorem store_range_ {P : Program} {ops : Array Oper} {Q : Exit → Act → World → Prop} {oi : Oper} {N : Option Tmp} {a : Act} {w : World} {K : Act → World → Prop} (hw : Region.wanted oi (yielded ops a.tmps) = true) (hN : oi.dst = N)
    (ty : TypeId) (x y : Operand) (ho : oi.op = .store ty x y) (b o : Nat) (cells : Array Value) (hx : a.eval x = .pointer (some ⟨b, o, none⟩)) (hy : a.eval y = .agg cells)
    (ht : w.there b o cells.size) (hi : (P.info? ty).map (·.size) = some cells.size) (h1 : cells.all (·.oneCell') = true)
    (h : K (a.put N undef) (w.setCells b o cells.toList)) : if Region.wanted oi (yielded ops a.tmps) = true then Oper.wp P oi a w K Q else K (a.put N undef) w := by
  rw [if_pos hw]
  subst hN
  exact wp_store_mid ty x y ho b o cells hx hy ht hi h1 h
end Go.Proofs.Ytdlfjbllmmkmkaa.Chair
