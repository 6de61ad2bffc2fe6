/- What chair.Open answers. -/
import Derived.Test.YtdlfjbllmmkmkaaLogOf
import Derived.Test.YtdlfjbllmmkmkaaRising
import Derived.Shelf.SlicesE.DeleteFunc
import Derived.Ground.SlgfProg
import Derived.Lib.SliceRun
import Derived.Lib.SlKeysI
namespace Go.Proofs
open Go.Shelf
shelf_lay_g SlLaysH.n10 Slgf 10 at Try 27 as Try.delA
end Go.Proofs
namespace Go.Proofs.Ytdlfjbllmmkmkaa.Chair
open Go.RowKit Go.Maps Flat ChairSpec News Go.Proofs.YtdlfjbllmmkmkaaW.PrintLast
open Go.WideElems (rg rd_key rg_of)
open Go.Sort (Holds putRow)
set_option linter.unusedSimpArgs false
set_option linter.unusedVariables false
set_option maxRecDepth 100000
/-- The transactions that there are; those that are open. -/
def txs (f : Int → Option De) : List Nat := (List.range 1000).filter fun i => (f (i : Int)).isSome
def shutN (f : Int → Option De) (i : Nat) : Bool := match f (i : Int) with | some d => decide (d.out ≠ 0) | none => false
def openN (f : Int → Option De) : List Nat := (txs f).filter fun i => !shutN f i
theorem keys_perm {w : World} {b c : Nat} {D : DataW Value} {f : Int → Option De} (hown : w.ownsMap Try.prog 3 MapV.RV b c D) (hD : MapV.Reads .i64 D (mv f) c) (hk : ∀ k d, f k = some d → 0 ≤ k ∧ k < 1000) {ss : List Int} (hs : ss.Perm (intKeys D)) :
    ss.mergeSort (fun x y => decide (x ≤ y)) = (txs f).map Int.ofNat := by
  have hmem : ∀ x : Int, x ∈ (txs f).map Int.ofNat ↔ Maps.has D (.int .i64 x) = true := fun x => by
    rw [(hD.2 x).1, List.mem_map]
    constructor
    · rintro ⟨i, hi, rfl⟩
      have h3 := (List.mem_filter.1 hi).2
      show (mv f ((i : Nat) : Int)).isSome = true
      simpa [mv] using h3
    · intro h
      have h' : (f x).isSome = true := by simpa [mv] using h
      obtain ⟨d, hd⟩ := Option.isSome_iff_exists.1 h'
      obtain ⟨h0, h1⟩ := hk x d hd
      exact ⟨x.toNat, List.mem_filter.2 ⟨List.mem_range.2 (by omega), by rw [show ((x.toNat : Nat) : Int) = x by omega]; exact h'⟩, by show ((x.toNat : Nat) : Int) = x; omega⟩
  have hnd : ((txs f).map Int.ofNat).Nodup := by
    rw [List.nodup_iff_pairwise_ne, List.pairwise_map]
    exact (List.nodup_range.filter _).imp fun {a b} hne e => hne (Int.ofNat.inj e)
  have hlt : ((txs f).map Int.ofNat).Pairwise (fun a b => decide (a ≤ b) = true) := by
    rw [List.pairwise_map]
    exact (List.pairwise_lt_range.filter _).imp fun {a b} h => by simp only [decide_eq_true_eq]; exact Int.ofNat_le.2 (Nat.le_of_lt h)
  obtain ⟨es, clock, hb, F, hsz, rfl⟩ := hown
  have hp := (World.ownsMap.entries (w := w) (P := Try.prog) (k := 3) (R := MapV.RV) (b := b) (n := c) ⟨es, clock, hb, F, hsz, rfl⟩ (int_keyed Try.underlying3))
  obtain ⟨es2, he2, hap, _⟩ := hp
  have hes2 : es2 = (es.toList.map (rg Try.prog 3 MapV.RV)).foldr DataW.insert [] := (DataW.map.inj he2).symm
  subst hes2
  have hperm := perm_intKeys hap (fun p hp => by
    obtain ⟨x, hx, rfl⟩ := List.mem_map.1 (mem_sorted.1 hp)
    obtain ⟨y, hy⟩ := F.reads x hx
    obtain ⟨xi, _, h2, _⟩ := Maps.keyOf_int_inv Try.underlying3 (rd_key hy)
    exact ⟨xi, by rw [rg_of hy]; exact h2⟩) hnd hmem
  have tr : ∀ a b c : Int, decide (a ≤ b) = true → decide (b ≤ c) = true → decide (a ≤ c) = true := fun a b c h1 h2 => by simp only [decide_eq_true_eq] at *; omega
  have tot : ∀ a b : Int, (decide (a ≤ b) || decide (b ≤ a)) = true := fun a b => by simp only [Bool.or_eq_true, decide_eq_true_eq]; omega
  exact List.Perm.eq_of_pairwise (le := fun a b : Int => decide (a ≤ b) = true) (fun a b _ _ h1 h2 => by simp only [decide_eq_true_eq] at h1 h2; omega) (List.pairwise_mergeSort tr tot ss) hlt ((List.mergeSort_perm ss _).trans (hs.trans hperm.symm))
/-- The closure that tells what is shut. -/
theorem field_run {P : Program} {oi : Oper} {a : Act} {w : World} {t : TypeId} {x : Operand} {v y : Value} (ho : oi.op = .field t x 2) (hx : a.eval x = y) (h : (Instr.field t y 2).run P w = .ok v w) : (execOp a.eval oi).run P w = .ok (.value v) w := by
  unfold execOp
  simp only [ho, hx, h, Sem.run_bind, Sem.run_pure, Result.andThen_ok]
theorem look1_run {P : Program} {oi : Oper} {a : Act} {w : World} {t : TypeId} {m x : Operand} {mm key v : Value} (ho : oi.op = .lookup t m x false) (hm : a.eval m = mm) (hx : a.eval x = key) (h : (Instr.lookup t mm key false).run P w = .ok v w) : (execOp a.eval oi).run P w = .ok (.value v) w := by
  unfold execOp
  simp only [ho, hm, hx, h, Sem.run_bind, Sem.run_pure, Result.andThen_ok]
theorem out_field (d : De) (w : World) : (Instr.field 44 (.agg (dc d).toArray) 2).run Try.prog w = .ok (.int .i64 d.out) w := by kernel_rfl
def encF (i : Fin 1000) : Value := .int .i64 (i.val : Int)
set_option maxHeartbeats 1000000 in
theorem closure_any (f : Int → Option De) (c B g bm : Nat) (i : Fin 1000) (W : World) (hB : W.cell? ⟨B, 0, none⟩ = some (.pointer (some ⟨g, 0, none⟩))) (hm : W.cell? ⟨g, 0, none⟩ = some (.map (some bm))) (ho : MapV.Own Try.prog .i64 3 W bm (mv f) c) :
    FnGives Try.prog 29 #[.pointer (some ⟨B, 0, none⟩)] #[encF i] (.bool (shutN f i.val)) W := by
  have hkey := keyOf_int_mk Try.underlying3 (wf64 (x := (i.val : Int)) (by omega) (by have := i.isLt; omega))
  have k := MapV.Own.look (t := 52) (et := 44) ho (int_keyed Try.underlying3) Try.underlying52 (z := dv zDe) zero_de hkey
  have e1 : (mv f (i.val : Int)).getD (dv zDe) = .agg (dc ((f (i.val : Int)).getD zDe)).toArray := by
    unfold mv
    cases f (i.val : Int) <;> rfl
  rw [e1] at k
  have HL := Lib.hid k
  have hsh : shutN f i.val = decide (((f (i.val : Int)).getD zDe).out ≠ 0) := by
    unfold shutN
    cases f (i.val : Int) <;> rfl
  have HF := Lib.hid (out_field ((f (i.val : Int)).getD zDe) W)
  rw [hsh]
  generalize (f (i.val : Int)).getD zDe = d at *
  clear k e1 hsh hkey ho
  show Calls Try.prog 29 #[.int .i64 (i.val : Int), .pointer (some ⟨B, 0, none⟩)] W _
  go_enter Try.func29, Try.ntmps29
  go_wp2_with (first
    | (refine wpList_of_run rfl (look1_run (t := 52) (m := .tmp 7) (x := .tmp 8) rfl rfl rfl HL.out) ?_)
    | (refine wpList_of_run rfl (field_run (t := 44) (x := .tmp 9) rfl rfl HF.out) ?_))
  go_ret
  refine ⟨?_, 0, rfl⟩
  have e : (d.out != 0) = decide (d.out ≠ 0) := by by_cases h : d.out = 0 <;> simp [h]
  rw [← e]
  rfl
theorem sort_block {α : Type} [Inhabited α] {enc : α → Value} {w : World} {blk off n i : Nat} {dk : Array α} {os : Array Obj} (hi : i < w.heap.size) (hne : i ≠ blk) : (sortWorld enc w blk off n dk os).heap[i]? = w.heap[i]? := by
  show ((w.heap.modify blk _) ++ os)[i]? = _
  rw [Array.getElem?_append_left (by simpa using hi), Array.getElem?_modify, if_neg (fun e => hne e.symm)]
theorem cell_block {w w' : World} {b o : Nat} (h : w'.heap[b]? = w.heap[b]?) : w'.cell? ⟨b, o, none⟩ = w.cell? ⟨b, o, none⟩ := by
  unfold World.cell?
  simp only [h]
/-- Numbers in a slice. -/
def IntsAt (w : World) (B : Nat) (v : Value) (l : List Nat) : Prop :=
  ∃ a cap, v = .slice a l.length cap ∧ (0 < l.length → ∃ b, a = some ⟨b, 0, none⟩ ∧ B ≤ b ∧ ∀ j (h : j < l.length), w.cell? ⟨b, j, none⟩ = some (.int .i64 (l[j] : Int)))
def OpenPost (w : World) (f : Int → Option De) (e : Ending) (w' : World) : Prop := ∃ v, e = .returned v ∧ IntsAt w' w.heap.size v (openN f) ∧ Below w.heap.size w w'
theorem delete_empty (fv : Value) (w : World) : Calls Try.prog 27 #[.slice none 0 0, fv] w fun e w' => e = .returned (.slice none 0 0) ∧ w' = w := by
  have HI := Lib.hid (fun W => AnyE.slices_IndexFunc_empty (P := Try.prog) (ρ := Try.delA_ren) { Try.delA with } none 0 fv W)
  go_enter Try.func27, Try.ntmps27
  go_wp2_with fail
  refine (HI.out _).mono ?_
  rintro r v1 ⟨rfl, rfl⟩
  go_wp2_with fail
  go_ret
  exact ⟨rfl, rfl⟩
theorem fins (l : List Nat) (h : ∀ i ∈ l, i < 1000) : ∃ d : Array (Fin 1000), d.toList.map (fun i => i.val) = l :=
  ⟨(l.attach.map fun i => (⟨i.1, h i.1 i.2⟩ : Fin 1000)).toArray, by simp [Function.comp_def]⟩
set_option maxHeartbeats 4000000 in
theorem open_any (g bm c : Nat) (lv : Value) (s : Ch) (hlen : s.log.length < 1000000) (w : World) (h : ChairAt w g bm lv c s) :
    Calls Try.prog 18 #[.pointer (some ⟨g, 0, none⟩)] w (OpenPost w s.deals) := by
  have HC := Lib.hid h
  have hcf := h.few
  clear h
  go_enter Try.func18, Try.ntmps18
  go_wp2_with fail
  generalize hv1 : World.alloc w _ = v1
  obtain ⟨hb1, hz1, hc1⟩ := alloc_facts hv1
  have hB := hc1 0
  have HB1 := Lib.hid hb1
  have HC1 := Lib.hid (HC.out.below hb1)
  have hg1 := HC1.out.map
  clear hv1 hb1 hc1
  refine (chair_good g bm v1 hg1).mono ?_
  rintro r v1 ⟨rfl, rfl⟩
  obtain ⟨D, hown, hD⟩ := HC1.out.own
  have hsz := hD.1
  have HRI := Lib.hid (Try.rising_any bm c D MapV.RV v1 hown (by rw [hsz]; unfold maxLen; omega) (by rw [hsz]; omega))
  have HOWN := Lib.hid hown
  have HD := Lib.hid hD
  clear hown hD hsz
  go_wp2_with fail
  refine HRI.out.mono ?_
  rintro r v2 ⟨v, ss, rfl, hperm, hrow, hnil, hb2⟩
  have hsort := keys_perm HOWN.out HD.out HC1.out.keys hperm
  have hlen2 : ss.length = (txs s.deals).length := by
    have k := congrArg List.length hsort
    rw [List.length_mergeSort, List.length_map] at k
    exact k
  rw [hlen2, hsort] at hrow
  have HROW := Lib.hid hrow
  have HB2 := Lib.hid (HB1.out.trans (hb2.mono (Nat.le_of_lt hz1)))
  have HC2 := Lib.hid (HC1.out.below hb2)
  have hB2 := (hb2.cell (p := ⟨w.heap.size, 0, none⟩) hz1).trans hB
  have hz2 : w.heap.size < v2.heap.size := Nat.lt_of_lt_of_le hz1 hb2.size
  clear hrow hb2 hsort hperm HRI HOWN HD hB
  have eg := enters_of Try.func29 (by kernel_rfl) rfl
  rcases HROW.out.2 with ⟨hv, hx⟩ | ⟨gk, cap, cur, hv, hgk, _, hnc, hcm, _⟩
  · subst hv
    have ht0 : txs s.deals = [] := by simpa using hx
    have HDE := Lib.hid (fun fv W => delete_empty fv W)
    have HT0 := Lib.hid ht0
    clear ht0 hx hnil eg
    go_wp2_with fail
    refine (HDE.out _ _).mono ?_
    rintro r v3 ⟨rfl, rfl⟩
    go_wp2_with fail
    go_ret
    refine ⟨_, rfl, ⟨none, 0, ?_, ?_⟩, HB2.out⟩
    · rw [openN, HT0.out]; rfl
    · intro hl
      rw [openN, HT0.out] at hl
      simp at hl
  · subst hv
    obtain ⟨d, hd⟩ := fins (txs s.deals) (fun i hi => List.mem_range.1 (List.mem_filter.1 hi).1)
    have hds : d.size = (txs s.deals).length := by rw [← hd, List.length_map, Array.length_toList]
    have hgkl := (HROW.out.lt gk rfl).2
    have htl : (txs s.deals).length ≤ 1000 := Nat.le_trans (List.length_filter_le _ _) (by simp)
    have hcell : ∀ j, j < d.size → v2.cell? ⟨gk, j, none⟩ = some (encF d[j]!) := fun j hj => by
      have h1 := World.ownsRow.cellAt HROW.out j (by omega)
      rw [h1, List.getElem?_map, List.getElem?_map, List.getElem?_eq_getElem (by omega)]
      have e : (txs s.deals)[j]'(by omega) = (d[j]!).val := by
        have e2 : (d.toList.map fun i => i.val)[j]'(by simpa using hj) = (txs s.deals)[j]'(by omega) := by simp only [hd]
        rw [← e2, List.getElem_map, getElem!_pos d j hj]
        simp
      simp only [Option.map_some, e]
      rfl
    have hH : Holds encF v2 gk 0 d := fun j hj => by
      rw [Nat.zero_add]
      exact ⟨hcell j hj, World.ownsRow.frozenAt HROW.out j⟩
    have hgne : gk ≠ g := by have := Flat.cell_lt hg1; omega
    have hbl := HC2.out.own.lt
    have hbmne : gk ≠ bm := by have := HC1.out.own.lt; omega
    have hcon := AnyE.slices_DeleteFunc Try.delA encF (fun _ => rfl) (fun i => shutN s.deals i.val) 29 #[.pointer (some ⟨w.heap.size, 0, none⟩)] eg 0 (fun w => by kernel_rfl) gk 0 cap d v2
      (fun W x hb => closure_any s.deals c w.heap.size g bm x W ((hb.cell (p := ⟨w.heap.size, 0, none⟩) hz2).trans hB2) ((hb.cell (p := ⟨g, 0, none⟩) (Flat.cell_lt HC2.out.map)).trans HC2.out.map) (HC2.out.own.below hb hbl))
      (fun n os dk x _ => closure_any s.deals c w.heap.size g bm x _ ((cell_block (sort_block hz2 (by omega))).trans hB2) ((cell_block (sort_block (Flat.cell_lt HC2.out.map) (Ne.symm hgne))).trans HC2.out.map) (HC2.out.own.heap (sort_block hbl (Ne.symm hbmne))))
      hH (by omega) (by omega)
    have HCON := Lib.hid hcon
    have HHH := Lib.hid hH
    rw [hds] at HCON
    clear hcon hH hcell eg
    go_wp2_with fail
    refine HCON.out.mono ?_
    rintro r v3 ⟨rfl, q, rfl⟩
    go_wp2_with fail
    go_ret
    have hop : openN s.deals = (d.toList.filter fun x => !shutN s.deals x.val).map (fun i => i.val) := by
      rw [openN, ← hd, List.filter_map]
      rfl
    have hkl : (d.toList.filter fun x => !shutN s.deals x.val).length ≤ d.size := by
      have := List.length_filter_le (fun x => !shutN s.deals x.val) d.toList
      simpa using this
    generalize (d.toList.filter fun x => !shutN s.deals x.val) = kept at *
    refine ⟨_, rfl, ⟨_, cap, by rw [hop, List.length_map]; rfl, fun _ => ⟨gk, rfl, by have := HB1.out.size; omega, fun j hj => ?_⟩⟩, ?_⟩
    · rw [hop, List.length_map] at hj
      have h1 := Go.Sort.cell?_putRow encF (Sort.ahead v2 q) gk 0 d (kept ++ List.replicate ((txs s.deals).length - kept.length) 0).toArray (Go.Sort.holds_ahead encF v2 q gk 0 d HHH.out) (by simp; omega) j (by simp; omega)
      rw [Nat.zero_add] at h1
      rw [h1, getElem!_pos _ j (by simp; omega)]
      simp only [hop, List.getElem_map, List.getElem_toArray, List.getElem_append_left hj]
      rfl
    · have k := HB2.out
      refine ⟨k.os, k.tape, k.output, Nat.le_trans k.size ?_, fun i hi => ?_⟩
      · show v2.heap.size ≤ (v2.heap.modify gk _).size
        simp
      · show (v2.heap.modify gk _)[i]? = _
        rw [Array.getElem?_modify, if_neg (by omega)]
        exact k.block i hi
end Go.Proofs.Ytdlfjbllmmkmkaa.Chair
