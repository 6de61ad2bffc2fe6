/- What the reference's tally.New answers. -/
import Derived.Test.YtdlfjbllmmkmkaaRTallyHear
import Derived.Test.YtdlfjbllmmkmkaaTallyNew
namespace Go.Proofs.Ytdlfjbllmmkmkaa.Chair
open Go.RowKit Flat ChairSpec Go.Proofs.YtdlfjbllmmkmkaaW.PrintLast ByteMem
set_option linter.unusedSimpArgs false
set_option linter.unusedVariables false
set_option maxRecDepth 100000
theorem infoBa : (Try.prog.info? 37).map (·.size) = some 8 := by kernel_rfl
def bc (f : Nat → Bool) : List Value := (List.range 8).map fun i => .bool (f i)
theorem bc_len (f : Nat → Bool) : (bc f).length = 8 := rfl
theorem bc_at (f : Nat → Bool) {i : Nat} (h : i < 8) : (bc f)[i]? = some (.bool (f i)) := by simp [bc, h]
theorem bc_set {w : World} {b : Nat} {f : Nat → Bool} (h : w.rangeAt b 0 (bc f)) {n : Nat} (hn : n < 8) (x : Bool) : (w.setCell ⟨b, n, none⟩ (.bool x)).rangeAt b 0 (bc (upd f n x)) := fun j v hv => by
  have hj : j < 8 := by have := (List.getElem?_eq_some_iff.1 hv).1; rw [bc_len] at this; exact this
  rw [bc_at _ hj] at hv
  rw [Nat.zero_add]
  have k := h j _ (bc_at f hj)
  rw [Nat.zero_add] at k
  by_cases e : j = n
  · subst e
    rw [← hv, upd, if_pos rfl]
    exact World.cell?_setCell_same _ _ _ k
  · rw [← hv, upd, if_neg e]
    exact (World.cell?_setCell_other _ _ _ _ (by first | (simp; done) | (simp; omega))).trans k
theorem built_rta (f : Nat → Bool) : Try.prog.built 72 [(0, .agg (bc f).toArray)] = some (tc (zTa f)).toArray := by kernel_rfl
theorem wpList_build_rta {ops : Array Oper} {rest : List Oper} {o : Oper} {a : Act} {w : World} {Q : Exit → Act → World → Prop} (hg : o.guard = none) (x : Operand) (ho : o.op = .build 72 #[(0, x)]) (f : Nat → Bool)
    (hx : a.eval x = .agg (bc f).toArray) (h : wpList Try.prog ops Q rest (a.put o.dst (.agg (tc (zTa f)).toArray)) w) : wpList Try.prog ops Q (o :: rest) a w := by
  have e : Try.prog.built 72 ((#[(0, x)] : Array (Nat × Operand)).map fun (i, x) => (i, a.eval x)).toList = some (tc (zTa f)).toArray := by
    simp only [List.map_toArray, List.map_cons, List.map_nil, hx]
    exact built_rta f
  refine wpList_build hg 72 _ ho (by rw [e]; rfl) ?_
  rw [e]
  exact h
def RelNew (w : World) (l : List UInt8) (i : Value) (wr : World) : Prop :=
  ∃ k : Nat, k ≤ l.length ∧ i = .int .i64 (k : Int) ∧ wr.rangeAt (w.heap.size + 1) 0 (bc (among (l.take k))) ∧ wr.there (w.heap.size + 1) 0 8 ∧ wr.there w.heap.size 0 24 ∧ Below w.heap.size w wr
set_option maxHeartbeats 8000000 in
theorem rnew_ta_any (w : World) (a0 : Option Addr) (cap0 : Nat) (l : List UInt8) (hB0 : IsB w w.heap.size a0 l) (hlt : ∀ c ∈ l, c.toNat < 8) (hnd : l.Nodup) (hl8 : l.length ≤ 8) :
    Calls Try.prog 49 #[.slice a0 l.length cap0] w fun e w' => e = .returned (.tuple #[.agg (tc (newPair l).1).toArray, .int .i64 (newPair l).2]) ∧ Below w.heap.size w w' := by
  have HIB := Lib.hid hB0
  have HLT := Lib.hid hlt
  have HND := Lib.hid hnd
  clear hB0 hlt hnd
  go_enter Try.func49, Try.ntmps49
  go_wp2_with fail
  generalize hv1 : World.alloc w _ = v1
  have hb1 : Below w.heap.size w v1 := by rw [← hv1]; exact (Below.refl _ _).alloc (Nat.le_refl _) _
  have hs1 : v1.heap.size = w.heap.size + 1 := by rw [← hv1]; simp
  have ht1 : v1.there w.heap.size 0 24 := by rw [← hv1]; exact there_new w _ _ rfl
  generalize hv2 : World.alloc v1 _ = v2
  have hb2 : Below v1.heap.size v1 v2 := by rw [← hv2]; exact (Below.refl _ _).alloc (Nat.le_refl _) _
  have hT2 : v2.rangeAt (w.heap.size + 1) 0 (bc (among (l.take 0))) := by
    rw [← hv2, ← hs1]
    intro j v hv
    rw [Nat.zero_add, World.cell?_alloc_new]
    have e : (bc (fun _ => false)).toArray[j]? = some v := by rw [List.getElem?_toArray]; exact hv
    exact e
  have ht2 : v2.there (w.heap.size + 1) 0 8 := by rw [← hv2, ← hs1]; exact there_new8 v1 _ _ rfl
  have ht12 := there_below ht1 hb2
  have hIN : RelNew w l (.int .i64 0) v2 := ⟨0, by omega, rfl, hT2, ht2, ht12, hb1.trans (hb2.mono (by omega))⟩
  clear hv1 hv2 hb1 hb2 ht1 ht2 ht12 hT2 hs1
  go_loopw [5] (fun i wr => RelNew w l i wr) (fun i _ => l.length - (intOf i).toNat)
  case atStart => exact hIN
  case round =>
    obtain ⟨wo, h_wo⟩ : ∃ v : World, v = wr := ⟨_, rfl⟩; subst h_wo
    clear hIN
    obtain ⟨k, hk, rfl, hT, ht1, ht0, hB⟩ := hrel
    have HT := Lib.hid hT
    have HT1 := Lib.hid ht1
    have HT0 := Lib.hid ht0
    have HB := Lib.hid hB
    clear hT ht1 ht0 hB
    by_cases hkn : k = l.length
    · have hTT : wo.rangeAt (w.heap.size + 1) 0 (bc (among l)) := by
        have := HT.out
        rwa [hkn, List.take_length] at this
      have HTT := Lib.hid hTT
      subst hkn
      have hkI : ¬ (l.length : Int) < (l.length : Int) := by omega
      clear hTT HT
      by_cases hl0 : l = []
      · subst hl0
        have HP : Hid (newPair [] = (zTa fun _ => false, 2)) := Lib.hid (by rw [newPair, if_pos rfl])
        go_upto_region 9 with fail
        go_wp2_with (first | (refine wpList_store_mid rfl 72 _ _ rfl (w.heap.size) 0 (tc (zTa fun _ => false)).toArray rfl rfl (HT0.out) infoRTa (all_oneCell_toArray (tc_one _)) ?_; generalize hw8 : World.setCells _ _ _ _ = w8))
        have HTR := Lib.hid (show TaAt w8 w.heap.size 0 (zTa fun _ => false) by rw [← hw8]; exact ta_stored _ _ (zTa fun _ => false) HT0.out)
        have HB8 := Lib.hid (below_cells _ _ _ HB.out (Nat.le_refl _) hw8)
        refine bodyPost_ret (fin_rta rfl _ _ _ rfl _ HTR.out) rfl ?_
        rw [HP.out]
        exact ⟨rfl, HB8.out⟩
      · have HP : Hid (newPair l = (zTa (among l), 0)) := Lib.hid (by rw [newPair, if_neg hl0])
        have hl1 : ¬ (l.length : Int) = 0 := by
          intro h
          exact hl0 (List.length_eq_zero_iff.1 (by omega))
        have hlb : ((l.length : Int) == 0) = false := beq_eq_false_iff_ne.2 hl1
        go_upto_region 10 with fail
        go_wp2_with (first | (refine wpList_load_mid rfl 37 _ rfl (w.heap.size + 1) 0 rfl (bc (among l)) _ HTT.out Try.underlying37 rfl infoBa ?_) | (refine wpList_build_rta rfl _ rfl (among l) rfl ?_) | (refine wpList_store_mid rfl 72 _ _ rfl (w.heap.size) 0 (tc (zTa (among l))).toArray rfl rfl (HT0.out) infoRTa (all_oneCell_toArray (tc_one _)) ?_; generalize hw8 : World.setCells _ _ _ _ = w8))
        have HTR := Lib.hid (show TaAt w8 w.heap.size 0 (zTa (among l)) by rw [← hw8]; exact ta_stored _ _ (zTa (among l)) HT0.out)
        have HB8 := Lib.hid (below_cells _ _ _ HB.out (Nat.le_refl _) hw8)
        refine bodyPost_ret (fin_rta rfl _ _ _ rfl _ HTR.out) rfl ?_
        rw [HP.out]
        exact ⟨rfl, HB8.out⟩
    · have hkI : (k : Int) < (l.length : Int) := by omega
      have hk0 : (0 : Int) ≤ (k : Int) := by omega
      have hkl : k < l.length := by omega
      obtain ⟨b, off, rfl, hbl, hcc⟩ := HIB.out.below HB.out (by omega)
      have hq := hcc k hkl
      have hc8 : l[k].toNat < 8 := HLT.out _ (List.getElem_mem hkl)
      have hnot : among (l.take k) l[k].toNat = false := by
        rw [among, List.any_eq_false]
        intro c hc
        obtain ⟨i, hi, rfl⟩ := List.getElem_of_mem hc
        rw [List.getElem_take]
        rw [List.length_take] at hi
        have hne : l[i] ≠ l[k] := fun e => by
          have := (List.getElem_inj HND.out).1 e
          omega
        intro h
        exact hne (UInt8.toNat_inj.1 (by simpa using h))
      have hw := HT.out l[k].toNat _ (bc_at (among (l.take k)) hc8)
      have hf := (HT1.out l[k].toNat (by omega)).2
      rw [hnot, Nat.zero_add] at hw
      rw [Nat.zero_add] at hf
      have HAT := Lib.hid (among_take l k hkl)
      clear hcc hnot
      generalize l[k].toNat = c at *
      have hcI : ¬ (8 : Int) ≤ (c : Int) := by omega
      have hcI2 : (c : Int) < 8 := by omega
      go_wp2_with fail
      generalize hw8 : World.setCell wo _ _ = w8
      have HN := Lib.hid (show w8.rangeAt (w.heap.size + 1) 0 (bc (upd (among (l.take k)) c true)) by rw [← hw8]; exact bc_set HT.out hc8 true)
      have HN1 := Lib.hid (show w8.there (w.heap.size + 1) 0 8 by rw [← hw8]; exact there_set HT1.out)
      have HN0 := Lib.hid (show w8.there w.heap.size 0 24 by rw [← hw8]; exact there_set HT0.out)
      have HB8 := Lib.hid (show Below w.heap.size w w8 by rw [← hw8]; exact HB.out.setCell (p := ⟨w.heap.size + 1, c, none⟩) (Nat.le_succ _) _)
      exact ⟨⟨k + 1, by omega, by go_num, by rw [HAT.out]; exact HN.out, HN1.out, HN0.out, HB8.out⟩, by simp [intOf]; omega⟩
end Go.Proofs.Ytdlfjbllmmkmkaa.Chair
