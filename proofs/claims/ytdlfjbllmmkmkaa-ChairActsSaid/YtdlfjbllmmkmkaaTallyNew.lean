/- What tally.New answers of mobiles, each of them once. -/
import Derived.Test.YtdlfjbllmmkmkaaDeal
import Derived.Test.YtdlfjbllmmkmkaaBytes
namespace Go.Proofs.Ytdlfjbllmmkmkaa.Chair
open Go.RowKit Flat ChairSpec Go.Proofs.YtdlfjbllmmkmkaaW.PrintLast ByteMem
set_option linter.unusedSimpArgs false
set_option linter.unusedVariables false
set_option maxRecDepth 100000
def zTa (f : Nat → Bool) : Ta := ⟨f, fun _ => 0, fun _ => 0⟩
theorem eight_zero (b0 b1 b2 b3 b4 b5 b6 b7 : Bool) (w : World) : (Op.equalIn 9999 37 (.agg #[.bool b0, .bool b1, .bool b2, .bool b3, .bool b4, .bool b5, .bool b6, .bool b7]) (.agg #[.bool false, .bool false, .bool false, .bool false, .bool false, .bool false, .bool false, .bool false])).run Try.prog w = .ok (!(b0 || (b1 || (b2 || (b3 || (b4 || (b5 || (b6 || (b7 || false))))))))) w := by
  cases b0
  · cases b1
    · cases b2
      · cases b3
        · cases b4
          · cases b5
            · cases b6
              · cases b7
                · kernel_rfl
                · kernel_rfl
              · kernel_rfl
            · kernel_rfl
          · kernel_rfl
        · kernel_rfl
      · kernel_rfl
    · kernel_rfl
  · kernel_rfl
theorem zero_eq (f : Nat → Bool) (w : World) : (Op.equalIn 9999 37 (.agg (List.take 8 (tc (zTa f))).toArray) (.agg #[.bool false, .bool false, .bool false, .bool false, .bool false, .bool false, .bool false, .bool false])).run Try.prog w = .ok (!((List.range 8).any f)) w :=
  eight_zero (f 0) (f 1) (f 2) (f 3) (f 4) (f 5) (f 6) (f 7) w
theorem zero_eq1 (f : Nat → Bool) (w : World) : (Op.equalIn 9999 38 (.agg (List.take 8 (List.drop 8 (tc (zTa f)))).toArray) (.agg #[.int .i64 0, .int .i64 0, .int .i64 0, .int .i64 0, .int .i64 0, .int .i64 0, .int .i64 0, .int .i64 0])).run Try.prog w = .ok true w := by kernel_rfl
theorem zero_eq2 (f : Nat → Bool) (w : World) : (Op.equalIn 9999 38 (.agg (List.take 8 (List.drop 16 (tc (zTa f)))).toArray) (.agg #[.int .i64 0, .int .i64 0, .int .i64 0, .int .i64 0, .int .i64 0, .int .i64 0, .int .i64 0, .int .i64 0])).run Try.prog w = .ok true w := by kernel_rfl
theorem TaAt.set_who {w : World} {b : Nat} {t : Ta} (h : TaAt w b 0 t) {n : Nat} (hn : n < 8) (x : Bool) : TaAt (w.setCell ⟨b, n, none⟩ (.bool x)) b 0 { t with who := upd t.who n x } := fun j v hv => by
  have hj : j < 24 := by
    by_cases hj : j < 24
    · exact hj
    · rw [List.getElem?_eq_none (by rw [tc_len]; omega)] at hv; cases hv
  have hs : ∀ i, i < 24 → i ≠ n → ∀ u, (tc t)[i]? = some u → (w.setCell ⟨b, n, none⟩ (.bool x)).cell? ⟨b, 0 + i, none⟩ = some u := fun i hi hne u hu => (World.cell?_setCell_other _ _ _ _ (by first | (simp; done) | (simp; omega))).trans (h i u hu)
  by_cases h1 : j < 8
  · rw [tc_who _ h1] at hv
    by_cases hi : j = n
    · subst hi
      simp only [upd, if_true] at hv
      rw [← hv, Nat.zero_add]
      have := h.who hn
      rw [Nat.zero_add] at this
      exact World.cell?_setCell_same _ _ _ this
    · simp only [upd, if_neg hi] at hv
      exact hs j hj hi v (by rw [tc_who _ h1]; exact hv)
  · by_cases h2 : j < 16
    · obtain ⟨i, rfl⟩ : ∃ i, j = 8 + i := ⟨j - 8, by omega⟩
      rw [tc_vote _ (by omega)] at hv
      exact hs _ hj (by omega) v (by rw [tc_vote _ (by omega)]; exact hv)
    · obtain ⟨i, rfl⟩ : ∃ i, j = 16 + i := ⟨j - 16, by omega⟩
      rw [tc_epoch _ (by omega)] at hv
      exact hs _ hj (by omega) v (by rw [tc_epoch _ (by omega)]; exact hv)
/-- The mobiles that stand among bytes. -/
def among (l : List UInt8) (i : Nat) : Bool := l.any fun c => c.toNat == i
theorem among_take (l : List UInt8) (k : Nat) (h : k < l.length) : among (l.take (k + 1)) = upd (among (l.take k)) l[k].toNat true := by
  funext i
  rw [among, List.take_succ_eq_append_getElem h, List.any_append]
  simp only [List.any_cons, List.any_nil, Bool.or_false]
  unfold upd
  by_cases hi : i = l[k].toNat
  · subst hi; simp
  · rw [if_neg hi, show (l[k].toNat == i) = false from beq_eq_false_iff_ne.2 (fun e => hi e.symm), Bool.or_false]; rfl
theorem zero_block (w : World) (ty : TypeId) : TaAt (w.alloc (.cells #[.bool false, .bool false, .bool false, .bool false, .bool false, .bool false, .bool false, .bool false, .int .i64 0, .int .i64 0, .int .i64 0, .int .i64 0, .int .i64 0, .int .i64 0, .int .i64 0, .int .i64 0, .int .i64 0, .int .i64 0, .int .i64 0, .int .i64 0, .int .i64 0, .int .i64 0, .int .i64 0, .int .i64 0] ty)) w.heap.size 0 (zTa fun _ => false) := fun j v hv => by
  rw [Nat.zero_add, World.cell?_alloc_new]
  have e : (tc (zTa fun _ => false)).toArray[j]? = some v := by simpa using hv
  exact e
def newPair (l : List UInt8) : Ta × Int := if l = [] then (zTa fun _ => false, 2) else (zTa (among l), 0)
set_option maxHeartbeats 8000000 in
theorem new_ta_any (w : World) (a0 : Option Addr) (cap0 : Nat) (l : List UInt8) (hB0 : IsB w w.heap.size a0 l) (hlt : ∀ c ∈ l, c.toNat < 8) (hnd : l.Nodup) (hl8 : l.length ≤ 8) :
    Calls Try.prog 42 #[.slice a0 l.length cap0] w fun e w' => e = .returned (.tuple #[.agg (tc (newPair l).1).toArray, .int .i64 (newPair l).2]) ∧ Below w.heap.size w w' := by
  have HIB := Lib.hid hB0
  have HLT := Lib.hid hlt
  have HND := Lib.hid hnd
  clear hB0 hlt hnd
  go_enter Try.func42, Try.ntmps42
  go_wp2_with fail
  generalize hv1 : World.alloc w _ = v1
  have hb1 : Below w.heap.size w v1 := by rw [← hv1]; exact (Below.refl _ _).alloc (Nat.le_refl _) _
  have hs1 : v1.heap.size = w.heap.size + 1 := by rw [← hv1]; simp
  have ht1 : v1.there w.heap.size 0 24 := by rw [← hv1]; exact there_new w _ _ rfl
  generalize hv2 : World.alloc v1 _ = v2
  have hb2 : Below v1.heap.size v1 v2 := by rw [← hv2]; exact (Below.refl _ _).alloc (Nat.le_refl _) _
  have hz2 : v1.heap.size < v2.heap.size := by rw [← hv2]; simp
  have hT2 : TaAt v2 (w.heap.size + 1) 0 (zTa fun _ => false) := by rw [← hv2, ← hs1]; exact zero_block v1 _
  have ht2 : v2.there (w.heap.size + 1) 0 24 := by rw [← hv2, ← hs1]; exact there_new v1 _ _ rfl
  have ht12 := there_below ht1 hb2
  have hIN : ∃ k : Nat, k ≤ l.length ∧ Value.int .i64 0 = .int .i64 (k : Int) ∧ TaAt v2 (w.heap.size + 1) 0 (zTa (among (l.take k))) ∧ v2.there (w.heap.size + 1) 0 24 ∧ v2.there w.heap.size 0 24 ∧ Below w.heap.size w v2 :=
    ⟨0, by omega, rfl, hT2, ht2, ht12, hb1.trans (hb2.mono (by omega))⟩
  clear hv1 hv2 hb1 hb2 ht1 ht2 ht12 hT2 hz2 hs1
  go_loopw [9] (fun i wr => ∃ k : Nat, k ≤ l.length ∧ i = .int .i64 (k : Int) ∧ TaAt wr (w.heap.size + 1) 0 (zTa (among (l.take k))) ∧ wr.there (w.heap.size + 1) 0 24 ∧ wr.there w.heap.size 0 24 ∧ Below w.heap.size w wr) (fun i _ => l.length - (intOf i).toNat)
  case atStart => exact hIN
  case round =>
    obtain ⟨wo, h_wo⟩ : ∃ v : World, v = wr := ⟨_, rfl⟩; subst h_wo
    clear hIN
    obtain ⟨k, hk, rfl, hT, ht1, ht0, hB⟩ := hrel
    have HT := Lib.hid hT
    have HT1 := Lib.hid ht1
    have HT0 := Lib.hid ht0
    have HB := Lib.hid hB
    clear hT ht1 ht0 hB
    by_cases hkn : k = l.length
    · have hkI : ¬ (k : Int) < (l.length : Int) := by omega
      have hTT : TaAt wo (w.heap.size + 1) 0 (zTa (among l)) := by
        have := HT.out
        rwa [hkn, List.take_length] at this
      have HTT := Lib.hid (show wo.rangeAt (w.heap.size + 1) 0 (tc (zTa (among l))) from hTT)
      have hze := zero_eq (among l) wo
      have hze1 := zero_eq1 (among l) wo
      have hze2 := zero_eq2 (among l) wo
      clear hTT
      by_cases hl0 : l = []
      · have hany : (List.range 8).any (among l) = false := by rw [hl0]; rfl
        have HP : Hid (newPair l = (zTa fun _ => false, 2)) := Lib.hid (by rw [newPair, if_pos hl0])
        rw [hany] at hze
        clear hl0 hany
        go_wp2_with (first | (refine wpList_load_mid rfl 40 _ rfl (w.heap.size + 1) 0 rfl (tc (zTa (among l))) _ (HTT.out) Try.underlying40 rfl infoTa ?_) | (refine wpList_store_mid rfl 40 _ _ rfl (w.heap.size) 0 (tc (zTa fun _ => false)).toArray rfl rfl (HT0.out) infoTa (all_oneCell_toArray (tc_one _)) ?_; have HTR := Lib.hid (ta_stored _ _ (zTa fun _ => false) (HT0.out)); generalize hw8 : World.setCells _ _ _ _ = w8 at *; have HB8 := Lib.hid (below_cells _ _ _ (HB.out) (Nat.le_refl _) hw8); clear hw8))
        refine bodyPost_ret (fin_ta rfl _ _ _ rfl _ HTR.out) rfl ?_
        rw [HP.out]
        exact ⟨rfl, HB8.out⟩
      · have hany : (List.range 8).any (among l) = true := by
          cases l with
          | nil => exact absurd rfl hl0
          | cons c l => exact List.any_eq_true.2 ⟨c.toNat, List.mem_range.2 (HLT.out c (by simp)), by simp [among]⟩
        have HP : Hid (newPair l = (zTa (among l), 0)) := Lib.hid (by rw [newPair, if_neg hl0])
        rw [hany] at hze
        clear hl0 hany
        go_wp2_with (first | (refine wpList_load_mid rfl 40 _ rfl (w.heap.size + 1) 0 rfl (tc (zTa (among l))) _ (HTT.out) Try.underlying40 rfl infoTa ?_) | (refine wpList_store_mid rfl 40 _ _ rfl (w.heap.size) 0 (tc (zTa (among l))).toArray rfl rfl (HT0.out) infoTa (all_oneCell_toArray (tc_one _)) ?_; have HTR := Lib.hid (ta_stored _ _ (zTa (among l)) (HT0.out)); generalize hw8 : World.setCells _ _ _ _ = w8 at *; have HB8 := Lib.hid (below_cells _ _ _ (HB.out) (Nat.le_refl _) hw8); clear hw8))
        refine bodyPost_ret (fin_ta rfl _ _ _ rfl _ HTR.out) rfl ?_
        rw [HP.out]
        exact ⟨rfl, HB8.out⟩
    · have hkI : (k : Int) < (l.length : Int) := by omega
      have hk0 : (0 : Int) ≤ (k : Int) := by omega
      have hkl : k < l.length := by omega
      obtain ⟨b, off, rfl, hbl, hcc⟩ := HIB.out.below HB.out (by omega)
      have hq := hcc k hkl
      have hc8 : l[k].toNat < 8 := HLT.out _ (List.getElem_mem hkl)
      have hw := HT.out.who (i := l[k].toNat) hc8
      have hnot : among (l.take k) l[k].toNat = false := by
        rw [among, List.any_eq_false]
        intro c hc
        obtain ⟨i, hi, rfl⟩ := List.getElem_of_mem hc
        rw [List.getElem_take]
        rw [List.length_take] at hi
        have hne : l[i] ≠ l[k] := fun e => by
          have := (List.getElem_inj HND.out).1 e
          omega
        simpa using fun e => hne (UInt8.toNat_inj.1 e)
      have hw' : wo.cell? ⟨w.heap.size + 1, l[k].toNat, none⟩ = some (.bool false) := by
        rw [Nat.zero_add] at hw
        rw [hw]
        show some (Value.bool (among (l.take k) l[k].toNat)) = _
        rw [hnot]
      have hf := (HT1.out l[k].toNat (by omega)).2
      rw [Nat.zero_add] at hf
      have hset : TaAt (wo.setCell ⟨w.heap.size + 1, l[k].toNat, none⟩ (.bool true)) (w.heap.size + 1) 0 (zTa (among (l.take (k + 1)))) := by
        have := HT.out.set_who hc8 true
        rw [among_take l k hkl]
        exact this
      have HSET := Lib.hid hset
      have HS1 := Lib.hid (there_set (c := w.heap.size + 1) (o := l[k].toNat) (v := .bool true) HT1.out)
      have HS0 := Lib.hid (there_set (c := w.heap.size + 1) (o := l[k].toNat) (v := .bool true) HT0.out)
      have HSB := Lib.hid (HB.out.setCell (p := ⟨w.heap.size + 1, l[k].toNat, none⟩) (Nat.le_succ _) (.bool true))
      have hgl : b < w.heap.size := hbl
      clear hcc hw hnot hset HT HT1 HT0 HB
      generalize l[k].toNat = c at *
      have hc8I : ¬ (8 : Int) ≤ (c : Int) := by omega
      have hc8J : (c : Int) < 8 := by omega
      go_wp2_with fail
      exact ⟨⟨k + 1, by omega, by go_num, HSET.out, HS1.out, HS0.out, HSB.out⟩, by simp [intOf]; omega⟩
end Go.Proofs.Ytdlfjbllmmkmkaa.Chair
