/- What tally.Hear answers. -/
import Derived.Test.YtdlfjbllmmkmkaaTally
import Derived.Laws.ResultCell
namespace Go.Proofs.Ytdlfjbllmmkmkaa.Chair
open Go.RowKit Flat ChairSpec Go.Proofs.YtdlfjbllmmkmkaaW.PrintLast
set_option linter.unusedSimpArgs false
set_option linter.unusedVariables false
set_option maxRecDepth 100000
theorem infoTa : (Try.prog.info? 40).map (·.size) = some 24 := by kernel_rfl
theorem two_lo (t : Ta) (w : World) (t1 t2 : TypeId) (B : Array Value) : World.rangeAt ((w.alloc (.cells (tc t).toArray t1)).alloc (.cells B t2)) w.heap.size 0 (tc t) := fun j v hv => by
  rw [Nat.zero_add, (two_blocks (w := w) (A := (tc t).toArray) (B := B) (t1 := t1) (t2 := t2) rfl).2.2.1 j]
  simpa using hv
theorem there_hi (t : Ta) (w : World) (t1 t2 : TypeId) (B : Array Value) (hB : B.size = 24) : World.there ((w.alloc (.cells (tc t).toArray t1)).alloc (.cells B t2)) (w.heap.size + 1) 0 24 := fun j hj => by
  obtain ⟨_, _, _, h4, _, h6⟩ := two_blocks (w := w) (A := (tc t).toArray) (B := B) (t1 := t1) (t2 := t2) rfl
  refine ⟨?_, ?_⟩
  · rw [Nat.zero_add, h4 j, Array.getElem?_eq_getElem (by omega)]; rfl
  · rw [Nat.zero_add]; exact h6 j
/-- Behind two blocks of tallies, and a call. -/
theorem two_ready {w v2 v3 : World} {t : Ta} {B : Array Value} {t1 t2 : TypeId} (h : (w.alloc (.cells (tc t).toArray t1)).alloc (.cells B t2) = v2) (hB : B.size = 24) (hb : Below v2.heap.size v2 v3) :
    Below w.heap.size w v3 ∧ w.heap.size + 1 < v3.heap.size ∧ TaAt v3 w.heap.size 0 t ∧ v3.there w.heap.size 0 24 ∧ v3.there (w.heap.size + 1) 0 24 := by
  obtain ⟨h1, h2, h3, h4, h5, h6⟩ := two_after h hb
  refine ⟨h1, h2, fun j v hv => ?_, fun j hj => ⟨?_, ?_⟩, fun j hj => ⟨?_, ?_⟩⟩
  · rw [Nat.zero_add, h3 j]; simpa using hv
  · rw [Nat.zero_add, h3 j, Array.getElem?_eq_getElem (by simp [tc_len]; omega)]; rfl
  · rw [Nat.zero_add]; exact h5 j
  · rw [Nat.zero_add, h4 j, Array.getElem?_eq_getElem (by omega)]; rfl
  · rw [Nat.zero_add]; exact h6 j
theorem fin_ta {fn : Func} {p u : Tmp} (h : fn.results = #[.cell p 40, .tmp u]) (tmps : Array Value) (w : World) (b : Nat) (hp : tmps.getD p undef = .pointer (some ⟨b, 0, none⟩)) (t : Ta) (ht : TaAt w b 0 t) :
    (results fn tmps).run Try.prog w = .ok (.tuple #[.agg (tc t).toArray, tmps.getD u undef]) w := by
  have hl := run_loadVar_mid (P := Try.prog) w b 0 40 (tc t) _ ht Try.underlying40 rfl infoTa
  rw [results_cell_tmp h, hp]
  simp [asAddr, hl]
theorem ta_stored (w : World) (b : Nat) (t : Ta) (h : w.there b 0 24) : TaAt (w.setCells b 0 (tc t).toArray.toList) b 0 t := World.rangeAt_setCells_same w b 0 (tc t) h
theorem below_cells {B b : Nat} {w w' : World} : ∀ (vs : List Value) (o : Nat) (v : World), Below B w v → B ≤ b → v.setCells b o vs = w' → Below B w w'
  | [], o, v, h, hb, e => by rw [← e]; exact h
  | x :: vs, o, v, h, hb, e => below_cells vs (o + 1) _ (h.setCell (p := ⟨b, o, none⟩) hb x) hb e
theorem there_set {w : World} {b c o : Nat} {v : Value} {m : Nat} (h : w.there b 0 m) : (w.setCell ⟨c, o, none⟩ v).there b 0 m := fun j hj => by
  have := World.there_setCells h c o [v] j hj
  exact this
theorem TaAt.set_epoch {w : World} {b : Nat} {t : Ta} (h : TaAt w b 0 t) {n : Nat} (hn : n < 8) (x : Int) : TaAt (w.setCell ⟨b, 16 + n, none⟩ (.int .i64 x)) b 0 { t with epochs := upd t.epochs n x } := fun j v hv => by
  have hj : j < 24 := by
    by_cases hj : j < 24
    · exact hj
    · rw [List.getElem?_eq_none (by rw [tc_len]; omega)] at hv; cases hv
  have hs : ∀ i, i < 24 → i ≠ 16 + n → ∀ u, (tc t)[i]? = some u → (w.setCell ⟨b, 16 + n, none⟩ (.int .i64 x)).cell? ⟨b, 0 + i, none⟩ = some u := fun i hi hne u hu => (World.cell?_setCell_other _ _ _ _ (by first | (simp; done) | (simp; omega))).trans (h i u hu)
  by_cases h1 : j < 8
  · rw [tc_who _ h1] at hv
    exact hs j hj (by omega) v (by rw [tc_who _ h1]; exact hv)
  · by_cases h2 : j < 16
    · obtain ⟨i, rfl⟩ : ∃ i, j = 8 + i := ⟨j - 8, by omega⟩
      rw [tc_vote _ (by omega)] at hv
      exact hs _ hj (by omega) v (by rw [tc_vote _ (by omega)]; exact hv)
    · obtain ⟨i, rfl⟩ : ∃ i, j = 16 + i := ⟨j - 16, by omega⟩
      rw [tc_epoch _ (by omega)] at hv
      by_cases hi : i = n
      · subst hi
        simp only [upd, if_true] at hv
        rw [← hv, Nat.zero_add]
        have := h.epoch hn
        rw [Nat.zero_add] at this
        exact World.cell?_setCell_same _ _ _ this
      · simp only [upd, if_neg hi] at hv
        exact hs _ hj (by omega) v (by rw [tc_epoch _ (by omega)]; exact hv)
theorem TaAt.set_vote {w : World} {b : Nat} {t : Ta} (h : TaAt w b 0 t) {n : Nat} (hn : n < 8) (x : Int) : TaAt (w.setCell ⟨b, 8 + n, none⟩ (.int .i64 x)) b 0 { t with votes := upd t.votes n x } := fun j v hv => by
  have hj : j < 24 := by
    by_cases hj : j < 24
    · exact hj
    · rw [List.getElem?_eq_none (by rw [tc_len]; omega)] at hv; cases hv
  have hs : ∀ i, i < 24 → i ≠ 8 + n → ∀ u, (tc t)[i]? = some u → (w.setCell ⟨b, 8 + n, none⟩ (.int .i64 x)).cell? ⟨b, 0 + i, none⟩ = some u := fun i hi hne u hu => (World.cell?_setCell_other _ _ _ _ (by first | (simp; done) | (simp; omega))).trans (h i u hu)
  by_cases h1 : j < 8
  · rw [tc_who _ h1] at hv
    exact hs j hj (by omega) v (by rw [tc_who _ h1]; exact hv)
  · by_cases h2 : j < 16
    · obtain ⟨i, rfl⟩ : ∃ i, j = 8 + i := ⟨j - 8, by omega⟩
      rw [tc_vote _ (by omega)] at hv
      by_cases hi : i = n
      · subst hi
        simp only [upd, if_true] at hv
        rw [← hv, Nat.zero_add]
        have := h.vote hn
        rw [Nat.zero_add] at this
        exact World.cell?_setCell_same _ _ _ this
      · simp only [upd, if_neg hi] at hv
        exact hs _ hj (by omega) v (by rw [tc_vote _ (by omega)]; exact hv)
    · obtain ⟨i, rfl⟩ : ∃ i, j = 16 + i := ⟨j - 16, by omega⟩
      rw [tc_epoch _ (by omega)] at hv
      exact hs _ hj (by omega) v (by rw [tc_epoch _ (by omega)]; exact hv)
set_option maxHeartbeats 8000000 in
theorem hear_ta (t : Ta) (n : Nat) (epoch : Int) (hn : n ≤ 255) (w : World) : Calls Try.prog 46 #[.agg (tc t).toArray, .int .u8 (n : Int), .int .i64 epoch] w fun r w' => r = .returned (.tuple #[.agg (tc (hearT t n epoch).1).toArray, .int .i64 (hearT t n epoch).2]) ∧ Below w.heap.size w w' := by
  have HL : Hid ((tc t).toArray.size = 24) := Lib.hid (by simp [tc_len])
  have HR := Lib.hid (fun W => right_ta t W)
  have HT := Lib.hid (fun B => two_lo t w 40 40 B)
  have hlen := HL.out
  obtain ⟨ht, HH⟩ : ∃ ht, Hid (hearT t n epoch = ht) := ⟨_, Lib.hid rfl⟩
  rw [HH.out]
  have hu := HH.out
  rw [hearT, Int.toNat_natCast] at hu
  have HU := Lib.hid hu
  clear hu HH
  cases hr : rightT t
  · simp only [hr] at HR HU
    have hht : ht = (t, 2) := by rw [← HU.out, if_pos (Or.inl trivial)]
    subst hht
    clear hr HU
    go_enter Try.func46, Try.ntmps46
    go_wp2_with (refine wpList_load_mid rfl 40 _ rfl w.heap.size 0 rfl (tc t) _ (HT.out _) Try.underlying40 rfl infoTa ?_)
    generalize hv2 : World.alloc (World.alloc w _) _ = v2
    refine (HR.out _).mono ?_
    rintro r v3 ⟨rfl, hb3⟩
    obtain ⟨hB, hz, hT3, ht0, ht1⟩ := two_ready hv2 rfl hb3
    have HB := Lib.hid hB
    have HT3 := Lib.hid hT3
    have HT0 := Lib.hid ht0
    have HT1 := Lib.hid ht1
    clear hv2 hb3 hB hT3 ht0 ht1 hlen
    go_wp2_with (first | (refine wpList_load_mid rfl 40 _ rfl w.heap.size 0 rfl (tc t) _ (HT3.out) Try.underlying40 rfl infoTa ?_) | (refine wpList_store_mid rfl 40 _ _ rfl (w.heap.size + 1) 0 (tc t).toArray rfl rfl HT1.out infoTa (all_oneCell_toArray (tc_one t)) ?_; have HTR := Lib.hid (ta_stored _ _ t HT1.out); generalize hw8 : World.setCells v3 _ _ _ = w8 at *; have HB8 := Lib.hid (below_cells _ _ _ HB.out (Nat.le_succ _) hw8); clear hw8))
    refine bodyPost_ret (fin_ta rfl _ _ _ rfl t HTR.out) rfl ?_
    exact ⟨rfl, HB8.out⟩
  · simp only [hr] at HR HU
    clear hr
    by_cases he1 : epoch < 1
    · have hht : ht = (t, 2) := by rw [← HU.out, if_pos (Or.inr (Or.inl he1))]
      subst hht
      clear HU
      go_enter Try.func46, Try.ntmps46
      go_wp2_with (refine wpList_load_mid rfl 40 _ rfl w.heap.size 0 rfl (tc t) _ (HT.out _) Try.underlying40 rfl infoTa ?_)
      generalize hv2 : World.alloc (World.alloc w _) _ = v2
      refine (HR.out _).mono ?_
      rintro r v3 ⟨rfl, hb3⟩
      obtain ⟨hB, hz, hT3, ht0, ht1⟩ := two_ready hv2 rfl hb3
      have HB := Lib.hid hB
      have HT3 := Lib.hid hT3
      have HT0 := Lib.hid ht0
      have HT1 := Lib.hid ht1
      clear hv2 hb3 hB hT3 ht0 ht1 hlen
      go_wp2_with (first | (refine wpList_load_mid rfl 40 _ rfl w.heap.size 0 rfl (tc t) _ (HT3.out) Try.underlying40 rfl infoTa ?_) | (refine wpList_store_mid rfl 40 _ _ rfl (w.heap.size + 1) 0 (tc t).toArray rfl rfl HT1.out infoTa (all_oneCell_toArray (tc_one t)) ?_; have HTR := Lib.hid (ta_stored _ _ t HT1.out); generalize hw8 : World.setCells v3 _ _ _ = w8 at *; have HB8 := Lib.hid (below_cells _ _ _ HB.out (Nat.le_succ _) hw8); clear hw8))
      refine bodyPost_ret (fin_ta rfl _ _ _ rfl t HTR.out) rfl ?_
      exact ⟨rfl, HB8.out⟩
    by_cases he2 : 1048576 < epoch
    · have hht : ht = (t, 2) := by rw [← HU.out, if_pos (Or.inr (Or.inr he2))]
      subst hht
      clear HU
      go_enter Try.func46, Try.ntmps46
      go_wp2_with (refine wpList_load_mid rfl 40 _ rfl w.heap.size 0 rfl (tc t) _ (HT.out _) Try.underlying40 rfl infoTa ?_)
      generalize hv2 : World.alloc (World.alloc w _) _ = v2
      refine (HR.out _).mono ?_
      rintro r v3 ⟨rfl, hb3⟩
      obtain ⟨hB, hz, hT3, ht0, ht1⟩ := two_ready hv2 rfl hb3
      have HB := Lib.hid hB
      have HT3 := Lib.hid hT3
      have HT0 := Lib.hid ht0
      have HT1 := Lib.hid ht1
      clear hv2 hb3 hB hT3 ht0 ht1 hlen
      go_wp2_with (first | (refine wpList_load_mid rfl 40 _ rfl w.heap.size 0 rfl (tc t) _ (HT3.out) Try.underlying40 rfl infoTa ?_) | (refine wpList_store_mid rfl 40 _ _ rfl (w.heap.size + 1) 0 (tc t).toArray rfl rfl HT1.out infoTa (all_oneCell_toArray (tc_one t)) ?_; have HTR := Lib.hid (ta_stored _ _ t HT1.out); generalize hw8 : World.setCells v3 _ _ _ = w8 at *; have HB8 := Lib.hid (below_cells _ _ _ HB.out (Nat.le_succ _) hw8); clear hw8))
      refine bodyPost_ret (fin_ta rfl _ _ _ rfl t HTR.out) rfl ?_
      exact ⟨rfl, HB8.out⟩
    have hne : ¬ (true = false ∨ epoch < 1 ∨ 1048576 < epoch) := by simp; omega
    by_cases hn8 : 8 ≤ n
    · have hnI : (8 : Int) ≤ (n : Int) := by omega
      have hht : ht = (t, 7) := by rw [← HU.out, if_neg (by simpa using hne), if_pos (Or.inl hnI)]
      subst hht
      clear HU hne
      go_enter Try.func46, Try.ntmps46
      go_wp2_with (refine wpList_load_mid rfl 40 _ rfl w.heap.size 0 rfl (tc t) _ (HT.out _) Try.underlying40 rfl infoTa ?_)
      generalize hv2 : World.alloc (World.alloc w _) _ = v2
      refine (HR.out _).mono ?_
      rintro r v3 ⟨rfl, hb3⟩
      obtain ⟨hB, hz, hT3, ht0, ht1⟩ := two_ready hv2 rfl hb3
      have HB := Lib.hid hB
      have HT3 := Lib.hid hT3
      have HT0 := Lib.hid ht0
      have HT1 := Lib.hid ht1
      clear hv2 hb3 hB hT3 ht0 ht1 hlen
      go_wp2_with (first | (refine wpList_load_mid rfl 40 _ rfl w.heap.size 0 rfl (tc t) _ (HT3.out) Try.underlying40 rfl infoTa ?_) | (refine wpList_store_mid rfl 40 _ _ rfl (w.heap.size + 1) 0 (tc t).toArray rfl rfl HT1.out infoTa (all_oneCell_toArray (tc_one t)) ?_; have HTR := Lib.hid (ta_stored _ _ t HT1.out); generalize hw8 : World.setCells v3 _ _ _ = w8 at *; have HB8 := Lib.hid (below_cells _ _ _ HB.out (Nat.le_succ _) hw8); clear hw8))
      refine bodyPost_ret (fin_ta rfl _ _ _ rfl t HTR.out) rfl ?_
      exact ⟨rfl, HB8.out⟩
    have hnI : ¬ (8 : Int) ≤ (n : Int) := by omega
    have hnI2 : (n : Int) < 8 := by omega
    cases hwh : t.who n
    · have hht : ht = (t, 7) := by rw [← HU.out, if_neg (by simpa using hne), if_pos (Or.inr hwh)]
      subst hht
      clear HU hne
      go_enter Try.func46, Try.ntmps46
      go_wp2_with (refine wpList_load_mid rfl 40 _ rfl w.heap.size 0 rfl (tc t) _ (HT.out _) Try.underlying40 rfl infoTa ?_)
      generalize hv2 : World.alloc (World.alloc w _) _ = v2
      refine (HR.out _).mono ?_
      rintro r v3 ⟨rfl, hb3⟩
      obtain ⟨hB, hz, hT3, ht0, ht1⟩ := two_ready hv2 rfl hb3
      have HB := Lib.hid hB
      have HT3 := Lib.hid hT3
      have HT0 := Lib.hid ht0
      have HT1 := Lib.hid ht1
      clear hv2 hb3 hB hT3 ht0 ht1 hlen
      have qw := HT3.out.who (i := n) (by omega)
      rw [hwh, Nat.zero_add] at qw
      go_wp2_with (first | (refine wpList_load_mid rfl 40 _ rfl w.heap.size 0 rfl (tc t) _ (HT3.out) Try.underlying40 rfl infoTa ?_) | (refine wpList_store_mid rfl 40 _ _ rfl (w.heap.size + 1) 0 (tc t).toArray rfl rfl HT1.out infoTa (all_oneCell_toArray (tc_one t)) ?_; have HTR := Lib.hid (ta_stored _ _ t HT1.out); generalize hw8 : World.setCells v3 _ _ _ = w8 at *; have HB8 := Lib.hid (below_cells _ _ _ HB.out (Nat.le_succ _) hw8); clear hw8))
      refine bodyPost_ret (fin_ta rfl _ _ _ rfl t HTR.out) rfl ?_
      exact ⟨rfl, HB8.out⟩
    have hlt : ¬ (8 ≤ (n : Int) ∨ t.who n = false) := by rw [hwh]; simp; omega
    by_cases hep : epoch < t.epochs n
    · have hht : ht = (t, 10) := by rw [← HU.out, if_neg (by simpa using hne), if_neg hlt, if_pos hep]
      subst hht
      clear HU hne hlt
      go_enter Try.func46, Try.ntmps46
      go_wp2_with (refine wpList_load_mid rfl 40 _ rfl w.heap.size 0 rfl (tc t) _ (HT.out _) Try.underlying40 rfl infoTa ?_)
      generalize hv2 : World.alloc (World.alloc w _) _ = v2
      refine (HR.out _).mono ?_
      rintro r v3 ⟨rfl, hb3⟩
      obtain ⟨hB, hz, hT3, ht0, ht1⟩ := two_ready hv2 rfl hb3
      have HB := Lib.hid hB
      have HT3 := Lib.hid hT3
      have HT0 := Lib.hid ht0
      have HT1 := Lib.hid ht1
      clear hv2 hb3 hB hT3 ht0 ht1 hlen
      have qw := HT3.out.who (i := n) (by omega)
      have qe := HT3.out.epoch (i := n) (by omega)
      rw [hwh, Nat.zero_add] at qw
      rw [Nat.zero_add] at qe
      go_wp2_with (first | (refine wpList_load_mid rfl 40 _ rfl w.heap.size 0 rfl (tc t) _ (HT3.out) Try.underlying40 rfl infoTa ?_) | (refine wpList_store_mid rfl 40 _ _ rfl (w.heap.size + 1) 0 (tc t).toArray rfl rfl HT1.out infoTa (all_oneCell_toArray (tc_one t)) ?_; have HTR := Lib.hid (ta_stored _ _ t HT1.out); generalize hw8 : World.setCells v3 _ _ _ = w8 at *; have HB8 := Lib.hid (below_cells _ _ _ HB.out (Nat.le_succ _) hw8); clear hw8))
      refine bodyPost_ret (fin_ta rfl _ _ _ rfl t HTR.out) rfl ?_
      exact ⟨rfl, HB8.out⟩
    · have hht : ht = ({ t with epochs := upd t.epochs n epoch }, 0) := by rw [← HU.out, if_neg (by simpa using hne), if_neg hlt, if_neg hep]
      subst hht
      clear HU hne hlt
      go_enter Try.func46, Try.ntmps46
      go_wp2_with (refine wpList_load_mid rfl 40 _ rfl w.heap.size 0 rfl (tc t) _ (HT.out _) Try.underlying40 rfl infoTa ?_)
      generalize hv2 : World.alloc (World.alloc w _) _ = v2
      refine (HR.out _).mono ?_
      rintro r v3 ⟨rfl, hb3⟩
      obtain ⟨hB, hz, hT3, ht0, ht1⟩ := two_ready hv2 rfl hb3
      have HB := Lib.hid hB
      have HT3 := Lib.hid hT3
      have HT0 := Lib.hid ht0
      have HT1 := Lib.hid ht1
      clear hv2 hb3 hB hT3 ht0 ht1 hlen
      have qw := HT3.out.who (i := n) (by omega)
      have qe := HT3.out.epoch (i := n) (by omega)
      have qf := (HT0.out (16 + n) (by omega)).2
      rw [hwh, Nat.zero_add] at qw
      rw [Nat.zero_add] at qe qf
      have HTN := Lib.hid (HT3.out.set_epoch (n := n) (by omega) epoch)
      have HN1 := Lib.hid (there_set (c := w.heap.size) (o := 16 + n) (v := .int .i64 epoch) HT1.out)
      have HBN := Lib.hid (HB.out.setCell (p := ⟨w.heap.size, 16 + n, none⟩) (Nat.le_refl _) (.int .i64 epoch))
      go_wp2_with (first | (refine wpList_load_mid rfl 40 _ rfl w.heap.size 0 rfl (tc { t with epochs := upd t.epochs n epoch }) _ HTN.out Try.underlying40 rfl infoTa ?_) | (refine wpList_store_mid rfl 40 _ _ rfl (w.heap.size + 1) 0 (tc { t with epochs := upd t.epochs n epoch }).toArray rfl rfl HN1.out infoTa (all_oneCell_toArray (tc_one _)) ?_; have HTR := Lib.hid (ta_stored _ _ { t with epochs := upd t.epochs n epoch } HN1.out); generalize hw8 : World.setCells _ _ _ _ = w8 at *; have HB8 := Lib.hid (below_cells _ _ _ HBN.out (Nat.le_succ _) hw8); clear hw8))
      refine bodyPost_ret (fin_ta rfl _ _ _ rfl _ HTR.out) rfl ?_
      exact ⟨rfl, HB8.out⟩
end Go.Proofs.Ytdlfjbllmmkmkaa.Chair
