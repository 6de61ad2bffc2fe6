/- What the reference's tally.Hear answers. -/
import Derived.Test.YtdlfjbllmmkmkaaRTally
import Derived.Test.YtdlfjbllmmkmkaaTallyHear
namespace Go.Proofs.Ytdlfjbllmmkmkaa.Chair
open Go.RowKit Flat ChairSpec Go.Proofs.YtdlfjbllmmkmkaaW.PrintLast
set_option linter.unusedSimpArgs false
set_option linter.unusedVariables false
set_option maxRecDepth 100000
theorem infoRTa : (Try.prog.info? 72).map (·.size) = some 24 := by kernel_rfl
theorem infoAr : (Try.prog.info? 38).map (·.size) = some 8 := by kernel_rfl
theorem fin_rta {fn : Func} {p u : Tmp} (h : fn.results = #[.cell p 72, .tmp u]) (tmps : Array Value) (w : World) (b : Nat) (hp : tmps.getD p undef = .pointer (some ⟨b, 0, none⟩)) (t : Ta) (ht : TaAt w b 0 t) :
    (results fn tmps).run Try.prog w = .ok (.tuple #[.agg (tc t).toArray, tmps.getD u undef]) w := by
  have hl := run_loadVar_mid (P := Try.prog) w b 0 72 (tc t) _ ht Try.underlying72 rfl infoRTa
  rw [results_cell_tmp h, hp]
  simp [asAddr, hl]
/-! ### a part of a tally read and written -/
theorem range_split {w : World} {b o : Nat} {xs ys : List Value} (h : w.rangeAt b o (xs ++ ys)) : w.rangeAt b o xs ∧ w.rangeAt b (o + xs.length) ys := by
  refine ⟨fun j v hv => h j v ?_, fun j v hv => ?_⟩
  · rw [List.getElem?_append_left (List.getElem?_eq_some_iff.1 hv).1]; exact hv
  · have k := h (xs.length + j) v (by rw [List.getElem?_append_right (by omega), Nat.add_sub_cancel_left]; exact hv)
    rw [← Nat.add_assoc] at k
    exact k
theorem range_join {w : World} {b o : Nat} {xs ys : List Value} (h1 : w.rangeAt b o xs) (h2 : w.rangeAt b (o + xs.length) ys) : w.rangeAt b o (xs ++ ys) := fun j v hv => by
  by_cases hj : j < xs.length
  · rw [List.getElem?_append_left hj] at hv; exact h1 j v hv
  · rw [List.getElem?_append_right (by omega)] at hv
    have k := h2 (j - xs.length) v hv
    rw [show o + xs.length + (j - xs.length) = o + j by omega] at k
    exact k
theorem ta_parts {w : World} {b : Nat} {t : Ta} (h : TaAt w b 0 t) : w.rangeAt b 0 (wc t) ∧ w.rangeAt b 8 (vc t) ∧ w.rangeAt b 16 (ec t) := by
  obtain ⟨h1, h2⟩ := range_split h
  obtain ⟨h3, h4⟩ := range_split h2
  exact ⟨h1, h3, h4⟩
theorem ta_join {w : World} {b : Nat} {t : Ta} (h1 : w.rangeAt b 0 (wc t)) (h2 : w.rangeAt b 8 (vc t)) (h3 : w.rangeAt b 16 (ec t)) : TaAt w b 0 t := range_join h1 (range_join h2 h3)
theorem there_sub {w : World} {b n : Nat} (h : w.there b 0 n) (o m : Nat) (hm : o + m ≤ n) : w.there b o m := fun j hj => by
  have := h (o + j) (by omega)
  rw [Nat.zero_add] at this
  exact this
theorem ta_epochs {w : World} {b : Nat} {t : Ta} (h : TaAt w b 0 t) (ht : w.there b 0 24) (f : Nat → Int) : TaAt (w.setCells b 16 (ec { t with epochs := f })) b 0 { t with epochs := f } := by
  obtain ⟨h1, h2, h3⟩ := ta_parts h
  refine ta_join ?_ ?_ ?_
  · exact World.rangeAt_setCells_apart h1 b 16 _ (.inr (.inl (by rw [wc_len]; decide)))
  · exact World.rangeAt_setCells_apart h2 b 16 _ (.inr (.inl (by rw [vc_len]; decide)))
  · exact World.rangeAt_setCells_same _ b 16 _ (by rw [ec_len]; exact there_sub ht 16 8 (by decide))
theorem ta_votes {w : World} {b : Nat} {t : Ta} (h : TaAt w b 0 t) (ht : w.there b 0 24) (f : Nat → Int) : TaAt (w.setCells b 8 (vc { t with votes := f })) b 0 { t with votes := f } := by
  obtain ⟨h1, h2, h3⟩ := ta_parts h
  refine ta_join ?_ ?_ ?_
  · exact World.rangeAt_setCells_apart h1 b 8 _ (.inr (.inl (by rw [wc_len]; decide)))
  · exact World.rangeAt_setCells_same _ b 8 _ (by rw [vc_len]; exact there_sub ht 8 8 (by decide))
  · exact World.rangeAt_setCells_apart h3 b 8 _ (.inr (.inr (by rw [vc_len]; decide)))
/-- A row of eight numbers. -/
def ac (f : Nat → Int) : List Value := (List.range 8).map fun i => .int .i64 (f i)
theorem ac_len (f : Nat → Int) : (ac f).length = 8 := rfl
theorem ac_one (f : Nat → Int) : ∀ v ∈ ac f, v.oneCell' = true := by
  intro v hv
  simp only [ac, List.mem_map] at hv
  obtain ⟨i, _, rfl⟩ := hv
  rfl
theorem ac_at (f : Nat → Int) {i : Nat} (h : i < 8) : (ac f)[i]? = some (.int .i64 (f i)) := by simp [ac, h]
theorem there_new8 (v : World) (B : Array Value) (t : TypeId) (hB : B.size = 8) : (v.alloc (.cells B t)).there v.heap.size 0 8 := fun j hj => by
  refine ⟨?_, World.frozen?_alloc_at _ _ _ _ rfl⟩
  rw [Nat.zero_add, World.cell?_alloc_new, Array.getElem?_eq_getElem (by omega)]; rfl
theorem new_arr {v w5 : World} {B : Array Value} {ty : TypeId} (f : Nat → Int) (hB : B.size = 8) (e : (v.alloc (.cells B ty)).setCells v.heap.size 0 (ac f).toArray.toList = w5) : Below v.heap.size v w5 ∧ v.heap.size < w5.heap.size ∧ w5.rangeAt v.heap.size 0 (ac f) ∧ w5.there v.heap.size 0 8 := by
  have ht := there_new8 v B ty hB
  have hb := below_cells _ _ _ ((Below.refl v.heap.size v).alloc (Nat.le_refl _) (.cells B ty)) (Nat.le_refl _) e
  have hr : w5.rangeAt v.heap.size 0 (ac f) := by rw [← e]; exact World.rangeAt_setCells_same _ _ _ _ (by simpa [ac_len] using ht)
  exact ⟨hb, Flat.cell_lt (hr 0 _ (ac_at f (i := 0) (by decide))), hr, by rw [← e]; exact World.there_setCells ht _ _ _⟩
theorem arr_set {w : World} {b : Nat} {f : Nat → Int} (h : w.rangeAt b 0 (ac f)) {n : Nat} (hn : n < 8) (x : Int) : (w.setCell ⟨b, n, none⟩ (.int .i64 x)).rangeAt b 0 (ac (upd f n x)) := fun j v hv => by
  have hj : j < 8 := by have := (List.getElem?_eq_some_iff.1 hv).1; rw [ac_len] at this; exact this
  rw [ac_at _ hj] at hv
  rw [Nat.zero_add]
  have k := h j _ (ac_at f hj)
  rw [Nat.zero_add] at k
  by_cases e : j = n
  · subst e
    rw [← hv, upd, if_pos rfl]
    exact World.cell?_setCell_same _ _ _ k
  · rw [← hv, upd, if_neg e]
    exact (World.cell?_setCell_other _ _ _ _ (by first | (simp; done) | (simp; omega))).trans k
set_option maxHeartbeats 8000000 in
theorem rhear_ta (t : Ta) (n : Nat) (epoch : Int) (hn : n ≤ 255) (w : World) : Calls Try.prog 52 #[.agg (tc t).toArray, .int .u8 (n : Int), .int .i64 epoch] w fun r w' => r = .returned (.tuple #[.agg (tc (hearT t n epoch).1).toArray, .int .i64 (hearT t n epoch).2]) ∧ Below w.heap.size w w' := by
  have HL : Hid ((tc t).toArray.size = 24) := Lib.hid (by simp [tc_len])
  have HR := Lib.hid (fun W => rright_ta t W)
  have HT := Lib.hid (fun B => two_lo t w 72 72 B)
  have hlen := HL.out
  obtain ⟨ht, HH⟩ : ∃ ht, Hid (hearT t n epoch = ht) := ⟨_, Lib.hid rfl⟩
  rw [HH.out]
  have hu := HH.out
  rw [hearT, Int.toNat_natCast] at hu
  have HU := Lib.hid hu
  clear hu HH
  cases hr : rightT t
  · simp only [hr] at HR HU
    have hht : ht = (t, 2) := by rw [← HU.out, if_pos (Or.inl trivial)]
    subst hht
    clear hr HU
    go_enter Try.func52, Try.ntmps52
    go_wp2_with (refine wpList_load_mid rfl 72 _ rfl w.heap.size 0 rfl (tc t) _ (HT.out _) Try.underlying72 rfl infoRTa ?_)
    generalize hv2 : World.alloc (World.alloc w _) _ = v2
    refine (HR.out _).mono ?_
    rintro r v3 ⟨rfl, hb3⟩
    obtain ⟨hB, hz, hT3, ht0, ht1⟩ := two_ready hv2 rfl hb3
    have HB := Lib.hid hB
    have HT3 := Lib.hid hT3
    have HT0 := Lib.hid ht0
    have HT1 := Lib.hid ht1
    clear hv2 hb3 hB hT3 ht0 ht1 hlen
    go_wp2_with (first | (refine wpList_load_mid rfl 72 _ rfl w.heap.size 0 rfl (tc t) _ (HT3.out) Try.underlying72 rfl infoRTa ?_) | (refine wpList_store_mid rfl 72 _ _ rfl (w.heap.size + 1) 0 (tc t).toArray rfl rfl HT1.out infoRTa (all_oneCell_toArray (tc_one t)) ?_; have HTR := Lib.hid (ta_stored _ _ t HT1.out); generalize hw8 : World.setCells v3 _ _ _ = w8 at *; have HB8 := Lib.hid (below_cells _ _ _ HB.out (Nat.le_succ _) hw8); clear hw8))
    refine bodyPost_ret (fin_rta rfl _ _ _ rfl t HTR.out) rfl ?_
    exact ⟨rfl, HB8.out⟩
  · simp only [hr] at HR HU
    clear hr
    by_cases he1 : epoch < 1
    · have hht : ht = (t, 2) := by rw [← HU.out, if_pos (Or.inr (Or.inl he1))]
      subst hht
      clear HU
      go_enter Try.func52, Try.ntmps52
      go_wp2_with (refine wpList_load_mid rfl 72 _ rfl w.heap.size 0 rfl (tc t) _ (HT.out _) Try.underlying72 rfl infoRTa ?_)
      generalize hv2 : World.alloc (World.alloc w _) _ = v2
      refine (HR.out _).mono ?_
      rintro r v3 ⟨rfl, hb3⟩
      obtain ⟨hB, hz, hT3, ht0, ht1⟩ := two_ready hv2 rfl hb3
      have HB := Lib.hid hB
      have HT3 := Lib.hid hT3
      have HT0 := Lib.hid ht0
      have HT1 := Lib.hid ht1
      clear hv2 hb3 hB hT3 ht0 ht1 hlen
      go_wp2_with (first | (refine wpList_load_mid rfl 72 _ rfl w.heap.size 0 rfl (tc t) _ (HT3.out) Try.underlying72 rfl infoRTa ?_) | (refine wpList_store_mid rfl 72 _ _ rfl (w.heap.size + 1) 0 (tc t).toArray rfl rfl HT1.out infoRTa (all_oneCell_toArray (tc_one t)) ?_; have HTR := Lib.hid (ta_stored _ _ t HT1.out); generalize hw8 : World.setCells v3 _ _ _ = w8 at *; have HB8 := Lib.hid (below_cells _ _ _ HB.out (Nat.le_succ _) hw8); clear hw8))
      refine bodyPost_ret (fin_rta rfl _ _ _ rfl t HTR.out) rfl ?_
      exact ⟨rfl, HB8.out⟩
    by_cases he2 : 1048576 < epoch
    · have hht : ht = (t, 2) := by rw [← HU.out, if_pos (Or.inr (Or.inr he2))]
      subst hht
      clear HU
      go_enter Try.func52, Try.ntmps52
      go_wp2_with (refine wpList_load_mid rfl 72 _ rfl w.heap.size 0 rfl (tc t) _ (HT.out _) Try.underlying72 rfl infoRTa ?_)
      generalize hv2 : World.alloc (World.alloc w _) _ = v2
      refine (HR.out _).mono ?_
      rintro r v3 ⟨rfl, hb3⟩
      obtain ⟨hB, hz, hT3, ht0, ht1⟩ := two_ready hv2 rfl hb3
      have HB := Lib.hid hB
      have HT3 := Lib.hid hT3
      have HT0 := Lib.hid ht0
      have HT1 := Lib.hid ht1
      clear hv2 hb3 hB hT3 ht0 ht1 hlen
      go_wp2_with (first | (refine wpList_load_mid rfl 72 _ rfl w.heap.size 0 rfl (tc t) _ (HT3.out) Try.underlying72 rfl infoRTa ?_) | (refine wpList_store_mid rfl 72 _ _ rfl (w.heap.size + 1) 0 (tc t).toArray rfl rfl HT1.out infoRTa (all_oneCell_toArray (tc_one t)) ?_; have HTR := Lib.hid (ta_stored _ _ t HT1.out); generalize hw8 : World.setCells v3 _ _ _ = w8 at *; have HB8 := Lib.hid (below_cells _ _ _ HB.out (Nat.le_succ _) hw8); clear hw8))
      refine bodyPost_ret (fin_rta rfl _ _ _ rfl t HTR.out) rfl ?_
      exact ⟨rfl, HB8.out⟩
    have hne : ¬ (true = false ∨ epoch < 1 ∨ 1048576 < epoch) := by simp; omega
    by_cases hn8 : 8 ≤ n
    · have hnI : (8 : Int) ≤ (n : Int) := by omega
      have hht : ht = (t, 7) := by rw [← HU.out, if_neg (by simpa using hne), if_pos (Or.inl hnI)]
      subst hht
      clear HU hne
      go_enter Try.func52, Try.ntmps52
      go_wp2_with (refine wpList_load_mid rfl 72 _ rfl w.heap.size 0 rfl (tc t) _ (HT.out _) Try.underlying72 rfl infoRTa ?_)
      generalize hv2 : World.alloc (World.alloc w _) _ = v2
      refine (HR.out _).mono ?_
      rintro r v3 ⟨rfl, hb3⟩
      obtain ⟨hB, hz, hT3, ht0, ht1⟩ := two_ready hv2 rfl hb3
      have HB := Lib.hid hB
      have HT3 := Lib.hid hT3
      have HT0 := Lib.hid ht0
      have HT1 := Lib.hid ht1
      clear hv2 hb3 hB hT3 ht0 ht1 hlen
      go_wp2_with (first | (refine wpList_load_mid rfl 72 _ rfl w.heap.size 0 rfl (tc t) _ (HT3.out) Try.underlying72 rfl infoRTa ?_) | (refine wpList_store_mid rfl 72 _ _ rfl (w.heap.size + 1) 0 (tc t).toArray rfl rfl HT1.out infoRTa (all_oneCell_toArray (tc_one t)) ?_; have HTR := Lib.hid (ta_stored _ _ t HT1.out); generalize hw8 : World.setCells v3 _ _ _ = w8 at *; have HB8 := Lib.hid (below_cells _ _ _ HB.out (Nat.le_succ _) hw8); clear hw8))
      refine bodyPost_ret (fin_rta rfl _ _ _ rfl t HTR.out) rfl ?_
      exact ⟨rfl, HB8.out⟩
    have hnI : ¬ (8 : Int) ≤ (n : Int) := by omega
    have hnI2 : (n : Int) < 8 := by omega
    cases hwh : t.who n
    · have hht : ht = (t, 7) := by rw [← HU.out, if_neg (by simpa using hne), if_pos (Or.inr hwh)]
      subst hht
      clear HU hne
      go_enter Try.func52, Try.ntmps52
      go_wp2_with (refine wpList_load_mid rfl 72 _ rfl w.heap.size 0 rfl (tc t) _ (HT.out _) Try.underlying72 rfl infoRTa ?_)
      generalize hv2 : World.alloc (World.alloc w _) _ = v2
      refine (HR.out _).mono ?_
      rintro r v3 ⟨rfl, hb3⟩
      obtain ⟨hB, hz, hT3, ht0, ht1⟩ := two_ready hv2 rfl hb3
      have HB := Lib.hid hB
      have HT3 := Lib.hid hT3
      have HT0 := Lib.hid ht0
      have HT1 := Lib.hid ht1
      clear hv2 hb3 hB hT3 ht0 ht1 hlen
      have qw := HT3.out.who (i := n) (by omega)
      rw [hwh, Nat.zero_add] at qw
      go_wp2_with (first | (refine wpList_load_mid rfl 72 _ rfl w.heap.size 0 rfl (tc t) _ (HT3.out) Try.underlying72 rfl infoRTa ?_) | (refine wpList_store_mid rfl 72 _ _ rfl (w.heap.size + 1) 0 (tc t).toArray rfl rfl HT1.out infoRTa (all_oneCell_toArray (tc_one t)) ?_; have HTR := Lib.hid (ta_stored _ _ t HT1.out); generalize hw8 : World.setCells v3 _ _ _ = w8 at *; have HB8 := Lib.hid (below_cells _ _ _ HB.out (Nat.le_succ _) hw8); clear hw8))
      refine bodyPost_ret (fin_rta rfl _ _ _ rfl t HTR.out) rfl ?_
      exact ⟨rfl, HB8.out⟩
    have hlt : ¬ (8 ≤ (n : Int) ∨ t.who n = false) := by rw [hwh]; simp; omega
    by_cases hep : epoch < t.epochs n
    · have hht : ht = (t, 10) := by rw [← HU.out, if_neg (by simpa using hne), if_neg hlt, if_pos hep]
      subst hht
      clear HU hne hlt
      go_enter Try.func52, Try.ntmps52
      go_wp2_with (refine wpList_load_mid rfl 72 _ rfl w.heap.size 0 rfl (tc t) _ (HT.out _) Try.underlying72 rfl infoRTa ?_)
      generalize hv2 : World.alloc (World.alloc w _) _ = v2
      refine (HR.out _).mono ?_
      rintro r v3 ⟨rfl, hb3⟩
      obtain ⟨hB, hz, hT3, ht0, ht1⟩ := two_ready hv2 rfl hb3
      have HB := Lib.hid hB
      have HT3 := Lib.hid hT3
      have HT0 := Lib.hid ht0
      have HT1 := Lib.hid ht1
      clear hv2 hb3 hB hT3 ht0 ht1 hlen
      have qw := HT3.out.who (i := n) (by omega)
      have qe := HT3.out.epoch (i := n) (by omega)
      rw [hwh, Nat.zero_add] at qw
      rw [Nat.zero_add] at qe
      go_wp2_with (first | (refine wpList_load_mid rfl 72 _ rfl w.heap.size 0 rfl (tc t) _ (HT3.out) Try.underlying72 rfl infoRTa ?_) | (refine wpList_store_mid rfl 72 _ _ rfl (w.heap.size + 1) 0 (tc t).toArray rfl rfl HT1.out infoRTa (all_oneCell_toArray (tc_one t)) ?_; have HTR := Lib.hid (ta_stored _ _ t HT1.out); generalize hw8 : World.setCells v3 _ _ _ = w8 at *; have HB8 := Lib.hid (below_cells _ _ _ HB.out (Nat.le_succ _) hw8); clear hw8))
      refine bodyPost_ret (fin_rta rfl _ _ _ rfl t HTR.out) rfl ?_
      exact ⟨rfl, HB8.out⟩
    · have hht : ht = ({ t with epochs := upd t.epochs n epoch }, 0) := by rw [← HU.out, if_neg (by simpa using hne), if_neg hlt, if_neg hep]
      subst hht
      clear HU hne hlt
      go_enter Try.func52, Try.ntmps52
      go_wp2_with (refine wpList_load_mid rfl 72 _ rfl w.heap.size 0 rfl (tc t) _ (HT.out _) Try.underlying72 rfl infoRTa ?_)
      generalize hv2 : World.alloc (World.alloc w _) _ = v2
      refine (HR.out _).mono ?_
      rintro r v3 ⟨rfl, hb3⟩
      obtain ⟨hB, hz, hT3, ht0, ht1⟩ := two_ready hv2 rfl hb3
      have HB := Lib.hid hB
      have HT3 := Lib.hid hT3
      have HE3 := Lib.hid (show v3.rangeAt w.heap.size 16 (ac t.epochs) from (ta_parts hT3).2.2)
      have HT0 := Lib.hid ht0
      have HT1 := Lib.hid ht1
      have HN8 := Lib.hid (fun B hB => there_new8 v3 B 38 hB)
      clear hv2 hb3 hB hT3 ht0 ht1 hlen
      have qw := HT3.out.who (i := n) (by omega)
      have qe := HT3.out.epoch (i := n) (by omega)
      rw [hwh, Nat.zero_add] at qw
      rw [Nat.zero_add] at qe
      go_upto_region 8 with (first | (refine wpList_load_mid rfl 38 _ rfl w.heap.size 16 rfl (ac t.epochs) _ HE3.out Try.underlying38 rfl infoAr ?_) | (refine wpList_store_mid rfl 38 _ _ rfl v3.heap.size 0 (ac t.epochs).toArray rfl rfl (HN8.out _ rfl) infoAr (all_oneCell_toArray (ac_one _)) ?_; generalize hw5 : World.setCells _ _ _ _ = w5 at *))
      obtain ⟨hb5, hz5, hr5, ht5⟩ := new_arr t.epochs rfl hw5
      have HT5 := Lib.hid (HT3.out.below hb5)
      have HB5 := Lib.hid (HB.out.trans (hb5.mono HB.out.size))
      have HW0 := Lib.hid (show w5.there w.heap.size 0 24 from fun j hj => ⟨by rw [hb5.cell (p := ⟨w.heap.size, 0 + j, none⟩) (show w.heap.size < v3.heap.size by omega)]; exact (HT0.out j hj).1, by rw [World.frozen?_of_block (a := ⟨w.heap.size, 0 + j, none⟩) (hb5.block w.heap.size (by omega))]; exact (HT0.out j hj).2⟩)
      have HW1 := Lib.hid (show w5.there (w.heap.size + 1) 0 24 from fun j hj => ⟨by rw [hb5.cell (p := ⟨w.heap.size + 1, 0 + j, none⟩) (show w.heap.size + 1 < v3.heap.size by omega)]; exact (HT1.out j hj).1, by rw [World.frozen?_of_block (a := ⟨w.heap.size + 1, 0 + j, none⟩) (hb5.block (w.heap.size + 1) (by omega))]; exact (HT1.out j hj).2⟩)
      have hlv : w.heap.size + 1 < v3.heap.size := hz
      have qn := hr5 n _ (ac_at t.epochs (by omega))
      have qf := (ht5 n (by omega)).2
      rw [Nat.zero_add] at qn qf
      have HR5 := Lib.hid hr5
      clear hw5 hb5 HT3 HE3 HT0 HT1 HN8 HB qw qe ht5 hr5
      generalize v3.heap.size = b8 at *
      go_upto_region 9 with fail
      generalize hw6 : World.setCell w5 _ _ = w6
      have hb6 : Below b8 w5 w6 := by rw [← hw6]; exact (Below.refl b8 w5).setCell (p := ⟨b8, n, none⟩) (Nat.le_refl _) _
      have HR6 := Lib.hid (show w6.rangeAt b8 0 (ac (upd t.epochs n epoch)) by rw [← hw6]; exact arr_set HR5.out (by omega) epoch)
      have HT6 := Lib.hid (show TaAt w6 w.heap.size 0 t from fun j v hv => (hb6.cell (p := ⟨w.heap.size, 0 + j, none⟩) (show w.heap.size < b8 by omega)).trans (HT5.out j v hv))
      have HV0 := Lib.hid (show w6.there w.heap.size 0 24 by rw [← hw6]; exact there_set HW0.out)
      have HV1 := Lib.hid (show w6.there (w.heap.size + 1) 0 24 by rw [← hw6]; exact there_set HW1.out)
      have HB6 := Lib.hid (HB5.out.trans (hb6.mono (by omega)))
      have HBF := Lib.hid (show (tc { t with epochs := upd t.epochs n epoch }).toArray.size = 24 by simp [tc_len])
      clear hw6 hb6 HR5 HT5 HW0 HW1 HB5 qn qf
      go_upto_region 10 with (first
        | (refine wpList_load_mid rfl 38 _ rfl b8 0 rfl (ac (upd t.epochs n epoch)) _ HR6.out Try.underlying38 rfl infoAr ?_)
        | (refine wpList_store_mid rfl 38 _ _ rfl w.heap.size 16 (ac (upd t.epochs n epoch)).toArray rfl rfl (there_sub HV0.out 16 8 (by decide)) infoAr (all_oneCell_toArray (ac_one _)) ?_; generalize hw7 : World.setCells w6 _ _ _ = w7))
      have HT7 := Lib.hid (show TaAt w7 w.heap.size 0 { t with epochs := upd t.epochs n epoch } by rw [← hw7]; exact ta_epochs HT6.out HV0.out (upd t.epochs n epoch))
      have HV7 := Lib.hid (show w7.there (w.heap.size + 1) 0 24 by rw [← hw7]; exact World.there_setCells HV1.out _ _ _)
      have HB7 := Lib.hid (below_cells _ _ _ HB6.out (Nat.le_refl _) hw7)
      clear hw7 HR6 HT6 HV0 HV1 HB6
      obtain ⟨u, hu⟩ : ∃ u : Ta, { t with epochs := upd t.epochs n epoch } = u := ⟨_, rfl⟩
      rw [hu] at HT7
      have HUE := Lib.hid hu
      clear hu
      go_wp2_with (first
        | (refine wpList_load_mid rfl 72 _ rfl w.heap.size 0 rfl (tc u) _ HT7.out Try.underlying72 rfl infoRTa ?_)
        | (refine wpList_store_mid rfl 72 _ _ rfl (w.heap.size + 1) 0 (tc u).toArray rfl rfl HV7.out infoRTa (all_oneCell_toArray (tc_one _)) ?_; generalize hw8 : World.setCells w7 _ _ _ = w8))
      have HTR := Lib.hid (show TaAt w8 (w.heap.size + 1) 0 u by rw [← hw8]; exact ta_stored _ _ u HV7.out)
      have HB8 := Lib.hid (below_cells _ _ _ HB7.out (Nat.le_succ _) hw8)
      refine bodyPost_ret (fin_rta rfl _ _ _ rfl _ HTR.out) rfl ?_
      have hu := HUE.out
      subst hu
      exact ⟨rfl, HB8.out⟩
end Go.Proofs.Ytdlfjbllmmkmkaa.Chair
