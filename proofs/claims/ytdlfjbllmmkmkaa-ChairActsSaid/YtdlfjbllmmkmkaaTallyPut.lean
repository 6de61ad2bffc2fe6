/- What tally.Put and tally.Outcome answer. -/
import Derived.Test.YtdlfjbllmmkmkaaTallyHear
namespace Go.Proofs.Ytdlfjbllmmkmkaa.Chair
open Go.RowKit Flat ChairSpec Go.Proofs.YtdlfjbllmmkmkaaW.PrintLast
set_option linter.unusedSimpArgs false
set_option linter.unusedVariables false
set_option maxRecDepth 100000
theorem there_below {w w' : World} {b o n : Nat} (h : w.there b o n) (hb : Below w.heap.size w w') : w'.there b o n := fun j hj => by
  obtain ⟨h1, h2⟩ := h j hj
  obtain ⟨u, hu⟩ := Option.isSome_iff_exists.1 h1
  have hl : b < w.heap.size := Flat.cell_lt hu
  exact ⟨by rw [hb.cell (p := ⟨b, o + j, none⟩) hl]; exact h1, (hb.frozen (p := ⟨b, o + j, none⟩) hl).trans h2⟩
/-- A tally stored in a block of its own. -/
theorem there_new (v : World) (B : Array Value) (t : TypeId) (hB : B.size = 24) : (v.alloc (.cells B t)).there v.heap.size 0 24 := fun j hj => by
  refine ⟨?_, World.frozen?_alloc_at _ _ _ _ rfl⟩
  rw [Nat.zero_add, World.cell?_alloc_new, Array.getElem?_eq_getElem (by omega)]; rfl
theorem new_ta {v w5 : World} {B : Array Value} {ty : TypeId} (u : Ta) (hB : B.size = 24) (e : (v.alloc (.cells B ty)).setCells v.heap.size 0 (tc u).toArray.toList = w5) : Below v.heap.size v w5 ∧ v.heap.size < w5.heap.size ∧ TaAt w5 v.heap.size 0 u ∧ w5.there v.heap.size 0 24 := by
  have ht := there_new v B ty hB
  have hb := below_cells _ _ _ ((Below.refl v.heap.size v).alloc (Nat.le_refl _) (.cells B ty)) (Nat.le_refl _) e
  refine ⟨hb, ?_, ?_, ?_⟩
  · have h1 := ta_stored _ _ u ht
    rw [e] at h1
    exact Flat.cell_lt (h1 0 _ (tc_who u (i := 0) (by decide)))
  · rw [← e]; exact ta_stored _ _ u ht
  · rw [← e]; exact World.there_setCells ht _ _ _
theorem hear_ok {t : Ta} {n : Nat} {epoch : Int} (h : (hearT t n epoch).2 = 0) : n < 8 := by
  rw [hearT] at h
  split at h
  · simp at h
  split at h
  · simp at h
  · rename_i h2
    simp only [not_or] at h2
    omega
set_option maxHeartbeats 8000000 in
theorem put_ta (t : Ta) (n : Nat) (epoch vote : Int) (hn : n ≤ 255) (w : World) : Calls Try.prog 44 #[.agg (tc t).toArray, .int .u8 (n : Int), .int .i64 epoch, .int .i64 vote] w fun r w' => r = .returned (.tuple #[.agg (tc (putT t n epoch vote).1).toArray, .int .i64 (putT t n epoch vote).2]) ∧ Below w.heap.size w w' := by
  have HL : Hid ((tc t).toArray.size = 24) := Lib.hid (by simp [tc_len])
  have HT := Lib.hid (fun B => two_lo t w 40 40 B)
  have hlen := HL.out
  obtain ⟨ht, HH⟩ : ∃ ht, Hid (putT t n epoch vote = ht) := ⟨_, Lib.hid rfl⟩
  rw [HH.out]
  have hu := HH.out
  rw [putT, Int.toNat_natCast] at hu
  have HU := Lib.hid hu
  clear hu HH
  by_cases hv : vote ≠ 1 ∧ vote ≠ 2
  · have hht : ht = (t, 2) := by rw [← HU.out, if_pos hv]
    subst hht
    clear HU
    have hv1 : (vote != 1) = true := bne_iff_ne.2 hv.1
    have hv2 : (vote != 2) = true := bne_iff_ne.2 hv.2
    have hv3 : (vote == 1) = false := beq_eq_false_iff_ne.2 hv.1
    have hv4 : (vote == 2) = false := beq_eq_false_iff_ne.2 hv.2
    have HTH := Lib.hid (fun B hB => there_hi t w 40 40 B hB)
    have HBB := Lib.hid (fun B => (two_blocks (w := w) (A := (tc t).toArray) (B := B) (t1 := 40) (t2 := 40) rfl).1)
    go_enter Try.func44, Try.ntmps44
    go_wp2_with (first | (refine wpList_load_mid rfl 40 _ rfl (w.heap.size) 0 rfl (tc t) _ (HT.out _) Try.underlying40 rfl infoTa ?_) | (refine wpList_store_mid rfl 40 _ _ rfl (w.heap.size + 1) 0 (tc t).toArray rfl rfl (HTH.out _ rfl) infoTa (all_oneCell_toArray (tc_one _)) ?_; generalize hw8 : World.setCells _ _ _ _ = w8 at *; have HTR := Lib.hid (show TaAt w8 (w.heap.size + 1) 0 t by rw [← hw8]; exact ta_stored _ _ t (HTH.out _ rfl)); have HB8 := Lib.hid (below_cells _ _ _ (HBB.out _) (Nat.le_succ _) hw8); clear hw8))
    refine bodyPost_ret (fin_ta rfl _ _ _ rfl _ HTR.out) rfl ?_
    exact ⟨rfl, HB8.out⟩
  · have hvv : vote = 1 ∨ vote = 2 := by omega
    have hnv : ¬ (vote ≠ 1 ∧ vote ≠ 2) := hv
    have HE := Lib.hid (fun W => hear_ta t n epoch hn W)
    have HOK := Lib.hid (hear_ok (t := t) (n := n) (epoch := epoch))
    obtain ⟨uu, HUU⟩ : ∃ uu, Hid (hearT t n epoch = uu) := ⟨_, Lib.hid rfl⟩
    have hu := HU.out
    rw [if_neg hnv] at hu
    rw [HUU.out] at hu HE HOK
    have HU2 := Lib.hid hu
    clear hu HU HUU hv
    obtain ⟨u, e⟩ := uu
    dsimp only at HU2 HE HOK
    rcases hvv with rfl | rfl
    · have hcase : True := trivial
      go_enter Try.func44, Try.ntmps44
      go_wp2_with (refine wpList_load_mid rfl 40 _ rfl (w.heap.size) 0 rfl (tc t) _ (HT.out _) Try.underlying40 rfl infoTa ?_)
      generalize hv2 : World.alloc (World.alloc w _) _ = v2
      refine (HE.out _).mono ?_
      rintro r v3 ⟨rfl, hb3⟩
      obtain ⟨hB, hz, hT3, ht0, ht1⟩ := two_ready hv2 rfl hb3
      have HB := Lib.hid hB
      have HT3 := Lib.hid hT3
      have HT1 := Lib.hid ht1
      have HNEW := Lib.hid (fun B hB => there_new v3 B 40 hB)
      clear hv2 hb3 hB hT3 ht0 ht1 hlen
      go_upto_if 26 with (first | (refine wpList_store_mid rfl 40 _ _ rfl (v3.heap.size) 0 (tc u).toArray rfl rfl (HNEW.out _ rfl) infoTa (all_oneCell_toArray (tc_one _)) ?_; generalize hw5 : World.setCells _ _ _ _ = w5 at *))
      obtain ⟨hb5, hz5, hU5, hth5⟩ := new_ta u rfl hw5
      have HB5 := Lib.hid (HB.out.trans (hb5.mono (by omega)))
      have HT5 := Lib.hid (HT3.out.below hb5)
      have HT15 := Lib.hid (there_below HT1.out hb5)
      have HU5 := Lib.hid hU5
      have HTU5 := Lib.hid hth5
      have h31 : w.heap.size + 1 < v3.heap.size := hz
      clear hw5 hb5 hU5 hth5 HT3 HT1 HB HNEW
      by_cases he : e = 0
      · subst he
        have hn8 := HOK.out rfl
        have hn8I : (n : Int) < 8 := by omega
        have qv := HU5.out.vote hn8
        have qf := (HTU5.out (8 + n) (by omega)).2
        rw [Nat.zero_add] at qv qf
        by_cases h0 : u.votes n = 0
        · have hht : ht = ({ u with votes := upd u.votes n 1 }, 0) := by rw [← HU2.out, if_neg (by simp), if_pos h0]
          subst hht
          have HTN := Lib.hid (HU5.out.set_vote hn8 1)
          have HN1 := Lib.hid (there_set (c := v3.heap.size) (o := 8 + n) (v := .int .i64 1) HT15.out)
          have HBN := Lib.hid (HB5.out.setCell (p := ⟨v3.heap.size, 8 + n, none⟩) (Nat.le_trans (Nat.le_succ _) (Nat.le_of_lt h31)) (.int .i64 1))
          have hv0 : (u.votes n == 0) = true := by rw [h0]; rfl
          go_wp2_with (first | (refine wpList_load_mid rfl 40 _ rfl (v3.heap.size) 0 rfl (tc { u with votes := upd u.votes n 1 }) _ (HTN.out) Try.underlying40 rfl infoTa ?_) | (refine wpList_store_mid rfl 40 _ _ rfl (w.heap.size + 1) 0 (tc { u with votes := upd u.votes n 1 }).toArray rfl rfl (HN1.out) infoTa (all_oneCell_toArray (tc_one _)) ?_; have HTR := Lib.hid (ta_stored _ _ ({ u with votes := upd u.votes n 1 }) (HN1.out)); generalize hw8 : World.setCells _ _ _ _ = w8 at *; have HB8 := Lib.hid (below_cells _ _ _ (HBN.out) (Nat.le_succ _) hw8); clear hw8))
          refine bodyPost_ret (fin_ta rfl _ _ _ rfl _ HTR.out) rfl ?_
          exact ⟨rfl, HB8.out⟩
        · have hv0 : (u.votes n == 0) = false := beq_eq_false_iff_ne.2 h0
          by_cases h1 : u.votes n = 1
          · have hht : ht = (u, 0) := by rw [← HU2.out, if_neg (by simp), if_neg h0, if_neg (by simp [h1])]
            subst hht
            have hvn : (u.votes n != 1) = false := by rw [h1]; rfl
            have hvq : (u.votes n == 1) = true := by rw [h1]; rfl
            go_wp2_with (first | (refine wpList_load_mid rfl 40 _ rfl (v3.heap.size) 0 rfl (tc u) _ (HU5.out) Try.underlying40 rfl infoTa ?_) | (refine wpList_store_mid rfl 40 _ _ rfl (w.heap.size + 1) 0 (tc u).toArray rfl rfl (HT15.out) infoTa (all_oneCell_toArray (tc_one _)) ?_; have HTR := Lib.hid (ta_stored _ _ (u) (HT15.out)); generalize hw8 : World.setCells _ _ _ _ = w8 at *; have HB8 := Lib.hid (below_cells _ _ _ (HB5.out) (Nat.le_succ _) hw8); clear hw8))
            refine bodyPost_ret (fin_ta rfl _ _ _ rfl _ HTR.out) rfl ?_
            exact ⟨rfl, HB8.out⟩
          · have hht : ht = (t, 8) := by rw [← HU2.out, if_neg (by simp), if_neg h0, if_pos h1]
            subst hht
            have hvn : (u.votes n != 1) = true := bne_iff_ne.2 h1
            have hvq : (u.votes n == 1) = false := beq_eq_false_iff_ne.2 h1
            go_wp2_with (first | (refine wpList_load_mid rfl 40 _ rfl (w.heap.size) 0 rfl (tc t) _ (HT5.out) Try.underlying40 rfl infoTa ?_) | (refine wpList_store_mid rfl 40 _ _ rfl (w.heap.size + 1) 0 (tc t).toArray rfl rfl (HT15.out) infoTa (all_oneCell_toArray (tc_one _)) ?_; have HTR := Lib.hid (ta_stored _ _ (t) (HT15.out)); generalize hw8 : World.setCells _ _ _ _ = w8 at *; have HB8 := Lib.hid (below_cells _ _ _ (HB5.out) (Nat.le_succ _) hw8); clear hw8))
            refine bodyPost_ret (fin_ta rfl _ _ _ rfl _ HTR.out) rfl ?_
            exact ⟨rfl, HB8.out⟩
      · have hht : ht = (t, e) := by rw [← HU2.out, if_pos he]
        subst hht
        have he1 : (e != 0) = true := bne_iff_ne.2 he
        have he2 : (e == 0) = false := beq_eq_false_iff_ne.2 he
        go_wp2_with (first | (refine wpList_load_mid rfl 40 _ rfl (w.heap.size) 0 rfl (tc t) _ (HT5.out) Try.underlying40 rfl infoTa ?_) | (refine wpList_store_mid rfl 40 _ _ rfl (w.heap.size + 1) 0 (tc t).toArray rfl rfl (HT15.out) infoTa (all_oneCell_toArray (tc_one _)) ?_; have HTR := Lib.hid (ta_stored _ _ (t) (HT15.out)); generalize hw8 : World.setCells _ _ _ _ = w8 at *; have HB8 := Lib.hid (below_cells _ _ _ (HB5.out) (Nat.le_succ _) hw8); clear hw8))
        refine bodyPost_ret (fin_ta rfl _ _ _ rfl _ HTR.out) rfl ?_
        exact ⟨rfl, HB8.out⟩
    · have hcase : True := trivial
      go_enter Try.func44, Try.ntmps44
      go_wp2_with (refine wpList_load_mid rfl 40 _ rfl (w.heap.size) 0 rfl (tc t) _ (HT.out _) Try.underlying40 rfl infoTa ?_)
      generalize hv2 : World.alloc (World.alloc w _) _ = v2
      refine (HE.out _).mono ?_
      rintro r v3 ⟨rfl, hb3⟩
      obtain ⟨hB, hz, hT3, ht0, ht1⟩ := two_ready hv2 rfl hb3
      have HB := Lib.hid hB
      have HT3 := Lib.hid hT3
      have HT1 := Lib.hid ht1
      have HNEW := Lib.hid (fun B hB => there_new v3 B 40 hB)
      clear hv2 hb3 hB hT3 ht0 ht1 hlen
      go_upto_if 26 with (first | (refine wpList_store_mid rfl 40 _ _ rfl (v3.heap.size) 0 (tc u).toArray rfl rfl (HNEW.out _ rfl) infoTa (all_oneCell_toArray (tc_one _)) ?_; generalize hw5 : World.setCells _ _ _ _ = w5 at *))
      obtain ⟨hb5, hz5, hU5, hth5⟩ := new_ta u rfl hw5
      have HB5 := Lib.hid (HB.out.trans (hb5.mono (by omega)))
      have HT5 := Lib.hid (HT3.out.below hb5)
      have HT15 := Lib.hid (there_below HT1.out hb5)
      have HU5 := Lib.hid hU5
      have HTU5 := Lib.hid hth5
      have h31 : w.heap.size + 1 < v3.heap.size := hz
      clear hw5 hb5 hU5 hth5 HT3 HT1 HB HNEW
      by_cases he : e = 0
      · subst he
        have hn8 := HOK.out rfl
        have hn8I : (n : Int) < 8 := by omega
        have qv := HU5.out.vote hn8
        have qf := (HTU5.out (8 + n) (by omega)).2
        rw [Nat.zero_add] at qv qf
        by_cases h0 : u.votes n = 0
        · have hht : ht = ({ u with votes := upd u.votes n 2 }, 0) := by rw [← HU2.out, if_neg (by simp), if_pos h0]
          subst hht
          have HTN := Lib.hid (HU5.out.set_vote hn8 2)
          have HN1 := Lib.hid (there_set (c := v3.heap.size) (o := 8 + n) (v := .int .i64 2) HT15.out)
          have HBN := Lib.hid (HB5.out.setCell (p := ⟨v3.heap.size, 8 + n, none⟩) (Nat.le_trans (Nat.le_succ _) (Nat.le_of_lt h31)) (.int .i64 2))
          have hv0 : (u.votes n == 0) = true := by rw [h0]; rfl
          go_wp2_with (first | (refine wpList_load_mid rfl 40 _ rfl (v3.heap.size) 0 rfl (tc { u with votes := upd u.votes n 2 }) _ (HTN.out) Try.underlying40 rfl infoTa ?_) | (refine wpList_store_mid rfl 40 _ _ rfl (w.heap.size + 1) 0 (tc { u with votes := upd u.votes n 2 }).toArray rfl rfl (HN1.out) infoTa (all_oneCell_toArray (tc_one _)) ?_; have HTR := Lib.hid (ta_stored _ _ ({ u with votes := upd u.votes n 2 }) (HN1.out)); generalize hw8 : World.setCells _ _ _ _ = w8 at *; have HB8 := Lib.hid (below_cells _ _ _ (HBN.out) (Nat.le_succ _) hw8); clear hw8))
          refine bodyPost_ret (fin_ta rfl _ _ _ rfl _ HTR.out) rfl ?_
          exact ⟨rfl, HB8.out⟩
        · have hv0 : (u.votes n == 0) = false := beq_eq_false_iff_ne.2 h0
          by_cases h1 : u.votes n = 2
          · have hht : ht = (u, 0) := by rw [← HU2.out, if_neg (by simp), if_neg h0, if_neg (by simp [h1])]
            subst hht
            have hvn : (u.votes n != 2) = false := by rw [h1]; rfl
            have hvq : (u.votes n == 2) = true := by rw [h1]; rfl
            go_wp2_with (first | (refine wpList_load_mid rfl 40 _ rfl (v3.heap.size) 0 rfl (tc u) _ (HU5.out) Try.underlying40 rfl infoTa ?_) | (refine wpList_store_mid rfl 40 _ _ rfl (w.heap.size + 1) 0 (tc u).toArray rfl rfl (HT15.out) infoTa (all_oneCell_toArray (tc_one _)) ?_; have HTR := Lib.hid (ta_stored _ _ (u) (HT15.out)); generalize hw8 : World.setCells _ _ _ _ = w8 at *; have HB8 := Lib.hid (below_cells _ _ _ (HB5.out) (Nat.le_succ _) hw8); clear hw8))
            refine bodyPost_ret (fin_ta rfl _ _ _ rfl _ HTR.out) rfl ?_
            exact ⟨rfl, HB8.out⟩
          · have hht : ht = (t, 8) := by rw [← HU2.out, if_neg (by simp), if_neg h0, if_pos h1]
            subst hht
            have hvn : (u.votes n != 2) = true := bne_iff_ne.2 h1
            have hvq : (u.votes n == 2) = false := beq_eq_false_iff_ne.2 h1
            go_wp2_with (first | (refine wpList_load_mid rfl 40 _ rfl (w.heap.size) 0 rfl (tc t) _ (HT5.out) Try.underlying40 rfl infoTa ?_) | (refine wpList_store_mid rfl 40 _ _ rfl (w.heap.size + 1) 0 (tc t).toArray rfl rfl (HT15.out) infoTa (all_oneCell_toArray (tc_one _)) ?_; have HTR := Lib.hid (ta_stored _ _ (t) (HT15.out)); generalize hw8 : World.setCells _ _ _ _ = w8 at *; have HB8 := Lib.hid (below_cells _ _ _ (HB5.out) (Nat.le_succ _) hw8); clear hw8))
            refine bodyPost_ret (fin_ta rfl _ _ _ rfl _ HTR.out) rfl ?_
            exact ⟨rfl, HB8.out⟩
      · have hht : ht = (t, e) := by rw [← HU2.out, if_pos he]
        subst hht
        have he1 : (e != 0) = true := bne_iff_ne.2 he
        have he2 : (e == 0) = false := beq_eq_false_iff_ne.2 he
        go_wp2_with (first | (refine wpList_load_mid rfl 40 _ rfl (w.heap.size) 0 rfl (tc t) _ (HT5.out) Try.underlying40 rfl infoTa ?_) | (refine wpList_store_mid rfl 40 _ _ rfl (w.heap.size + 1) 0 (tc t).toArray rfl rfl (HT15.out) infoTa (all_oneCell_toArray (tc_one _)) ?_; have HTR := Lib.hid (ta_stored _ _ (t) (HT15.out)); generalize hw8 : World.setCells _ _ _ _ = w8 at *; have HB8 := Lib.hid (below_cells _ _ _ (HB5.out) (Nat.le_succ _) hw8); clear hw8))
        refine bodyPost_ret (fin_ta rfl _ _ _ rfl _ HTR.out) rfl ?_
        exact ⟨rfl, HB8.out⟩
end Go.Proofs.Ytdlfjbllmmkmkaa.Chair
