/- What a deal's vote and extend answer. -/
import Derived.Test.YtdlfjbllmmkmkaaDeal
namespace Go.Proofs.Ytdlfjbllmmkmkaa.Chair
open Go.RowKit Flat ChairSpec Go.Proofs.YtdlfjbllmmkmkaaW.PrintLast
set_option linter.unusedSimpArgs false
set_option linter.unusedVariables false
set_option maxRecDepth 100000
set_option maxHeartbeats 8000000 in
theorem vote_de (d : De) (r : Re) (n : Nat) (hr : r.who = (n : Int)) (hn : n ≤ 255) (w : World) : Calls Try.prog 34 #[.agg (dc d).toArray, .agg #[.int .i64 r.kind, .int .i64 r.tx, .int .u8 r.who, .int .i64 r.epoch, .int .i64 r.vote, .int .i64 r.now, .int .i64 r.span, .int .i64 r.cap]] w fun e w' => e = .returned (.tuple #[.agg (dc (voteD d r).1).toArray, .int .i64 (voteD d r).2]) ∧ Below w.heap.size w w' := by
  have hlen : (dc d).toArray.size = 29 := by simp [dc_len]
  have HT := Lib.hid (fun R B => three_lo d w 44 33 44 R B)
  have HO := Lib.hid (fun W => over_te d.te r.now W)
  obtain ⟨hd, HH⟩ : ∃ hd, Hid (voteD d r = hd) := ⟨_, Lib.hid rfl⟩
  rw [HH.out]
  have hu := HH.out
  rw [voteD] at hu
  have HU := Lib.hid hu
  clear hu HH
  cases ho : overTe d.te r.now
  · obtain ⟨pu, HPU⟩ : ∃ pu, Hid (putT d.ta n r.epoch r.vote = pu) := ⟨_, Lib.hid rfl⟩
    have hhd : hd = (⟨pu.1, d.te, outT pu.1⟩, pu.2) := by rw [← HU.out, if_neg (by rw [ho]; decide), hr, HPU.out]
    subst hhd
    simp only [ho] at HO
    have HP := Lib.hid (fun W => put_ta d.ta n r.epoch r.vote hn W)
    rw [HPU.out] at HP
    clear HU ho HPU
    obtain ⟨u, e⟩ := pu
    dsimp only at HP ⊢
    have HOT := Lib.hid (fun W => out_ta u W)
    go_enter Try.func34, Try.ntmps34
    go_wp2_with (refine wpList_load_mid rfl 42 _ rfl (w.heap.size) 24 rfl (tec d.te) _ ((HT.out _ _).te) Try.underlying42 rfl infoTe ?_)
    generalize hv3 : World.alloc (World.alloc (World.alloc w _) _) _ = v3
    refine (HO.out _).mono ?_
    rintro e v4 ⟨rfl, hb4⟩
    obtain ⟨hB, hz, hD, ht0, hR, ht2⟩ := three_ready hv3 rfl hb4
    have HB := Lib.hid hB
    have HD := Lib.hid hD
    have HT0 := Lib.hid ht0
    have HT2 := Lib.hid ht2
    have q2 := hR 2
    have q3 := hR 3
    have q4 := hR 4
    have q5 := hR 5
    clear hv3 hb4 hB hD ht0 hR ht2 hlen

    go_wp2_with (refine wpList_load_mid rfl 40 _ rfl (w.heap.size) 0 rfl (tc d.ta) _ (HD.out.ta) Try.underlying40 rfl infoTa ?_)
    refine (HP.out _).mono ?_
    rintro e5 v5 ⟨rfl, hb5⟩
    have HD5 := Lib.hid (HD.out.below hb5)
    have HT05 := Lib.hid (there_below HT0.out hb5)
    have HT25 := Lib.hid (there_below HT2.out hb5)
    have HB5 := Lib.hid (HB.out.trans (hb5.mono (by omega)))
    have hz5 : w.heap.size + 1 + 1 < v5.heap.size := Nat.lt_of_lt_of_le hz hb5.size
    have HNEW := Lib.hid (fun B hB => there_new v5 B 40 hB)
    clear hb5 q2 q3 q4 q5 HD HT0 HT2 HB
    go_wp2_with (first | (refine wpList_store_mid rfl 40 _ _ rfl (v5.heap.size) 0 (tc u).toArray rfl rfl (HNEW.out _ rfl) infoTa (all_oneCell_toArray (tc_one _)) ?_; generalize hw6 : World.setCells _ _ _ _ = w6 at *))
    obtain ⟨hb6, hz6, hU6, hth6⟩ := new_ta u rfl hw6
    have HB6 := Lib.hid (HB5.out.trans (hb6.mono (by omega)))
    have HD6 := Lib.hid (HD5.out.below hb6)
    have HT06 := Lib.hid (there_below HT05.out hb6)
    have HT26 := Lib.hid (there_below HT25.out hb6)
    have hU6' : w6.rangeAt v5.heap.size 0 (tc u) := hU6
    have hz66 : w.heap.size + 1 + 1 < w6.heap.size := Nat.lt_of_lt_of_le hz5 hb6.size
    clear hw6 hb6 hth6 HNEW HD5 HT05 HT25 HB5
    generalize hg5 : v5.heap.size = b5 at *
    have hb5g : w.heap.size + 1 + 1 < b5 := hz5
    clear hg5
    refine start_ (n := 7) (S := fun w' => Below w6.heap.size w6 w' ∧ w'.rangeAt b5 0 (tc u)) (ds := [4, 6]) #[false, false, false, false, false, false, false] (by kernel_rfl) rfl rfl ⟨(still_drew w6).1, hU6'⟩ (fun hHeld => ?_)
    refine take_ (i := 0) (N := some 26) (v := ?_) (a' := ?_) #[true, false, false, false, false, false, false] rfl rfl (by kernel_rfl) (fun _ _ _ h => h) (Or.inl ⟨by rfl, ?_⟩) hHeld ?_ ?_
    rotate_left
    · rintro w' ⟨s0, s1⟩
      refine Eq.trans (range_run (x := .tmp 6) (b := b5) (o := 0) (cs := tc u) (by rfl) (by rfl) s1 Try.underlying40 rfl infoTa) ?_
      with_reducible rfl
    rotate_left
    · simp only [Act.put, List.setIfInBounds_toArray, List.set_cons_zero, List.set_cons_succ, i64_w, i32_w]
      rfl
    refine pure_ (i := 3) (N := some 29) (v := ?_) (a' := ?_) #[true, false, false, true, false, false, false] rfl rfl (by kernel_rfl) (fun _ _ _ h => h) (Or.inl ⟨by rfl, ?_⟩) ?_ ?_
    rotate_left
    · intro w'
      go_simp
      with_reducible rfl
    rotate_left
    · simp only [Act.put, List.setIfInBounds_toArray, List.set_cons_zero, List.set_cons_succ, i64_w, i32_w]
      rfl
    refine take_ (i := 1) (N := some 27) (v := ?_) (a' := ?_) #[true, true, false, true, false, false, false] rfl rfl (by kernel_rfl) (fun _ _ _ h => h) (Or.inl ⟨by rfl, ?_⟩) hHeld ?_ ?_
    rotate_left
    · rintro w' ⟨s0, s1⟩
      refine Eq.trans (range_run (x := .tmp 6) (b := b5) (o := 0) (cs := tc u) (by rfl) (by rfl) s1 Try.underlying40 rfl infoTa) ?_
      with_reducible rfl
    rotate_left
    · simp only [Act.put, List.setIfInBounds_toArray, List.set_cons_zero, List.set_cons_succ, i64_w, i32_w]
      rfl
    refine one_ (i := 2) (N := some 28) #[true, true, true, true, false, false, false] rfl rfl (by kernel_rfl) (by decide) (fun K hK => ?_)
    refine goes_ Try.func45 (by kernel_rfl) rfl #[.agg (tc u).toArray] (by rfl) rfl rfl (by simp only [List.map_toArray, List.map_cons, List.map_nil]; rfl) ?_
    refine (HOT.out _).mono ?_
    rintro e7 w7 ⟨rfl, hb7⟩
    refine ⟨_, rfl, ?_⟩
    have hb67 := hHeld.1.trans (hb7.mono hHeld.1.size)
    refine hK.out _ _ ⟨hb67, (TaAt.below (show TaAt _ b5 0 u from hHeld.2) hb7)⟩ (fun hHeld => ?_)
    clear hK K
    refine norm_ (a' := ?_) ?_ ?_
    rotate_left
    · show Act.put _ (some 28) _ = _
      simp only [Act.put, List.setIfInBounds_toArray, List.set_cons_zero, List.set_cons_succ, i64_w, i32_w]
      rfl
    refine last_ (i := 4) (N := none) #[true, true, true, true, true, false, false] rfl rfl (by kernel_rfl) (by decide) (fun K hK => ?_)
    have hD7 := HD6.out.below hHeld.1
    have hT07 := there_below HT06.out hHeld.1
    refine store_range_ (by rfl) rfl 40 (.tmp 29) (.tmp 26) rfl (w.heap.size) 0 (tc u).toArray (by rfl) (by rfl) (there_pre hT07 (show 24 ≤ 29 by decide)) infoTa (all_oneCell_toArray (tc_one _)) ?_
    generalize hw8 : World.setCells _ _ _ _ = w8 at *
    obtain ⟨hD8, hT08, hq8, hf8⟩ := ta_into hD7 hT07 u hw8
    have hT28 := there_cells (there_below HT26.out hHeld.1) hw8
    have hB8 := below_cells _ _ _ (HB6.out.trans (hHeld.1.mono (by omega))) (Nat.le_refl _) hw8
    refine hK.out _ _ ?_
    clear hK K
    refine pure_ (i := 5) (N := some 30) (v := ?_) (a' := ?_) #[true, true, true, true, true, true, false] rfl rfl (by kernel_rfl) (fun _ _ _ h => h) (Or.inl ⟨by rfl, ?_⟩) ?_ ?_
    rotate_left
    · intro w'
      go_simp
      with_reducible rfl
    rotate_left
    · simp only [Act.put, List.setIfInBounds_toArray, List.set_cons_zero, List.set_cons_succ, i64_w, i32_w]
      rfl
    refine last_ (i := 6) (N := none) #[true, true, true, true, true, true, true] rfl rfl (by kernel_rfl) (by decide) (fun K hK => ?_)
    refine skip_ (w1 := ?_) (by rfl) rfl ?_ ?_
    rotate_left
    · go_simp
      rfl
    refine hK.out _ _ ?_
    clear hK K
    refine done_ (by kernel_rfl) ?_

    have hD9 := de_out (o := outT u) hD8
    have HD9 := Lib.hid hD9
    have HT9 := Lib.hid (there_set (c := w.heap.size) (o := 28) (v := .int .i64 (outT u)) hT28)
    have HB9 := Lib.hid (hB8.setCell (p := ⟨w.heap.size, 28, none⟩) (Nat.le_refl _) (.int .i64 (outT u)))
    clear hD9 hD8 hT08 hT28 hB8 hHeld hU6' hq8 hf8 hw8 hD7 hT07 hU6
    go_wp2_with (first | (refine wpList_load_mid rfl 44 _ rfl (w.heap.size) 0 rfl (dc ⟨u, d.te, outT u⟩) _ (HD9.out) Try.underlying44 rfl infoDe ?_) | (refine wpList_store_mid rfl 44 _ _ rfl (w.heap.size + 1 + 1) 0 (dc (⟨u, d.te, outT u⟩)).toArray rfl rfl (HT9.out) infoDe (all_oneCell_toArray (dc_one _)) ?_; generalize hw9 : World.setCells _ _ _ _ = w9 at *; have HTR := Lib.hid (de_stored' (HT9.out) (⟨u, d.te, outT u⟩) hw9); have HBX := Lib.hid (below_cells _ _ _ (HB9.out) (by omega) hw9); clear hw9))
    refine bodyPost_ret (fin_de rfl _ _ _ rfl _ HTR.out) rfl ?_
    exact ⟨rfl, HBX.out⟩
  · have hhd : hd = (d, 11) := by rw [← HU.out, if_pos ho]
    subst hhd
    simp only [ho] at HO
    clear HU ho
    go_enter Try.func34, Try.ntmps34
    go_wp2_with (refine wpList_load_mid rfl 42 _ rfl (w.heap.size) 24 rfl (tec d.te) _ ((HT.out _ _).te) Try.underlying42 rfl infoTe ?_)
    generalize hv3 : World.alloc (World.alloc (World.alloc w _) _) _ = v3
    refine (HO.out _).mono ?_
    rintro e v4 ⟨rfl, hb4⟩
    obtain ⟨hB, hz, hD, ht0, hR, ht2⟩ := three_ready hv3 rfl hb4
    have HB := Lib.hid hB
    have HD := Lib.hid hD
    have HT0 := Lib.hid ht0
    have HT2 := Lib.hid ht2
    have q2 := hR 2
    have q3 := hR 3
    have q4 := hR 4
    have q5 := hR 5
    clear hv3 hb4 hB hD ht0 hR ht2 hlen
    go_wp2_with (first | (refine wpList_load_mid rfl 44 _ rfl (w.heap.size) 0 rfl (dc d) _ (HD.out) Try.underlying44 rfl infoDe ?_) | (refine wpList_store_mid rfl 44 _ _ rfl (w.heap.size + 1 + 1) 0 (dc (d)).toArray rfl rfl (HT2.out) infoDe (all_oneCell_toArray (dc_one _)) ?_; generalize hw9 : World.setCells _ _ _ _ = w9 at *; have HTR := Lib.hid (de_stored' (HT2.out) (d) hw9); have HB9 := Lib.hid (below_cells _ _ _ (HB.out) (by omega) hw9); clear hw9))
    refine bodyPost_ret (fin_de rfl _ _ _ rfl _ HTR.out) rfl ?_
    exact ⟨rfl, HB9.out⟩
end Go.Proofs.Ytdlfjbllmmkmkaa.Chair
