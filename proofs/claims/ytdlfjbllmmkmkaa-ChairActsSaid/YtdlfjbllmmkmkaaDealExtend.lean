/- What a deal's vote and extend answer. -/
import Derived.Test.YtdlfjbllmmkmkaaDeal
namespace Go.Proofs.Ytdlfjbllmmkmkaa.Chair
open Go.RowKit Flat ChairSpec Go.Proofs.YtdlfjbllmmkmkaaW.PrintLast
set_option linter.unusedSimpArgs false
set_option linter.unusedVariables false
set_option maxRecDepth 100000
set_option maxHeartbeats 8000000 in
theorem extend_de (d : De) (r : Re) (n : Nat) (hr : r.who = (n : Int)) (hn : n ≤ 255) (w : World) : Calls Try.prog 35 #[.agg (dc d).toArray, .agg #[.int .i64 r.kind, .int .i64 r.tx, .int .u8 r.who, .int .i64 r.epoch, .int .i64 r.vote, .int .i64 r.now, .int .i64 r.span, .int .i64 r.cap]] w fun e w' => e = .returned (.tuple #[.agg (dc (extendD d r).1).toArray, .int .i64 (extendD d r).2]) ∧ Below w.heap.size w w' := by
  have hlen : (dc d).toArray.size = 29 := by simp [dc_len]
  have HT := Lib.hid (fun R B => three_lo d w 44 33 44 R B)
  obtain ⟨hd, HH⟩ : ∃ hd, Hid (extendD d r = hd) := ⟨_, Lib.hid rfl⟩
  rw [HH.out]
  have hu := HH.out
  rw [extendD, hr] at hu
  have HU := Lib.hid hu
  have HE := Lib.hid (fun W => hear_ta d.ta n r.epoch hn W)
  have HX := Lib.hid (fun W => extend_te d.te r.now W)
  obtain ⟨pu, HPU⟩ : ∃ pu, Hid (hearT d.ta n r.epoch = pu) := ⟨_, Lib.hid rfl⟩
  obtain ⟨px, HPX⟩ : ∃ px, Hid (extendTe d.te r.now = px) := ⟨_, Lib.hid rfl⟩
  rw [HPU.out] at HE
  rw [HPX.out] at HX
  rw [HPU.out, HPX.out] at HU
  clear hu HH HPU HPX
  obtain ⟨u, e⟩ := pu
  obtain ⟨x, f⟩ := px
  dsimp only at HE HX HU
  go_enter Try.func35, Try.ntmps35
  go_wp2_with (refine wpList_load_mid rfl 40 _ rfl (w.heap.size) 0 rfl (tc d.ta) _ ((HT.out _ _).ta) Try.underlying40 rfl infoTa ?_)
  generalize hv3 : World.alloc (World.alloc (World.alloc w _) _) _ = v3
  refine (HE.out _).mono ?_
  rintro e4 v4 ⟨rfl, hb4⟩
  obtain ⟨hB, hz, hD, ht0, hR, ht2⟩ := three_ready hv3 rfl hb4
  have HB := Lib.hid hB
  have HD := Lib.hid hD
  have HT0 := Lib.hid ht0
  have HT2 := Lib.hid ht2
  have HR := Lib.hid hR
  have HNEW := Lib.hid (fun B hB => there_new v4 B 40 hB)
  clear hv3 hb4 hB hD ht0 hR ht2 hlen
  go_upto_if 19 with (first | (refine wpList_store_mid rfl 40 _ _ rfl (v4.heap.size) 0 (tc u).toArray rfl rfl (HNEW.out _ rfl) infoTa (all_oneCell_toArray (tc_one _)) ?_; generalize hw6 : World.setCells _ _ _ _ = w6 at *))
  obtain ⟨hb6, hz6, hU6, hth6⟩ := new_ta u rfl hw6
  have HB6 := Lib.hid (HB.out.trans (hb6.mono (by omega)))
  have HD6 := Lib.hid (HD.out.below hb6)
  have HT06 := Lib.hid (there_below HT0.out hb6)
  have HT26 := Lib.hid (there_below HT2.out hb6)
  have HU6 := Lib.hid (show w6.rangeAt v4.heap.size 0 (tc u) from hU6)
  have hr5 := (hb6.cell (p := ⟨w.heap.size + 1, 5, none⟩) (by show w.heap.size + 1 < _; omega)).trans (HR.out 5)
  have hz66 : w.heap.size + 1 + 1 < w6.heap.size := Nat.lt_of_lt_of_le hz hb6.size
  clear hw6 hb6 hU6 hth6 HNEW HD HT0 HT2 HB HR
  have hb5g : w.heap.size + 1 + 1 < v4.heap.size := hz
  by_cases he : e = 0
  · subst he
    have hhd : hd = (⟨u, x, d.out⟩, f) := by rw [← HU.out, if_neg (by simp)]
    subst hhd
    go_wp2_with (first | (refine wpList_load_mid rfl 40 _ rfl (v4.heap.size) 0 rfl (tc u) _ (HU6.out) Try.underlying40 rfl infoTa ?_) | (refine wpList_load_mid rfl 42 _ rfl (w.heap.size) 24 rfl (tec d.te) _ (HD7.out.te) Try.underlying42 rfl infoTe ?_) | (refine wpList_store_mid rfl 40 _ _ rfl (w.heap.size) 0 (tc u).toArray rfl rfl (there_pre HT06.out (show 24 ≤ 29 by decide)) infoTa (all_oneCell_toArray (tc_one _)) ?_; generalize hw7 : World.setCells _ _ _ _ = w7 at *; have hti := ta_into HD6.out HT06.out u hw7; have HD7 := Lib.hid hti.1; have HT07 := Lib.hid hti.2.1; have HT27 := Lib.hid (there_cells HT26.out hw7); have HB7 := Lib.hid (below_cells _ _ _ HB6.out (Nat.le_refl _) hw7); have hr7 := (cells_apart hw7 (show w.heap.size + 1 ≠ w.heap.size by omega)).trans hr5; clear hw7 hti))
    refine (HX.out _).mono ?_
    rintro e8 v8 ⟨rfl, hb8⟩
    have HD8 := Lib.hid (HD7.out.below hb8)
    have HT08 := Lib.hid (there_below HT07.out hb8)
    have HT28 := Lib.hid (there_below HT27.out hb8)
    have HB8 := Lib.hid (HB7.out.trans (hb8.mono HB7.out.size))
    clear hb8 HD7 HT07 HT27 HB7
    go_wp2_with (first | (refine wpList_store_mid rfl 42 _ _ rfl (w.heap.size) 24 (tec x).toArray rfl rfl (there_at HT08.out (show 24 + 4 ≤ 29 by decide)) infoTe (all_oneCell_toArray (tec_one _)) ?_; generalize hw8 : World.setCells _ _ _ _ = w8 at *; have hti := te_into HD8.out HT08.out x hw8; have HD9 := Lib.hid hti.1; have HT29 := Lib.hid (there_cells HT28.out hw8); have HBT := Lib.hid (below_cells _ _ _ HB8.out (Nat.le_refl _) hw8); clear hw8 hti) | (refine wpList_load_mid rfl 44 _ rfl (w.heap.size) 0 rfl (dc ⟨u, x, d.out⟩) _ (HD9.out) Try.underlying44 rfl infoDe ?_) | (refine wpList_store_mid rfl 44 _ _ rfl (w.heap.size + 1 + 1) 0 (dc (⟨u, x, d.out⟩)).toArray rfl rfl (HT29.out) infoDe (all_oneCell_toArray (dc_one _)) ?_; generalize hw9 : World.setCells _ _ _ _ = w9 at *; have HTR := Lib.hid (de_stored' (HT29.out) (⟨u, x, d.out⟩) hw9); have HB9 := Lib.hid (below_cells _ _ _ (HBT.out) (by omega) hw9); clear hw9))
    refine bodyPost_ret (fin_de rfl _ _ _ rfl _ HTR.out) rfl ?_
    exact ⟨rfl, HB9.out⟩
  · have hhd : hd = (d, e) := by rw [← HU.out, if_pos he]
    subst hhd
    have he1 : (e != 0) = true := bne_iff_ne.2 he
    have he2 : (e == 0) = false := beq_eq_false_iff_ne.2 he
    go_wp2_with (first | (refine wpList_load_mid rfl 44 _ rfl (w.heap.size) 0 rfl (dc d) _ (HD6.out) Try.underlying44 rfl infoDe ?_) | (refine wpList_store_mid rfl 44 _ _ rfl (w.heap.size + 1 + 1) 0 (dc (d)).toArray rfl rfl (HT26.out) infoDe (all_oneCell_toArray (dc_one _)) ?_; generalize hw9 : World.setCells _ _ _ _ = w9 at *; have HTR := Lib.hid (de_stored' (HT26.out) (d) hw9); have HB9 := Lib.hid (below_cells _ _ _ (HB6.out) (by omega) hw9); clear hw9))
    refine bodyPost_ret (fin_de rfl _ _ _ rfl _ HTR.out) rfl ?_
    exact ⟨rfl, HB9.out⟩
end Go.Proofs.Ytdlfjbllmmkmkaa.Chair
