/- What the reference's tally.Put answers. -/
import Derived.Test.YtdlfjbllmmkmkaaRTallyHear
import Derived.Test.YtdlfjbllmmkmkaaTallyPut
namespace Go.Proofs.Ytdlfjbllmmkmkaa.Chair
open Go.RowKit Flat ChairSpec Go.Proofs.YtdlfjbllmmkmkaaW.PrintLast
set_option linter.unusedSimpArgs false
set_option linter.unusedVariables false
set_option maxRecDepth 100000
theorem upd_same {f : Nat → Int} {n : Nat} {x : Int} (h : f n = x) : upd f n x = f := by
  funext i
  unfold upd
  split
  · rename_i e; rw [e, h]
  · rfl
set_option maxHeartbeats 8000000 in
theorem rput_ta (t : Ta) (n : Nat) (epoch vote : Int) (hn : n ≤ 255) (w : World) : Calls Try.prog 54 #[.agg (tc t).toArray, .int .u8 (n : Int), .int .i64 epoch, .int .i64 vote] w fun r w' => r = .returned (.tuple #[.agg (tc (putT t n epoch vote).1).toArray, .int .i64 (putT t n epoch vote).2]) ∧ Below w.heap.size w w' := by
  have HL : Hid ((tc t).toArray.size = 24) := Lib.hid (by simp [tc_len])
  have HT := Lib.hid (fun B => two_lo t w 72 72 B)
  have hlen := HL.out
  obtain ⟨ht, HH⟩ : ∃ ht, Hid (putT t n epoch vote = ht) := ⟨_, Lib.hid rfl⟩
  rw [HH.out]
  have hu := HH.out
  rw [putT, Int.toNat_natCast] at hu
  have HU := Lib.hid hu
  clear hu HH
  by_cases hv : vote ≠ 1 ∧ vote ≠ 2
  · have hht : ht = (t, 2) := by rw [← HU.out, if_pos hv]
    subst hht
    clear HU
    have hv1 : (vote != 1) = true := bne_iff_ne.2 hv.1
    have hv2 : (vote != 2) = true := bne_iff_ne.2 hv.2
    have HTH := Lib.hid (fun B hB => there_hi t w 72 72 B hB)
    have HBB := Lib.hid (fun B => (two_blocks (w := w) (A := (tc t).toArray) (B := B) (t1 := 72) (t2 := 72) rfl).1)
    go_enter Try.func54, Try.ntmps54
    go_wp2_with (first | (refine wpList_load_mid rfl 72 _ rfl w.heap.size 0 rfl (tc t) _ (HT.out _) Try.underlying72 rfl infoRTa ?_) | (refine wpList_store_mid rfl 72 _ _ rfl (w.heap.size + 1) 0 (tc t).toArray rfl rfl (HTH.out _ rfl) infoRTa (all_oneCell_toArray (tc_one _)) ?_; generalize hw8 : World.setCells _ _ _ _ = w8 at *; have HTR := Lib.hid (show TaAt w8 (w.heap.size + 1) 0 t by rw [← hw8]; exact ta_stored _ _ t (HTH.out _ rfl)); have HB8 := Lib.hid (below_cells _ _ _ (HBB.out _) (Nat.le_succ _) hw8); clear hw8))
    refine bodyPost_ret (fin_rta rfl _ _ _ rfl _ HTR.out) rfl ?_
    exact ⟨rfl, HB8.out⟩
  · have hvv : vote = 1 ∨ vote = 2 := by omega
    have HE := Lib.hid (fun W => rhear_ta t n epoch hn W)
    have HOK := Lib.hid (hear_ok (t := t) (n := n) (epoch := epoch))
    obtain ⟨uu, HUU⟩ : ∃ uu, Hid (hearT t n epoch = uu) := ⟨_, Lib.hid rfl⟩
    have hu := HU.out
    rw [if_neg hv] at hu
    rw [HUU.out] at hu HE HOK
    have HU2 := Lib.hid hu
    clear hu HU HUU hv
    obtain ⟨u, e⟩ := uu
    dsimp only at HU2 HE HOK
    have HV : (vote != 1) = false ∨ ((vote != 1) = true ∧ (vote != 2) = false) := by
      rcases hvv with rfl | rfl
      · exact .inl rfl
      · exact .inr ⟨rfl, rfl⟩
    have hv0 : vote ≠ 0 := by omega
    clear hvv
    rcases HV with hx1 | ⟨hx1, hx2⟩
    all_goals
      go_enter Try.func54, Try.ntmps54
      go_wp2_with (refine wpList_load_mid rfl 72 _ rfl w.heap.size 0 rfl (tc t) _ (HT.out _) Try.underlying72 rfl infoRTa ?_)
      generalize hv2 : World.alloc (World.alloc w _) _ = v2
      refine (HE.out _).mono ?_
      rintro r v3 ⟨rfl, hb3⟩
      obtain ⟨hB, hz, hT3, ht0, ht1⟩ := two_ready hv2 rfl hb3
      have HB := Lib.hid hB
      have HT3 := Lib.hid hT3
      have HT1 := Lib.hid ht1
      have HNEW := Lib.hid (fun B hB => there_new v3 B 72 hB)
      clear hv2 hb3 hB hT3 ht0 ht1 hlen
      go_upto_region 4 with (first | (refine wpList_store_mid rfl 72 _ _ rfl (v3.heap.size) 0 (tc u).toArray rfl rfl (HNEW.out _ rfl) infoRTa (all_oneCell_toArray (tc_one _)) ?_; generalize hw5 : World.setCells _ _ _ _ = w5 at *))
      obtain ⟨hb5, hz5, hU5, hth5⟩ := new_ta u rfl hw5
      have HB5 := Lib.hid (HB.out.trans (hb5.mono (by omega)))
      have HT5 := Lib.hid (HT3.out.below hb5)
      have HT15 := Lib.hid (there_below HT1.out hb5)
      have HU5 := Lib.hid hU5
      have HTU5 := Lib.hid hth5
      have h31 : w.heap.size + 1 < v3.heap.size := hz
      clear hw5 hb5 hU5 hth5 HT3 HT1 HB HNEW
      generalize v3.heap.size = b5 at *
      by_cases he : e = 0
      · subst he
        have hn8 := HOK.out rfl
        have hn8I : (n : Int) < 8 := by omega
        have qv := HU5.out.vote hn8
        rw [Nat.zero_add] at qv
        by_cases h0 : u.votes n = 0
        · have hvb : (u.votes n != 0) = false := by rw [h0]; rfl
          have HSAME : ((if (0 : Int) ≠ 0 then (t, (0 : Int)) else if u.votes n = 0 then ({ u with votes := upd u.votes n vote }, 0) else if u.votes n ≠ vote then (t, 8) else (u, 0)) : Ta × Int) = ({ u with votes := upd u.votes n vote }, 0) := by rw [if_neg (by simp), if_pos h0]
          clear h0
          have HA5 := Lib.hid (show w5.rangeAt b5 8 (ac u.votes) from (ta_parts HU5.out).2.1)
          have HN8 := Lib.hid (fun B hB => there_new8 w5 B 38 hB)
          go_upto_region 8 with fail
          go_upto_region 9 with (first
            | (refine wpList_load_mid rfl 38 _ rfl b5 8 rfl (ac u.votes) _ HA5.out Try.underlying38 rfl infoAr ?_)
            | (refine wpList_store_mid rfl 38 _ _ rfl (w5.heap.size) 0 (ac u.votes).toArray rfl rfl (HN8.out _ rfl) infoAr (all_oneCell_toArray (ac_one _)) ?_; generalize hw6 : World.setCells _ _ _ _ = w6 at *))
          obtain ⟨hb6, hz6, hr6, ht6⟩ := new_arr u.votes rfl hw6
          have h5lt : b5 < w5.heap.size := hz5
          have hwlt : w.heap.size + 1 < w5.heap.size := by omega
          have HU6 := Lib.hid (HU5.out.below hb6)
          have HTU6 := Lib.hid (there_below HTU5.out hb6)
          have HT16 := Lib.hid (there_below HT15.out hb6)
          have HB6 := Lib.hid (HB5.out.trans (hb6.mono HB5.out.size))
          have qn := hr6 n _ (ac_at u.votes (by omega))
          have qf := (ht6 n (by omega)).2
          rw [Nat.zero_add] at qn qf
          have HR6 := Lib.hid hr6
          clear hw6 hb6 HA5 HN8 HU5 HTU5 HT15 HB5 HT5 ht6 hr6 qv
          generalize w5.heap.size = b8 at *
          go_upto_region 10 with fail
          generalize hw7 : World.setCell w6 _ _ = w7
          have hb7 : Below b8 w6 w7 := by rw [← hw7]; exact (Below.refl b8 w6).setCell (p := ⟨b8, n, none⟩) (Nat.le_refl _) _
          have HR7 := Lib.hid (show w7.rangeAt b8 0 (ac (upd u.votes n vote)) by rw [← hw7]; exact arr_set HR6.out (by omega) vote)
          have HU7 := Lib.hid (show TaAt w7 b5 0 u from fun j v hv => (hb7.cell (p := ⟨b5, 0 + j, none⟩) (show b5 < b8 by omega)).trans (HU6.out j v hv))
          have HTU7 := Lib.hid (show w7.there b5 0 24 by rw [← hw7]; exact there_set HTU6.out)
          have HT17 := Lib.hid (show w7.there (w.heap.size + 1) 0 24 by rw [← hw7]; exact there_set HT16.out)
          have HB7 := Lib.hid (HB6.out.trans (hb7.mono (by omega)))
          clear hw7 hb7 HR6 HU6 HTU6 HT16 HB6 qn qf
          go_upto_region 11 with (first
            | (refine wpList_load_mid rfl 38 _ rfl b8 0 rfl (ac (upd u.votes n vote)) _ HR7.out Try.underlying38 rfl infoAr ?_)
            | (refine wpList_store_mid rfl 38 _ _ rfl (b5) 8 (ac (upd u.votes n vote)).toArray rfl rfl (there_sub HTU7.out 8 8 (by decide)) infoAr (all_oneCell_toArray (ac_one _)) ?_; generalize hw9 : World.setCells w7 _ _ _ = w9))
          have HTX := Lib.hid (show TaAt w9 b5 0 { u with votes := upd u.votes n vote } by rw [← hw9]; exact ta_votes HU7.out HTU7.out (upd u.votes n vote))
          have HTY := Lib.hid (show w9.there (w.heap.size + 1) 0 24 by rw [← hw9]; exact World.there_setCells HT17.out _ _ _)
          have HB9 := Lib.hid (below_cells _ _ _ HB7.out (by omega) hw9)
          clear hw9 HR7 HU7 HTU7 HT17 HB7
          have hht := HU2.out
          rw [HSAME] at hht
          obtain ⟨x, hx⟩ : ∃ x : Ta, { u with votes := upd u.votes n vote } = x := ⟨_, rfl⟩
          rw [hx] at HTX hht
          subst hht
          clear hx
          go_wp2_with (first
            | (refine wpList_load_mid rfl 72 _ rfl b5 0 rfl (tc x) _ HTX.out Try.underlying72 rfl infoRTa ?_)
            | (refine wpList_store_mid rfl 72 _ _ rfl (w.heap.size + 1) 0 (tc x).toArray rfl rfl HTY.out infoRTa (all_oneCell_toArray (tc_one _)) ?_; generalize hwz : World.setCells w9 _ _ _ = wz))
          have HTR := Lib.hid (show TaAt wz (w.heap.size + 1) 0 x by rw [← hwz]; exact ta_stored _ _ x HTY.out)
          have HB8 := Lib.hid (below_cells _ _ _ HB9.out (Nat.le_succ _) hwz)
          refine bodyPost_ret (fin_rta rfl _ _ _ rfl _ HTR.out) rfl ?_
          exact ⟨rfl, HB8.out⟩
        · by_cases h1 : u.votes n = vote
          · have hvb : (u.votes n != 0) = true := bne_iff_ne.2 h0
            have hvc : (u.votes n != vote) = false := by rw [h1]; simp
            have HSAME : ((if (0 : Int) ≠ 0 then (t, (0 : Int)) else if u.votes n = 0 then ({ u with votes := upd u.votes n vote }, 0) else if u.votes n ≠ vote then (t, 8) else (u, 0)) : Ta × Int) = ({ u with votes := upd u.votes n vote }, 0) := by rw [if_neg (by simp), if_neg h0, if_neg (by simp [h1]), upd_same h1]
            clear h0 h1
            have HA5 := Lib.hid (show w5.rangeAt b5 8 (ac u.votes) from (ta_parts HU5.out).2.1)
            have HN8 := Lib.hid (fun B hB => there_new8 w5 B 38 hB)
            go_upto_region 8 with fail
            go_upto_region 9 with (first
              | (refine wpList_load_mid rfl 38 _ rfl b5 8 rfl (ac u.votes) _ HA5.out Try.underlying38 rfl infoAr ?_)
              | (refine wpList_store_mid rfl 38 _ _ rfl (w5.heap.size) 0 (ac u.votes).toArray rfl rfl (HN8.out _ rfl) infoAr (all_oneCell_toArray (ac_one _)) ?_; generalize hw6 : World.setCells _ _ _ _ = w6 at *))
            obtain ⟨hb6, hz6, hr6, ht6⟩ := new_arr u.votes rfl hw6
            have h5lt : b5 < w5.heap.size := hz5
            have hwlt : w.heap.size + 1 < w5.heap.size := by omega
            have HU6 := Lib.hid (HU5.out.below hb6)
            have HTU6 := Lib.hid (there_below HTU5.out hb6)
            have HT16 := Lib.hid (there_below HT15.out hb6)
            have HB6 := Lib.hid (HB5.out.trans (hb6.mono HB5.out.size))
            have qn := hr6 n _ (ac_at u.votes (by omega))
            have qf := (ht6 n (by omega)).2
            rw [Nat.zero_add] at qn qf
            have HR6 := Lib.hid hr6
            clear hw6 hb6 HA5 HN8 HU5 HTU5 HT15 HB5 HT5 ht6 hr6 qv
            generalize w5.heap.size = b8 at *
            go_upto_region 10 with fail
            generalize hw7 : World.setCell w6 _ _ = w7
            have hb7 : Below b8 w6 w7 := by rw [← hw7]; exact (Below.refl b8 w6).setCell (p := ⟨b8, n, none⟩) (Nat.le_refl _) _
            have HR7 := Lib.hid (show w7.rangeAt b8 0 (ac (upd u.votes n vote)) by rw [← hw7]; exact arr_set HR6.out (by omega) vote)
            have HU7 := Lib.hid (show TaAt w7 b5 0 u from fun j v hv => (hb7.cell (p := ⟨b5, 0 + j, none⟩) (show b5 < b8 by omega)).trans (HU6.out j v hv))
            have HTU7 := Lib.hid (show w7.there b5 0 24 by rw [← hw7]; exact there_set HTU6.out)
            have HT17 := Lib.hid (show w7.there (w.heap.size + 1) 0 24 by rw [← hw7]; exact there_set HT16.out)
            have HB7 := Lib.hid (HB6.out.trans (hb7.mono (by omega)))
            clear hw7 hb7 HR6 HU6 HTU6 HT16 HB6 qn qf
            go_upto_region 11 with (first
              | (refine wpList_load_mid rfl 38 _ rfl b8 0 rfl (ac (upd u.votes n vote)) _ HR7.out Try.underlying38 rfl infoAr ?_)
              | (refine wpList_store_mid rfl 38 _ _ rfl (b5) 8 (ac (upd u.votes n vote)).toArray rfl rfl (there_sub HTU7.out 8 8 (by decide)) infoAr (all_oneCell_toArray (ac_one _)) ?_; generalize hw9 : World.setCells w7 _ _ _ = w9))
            have HTX := Lib.hid (show TaAt w9 b5 0 { u with votes := upd u.votes n vote } by rw [← hw9]; exact ta_votes HU7.out HTU7.out (upd u.votes n vote))
            have HTY := Lib.hid (show w9.there (w.heap.size + 1) 0 24 by rw [← hw9]; exact World.there_setCells HT17.out _ _ _)
            have HB9 := Lib.hid (below_cells _ _ _ HB7.out (by omega) hw9)
            clear hw9 HR7 HU7 HTU7 HT17 HB7
            have hht := HU2.out
            rw [HSAME] at hht
            obtain ⟨x, hx⟩ : ∃ x : Ta, { u with votes := upd u.votes n vote } = x := ⟨_, rfl⟩
            rw [hx] at HTX hht
            subst hht
            clear hx
            go_wp2_with (first
              | (refine wpList_load_mid rfl 72 _ rfl b5 0 rfl (tc x) _ HTX.out Try.underlying72 rfl infoRTa ?_)
              | (refine wpList_store_mid rfl 72 _ _ rfl (w.heap.size + 1) 0 (tc x).toArray rfl rfl HTY.out infoRTa (all_oneCell_toArray (tc_one _)) ?_; generalize hwz : World.setCells w9 _ _ _ = wz))
            have HTR := Lib.hid (show TaAt wz (w.heap.size + 1) 0 x by rw [← hwz]; exact ta_stored _ _ x HTY.out)
            have HB8 := Lib.hid (below_cells _ _ _ HB9.out (Nat.le_succ _) hwz)
            refine bodyPost_ret (fin_rta rfl _ _ _ rfl _ HTR.out) rfl ?_
            exact ⟨rfl, HB8.out⟩
          · have hht : ht = (t, 8) := by rw [← HU2.out, if_neg (by simp), if_neg h0, if_pos h1]
            subst hht
            have hvb : (u.votes n != 0) = true := bne_iff_ne.2 h0
            have hvc : (u.votes n != vote) = true := bne_iff_ne.2 h1
            go_wp2_with (first
              | (refine wpList_load_mid rfl 72 _ rfl w.heap.size 0 rfl (tc t) _ HT5.out Try.underlying72 rfl infoRTa ?_)
              | (refine wpList_store_mid rfl 72 _ _ rfl (w.heap.size + 1) 0 (tc t).toArray rfl rfl HT15.out infoRTa (all_oneCell_toArray (tc_one _)) ?_; generalize hw8 : World.setCells w5 _ _ _ = w8))
            have HTR := Lib.hid (show TaAt w8 (w.heap.size + 1) 0 t by rw [← hw8]; exact ta_stored _ _ t HT15.out)
            have HB8 := Lib.hid (below_cells _ _ _ HB5.out (Nat.le_succ _) hw8)
            refine bodyPost_ret (fin_rta rfl _ _ _ rfl _ HTR.out) rfl ?_
            exact ⟨rfl, HB8.out⟩
      · have hht : ht = (t, e) := by rw [← HU2.out, if_pos he]
        subst hht
        have he1 : (e != 0) = true := bne_iff_ne.2 he
        go_wp2_with (first
          | (refine wpList_load_mid rfl 72 _ rfl w.heap.size 0 rfl (tc t) _ HT5.out Try.underlying72 rfl infoRTa ?_)
          | (refine wpList_store_mid rfl 72 _ _ rfl (w.heap.size + 1) 0 (tc t).toArray rfl rfl HT15.out infoRTa (all_oneCell_toArray (tc_one _)) ?_; generalize hw8 : World.setCells w5 _ _ _ = w8))
        have HTR := Lib.hid (show TaAt w8 (w.heap.size + 1) 0 t by rw [← hw8]; exact ta_stored _ _ t HT15.out)
        have HB8 := Lib.hid (below_cells _ _ _ HB5.out (Nat.le_succ _) hw8)
        refine bodyPost_ret (fin_rta rfl _ _ _ rfl _ HTR.out) rfl ?_
        exact ⟨rfl, HB8.out⟩
end Go.Proofs.Ytdlfjbllmmkmkaa.Chair
