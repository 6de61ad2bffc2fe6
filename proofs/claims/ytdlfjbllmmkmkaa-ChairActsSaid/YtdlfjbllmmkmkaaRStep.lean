/- What the document's step answers: a call, without the log. -/
import Derived.Test.YtdlfjbllmmkmkaaRBegin
import Derived.Test.YtdlfjbllmmkmkaaZero
namespace Go.Proofs.Ytdlfjbllmmkmkaa.Chair
open Go.RowKit Flat ChairSpec News Go.Proofs.YtdlfjbllmmkmkaaW.PrintLast
set_option linter.unusedSimpArgs false
set_option linter.unusedVariables false
set_option maxRecDepth 100000
theorem results_cell_two {fn : Func} {p u v : Tmp} {ty : TypeId} (h : fn.results = #[.cell p ty, .tmp u, .tmp v]) (tmps : Array Value) (P : Program) (w : World) :
    (results fn tmps).run P w =
      ((asAddr (tmps.getD p undef)).run P w).andThen fun a w₁ => ((loadVar ty a).run P w₁).andThen fun x w₂ => .ok (.tuple #[x, tmps.getD u undef, tmps.getD v undef]) w₂ := by
  simp only [results, h]
  simp [Sem.run_bind, Result.andThen]
theorem fin_rc3 {fn : Func} {p u v : Tmp} (h : fn.results = #[.cell p 28, .tmp u, .tmp v]) (tmps : Array Value) (w : World) (b : Nat) (hp : tmps.getD p undef = .pointer (some ⟨b, 0, none⟩)) (dv lv : Value) (hd : w.rangeAt b 0 (chc dv lv)) :
    (results fn tmps).run Try.prog w = .ok (.tuple #[.agg #[dv, lv], tmps.getD u undef, tmps.getD v undef]) w := by
  have hl := run_loadVar_mid (P := Try.prog) w b 0 28 (chc dv lv) _ hd Try.underlying28 rfl infoRC
  rw [results_cell_two h, hp]
  simp [asAddr, hl, chc]
theorem stepBad (k x : Int) (h : k < 1 ∨ 4 < k ∨ x < 0 ∨ 1000 ≤ x) : k < 1 ∨ (¬ k < 1 ∧ 4 < k) ∨ (¬ k < 1 ∧ ¬ 4 < k ∧ x < 0) ∨ (¬ k < 1 ∧ ¬ 4 < k ∧ ¬ x < 0 ∧ 1000 ≤ x) := by omega
theorem rows_deals {w : World} {g cap : Nat} {E : Ds} (h : rowsAt w g E) (hg : g < w.heap.size) (h1 : E.length ≤ cap) (h2 : cap ≤ maxLen) : IsDeals w (.slice (some ⟨g, 0, none⟩) E.length cap) E :=
  ⟨_, cap, rfl, h1, h2, fun _ => ⟨g, 0, rfl, hg, fun i hi => by rw [Nat.zero_add]; exact h i hi⟩⟩
theorem zero_there {w : World} {B g n : Nat} {cs : List Value} (h : Zero w B g cs) (hn : cs.length = n) : w.there g 0 n := fun j hj => by
  refine ⟨?_, h.2.2.2 _⟩
  rw [Nat.zero_add, h.2.2.1 j, List.getElem?_eq_getElem (by omega)]; rfl
theorem IsDeals.keep {w w' : World} {v : Value} {D : Ds} {c o : Nat} {vs : List Value} (h : IsDeals w v D) (e : w.setCells c o vs = w') (hne : ∀ k, v.ownBlock = some k → 0 < D.length → k ≠ c) : IsDeals w' v D := by
  obtain ⟨a, cap, rfl, h1, h2, hc⟩ := h
  refine ⟨a, cap, rfl, h1, h2, fun hl => ?_⟩
  obtain ⟨b, off, rfl, hb, hd⟩ := hc hl
  have hbc := hne b rfl hl
  exact ⟨b, off, rfl, Nat.lt_of_lt_of_le hb (below_cells _ _ _ (Below.refl 0 w) (Nat.zero_le _) e).size, fun i hi j u hu => (cells_apart e hbc).trans (hd i hi j u hu)⟩
theorem lo_ne {w w3 w4 : World} {dv v' : Value} {D D' : Ds} {c : Nat} (hd : IsDeals w dv D) (hd' : IsDeals w4 v' D') (hlo : v' = dv ∨ ∀ k, v'.ownBlock = some k → w3.heap.size ≤ k) (h1 : w.heap.size ≤ c) (h2 : c < w3.heap.size) : ∀ k, v'.ownBlock = some k → 0 < D'.length → k ≠ c := by
  intro k hk hl
  rcases hlo with rfl | h
  · obtain ⟨a, cap, rfl, _, _, hc⟩ := hd
    obtain ⟨a', cap', e, _⟩ := hd'
    have e2 : D.length = D'.length := by injection e
    obtain ⟨b, off, rfl, hb, _⟩ := hc (by omega)
    have : b = k := by simpa [Value.ownBlock] using hk
    omega
  · have := h k hk
    omega
theorem lo_up {w w3 : World} {dv v' : Value} (h : v' = dv ∨ ∀ k, v'.ownBlock = some k → w3.heap.size ≤ k) (hw : w.heap.size ≤ w3.heap.size) : v' = dv ∨ ∀ k, v'.ownBlock = some k → w.heap.size ≤ k := h.imp id fun h k hk => Nat.le_trans hw (h k hk)
set_option maxHeartbeats 8000000 in
theorem rstep_any (dv lv : Value) (D : Ds) (kd tx ep vt now sp cp : Int) (n : Nat) (hn : n ≤ 255) (w : World) (hd : IsDeals w dv D) (hlen : D.length ≤ 1000) (hlv : lv.oneCell' = true) :
    Calls Try.prog 25 #[.agg #[dv, lv], .agg #[.int .i64 kd, .int .i64 tx, .int .u8 (n : Int), .int .i64 ep, .int .i64 vt, .int .i64 now, .int .i64 sp, .int .i64 cp]] w fun e w' => ∃ v', e = .returned (.tuple #[.agg #[v', lv], .int .i64 (stepR D (⟨kd, tx, n, ep, vt, now, sp, cp⟩ : Re)).2.1, .int .i64 (stepR D (⟨kd, tx, n, ep, vt, now, sp, cp⟩ : Re)).2.2]) ∧ IsDeals w' v' (stepR D (⟨kd, tx, n, ep, vt, now, sp, cp⟩ : Re)).1 ∧ Below w.heap.size w w' ∧ (v' = dv ∨ ∀ k, v'.ownBlock = some k → w.heap.size ≤ k) := by
  have HD := Lib.hid hd
  have HLV := Lib.hid hlv
  have HDV := Lib.hid hd.one
  have HN := Lib.hid (fun v1 v2 v3 t1 t2 t3 Z hZ h1 h2 h3 => cr_new w v1 v2 v3 dv lv (⟨kd, tx, n, ep, vt, now, sp, cp⟩ : Re) t1 t2 t3 Z hZ h1 h2 h3)
  clear hd hlv
  have HBG := Lib.hid (fun W (h : IsDeals W dv D) => rbegin_any dv lv D kd tx ep vt now sp cp n hn W h hlen HLV.out)
  have HTI := Lib.hid (fun W (h : IsDeals W dv D) => rtick_any dv lv D now W h hlen HLV.out)
  have HFI := Lib.hid (fun W (h : IsDeals W dv D) => rfind_any dv lv D tx W h)
  go_enter Try.func25, Try.ntmps25
  go_upto_region 1 with fail
  generalize hv1 : World.alloc w _ = v1
  generalize hv2 : World.alloc v1 _ = v2
  generalize hv3 : World.alloc v2 _ = v3
  have HC := Lib.hid (HN.out v1 v2 v3 _ _ _ _ rfl hv1 hv2 hv3)
  clear hv1 hv2 hv3 HN
  have HD3 := Lib.hid (HD.out.below HC.out.bel)
  obtain ⟨c0, c1⟩ := And.intro HC.out.c0 HC.out.c1
  obtain ⟨k0, k1, k2, k3, k4, k5, k6, k7⟩ := HC.out.rcd
  by_cases hb : badR (⟨kd, tx, n, ep, vt, now, sp, cp⟩ : Re)
  · have HG : Hid (stepR D (⟨kd, tx, n, ep, vt, now, sp, cp⟩ : Re) = (D, 0, 2)) := Lib.hid (by rw [stepR, if_pos hb])
    rcases stepBad kd tx hb with h | ⟨h1, h⟩ | ⟨h1, h2, h⟩ | ⟨h1, h2, h3, h⟩
    all_goals
      clear hb HBG HTI HFI
      go_upto_region 2 with fail
      go_wp2_with (refine wpList_store_mid rfl 28 _ _ rfl (w.heap.size + 1 + 1) 0 (chc dv lv).toArray rfl rfl HC.out.res infoRC (all_oneCell_toArray (chc_one HDV.out HLV.out)) ?_; generalize hw8 : World.setCells v3 _ _ _ = w8)
      (obtain ⟨hr8, hb8⟩ := HC.out.done hw8; refine bodyPost_ret (fin_rc3 rfl _ _ _ rfl _ _ hr8) rfl ?_; rw [HG.out]; exact ⟨dv, rfl, HD.out.below hb8, hb8, .inl rfl⟩)
  · have HNB := Lib.hid hb
    obtain ⟨h1, h2, h3, h4⟩ : ¬ kd < 1 ∧ ¬ 4 < kd ∧ ¬ tx < 0 ∧ ¬ 1000 ≤ tx := by unfold badR at hb; dsimp only at hb; omega
    clear hb
    go_upto_region 3 with fail
    clear h1 h2 h3 h4
    by_cases hk4 : kd = 4
    · have HG : Hid (stepR D (⟨kd, tx, n, ep, vt, now, sp, cp⟩ : Re) = (D.map (tk now), ((cntR now D D.length : Nat) : Int), 0)) := Lib.hid (by rw [stepR, if_neg HNB.out, if_pos hk4])
      have HTC := Lib.hid (HTI.out v3 HD3.out)
      subst hk4
      clear HBG HFI HTI
      go_wp2_with fail
      refine HTC.out.mono ?_
      rintro q v4 ⟨v', rfl, hd4, hb4, hlo4⟩
      have HNE := Lib.hid (lo_ne (c := w.heap.size + 1 + 1) HD.out hd4 hlo4 (by omega) HC.out.big)
      have HLO := Lib.hid (lo_up hlo4 HC.out.bel.size)
      have HC4 := Lib.hid (HC.out.below hb4)
      have HD4 := Lib.hid hd4
      clear HC HTC hb4 hd4 hlo4 c0 c1 k0 k1 k2 k3 k4 k5 k6 k7
      go_upto_region 5 with (refine wpList_store_mid rfl 28 _ _ rfl (v4.heap.size) 0 (chc v' lv).toArray rfl rfl (there_newN v4 _ _ 2 rfl) infoRC (all_oneCell_toArray (chc_one HD4.out.one HLV.out)) ?_; generalize hw5 : World.setCells _ _ _ _ = w5)
      obtain ⟨hb5, hz5, hX5, _⟩ := new_cells (xs := chc v' lv) (n := 2) rfl rfl (by decide) hw5
      have HC5 := Lib.hid (HC4.out.below hb5)
      have HX := Lib.hid hX5
      have HD5 := Lib.hid (HD4.out.below hb5)
      clear hw5 hb5 hX5 HC4 HD4
      generalize v4.heap.size = b5 at *
      go_wp2_with (first
        | (refine wpList_load_mid rfl 28 _ rfl b5 0 rfl (chc v' lv) _ HX.out Try.underlying28 rfl infoRC ?_)
        | (refine wpList_store_mid rfl 28 _ _ rfl (w.heap.size + 1 + 1) 0 (chc v' lv).toArray rfl rfl HC5.out.res infoRC (all_oneCell_toArray (chc_one HD5.out.one HLV.out)) ?_; generalize hw8 : World.setCells w5 _ _ _ = w8))
      obtain ⟨hr8, hb8⟩ := HC5.out.done hw8
      refine bodyPost_ret (fin_rc3 rfl _ _ _ rfl _ _ hr8) rfl ?_
      rw [HG.out]
      exact ⟨v', rfl, HD5.out.keep hw8 HNE.out, hb8, HLO.out⟩
    · by_cases hk1 : kd = 1
      · have HG : Hid (stepR D (⟨kd, tx, n, ep, vt, now, sp, cp⟩ : Re) = ((beginR D (⟨kd, tx, n, ep, vt, now, sp, cp⟩ : Re)).1, 0, (beginR D (⟨kd, tx, n, ep, vt, now, sp, cp⟩ : Re)).2)) := Lib.hid (by rw [stepR, if_neg HNB.out, if_neg hk4, if_pos hk1])
        have HTC := Lib.hid (HBG.out v3 HD3.out)
        subst hk1
        clear HBG HFI HTI hk4
        go_upto_region 7 with fail
        go_wp2_with fail
        refine HTC.out.mono ?_
        rintro q v4 ⟨v', rfl, hd4, hb4, hlo4⟩
        have HNE := Lib.hid (lo_ne (c := w.heap.size + 1 + 1) HD.out hd4 hlo4 (by omega) HC.out.big)
        have HLO := Lib.hid (lo_up hlo4 HC.out.bel.size)
        have HC4 := Lib.hid (HC.out.below hb4)
        have HD4 := Lib.hid hd4
        clear HC HTC hb4 hd4 hlo4 c0 c1 k0 k1 k2 k3 k4 k5 k6 k7
        go_upto_region 8 with (refine wpList_store_mid rfl 28 _ _ rfl (v4.heap.size) 0 (chc v' lv).toArray rfl rfl (there_newN v4 _ _ 2 rfl) infoRC (all_oneCell_toArray (chc_one HD4.out.one HLV.out)) ?_; generalize hw5 : World.setCells _ _ _ _ = w5)
        obtain ⟨hb5, hz5, hX5, _⟩ := new_cells (xs := chc v' lv) (n := 2) rfl rfl (by decide) hw5
        have HC5 := Lib.hid (HC4.out.below hb5)
        have HX := Lib.hid hX5
        have HD5 := Lib.hid (HD4.out.below hb5)
        clear hw5 hb5 hX5 HC4 HD4
        generalize v4.heap.size = b5 at *
        go_wp2_with (first
          | (refine wpList_load_mid rfl 28 _ rfl b5 0 rfl (chc v' lv) _ HX.out Try.underlying28 rfl infoRC ?_)
          | (refine wpList_store_mid rfl 28 _ _ rfl (w.heap.size + 1 + 1) 0 (chc v' lv).toArray rfl rfl HC5.out.res infoRC (all_oneCell_toArray (chc_one HD5.out.one HLV.out)) ?_; generalize hw8 : World.setCells w5 _ _ _ = w8))
        obtain ⟨hr8, hb8⟩ := HC5.out.done hw8
        refine bodyPost_ret (fin_rc3 rfl _ _ _ rfl _ _ hr8) rfl ?_
        rw [HG.out]
        exact ⟨v', rfl, HD5.out.keep hw8 HNE.out, hb8, HLO.out⟩
      · have hkb4 : (kd == 4) = false := beq_eq_false_iff_ne.2 hk4
        have hkb1 : (kd == 1) = false := beq_eq_false_iff_ne.2 hk1
        have HFC := Lib.hid (HFI.out v3 HD3.out)
        clear HBG HTI HFI
        cases hp : placeR D tx with
        | none =>
          have HG : Hid (stepR D (⟨kd, tx, n, ep, vt, now, sp, cp⟩ : Re) = (D, 0, 7)) := Lib.hid (by rw [stepR, if_neg HNB.out, if_neg hk4, if_neg hk1]; dsimp only; rw [hp])
          rw [findR_none hp] at HFC
          clear hp
          go_upto_region 9 with fail
          go_wp2_with fail
          refine HFC.out.mono ?_
          rintro q v4 ⟨rfl, hb4⟩
          have HC4 := Lib.hid (HC.out.below hb4)
          clear HC HFC hb4 c0 c1 k0 k1 k2 k3 k4 k5 k6 k7
          obtain ⟨c0, c1⟩ := And.intro HC4.out.c0 HC4.out.c1
          go_upto_region 11 with fail
          go_wp2_with (refine wpList_store_mid rfl 28 _ _ rfl (w.heap.size + 1 + 1) 0 (chc dv lv).toArray rfl rfl HC4.out.res infoRC (all_oneCell_toArray (chc_one HDV.out HLV.out)) ?_; generalize hw8 : World.setCells v4 _ _ _ = w8)
          (obtain ⟨hr8, hb8⟩ := HC4.out.done hw8; refine bodyPost_ret (fin_rc3 rfl _ _ _ rfl _ _ hr8) rfl ?_; rw [HG.out]; exact ⟨dv, rfl, HD.out.below hb8, hb8, .inl rfl⟩)
        | some p =>
          rw [findR_some hp] at HFC
          obtain ⟨d, hpd, _⟩ := place_look hp
          have hpl : p < D.length := (List.getElem?_eq_some_iff.1 hpd).1
          obtain ⟨T, HT⟩ : ∃ T, Hid (dealR d (⟨kd, tx, n, ep, vt, now, sp, cp⟩ : Re) = T) := ⟨_, Lib.hid rfl⟩
          have HDL := Lib.hid (fun W => rdeal_any tx d (⟨kd, tx, n, ep, vt, now, sp, cp⟩ : Re) n rfl hn W)
          rw [HT.out] at HDL
          obtain ⟨d', e⟩ := T
          have HG : Hid (stepR D (⟨kd, tx, n, ep, vt, now, sp, cp⟩ : Re) = if e ≠ 0 then (D, 0, e) else (D.set p (tx, d'), if d'.out ≠ 0 then 1 else 0, 0)) := Lib.hid (by
            rw [stepR, if_neg HNB.out, if_neg hk4, if_neg hk1]; dsimp only; rw [hp]; dsimp only; rw [hpd]; dsimp only; rw [HT.out])
          obtain ⟨a, cap, rfl, hlc, hcm, hcc⟩ := HD.out
          obtain ⟨b, off, rfl, hbl, hrows⟩ := hcc (by omega)
          have HROW := Lib.hid (show w.rangeAt b (off + p * 30) (rdc tx d) by
            have := hrows p hpl
            rw [show D[p] = (tx, d) from (List.getElem?_eq_some_iff.1 hpd).2] at this
            exact this)
          have hp0 : (0 : Int) ≤ (p : Int) := by omega
          have hpI : (p : Int) < (D.length : Int) := by omega
          have hpn : ¬ (p : Int) < 0 := by omega
          unfold maxLen at hcm
          clear hp hpd hcc hrows HT
          dsimp only at HDL
          go_upto_region 9 with fail
          go_wp2_with fail
          refine HFC.out.mono ?_
          rintro q v4 ⟨rfl, hb4⟩
          have HC4 := Lib.hid (HC.out.below hb4)
          have HR4 := Lib.hid (show v4.rangeAt b (off + p * 30) (rdc tx d) from fun j u hu => ((HC.out.bel.trans (hb4.mono HC.out.bel.size)).cell (p := ⟨b, off + p * 30 + j, none⟩) hbl).trans (HROW.out j u hu))
          have hb4l : b < v4.heap.size := Nat.lt_of_lt_of_le hbl HC4.out.bel.size
          clear HC HFC hb4 c0 c1 k0 k1 k2 k3 k4 k5 k6 k7 HROW HD3
          obtain ⟨c0, c1⟩ := And.intro HC4.out.c0 HC4.out.c1
          obtain ⟨k0, k1, k2, k3, k4, k5, k6, k7⟩ := HC4.out.rcd
          have hz0 : w.heap.size < v4.heap.size := by have := HC4.out.big; omega
          have hz1 : w.heap.size + 1 < v4.heap.size := by have := HC4.out.big; omega
          go_upto_region 12 with fail
          refine start_ (n := 13) (S := fun w' => Below v4.heap.size v4 w' ∧ ∀ b o, b < v4.heap.size → w'.cell? ⟨b, o, none⟩ = v4.cell? ⟨b, o, none⟩) (ds := []) #[false, false, false, false, false, false, false, false, false, false, false, false, false] (by kernel_rfl) rfl rfl ⟨(still_drew v4).1, (still_drew v4).2⟩ (fun hHeld => ?_)
          generalize v4.drew = wD at hHeld ⊢
          refine pure_ (i := 0) (N := some 65) (v := ?_) (a' := ?_) #[true, false, false, false, false, false, false, false, false, false, false, false, false] rfl rfl (by kernel_rfl) (fun _ _ _ h => h) (Or.inl ⟨by rfl, ?_⟩) ?_ ?_
          rotate_left
          · intro w'
            go_simp
            with_reducible rfl
          rotate_left
          · simp only [Act.put, List.setIfInBounds_toArray, List.set_cons_zero, List.set_cons_succ, i64_w, i32_w]
            rfl
          refine pure_ (i := 2) (N := some 67) (v := ?_) (a' := ?_) #[true, false, true, false, false, false, false, false, false, false, false, false, false] rfl rfl (by kernel_rfl) (fun _ _ _ h => h) (Or.inl ⟨by rfl, ?_⟩) ?_ ?_
          rotate_left
          · intro w'
            go_simp
            with_reducible rfl
          rotate_left
          · simp only [Act.put, List.setIfInBounds_toArray, List.set_cons_zero, List.set_cons_succ, i64_w, i32_w]
            rfl
          refine take_ (i := 1) (N := some 66) (v := ?_) (a' := ?_) #[true, true, true, false, false, false, false, false, false, false, false, false, false] rfl rfl (by kernel_rfl) (fun _ _ _ h => h) (Or.inl ⟨by rfl, ?_⟩) hHeld ?_ ?_
          rotate_left
          · rintro w' ⟨s0, s1⟩
            go_simp
            with_reducible rfl
          rotate_left
          · simp only [Act.put, List.setIfInBounds_toArray, List.set_cons_zero, List.set_cons_succ, i64_w, i32_w]
            rfl
          refine pure_ (i := 3) (N := some 68) (v := ?_) (a' := ?_) #[true, true, true, true, false, false, false, false, false, false, false, false, false] rfl rfl (by kernel_rfl) (fun _ _ _ h => h) (Or.inl ⟨by rfl, ?_⟩) ?_ ?_
          rotate_left
          · intro w'
            go_simp
            with_reducible rfl
          rotate_left
          · simp only [Act.put, List.setIfInBounds_toArray, List.set_cons_zero, List.set_cons_succ, i64_w, i32_w]
            rfl
          refine take_ (i := 4) (N := some 69) (v := ?_) (a' := ?_) #[true, true, true, true, true, false, false, false, false, false, false, false, false] rfl rfl (by kernel_rfl) (fun _ _ _ h => h) (Or.inl ⟨by rfl, ?_⟩) hHeld ?_ ?_
          rotate_left
          · rintro w' ⟨s0, s1⟩
            refine Eq.trans (range_run (x := .tmp 68) (b := b) (o := off + p * 30) (cs := rdc tx d) rfl rfl (fun j u hu => (s1 b _ hb4l).trans (HR4.out j u hu)) Try.underlying75 rfl infoRDe) ?_
            with_reducible rfl
          rotate_left
          · simp only [Act.put, List.setIfInBounds_toArray, List.set_cons_zero, List.set_cons_succ, i64_w, i32_w]
            rfl
          refine take_ (i := 5) (N := some 70) (v := ?_) (a' := ?_) #[true, true, true, true, true, true, false, false, false, false, false, false, false] rfl rfl (by kernel_rfl) (fun _ _ _ h => h) (Or.inl ⟨by rfl, ?_⟩) hHeld ?_ ?_
          rotate_left
          · rintro w' ⟨s0, s1⟩
            go_simp
            with_reducible rfl
          rotate_left
          · simp only [Act.put, List.setIfInBounds_toArray, List.set_cons_zero, List.set_cons_succ, i64_w, i32_w]
            rfl
          refine join_ (σ := Nat) 2 #[true, true, true, true, true, true, true, true, true, true, true, false, false] (fun q => [(71, .tuple #[.agg (rdc tx d').toArray, .int .i64 e]), (64, .tuple #[.agg (rdc tx d').toArray, .int .i64 e]), (72, .agg (rdc tx d').toArray), (73, .int .i64 e), (12, .pointer (some ⟨q, 0, none⟩))]) (fun q w' => (Below v4.heap.size v4 w' ∧ ∀ b o, b < v4.heap.size → w'.cell? ⟨b, o, none⟩ = v4.cell? ⟨b, o, none⟩) ∧ Zero w' v4.heap.size q (rdc 0 zDe)) ?_ ?_
          rotate_left
          · intro hCont
            refine two_ (i := 6) (j := 10) (Ni := some 71) (Nj := some 12) #[true, true, true, true, true, true, true, false, false, false, false, false, false] #[true, true, true, true, true, true, false, false, false, false, true, false, false] rfl rfl rfl rfl (by kernel_rfl) (by decide) (by decide) (fun K hK => ?_) (fun K hK => ?_)
            · skip
              refine goes_ Try.func38 (by kernel_rfl) rfl #[.agg (rdc tx d).toArray, .agg #[.int .i64 kd, .int .i64 tx, .int .u8 (n : Int), .int .i64 ep, .int .i64 vt, .int .i64 now, .int .i64 sp, .int .i64 cp]] (by rfl) rfl rfl (by simp only [List.map_toArray, List.map_cons, List.map_nil]; rfl) ?_
              refine (HDL.out _).mono ?_
              rintro r w4 ⟨rfl, hb⟩
              refine ⟨_, rfl, ?_⟩
              refine hK.out _ _ ⟨(still_keep hHeld hb).1, (still_keep hHeld hb).2⟩ (fun hHeld => ?_)
              clear hK K
              refine norm_ (a' := ?_) ?_ ?_
              rotate_left
              · show Act.put _ (some 71) _ = _
                simp only [Act.put, List.setIfInBounds_toArray, List.set_cons_zero, List.set_cons_succ, i64_w, i32_w]
                rfl
              refine pure_ (i := 7) (N := some 64) (v := ?_) (a' := ?_) #[true, true, true, true, true, true, true, true, false, false, false, false, false] rfl rfl (by kernel_rfl) (fun _ _ _ h => h) (Or.inl ⟨by rfl, ?_⟩) ?_ ?_
              rotate_left
              · intro w'
                go_simp
                with_reducible rfl
              rotate_left
              · simp only [Act.put, List.setIfInBounds_toArray, List.set_cons_zero, List.set_cons_succ, i64_w, i32_w]
                rfl
              refine pure_ (i := 8) (N := some 72) (v := ?_) (a' := ?_) #[true, true, true, true, true, true, true, true, true, false, false, false, false] rfl rfl (by kernel_rfl) (fun _ _ _ h => h) (Or.inl ⟨by rfl, ?_⟩) ?_ ?_
              rotate_left
              · intro w'
                go_simp
                with_reducible rfl
              rotate_left
              · simp only [Act.put, List.setIfInBounds_toArray, List.set_cons_zero, List.set_cons_succ, i64_w, i32_w]
                rfl
              refine pure_ (i := 9) (N := some 73) (v := ?_) (a' := ?_) #[true, true, true, true, true, true, true, true, true, true, false, false, false] rfl rfl (by kernel_rfl) (fun _ _ _ h => h) (Or.inl ⟨by rfl, ?_⟩) ?_ ?_
              rotate_left
              · intro w'
                go_simp
                with_reducible rfl
              rotate_left
              · simp only [Act.put, List.setIfInBounds_toArray, List.set_cons_zero, List.set_cons_succ, i64_w, i32_w]
                rfl
              refine one_ (i := 10) (N := some 12) #[true, true, true, true, true, true, true, true, true, true, true, false, false] rfl rfl (by kernel_rfl) (by decide) (fun K hK => ?_)
              refine value_ (w1 := ?_) (v := ?_) (by rfl) rfl ?_ ?_
              rotate_left 2
              · go_simp
                constructor
                · rfl
                · rfl
              generalize hga : World.alloc _ _ = wA
              have hbA := (alloc_facts hga).1
              have hZ := zero_alloc (B := v4.heap.size) hga hHeld.1.size
              clear hga
              refine hK.out _ _ ⟨(still_keep hHeld hbA).1, (still_keep hHeld hbA).2⟩ (fun hHeld => ?_)
              clear hK K
              refine norm_ (a' := ?_) ?_ ?_
              rotate_left
              · show Act.put _ (some 12) _ = _
                simp only [Act.put, List.setIfInBounds_toArray, List.set_cons_zero, List.set_cons_succ, i64_w, i32_w]
                rfl
              exact norm_ (by simp only [putAll, Act.put, List.setIfInBounds_toArray, List.set_cons_zero, List.set_cons_succ]) (hCont ((World.heap _).size) _ ⟨hHeld, hZ⟩)
            · skip
              refine value_ (w1 := ?_) (v := ?_) (by rfl) rfl ?_ ?_
              rotate_left 2
              · go_simp
                constructor
                · rfl
                · rfl
              generalize hga : World.alloc _ _ = wA
              have hbA := (alloc_facts hga).1
              have hZ := zero_alloc (B := v4.heap.size) hga hHeld.1.size
              clear hga
              refine hK.out _ _ ⟨(still_keep hHeld hbA).1, (still_keep hHeld hbA).2⟩ (fun hHeld => ?_)
              clear hK K
              refine norm_ (a' := ?_) ?_ ?_
              rotate_left
              · show Act.put _ (some 12) _ = _
                simp only [Act.put, List.setIfInBounds_toArray, List.set_cons_zero, List.set_cons_succ, i64_w, i32_w]
                rfl
              refine one_ (i := 6) (N := some 71) #[true, true, true, true, true, true, true, false, false, false, true, false, false] rfl rfl (by kernel_rfl) (by decide) (fun K hK => ?_)
              refine goes_ Try.func38 (by kernel_rfl) rfl #[.agg (rdc tx d).toArray, .agg #[.int .i64 kd, .int .i64 tx, .int .u8 (n : Int), .int .i64 ep, .int .i64 vt, .int .i64 now, .int .i64 sp, .int .i64 cp]] (by rfl) rfl rfl (by simp only [List.map_toArray, List.map_cons, List.map_nil]; rfl) ?_
              refine (HDL.out _).mono ?_
              rintro r w4 ⟨rfl, hb⟩
              refine ⟨_, rfl, ?_⟩
              have hZ := zero_stay hb hZ
              refine hK.out _ _ ⟨(still_keep hHeld hb).1, (still_keep hHeld hb).2⟩ (fun hHeld => ?_)
              clear hK K
              refine norm_ (a' := ?_) ?_ ?_
              rotate_left
              · show Act.put _ (some 71) _ = _
                simp only [Act.put, List.setIfInBounds_toArray, List.set_cons_zero, List.set_cons_succ, i64_w, i32_w]
                rfl
              refine pure_ (i := 7) (N := some 64) (v := ?_) (a' := ?_) #[true, true, true, true, true, true, true, true, false, false, true, false, false] rfl rfl (by kernel_rfl) (fun _ _ _ h => h) (Or.inl ⟨by rfl, ?_⟩) ?_ ?_
              rotate_left
              · intro w'
                go_simp
                with_reducible rfl
              rotate_left
              · simp only [Act.put, List.setIfInBounds_toArray, List.set_cons_zero, List.set_cons_succ, i64_w, i32_w]
                rfl
              refine pure_ (i := 8) (N := some 72) (v := ?_) (a' := ?_) #[true, true, true, true, true, true, true, true, true, false, true, false, false] rfl rfl (by kernel_rfl) (fun _ _ _ h => h) (Or.inl ⟨by rfl, ?_⟩) ?_ ?_
              rotate_left
              · intro w'
                go_simp
                with_reducible rfl
              rotate_left
              · simp only [Act.put, List.setIfInBounds_toArray, List.set_cons_zero, List.set_cons_succ, i64_w, i32_w]
                rfl
              refine pure_ (i := 9) (N := some 73) (v := ?_) (a' := ?_) #[true, true, true, true, true, true, true, true, true, true, true, false, false] rfl rfl (by kernel_rfl) (fun _ _ _ h => h) (Or.inl ⟨by rfl, ?_⟩) ?_ ?_
              rotate_left
              · intro w'
                go_simp
                with_reducible rfl
              rotate_left
              · simp only [Act.put, List.setIfInBounds_toArray, List.set_cons_zero, List.set_cons_succ, i64_w, i32_w]
                rfl
              exact norm_ (by simp only [putAll, Act.put, List.setIfInBounds_toArray, List.set_cons_zero, List.set_cons_succ]) (hCont ((World.heap _).size) _ ⟨hHeld, hZ⟩)
          rintro q w5 ⟨hHeld, hZ⟩
          refine norm_ (a' := ?_) ?_ ?_
          rotate_left
          · simp only [putAll, Act.put, List.setIfInBounds_toArray, List.set_cons_zero, List.set_cons_succ]
            rfl
          refine one_ (i := 11) (N := none) #[true, true, true, true, true, true, true, true, true, true, true, true, false] rfl rfl (by kernel_rfl) (by decide) (fun K hK => ?_)
          refine store_range_ (by rfl) rfl 75 (.tmp 12) (.tmp 72) rfl q 0 (rdc tx d').toArray (by rfl) (by rfl) (zero_there hZ rfl) infoRDe (all_oneCell_toArray (rdc_one _ _)) ?_
          generalize hw6 : World.setCells w5 _ _ _ = w6
          have hb6 := below_cells _ _ _ hHeld.1 hZ.1 hw6
          refine hK.out _ _ ⟨hb6, (fun b o h => hb6.cell (p := ⟨b, o, none⟩) h)⟩ (fun hHeld => ?_)
          clear hK K
          refine pure_ (i := 12) (N := some 13) (v := ?_) (a' := ?_) #[true, true, true, true, true, true, true, true, true, true, true, true, true] rfl rfl (by kernel_rfl) (fun _ _ _ h => h) (Or.inl ⟨by rfl, ?_⟩) ?_ ?_
          rotate_left
          · intro w'
            go_simp
            with_reducible rfl
          rotate_left
          · simp only [Act.put, List.setIfInBounds_toArray, List.set_cons_zero, List.set_cons_succ, i64_w, i32_w]
            rfl
          refine done_ (by kernel_rfl) ?_

          have HX6 := Lib.hid (show RDeAt w6 q tx d' by rw [← hw6]; exact World.rangeAt_setCells_same _ _ 0 (rdc tx d') (zero_there hZ rfl))
          have hqB : v4.heap.size ≤ q := hZ.1
          have hqW : q < w6.heap.size := Flat.cell_lt (HX6.out 0 _ rfl)
          have HC6 := Lib.hid (HC4.out.below hHeld.1)
          have hbg := HC4.out.big
          clear hHeld hZ hw6 HC4 HR4 HDL c0 c1 k0 k1 k2 k3 k4 k5 k6 k7 hz0 hz1
          obtain ⟨c0, c1⟩ := And.intro HC6.out.c0 HC6.out.c1
          by_cases he : e = 0
          · subst he
            have hg := HG.out
            rw [if_neg (by simp)] at hg
            have HG2 := Lib.hid hg
            clear hg HG
            obtain ⟨ti, z, hi, hz, hs, hbs, hzs⟩ := info_zero infoRD zcellsRD
            have HI := Lib.hid hi
            have HZ := Lib.hid hz
            have HS := Lib.hid hs
            have HBY := Lib.hid hbs
            have HZS := Lib.hid hzs
            clear hi hz hs hbs hzs
            go_upto_region 15 with fail
            have hz0 : w.heap.size < w6.heap.size := by omega
            have HOW := Lib.hid (World.ownsRow_made (base := w6.heap.size) (e := 75) (size := 30) w6 #[] 0 (Nat.le_refl _) (Nat.zero_le _) rfl)
            have HSL := Lib.hid ((HD.out.below HC6.out.bel).sl.below ((Below.refl w6.heap.size w6).alloc (Nat.le_refl _) (.cells #[] 75)))
            go_upto_region 16 with (at_builtin; refine wpList_copy rfl _ _ 26 rfl (w6.heap.size) 75 ti z 30 184 Try.underlying26 HI.out HZ.out HS.out HBY.out HZS.out (by decide) _ rfl HOW.out _ D.length (dcl D) rfl HSL.out (dcl_len D) (dcl_one D) (by omega) (by simp) ?_; intro v' wA ho' hb')
            have hbv : Below w6.heap.size w6 wA := ((Below.refl w6.heap.size w6).alloc (Nat.le_refl _) _).trans hb'
            have HCA := Lib.hid (HC6.out.below hbv)
            have HXA := Lib.hid (HX6.out.below hbv)
            obtain ⟨aA, capA, rfl, hlA, hcA, hpA⟩ := own_parts ho'
            obtain ⟨g, rfl, hgB, hgW, hrA, htA⟩ := hpA (by omega)
            have HRA := Lib.hid (show rowsAt wA g D from fun j hj => by have := flat_split rd1 30 (fun _ => rfl) D 0 hrA j hj; rw [Nat.zero_add] at this; exact this)
            have HTA := Lib.hid htA
            unfold maxLen at hcA
            clear ho' hb' hbv HC6 HX6 HOW HSL hpA hrA htA HI HZ HS HBY HZS c0 c1 hz0
            obtain ⟨c0, c1⟩ := And.intro HCA.out.c0 HCA.out.c1
            go_upto_region 17 with (first
              | (refine wpList_load_mid rfl 75 _ rfl q 0 rfl (rdc tx d') _ HXA.out Try.underlying75 rfl infoRDe ?_; simp only [Act.put, List.setIfInBounds_toArray, List.set_cons_succ, List.set_cons_zero])
              | (refine wpList_store_mid rfl 75 _ _ rfl g (p * 30) (rdc tx d').toArray rfl rfl (there_at (o := p * 30) (m := 30) HTA.out (by omega)) infoRDe (all_oneCell_toArray (rdc_one _ _)) ?_; generalize hwB : World.setCells wA _ _ _ = wB))
            have HRB := Lib.hid (HRA.out.set (x := (tx, d')) HTA.out hpl hwB)
            have HCB := Lib.hid (HCA.out.apart (by omega) hwB)
            have HXB := Lib.hid (show RDeAt wB q tx d' from fun j u hu => (cells_apart hwB (by omega)).trans (HXA.out j u hu))
            have hgWB : g < wB.heap.size := Nat.lt_of_lt_of_le hgW (below_cells _ _ _ (Below.refl 0 wA) (Nat.zero_le _) hwB).size
            clear hwB HRA HTA HCA HXA c0 c1
            obtain ⟨c0, c1⟩ := And.intro HCB.out.c0 HCB.out.c1
            have f0 := (HCB.out.own 0 (by decide)).2
            rw [Nat.zero_add] at f0
            go_upto_region 18 with fail
            generalize hwC : World.setCell wB _ _ = wC
            have HCC := Lib.hid (HCB.out.field0 hwC)
            have HXC := Lib.hid (show RDeAt wC q tx d' from rangeAt_far HXB.out (by omega) hwC)
            have HDC := Lib.hid (show IsDeals wC (.slice (some ⟨g, 0, none⟩) D.length capA) (D.set p (tx, d')) by
              have h1 : rowsAt wC g (D.set p (tx, d')) := fun j hj => rangeAt_far (HRB.out j hj) (by omega) hwC
              have h2 := rows_deals (cap := capA) h1 (by rw [← hwC]; simpa using hgWB) (by simpa using hlA) (by unfold maxLen; exact hcA)
              rw [List.length_set] at h2
              exact h2)
            clear hwC HCB HXB HRB c0 c1 f0
            have p29 := HXC.out.parts.2.2.2
            have hbig := HCC.out.big
            by_cases ho : d'.out = 0
            · have hob : (d'.out != 0) = false := by rw [ho]; rfl
              have hg := HG2.out
              rw [if_neg (by simp [ho])] at hg
              have HG2 := Lib.hid hg
              clear hg ho
              go_upto_region 20 with fail
              go_wp2_with (first
                | (refine wpList_load_mid rfl 28 _ rfl w.heap.size 0 rfl (chc (.slice (some ⟨g, 0, none⟩) D.length capA) lv) _ HCC.out.row Try.underlying28 rfl infoRC ?_)
                | (refine wpList_store_mid rfl 28 _ _ rfl (w.heap.size + 1 + 1) 0 (chc (.slice (some ⟨g, 0, none⟩) D.length capA) lv).toArray rfl rfl HCC.out.res infoRC (all_oneCell_toArray (chc_one rfl HLV.out)) ?_; generalize hw8 : World.setCells wC _ _ _ = w8))
              obtain ⟨hr8, hb8⟩ := HCC.out.done hw8
              have hd8 := HDC.out.keep hw8 (by intro k hk _; have : g = k := by simpa [Value.ownBlock] using hk
                                               omega)
              refine bodyPost_ret (fin_rc3 rfl _ _ _ rfl _ _ hr8) rfl ?_
              rw [HG2.out]
              exact ⟨_, rfl, hd8, hb8, .inr fun k hk => by have : g = k := by simpa [Value.ownBlock] using hk
                                                           omega⟩
            · have hob : (d'.out != 0) = true := bne_iff_ne.2 ho
              have hg := HG2.out
              rw [if_pos ho] at hg
              have HG2 := Lib.hid hg
              clear hg ho
              go_upto_region 19 with fail
              go_wp2_with (first
                | (refine wpList_load_mid rfl 28 _ rfl w.heap.size 0 rfl (chc (.slice (some ⟨g, 0, none⟩) D.length capA) lv) _ HCC.out.row Try.underlying28 rfl infoRC ?_)
                | (refine wpList_store_mid rfl 28 _ _ rfl (w.heap.size + 1 + 1) 0 (chc (.slice (some ⟨g, 0, none⟩) D.length capA) lv).toArray rfl rfl HCC.out.res infoRC (all_oneCell_toArray (chc_one rfl HLV.out)) ?_; generalize hw8 : World.setCells wC _ _ _ = w8))
              obtain ⟨hr8, hb8⟩ := HCC.out.done hw8
              have hd8 := HDC.out.keep hw8 (by intro k hk _; have : g = k := by simpa [Value.ownBlock] using hk
                                               omega)
              refine bodyPost_ret (fin_rc3 rfl _ _ _ rfl _ _ hr8) rfl ?_
              rw [HG2.out]
              exact ⟨_, rfl, hd8, hb8, .inr fun k hk => by have : g = k := by simpa [Value.ownBlock] using hk
                                                           omega⟩
          · have hg := HG.out
            rw [if_pos he] at hg
            have HG := Lib.hid hg
            have heb : (e != 0) = true := bne_iff_ne.2 he
            clear hg HX6
            go_upto_region 14 with fail
            go_wp2_with (refine wpList_store_mid rfl 28 _ _ rfl (w.heap.size + 1 + 1) 0 (chc (.slice (some ⟨b, off, none⟩) D.length cap) lv).toArray rfl rfl HC6.out.res infoRC (all_oneCell_toArray (chc_one HDV.out HLV.out)) ?_; generalize hw8 : World.setCells w6 _ _ _ = w8)
            obtain ⟨hr8, hb8⟩ := HC6.out.done hw8
            refine bodyPost_ret (fin_rc3 rfl _ _ _ rfl _ _ hr8) rfl ?_
            rw [HG.out]
            exact ⟨_, rfl, HD.out.below hb8, hb8, .inl rfl⟩
end Go.Proofs.Ytdlfjbllmmkmkaa.Chair
