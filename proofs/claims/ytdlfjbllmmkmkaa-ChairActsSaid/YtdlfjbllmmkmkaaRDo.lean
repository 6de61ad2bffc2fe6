/- What the document's Do answers: a step, and the log behind it. -/
import Derived.Test.YtdlfjbllmmkmkaaRStep
namespace Go.Proofs.Ytdlfjbllmmkmkaa.Chair
open Go.RowKit Flat ChairSpec News Go.Proofs.YtdlfjbllmmkmkaaW.PrintLast
set_option linter.unusedSimpArgs false
set_option linter.unusedVariables false
set_option maxRecDepth 100000
theorem IsSl.one {w : World} {v : Value} {n : Nat} {xs : List Value} (h : IsSl w v n xs) : v.oneCell' = true := by
  obtain ⟨a, cap, rfl, _⟩ := h
  rfl
theorem IsSl.keep {w w' : World} {v : Value} {n : Nat} {xs : List Value} {c o : Nat} {vs : List Value} (h : IsSl w v n xs) (e : w.setCells c o vs = w') (hne : ∀ k, v.ownBlock = some k → 0 < n → k ≠ c) : IsSl w' v n xs := by
  obtain ⟨a, cap, rfl, h1, h2, hc⟩ := h
  refine ⟨a, cap, rfl, h1, h2, fun hl => ?_⟩
  obtain ⟨b, off, rfl, hb, hd⟩ := hc hl
  have hbc := hne b rfl hl
  exact ⟨b, off, rfl, Nat.lt_of_lt_of_le hb (below_cells _ _ _ (Below.refl 0 w) (Nat.zero_le _) e).size, fun j u hu => (cells_apart e hbc).trans (hd j u hu)⟩
theorem IsSl.lt {w : World} {v : Value} {n : Nat} {xs : List Value} (h : IsSl w v n xs) : ∀ k, v.ownBlock = some k → 0 < n → k < w.heap.size := by
  obtain ⟨a, cap, rfl, h1, h2, hc⟩ := h
  intro k hk hl
  obtain ⟨b, off, rfl, hb, hd⟩ := hc hl
  have : b = k := by simpa [Value.ownBlock] using hk
  omega
theorem IsDeals.lt {w : World} {v : Value} {D : Ds} (h : IsDeals w v D) : ∀ k, v.ownBlock = some k → 0 < D.length → k < w.heap.size := h.sl.lt
theorem IsDeals.low {w w' : World} {v : Value} {D : Ds} {B : Nat} (h : IsDeals w v D) (hb : Below B w w') (hlt : ∀ k, v.ownBlock = some k → 0 < D.length → k < B) : IsDeals w' v D := by
  obtain ⟨a, cap, rfl, h1, h2, hc⟩ := h
  refine ⟨a, cap, rfl, h1, h2, fun hl => ?_⟩
  obtain ⟨b, off, rfl, hbl, hd⟩ := hc hl
  have hbB := hlt b rfl hl
  exact ⟨b, off, rfl, Nat.lt_of_lt_of_le hbl hb.size, fun i hi j u hu => (hb.cell (p := ⟨b, _, none⟩) hbB).trans (hd i hi j u hu)⟩
theorem built_rec (r : Re) : Try.prog.builtSlice 34 1 [(0, .agg (rec1 r).toArray)] = some (rec1 r).toArray := by kernel_rfl
theorem wpList_one_rec {ops : Array Oper} {rest : List Oper} {o : Oper} {a : Act} {w : World} {Q : Exit → Act → World → Prop} (hg : o.guard = none) (x : Operand) (ho : o.op = .buildSlice 22 1 #[(0, x)]) (r : Re)
    (hx : a.eval x = .agg (rec1 r).toArray) (h : wpList Try.prog ops Q rest (a.put o.dst (.slice (some ⟨w.heap.size, 0, none⟩) 1 1)) (w.alloc (.cells (rec1 r).toArray 34))) : wpList Try.prog ops Q (o :: rest) a w := by
  refine Great.wpList_buildSliceTo hg 22 34 1 _ ho w.heap.size rfl o.dst rfl Try.underlying22 (rec1 r).toArray ?_ h
  simp only [List.map_toArray, List.map_cons, List.map_nil, hx]
  exact built_rec r
/-- A chair in a block: its second field. -/
theorem chc_field1 {w w' : World} {b : Nat} {dv lv u : Value} (h : w.rangeAt b 0 (chc dv lv)) (e : w.setCell ⟨b, 1, none⟩ u = w') : w'.rangeAt b 0 (chc dv u) := fun j v hv => by
  match j, hv with
  | 0, hv => cases hv; rw [← e]; exact (World.cell?_setCell_other _ _ _ _ (by simp)).trans (h 0 _ rfl)
  | 1, hv => cases hv; rw [← e]; exact World.cell?_setCell_same _ _ _ (h 1 _ rfl)
  | j + 2, hv => simp [chc] at hv
theorem Cr.one {w0 w w' : World} {dv lv x : Value} {r : Re} {g o : Nat} (h : Cr w0 w dv lv r) (hg : w0.heap.size + 1 + 1 < g) (e : w.setCell ⟨g, o, none⟩ x = w') : Cr w0 w' dv lv r := h.apart hg (vs := [x]) e
set_option maxHeartbeats 8000000 in
theorem rdo_any (dv lv : Value) (D : Ds) (L : List Re) (kd tx ep vt now sp cp : Int) (n : Nat) (hn : n ≤ 255) (w : World) (hd : IsDeals w dv D) (hl : IsLog w lv L) (hlen : D.length ≤ 1000) (hlen2 : L.length ≤ 1000) :
    Calls Try.prog 13 #[.agg #[dv, lv], .agg #[.int .i64 kd, .int .i64 tx, .int .u8 (n : Int), .int .i64 ep, .int .i64 vt, .int .i64 now, .int .i64 sp, .int .i64 cp]] w fun e w' => ∃ v' u', e = .returned (.tuple #[.agg #[v', u'], .int .i64 (doR ⟨D, L⟩ (⟨kd, tx, n, ep, vt, now, sp, cp⟩ : Re)).2.1, .int .i64 (doR ⟨D, L⟩ (⟨kd, tx, n, ep, vt, now, sp, cp⟩ : Re)).2.2]) ∧ IsDeals w' v' (doR ⟨D, L⟩ (⟨kd, tx, n, ep, vt, now, sp, cp⟩ : Re)).1.deals ∧ IsLog w' u' (doR ⟨D, L⟩ (⟨kd, tx, n, ep, vt, now, sp, cp⟩ : Re)).1.log ∧
      Below w.heap.size w w' ∧ (v' = dv ∨ ∀ k, v'.ownBlock = some k → w.heap.size ≤ k) ∧ (u' = lv ∨ ∀ k, u'.ownBlock = some k → w.heap.size ≤ k) := by
  have HD := Lib.hid hd
  have HL := Lib.hid hl
  have HLV := Lib.hid (IsSl.one hl)
  have HDV := Lib.hid hd.one
  have HN := Lib.hid (fun v1 v2 v3 t1 t2 t3 Z hZ h1 h2 h3 => cr_new w v1 v2 v3 dv lv (⟨kd, tx, n, ep, vt, now, sp, cp⟩ : Re) t1 t2 t3 Z hZ h1 h2 h3)
  clear hd hl
  obtain ⟨T, HT⟩ : ∃ T, Hid (stepR D (⟨kd, tx, n, ep, vt, now, sp, cp⟩ : Re) = T) := ⟨_, Lib.hid rfl⟩
  have HST := Lib.hid (fun W (h : IsDeals W dv D) => rstep_any dv lv D kd tx ep vt now sp cp n hn W h hlen HLV.out)
  rw [HT.out] at HST
  obtain ⟨D', m, e⟩ := T
  dsimp only at HST
  have HG : Hid (doR ⟨D, L⟩ (⟨kd, tx, n, ep, vt, now, sp, cp⟩ : Re) = if e ≠ 0 then (⟨D, L⟩, 0, e) else (⟨D', L ++ [(⟨kd, tx, n, ep, vt, now, sp, cp⟩ : Re)]⟩, m, 0)) := Lib.hid (by rw [doR]; dsimp only; rw [HT.out])
  go_enter Try.func13, Try.ntmps13
  go_upto_region 1 with fail
  generalize hv1 : World.alloc w _ = v1
  generalize hv2 : World.alloc v1 _ = v2
  generalize hv3 : World.alloc v2 _ = v3
  have HC := Lib.hid (HN.out v1 v2 v3 _ _ _ _ rfl hv1 hv2 hv3)
  clear hv1 hv2 hv3 HN HT
  have HSC := Lib.hid (HST.out v3 (HD.out.below HC.out.bel))
  obtain ⟨c0, c1⟩ := And.intro HC.out.c0 HC.out.c1
  obtain ⟨k0, k1, k2, k3, k4, k5, k6, k7⟩ := HC.out.rcd
  go_wp2_with fail
  refine HSC.out.mono ?_
  rintro q v4 ⟨v', rfl, hd4, hb4, hlo4⟩
  have HNE := Lib.hid (lo_ne (c := w.heap.size + 1 + 1) HD.out hd4 hlo4 (by omega) HC.out.big)
  have HLO := Lib.hid (lo_up hlo4 HC.out.bel.size)
  have HC4 := Lib.hid (HC.out.below hb4)
  have HD4 := Lib.hid hd4
  have HNB := Lib.hid hd4.lt
  clear HC HSC HST hb4 hd4 hlo4 c0 c1 k0 k1 k2 k3 k4 k5 k6 k7
  go_upto_region 2 with (refine wpList_store_mid rfl 28 _ _ rfl (v4.heap.size) 0 (chc v' lv).toArray rfl rfl (there_newN v4 _ _ 2 rfl) infoRC (all_oneCell_toArray (chc_one HD4.out.one HLV.out)) ?_; generalize hw5 : World.setCells _ _ _ _ = w5)
  obtain ⟨hb5, hz5, hX5, hO5⟩ := new_cells (xs := chc v' lv) (n := 2) rfl rfl (by decide) hw5
  have HC5 := Lib.hid (HC4.out.below hb5)
  have HX := Lib.hid hX5
  have HO := Lib.hid hO5
  have HD5 := Lib.hid (HD4.out.below hb5)
  have hq4 : w.heap.size + 1 + 1 < v4.heap.size := HC4.out.big
  have hq5 : v4.heap.size < w5.heap.size := hz5
  clear hw5 hb5 hX5 hO5 HC4 HD4 hz5
  generalize v4.heap.size = b5 at *
  obtain ⟨c0, c1⟩ := And.intro HC5.out.c0 HC5.out.c1
  by_cases he : e = 0
  · subst he
    have hg := HG.out
    rw [if_neg (by simp)] at hg
    have HG2 := Lib.hid hg
    clear hg HG
    obtain ⟨ti, z, hi, hz, hs, hbs, hzs⟩ := info_zero infoRR zcellsRR
    have HI := Lib.hid hi
    have HZ := Lib.hid hz
    have HS := Lib.hid hs
    have HBY := Lib.hid hbs
    have HZS := Lib.hid hzs
    clear hi hz hs hbs hzs
    go_upto_region 4 with fail
    have hz0 : w.heap.size < w5.heap.size := by omega
    have HOW := Lib.hid (World.ownsRow_made (base := w5.heap.size) (e := 34) (size := 8) w5 #[] 0 (Nat.le_refl _) (Nat.zero_le _) rfl)
    have HSL := Lib.hid ((HL.out.below HC5.out.bel).below ((Below.refl w5.heap.size w5).alloc (Nat.le_refl _) (.cells #[] 34)))
    go_upto_region 5 with (at_builtin; refine wpList_copy rfl _ _ 22 rfl (w5.heap.size) 34 ti z 8 64 Try.underlying22 HI.out HZ.out HS.out HBY.out HZS.out (by decide) _ rfl HOW.out _ L.length (rcl L) rfl HSL.out (rcl_len L) (rcl_one L) (by omega) (by simp) ?_; intro u' wA ho' hb')
    have hbv : Below w5.heap.size w5 wA := ((Below.refl w5.heap.size w5).alloc (Nat.le_refl _) _).trans hb'
    have HCA := Lib.hid (HC5.out.below hbv)
    have HXA := Lib.hid (show wA.rangeAt b5 0 (chc v' lv) from fun j u hu => (hbv.cell (p := ⟨b5, 0 + j, none⟩) hq5).trans (HX.out j u hu))
    have HOB := Lib.hid (there_low HO.out hbv hq5)
    have HDA := Lib.hid (HD5.out.below hbv)
    have HOA := Lib.hid ho'
    have hszA : w5.heap.size ≤ wA.heap.size := hbv.size
    clear ho' hb' hbv HC5 HX HO HD5 HOW HSL c0 c1 hz0
    have HSZ := Lib.hid (show w5.heap.size ≤ (wA.alloc (.cells (rec1 (⟨kd, tx, n, ep, vt, now, sp, cp⟩ : Re)).toArray 34)).heap.size from Nat.le_trans hszA ((Below.refl 0 wA).alloc (Nat.zero_le _) _).size)
    have HBL := Lib.hid (fun (wC : World) (row : Option Nat) (h : (wA.alloc (.cells (rec1 (⟨kd, tx, n, ep, vt, now, sp, cp⟩ : Re)).toArray 34)).grownBy wC row) (h2 : ∀ j, row = some j → w5.heap.size ≤ j) => show Below w5.heap.size wA wC from ((Below.refl w5.heap.size wA).alloc hszA _).trans ((Below.refl w5.heap.size _).grown h HSZ.out h2))
    have HSC := Lib.hid (fun (wC : World) (row : Option Nat) (h : (wA.alloc (.cells (rec1 (⟨kd, tx, n, ep, vt, now, sp, cp⟩ : Re)).toArray 34)).grownBy wC row) => show wA.heap.size ≤ wC.heap.size from Nat.le_trans ((Below.refl 0 wA).alloc (Nat.zero_le _) _).size h.size)
    have hzB : w.heap.size + 1 + 1 < w5.heap.size := by omega
    obtain ⟨k0, k1, k2, k3, k4, k5, k6, k7⟩ := HCA.out.rcd
    have hz1 : w.heap.size + 1 < wA.heap.size := by omega
    go_upto_region 6 with (first
      | (refine wpList_one_rec rfl _ rfl (⟨kd, tx, n, ep, vt, now, sp, cp⟩ : Re) rfl ?_; simp only [Act.put, List.setIfInBounds_toArray, List.set_cons_succ, List.set_cons_zero])
      | (at_builtin; refine wpList_append_own_at _ rfl _ _ 22 rfl w5.heap.size 34 ti z 8 64 Try.underlying22 HI.out HZ.out HS.out HBY.out HZS.out (by decide) _ L.length (rcl L) rfl (HOA.out.alloc _) ⟨wA.heap.size, 0, none⟩ 1 1 (rec1 (⟨kd, tx, n, ep, vt, now, sp, cp⟩ : Re)) rfl rfl (fun j u hu => new_cells_at hu) (rec1_one _) (by unfold maxLen; omega) (by omega) HSZ.out ?_
         intro vC wC hoC hgC _ _
         have hbC := HBL.out wC _ hgC (fun j hj => (HOA.out.lt j hj).1)
         have HCC := Lib.hid (HCA.out.low hbC hzB hszA)
         have HXC := Lib.hid (show wC.rangeAt b5 0 (chc v' lv) from fun j u hu => (hbC.cell (p := ⟨b5, 0 + j, none⟩) hq5).trans (HXA.out j u hu))
         have HOC := Lib.hid (there_low HOB.out hbC hq5)
         have hszC : wA.heap.size ≤ wC.heap.size := HSC.out wC _ hgC
         have HDC := Lib.hid (show IsDeals wC v' D' from HDA.out.low hbC (fun k hk hl => Nat.lt_trans (HNB.out k hk hl) hq5))
         have HUC := Lib.hid hoC
         obtain ⟨aC, capC, rfl, hl1, hl2, hl3⟩ := own_parts hoC
         clear hl1 hl2 hl3
         clear hoC hgC hbC HCA HOA HXA HDA HOB k0 k1 k2 k3 k4 k5 k6 k7
         have x1 := HXC.out 1 _ rfl
         have f1 := (HOC.out 1 (by decide)).2
         rw [Nat.zero_add] at x1 f1
         simp only [Act.put, List.setIfInBounds_toArray, List.set_cons_succ, List.set_cons_zero]))
    generalize hwE : World.setCell wC _ _ = wE
    have HCE := Lib.hid (HCC.out.one hq4 hwE)
    have HXE := Lib.hid (chc_field1 HXC.out hwE)
    have HDE := Lib.hid (HDC.out.keep (vs := [.slice aC (L.length + 1) capC]) hwE (fun k hk hl => Nat.ne_of_lt (HNB.out k hk hl)))
    have hlC := HUC.out.lt
    have HLE := Lib.hid (show IsLog wE (.slice aC (L.length + 1) capC) (L ++ [(⟨kd, tx, n, ep, vt, now, sp, cp⟩ : Re)]) by
      have h1 := IsSl.keep (vs := [.slice aC (L.length + 1) capC]) (own_sl HUC.out) hwE (fun k hk _ => by have := (hlC k hk).1; omega)
      unfold IsLog
      rw [rcl_append, List.length_append]
      simpa [rcl] using h1)
    have HUL := Lib.hid (fun k (hk : Value.ownBlock (.slice aC (L.length + 1) capC) = some k) => show w5.heap.size ≤ k from (hlC k hk).1)
    clear hwE HCC HXC HDC HUC HOC hlC x1 f1
    go_wp2_with (first
      | (refine wpList_load_mid rfl 28 _ rfl b5 0 rfl (chc v' (.slice aC (L.length + 1) capC)) _ HXE.out Try.underlying28 rfl infoRC ?_)
      | (refine wpList_store_mid rfl 28 _ _ rfl (w.heap.size + 1 + 1) 0 (chc v' (.slice aC (L.length + 1) capC)).toArray rfl rfl HCE.out.res infoRC (all_oneCell_toArray (chc_one HDE.out.one rfl)) ?_; generalize hw8 : World.setCells wE _ _ _ = w8))
    obtain ⟨hr8, hb8⟩ := HCE.out.done hw8
    refine bodyPost_ret (fin_rc3 rfl _ _ _ rfl _ _ hr8) rfl ?_
    rw [HG2.out]
    exact ⟨v', _, rfl, HDE.out.keep hw8 HNE.out, IsSl.keep HLE.out hw8 (fun k hk _ => by have := HUL.out k hk; omega), hb8, HLO.out, .inr fun k hk => by have := HUL.out k hk; omega⟩
  · have hg := HG.out
    rw [if_pos he] at hg
    have HG := Lib.hid hg
    have heb : (e != 0) = true := bne_iff_ne.2 he
    clear hg HX HO
    go_upto_region 3 with fail
    go_wp2_with (refine wpList_store_mid rfl 28 _ _ rfl (w.heap.size + 1 + 1) 0 (chc dv lv).toArray rfl rfl HC5.out.res infoRC (all_oneCell_toArray (chc_one HDV.out HLV.out)) ?_; generalize hw8 : World.setCells w5 _ _ _ = w8)
    obtain ⟨hr8, hb8⟩ := HC5.out.done hw8
    refine bodyPost_ret (fin_rc3 rfl _ _ _ rfl _ _ hr8) rfl ?_
    rw [HG.out]
    exact ⟨dv, lv, rfl, HD.out.below hb8, HL.out.below hb8, hb8, .inl rfl, .inl rfl⟩
end Go.Proofs.Ytdlfjbllmmkmkaa.Chair
