/- What the document's begin answers: a deal more, behind a copy of those that are. -/
import Derived.Test.YtdlfjbllmmkmkaaRTick
import Derived.Great.Walk
namespace Go.Proofs.Ytdlfjbllmmkmkaa.Chair
open Go.RowKit Flat ChairSpec News Go.Proofs.YtdlfjbllmmkmkaaW.PrintLast ByteMem
set_option linter.unusedSimpArgs false
set_option linter.unusedVariables false
set_option maxRecDepth 100000
/-- A chair in its box, a record in its own, the result. -/
structure Cr (w0 w : World) (dv lv : Value) (r : Re) : Prop where
  bel : Below w0.heap.size w0 w
  big : w0.heap.size + 1 + 1 < w.heap.size
  c0 : w.cell? ⟨w0.heap.size, 0, none⟩ = some dv
  c1 : w.cell? ⟨w0.heap.size, 1, none⟩ = some lv
  own : w.there w0.heap.size 0 2
  rcd : RecAt w (w0.heap.size + 1) r
  res : w.there (w0.heap.size + 1 + 1) 0 2
theorem Cr.below {w0 w w' : World} {dv lv : Value} {r : Re} (h : Cr w0 w dv lv r) (hb : Below w.heap.size w w') : Cr w0 w' dv lv r :=
  ⟨h.bel.trans (hb.mono (by have := h.big; omega)), Nat.lt_of_lt_of_le h.big hb.size, (hb.cell (p := ⟨w0.heap.size, 0, none⟩) (Flat.cell_lt h.c0)).trans h.c0, (hb.cell (p := ⟨w0.heap.size, 1, none⟩) (Flat.cell_lt h.c0)).trans h.c1, there_below h.own hb, h.rcd.below hb, there_below h.res hb⟩
theorem there_low {w w' : World} {B b o n : Nat} (h : w.there b o n) (hb : Below B w w') (hl : b < B) : w'.there b o n := fun j hj => by
  obtain ⟨h1, h2⟩ := h j hj
  exact ⟨by rw [hb.cell (p := ⟨b, o + j, none⟩) hl]; exact h1, (hb.frozen (p := ⟨b, o + j, none⟩) hl).trans h2⟩
theorem Cr.low {w0 w w' : World} {dv lv : Value} {r : Re} {B : Nat} (h : Cr w0 w dv lv r) (hb : Below B w w') (hB : w0.heap.size + 1 + 1 < B) (hB2 : B ≤ w.heap.size) : Cr w0 w' dv lv r :=
  ⟨h.bel.trans (hb.mono (by omega)), Nat.lt_of_lt_of_le h.big hb.size, (hb.cell (p := ⟨w0.heap.size, 0, none⟩) (by show w0.heap.size < B; omega)).trans h.c0, (hb.cell (p := ⟨w0.heap.size, 1, none⟩) (by show w0.heap.size < B; omega)).trans h.c1,
    there_low h.own hb (by omega), h.rcd.same fun i => hb.cell (p := ⟨w0.heap.size + 1, i, none⟩) (by show w0.heap.size + 1 < B; omega), there_low h.res hb (by omega)⟩
theorem Cr.apart {w0 w w' : World} {dv lv : Value} {r : Re} {g o : Nat} {vs : List Value} (h : Cr w0 w dv lv r) (hg : w0.heap.size + 1 + 1 < g) (e : w.setCells g o vs = w') : Cr w0 w' dv lv r :=
  ⟨below_cells _ _ _ h.bel (by omega) e, Nat.lt_of_lt_of_le h.big (below_cells _ _ _ (Below.refl w0.heap.size w) (by omega) e).size, (cells_apart e (by omega)).trans h.c0, (cells_apart e (by omega)).trans h.c1, there_cells h.own e, h.rcd.same fun i => cells_apart e (by omega), there_cells h.res e⟩
theorem cr_new (w v1 v2 v3 : World) (dv lv : Value) (r : Re) (t1 t2 t3 : TypeId) (Z : Array Value) (hZ : Z.size = 2) (h1 : World.alloc w (.cells #[dv, lv] t1) = v1)
    (h2 : World.alloc v1 (.cells #[.int .i64 r.kind, .int .i64 r.tx, .int .u8 r.who, .int .i64 r.epoch, .int .i64 r.vote, .int .i64 r.now, .int .i64 r.span, .int .i64 r.cap] t2) = v2) (h3 : World.alloc v2 (.cells Z t3) = v3) : Cr w v3 dv lv r := by
  obtain ⟨b1, z1, k1⟩ := alloc_facts h1
  obtain ⟨b2, z2, k2⟩ := alloc_facts h2
  obtain ⟨b3, z3, k3⟩ := alloc_facts h3
  have e1 : v1.heap.size = w.heap.size + 1 := by rw [← h1]; simp
  have e2 : v2.heap.size = w.heap.size + 1 + 1 := by rw [← h2]; simp [e1]
  have o1 : v1.there w.heap.size 0 2 := by rw [← h1]; exact there_newN w _ _ 2 rfl
  have q2 : RecAt v2 v1.heap.size r := ⟨k2 0, k2 1, k2 2, k2 3, k2 4, k2 5, k2 6, k2 7⟩
  have o3 : v3.there v2.heap.size 0 2 := by rw [← h3]; exact there_newN v2 _ _ 2 hZ
  rw [e1] at q2
  rw [e2] at o3
  have b12 := b1.trans (b2.mono (by omega))
  have b13 := b12.trans (b3.mono (by omega))
  have bb : Below v1.heap.size v1 v3 := b2.trans (b3.mono (by omega))
  exact ⟨b13, by omega, (bb.cell (p := ⟨w.heap.size, 0, none⟩) z1).trans (k1 0), (bb.cell (p := ⟨w.heap.size, 1, none⟩) z1).trans (k1 1), there_below o1 bb, q2.below b3, o3⟩
theorem Cr.row {w0 w : World} {dv lv : Value} {r : Re} (h : Cr w0 w dv lv r) : w.rangeAt w0.heap.size 0 (chc dv lv) := fun j v hv => by
  match j, hv with
  | 0, hv => cases hv; exact h.c0
  | 1, hv => cases hv; exact h.c1
  | j + 2, hv => simp [chc] at hv
theorem Cr.field0 {w0 w w' : World} {dv lv v : Value} {r : Re} (h : Cr w0 w dv lv r) (e : w.setCell ⟨w0.heap.size, 0, none⟩ v = w') : Cr w0 w' v lv r :=
  ⟨by rw [← e]; exact h.bel.setCell (p := ⟨w0.heap.size, 0, none⟩) (Nat.le_refl _) _, by rw [← e]; simpa using h.big, by rw [← e]; exact World.cell?_setCell_same _ _ _ h.c0,
    by rw [← e]; exact (World.cell?_setCell_other _ _ _ _ (by simp)).trans h.c1, by rw [← e]; exact there_set h.own, h.rcd.same fun i => by rw [← e]; exact World.cell?_setCell_other _ _ _ _ (by simp), by rw [← e]; exact there_set h.res⟩
theorem Cr.done {w0 w w' : World} {dv lv dv' lv' : Value} {r : Re} (h : Cr w0 w dv lv r) (e : w.setCells (w0.heap.size + 1 + 1) 0 (chc dv' lv').toArray.toList = w') : w'.rangeAt (w0.heap.size + 1 + 1) 0 (chc dv' lv') ∧ Below w0.heap.size w0 w' :=
  ⟨by rw [← e]; exact World.rangeAt_setCells_same _ _ _ _ h.res, below_cells _ _ _ h.bel (by omega) e⟩
theorem IsDeals.one {w : World} {v : Value} {D : Ds} (h : IsDeals w v D) : v.oneCell' = true := by
  obtain ⟨a, cap, rfl, _⟩ := h
  rfl
theorem findR_some {D : Ds} {tx : Int} {i : Nat} (h : placeR D tx = some i) : findR D tx = (i : Int) := by rw [findR, h]
theorem findR_none {D : Ds} {tx : Int} (h : placeR D tx = none) : findR D tx = -1 := by rw [findR, h]
theorem built_rde (tx : Int) (u : Ta) (t : Te) : Try.prog.built 75 [(0, .int .i64 tx), (1, .agg (tc u).toArray), (2, .agg (tec t).toArray)] = some (rdc tx ⟨u, t, 0⟩).toArray := by kernel_rfl
theorem wpList_build_rde {ops : Array Oper} {rest : List Oper} {o : Oper} {a : Act} {w : World} {Q : Exit → Act → World → Prop} (hg : o.guard = none) (x y z : Operand) (ho : o.op = .build 75 #[(0, x), (1, y), (2, z)]) (tx : Int) (u : Ta) (t : Te)
    (hx : a.eval x = .int .i64 tx) (hy : a.eval y = .agg (tc u).toArray) (hz : a.eval z = .agg (tec t).toArray) (h : wpList Try.prog ops Q rest (a.put o.dst (.agg (rdc tx ⟨u, t, 0⟩).toArray)) w) : wpList Try.prog ops Q (o :: rest) a w := by
  have e : Try.prog.built 75 ((#[(0, x), (1, y), (2, z)] : Array (Nat × Operand)).map fun (i, x) => (i, a.eval x)).toList = some (rdc tx ⟨u, t, 0⟩).toArray := by
    simp only [List.map_toArray, List.map_cons, List.map_nil, hx, hy, hz]
    exact built_rde tx u t
  refine wpList_build hg 75 _ ho (by rw [e]; rfl) ?_
  rw [e]
  exact h
theorem built_one (tx : Int) (d : De) : Try.prog.builtSlice 75 1 [(0, .agg (rdc tx d).toArray)] = some (rdc tx d).toArray := by kernel_rfl
theorem wpList_one_rde {ops : Array Oper} {rest : List Oper} {o : Oper} {a : Act} {w : World} {Q : Exit → Act → World → Prop} (hg : o.guard = none) (x : Operand) (ho : o.op = .buildSlice 26 1 #[(0, x)]) (tx : Int) (d : De)
    (hx : a.eval x = .agg (rdc tx d).toArray) (h : wpList Try.prog ops Q rest (a.put o.dst (.slice (some ⟨w.heap.size, 0, none⟩) 1 1)) (w.alloc (.cells (rdc tx d).toArray 75))) : wpList Try.prog ops Q (o :: rest) a w := by
  refine Great.wpList_buildSliceTo hg 26 75 1 _ ho w.heap.size rfl o.dst rfl Try.underlying26 (rdc tx d).toArray ?_ h
  simp only [List.map_toArray, List.map_cons, List.map_nil, hx]
  exact built_one tx d
theorem new_cells_at {w : World} {xs : List Value} {t : TypeId} {j : Nat} {u : Value} (h : xs[j]? = some u) : (w.alloc (.cells xs.toArray t)).cell? ((⟨w.heap.size, 0, none⟩ : Addr).add j) = some u := by
  rw [Addr.add_mid, Nat.zero_add, World.cell?_alloc_new]
  simpa using h
set_option maxHeartbeats 8000000 in
theorem rbegin_any (dv lv : Value) (D : Ds) (kd tx ep vt now sp cp : Int) (n : Nat) (hn : n ≤ 255) (w : World) (hd : IsDeals w dv D) (hlen : D.length ≤ 1000) (hlv : lv.oneCell' = true) :
    Calls Try.prog 37 #[.agg #[dv, lv], .agg #[.int .i64 kd, .int .i64 tx, .int .u8 (n : Int), .int .i64 ep, .int .i64 vt, .int .i64 now, .int .i64 sp, .int .i64 cp]] w fun e w' => ∃ v', e = .returned (.tuple #[.agg #[v', lv], .int .i64 (beginR D ⟨kd, tx, n, ep, vt, now, sp, cp⟩).2]) ∧ IsDeals w' v' (beginR D ⟨kd, tx, n, ep, vt, now, sp, cp⟩).1 ∧ Below w.heap.size w w' ∧ (v' = dv ∨ ∀ k, v'.ownBlock = some k → w.heap.size ≤ k) := by
  obtain ⟨i, z, hi, hz, hs, hb, hzs⟩ := info_zero infoRD zcellsRD
  have HD := Lib.hid hd
  have HI := Lib.hid hi
  have HZ := Lib.hid hz
  have HS := Lib.hid hs
  have HBY := Lib.hid hb
  have HZS := Lib.hid hzs
  have HLV := Lib.hid hlv
  have HDV := Lib.hid hd.one
  have HN := Lib.hid (fun v1 v2 v3 t1 t2 t3 Z hZ h1 h2 h3 => cr_new w v1 v2 v3 dv lv ⟨kd, tx, n, ep, vt, now, sp, cp⟩ t1 t2 t3 Z hZ h1 h2 h3)
  clear hi hz hs hb hzs hd hlv
  have HFI := Lib.hid (fun W (h : IsDeals W dv D) => rfind_any dv lv D tx W h)
  go_enter Try.func37, Try.ntmps37
  go_upto_region 1 with fail
  generalize hv1 : World.alloc w _ = v1
  generalize hv2 : World.alloc v1 _ = v2
  generalize hv3 : World.alloc v2 _ = v3
  have HC := Lib.hid (HN.out v1 v2 v3 _ _ _ _ rfl hv1 hv2 hv3)
  clear hv1 hv2 hv3 HN
  have HFC := Lib.hid (HFI.out v3 (HD.out.below HC.out.bel))
  clear HFI
  obtain ⟨c0, c1⟩ := And.intro HC.out.c0 HC.out.c1
  obtain ⟨_, k1, k2, _, _, k5, k6, k7⟩ := HC.out.rcd
  cases hp : placeR D tx with
  | some p =>
    have HG : Hid (beginR D ⟨kd, tx, n, ep, vt, now, sp, cp⟩ = (D, 8)) := Lib.hid (by rw [beginR]; dsimp only; rw [hp]; rfl)
    rw [findR_some hp] at HFC
    have hp0 : (0 : Int) ≤ (p : Int) := by omega
    clear hp
    go_wp2_with fail
    refine HFC.out.mono ?_
    rintro q v4 ⟨rfl, hb4⟩
    have HC4 := Lib.hid (HC.out.below hb4)
    clear HC HFC hb4 c0 c1 k1 k2 k5 k6 k7
    obtain ⟨c0, c1⟩ := And.intro HC4.out.c0 HC4.out.c1
    go_wp2_with (refine wpList_store_mid rfl 28 _ _ rfl (w.heap.size + 1 + 1) 0 (chc dv lv).toArray rfl rfl HC4.out.res infoRC (all_oneCell_toArray (chc_one HDV.out HLV.out)) ?_; generalize hw8 : World.setCells v4 _ _ _ = w8)
    (obtain ⟨hr8, hb8⟩ := HC4.out.done hw8; refine bodyPost_ret (fin_rc rfl _ _ _ rfl _ _ hr8) rfl ?_; rw [HG.out]; exact ⟨dv, rfl, HD.out.below hb8, hb8, .inl rfl⟩)
  | none =>
    rw [findR_none hp] at HFC
    have HPN := Lib.hid hp
    clear hp
    go_wp2_with fail
    refine HFC.out.mono ?_
    rintro q v4 ⟨rfl, hb4⟩
    have HC4 := Lib.hid (HC.out.below hb4)
    clear HC HFC hb4 c0 c1 k1 k2 k5 k6 k7
    obtain ⟨_, k1, k2, _, _, k5, k6, k7⟩ := HC4.out.rcd
    go_wp2_with fail
    refine (members_any n hn v4).mono ?_
    rintro q v5 ⟨mv, rfl, hmo, hb5⟩
    obtain ⟨a0, cap0, rfl, hlc0, hcm0, hib⟩ := own_isb hmo
    have HNT := Lib.hid (rnew_ta_any v5 a0 cap0 (ids n 8) hib (fun c hc => (ids_mem (Nat.le_refl 8) hc).1) (ids_nodup n 8 (Nat.le_refl 8)) (ids_len n 8))
    have HC5 := Lib.hid (HC4.out.below hb5)
    clear HC4 hb5 hmo hlc0 hcm0 hib k1 k2 k5 k6 k7
    go_wp2_with fail
    refine HNT.out.mono ?_
    rintro q v6 ⟨rfl, hb6⟩
    have HC6 := Lib.hid (HC5.out.below hb6)
    clear HC5 HNT hb6
    obtain ⟨U, HU⟩ : ∃ U, Hid (newPair (ids n 8) = U) := ⟨_, Lib.hid rfl⟩
    rw [HU.out]
    obtain ⟨u, e1⟩ := U
    have HNEW := Lib.hid (fun B hB => there_new v6 B 72 hB)
    go_upto_region 4 with (refine wpList_store_mid rfl 72 _ _ rfl (v6.heap.size) 0 (tc u).toArray (by rfl) (by rfl) (HNEW.out _ rfl) infoRTa (all_oneCell_toArray (tc_one _)) ?_; generalize hw7 : World.setCells _ _ _ _ = w7)
    obtain ⟨hb7, hz7, hU7, hth7⟩ := new_ta u rfl hw7
    have HC7 := Lib.hid (HC6.out.below hb7)
    have HU7 := Lib.hid hU7
    have hv6b := HC6.out.big
    have hz7' : v6.heap.size < w7.heap.size := hz7
    clear hw7 hb7 hth7 HNEW HC6 hU7 hz7
    generalize v6.heap.size = b6 at *
    obtain ⟨c0, c1⟩ := And.intro HC7.out.c0 HC7.out.c1
    obtain ⟨_, k1, k2, _, _, k5, k6, k7⟩ := HC7.out.rcd
    by_cases hnil : ids n 8 = []
    · have hu := HU.out
      rw [newPair, if_pos hnil, Prod.mk.injEq] at hu
      obtain ⟨rfl, rfl⟩ := hu
      have HG : Hid (beginR D ⟨kd, tx, n, ep, vt, now, sp, cp⟩ = (D, 2)) := Lib.hid (by
        rw [beginR]; dsimp only; rw [HPN.out, begunD, if_pos ((ids_nil n).1 hnil)]; rfl)
      clear hnil HU HPN HU7
      go_upto_region 5 with fail
      go_wp2_with (refine wpList_store_mid rfl 28 _ _ rfl (w.heap.size + 1 + 1) 0 (chc dv lv).toArray rfl rfl HC7.out.res infoRC (all_oneCell_toArray (chc_one HDV.out HLV.out)) ?_; generalize hw8 : World.setCells w7 _ _ _ = w8)
      (obtain ⟨hr8, hb8⟩ := HC7.out.done hw8; refine bodyPost_ret (fin_rc rfl _ _ _ rfl _ _ hr8) rfl ?_; rw [HG.out]; exact ⟨dv, rfl, HD.out.below hb8, hb8, .inl rfl⟩)
    · have hu := HU.out
      rw [newPair, if_neg hnil, Prod.mk.injEq] at hu
      obtain ⟨rfl, rfl⟩ := hu
      have HU8 := Lib.hid (show w7.rangeAt b6 0 (tc (newT n)) by rw [← tc_newT]; exact HU7.out)
      obtain ⟨X, HX⟩ : ∃ X, Hid (newTe now sp cp = X) := ⟨_, Lib.hid rfl⟩
      obtain ⟨x, e2⟩ := X
      have HG : Hid (beginR D ⟨kd, tx, n, ep, vt, now, sp, cp⟩ = if e2 ≠ 0 then (D, e2) else (D ++ [(tx, ⟨newT n, x, 0⟩)], 0)) := Lib.hid (by
        have hb : begunD ⟨kd, tx, n, ep, vt, now, sp, cp⟩ = (⟨newT n, x, 0⟩, e2) := by
          rw [begunD, if_neg (fun h => hnil ((ids_nil n).2 h))]; dsimp only; rw [HX.out]
        rw [beginR, hb]; dsimp only; rw [HPN.out]; rfl)
      have HTE := Lib.hid (fun W => rnew_te now sp cp W)
      rw [HX.out] at HTE
      dsimp only at HTE
      clear hnil HU HPN HU7 HX
      go_upto_region 6 with fail
      go_wp2_with fail
      refine (HTE.out _).mono ?_
      rintro q v8 ⟨rfl, hb8⟩
      have HC8 := Lib.hid (HC7.out.below hb8)
      have HU9 := Lib.hid (show v8.rangeAt b6 0 (tc (newT n)) from fun j v hv => (hb8.cell (p := ⟨b6, 0 + j, none⟩) hz7').trans (HU8.out j v hv))
      have hz8 : b6 < v8.heap.size := Nat.lt_of_lt_of_le hz7' hb8.size
      clear HC7 HU8 hb8 c0 c1 k1 k2 k5 k6 k7 HTE hz7'
      go_upto_region 7 with fail
      generalize hv9 : World.alloc v8 _ = v9
      obtain ⟨hb9, hz9, hc9⟩ := alloc_facts hv9
      have HC9 := Lib.hid (HC8.out.below hb9)
      have HUA := Lib.hid (show v9.rangeAt b6 0 (tc (newT n)) from fun j v hv => (hb9.cell (p := ⟨b6, 0 + j, none⟩) hz8).trans (HU9.out j v hv))
      have HX9 := Lib.hid (show v9.rangeAt v8.heap.size 0 (tec x) from fun j v hv => by rw [Nat.zero_add, hc9 j]; simpa [tec] using hv)
      have hb68 : b6 < v8.heap.size := hz8
      have hz9' : v8.heap.size < v9.heap.size := hz9
      clear hv9 hb9 hc9 HC8 HU9 hz8 hz9
      generalize v8.heap.size = b8 at *
      obtain ⟨c0, c1⟩ := And.intro HC9.out.c0 HC9.out.c1
      obtain ⟨_, k1, _, _, _, _, _, _⟩ := HC9.out.rcd
      by_cases he : e2 = 0
      · subst he
        have hg := HG.out
        rw [if_neg (by simp)] at hg
        have HG2 := Lib.hid hg
        clear hg HG
        go_upto_region 9 with fail
        have hzz := HC9.out.big
        have hz0 : w.heap.size < v9.heap.size := by omega
        have hz1 : w.heap.size + 1 < v9.heap.size := by omega
        have HOW := Lib.hid (World.ownsRow_made (base := v9.heap.size) (e := 75) (size := 30) v9 #[] 0 (Nat.le_refl _) (Nat.zero_le _) rfl)
        have HSL := Lib.hid ((HD.out.below HC9.out.bel).sl.below ((Below.refl v9.heap.size v9).alloc (Nat.le_refl _) (.cells #[] 75)))
        go_upto_region 10 with (at_builtin; go_loud (refine wpList_copy rfl _ _ 26 rfl (v9.heap.size) 75 i z 30 184 Try.underlying26 HI.out HZ.out HS.out HBY.out HZS.out (by decide) _ rfl HOW.out _ D.length (dcl D) rfl HSL.out (dcl_len D) (dcl_one D) (by omega) (by simp) ?_); intro v' wA ho' hb')
        have hbv : Below v9.heap.size v9 wA := ((Below.refl v9.heap.size v9).alloc (Nat.le_refl _) _).trans hb'
        have HCA := Lib.hid (HC9.out.below hbv)
        have HUB := Lib.hid (show wA.rangeAt b6 0 (tc (newT n)) from fun j v hv => (hbv.cell (p := ⟨b6, 0 + j, none⟩) (by show b6 < _; omega)).trans (HUA.out j v hv))
        have HXB := Lib.hid (show wA.rangeAt b8 0 (tec x) from fun j v hv => (hbv.cell (p := ⟨b8, 0 + j, none⟩) hz9').trans (HX9.out j v hv))
        have HOA := Lib.hid ho'
        have hszA : v9.heap.size ≤ wA.heap.size := hbv.size
        clear ho' hb' hbv HC9 HUA HX9 HOW HSL c0 c1 k1
        obtain ⟨c0, c1⟩ := And.intro HCA.out.c0 HCA.out.c1
        obtain ⟨_, k1, _, _, _, _, _, _⟩ := HCA.out.rcd
        have HSZ := Lib.hid (show v9.heap.size ≤ (wA.alloc (.cells (rdc tx ⟨newT n, x, 0⟩).toArray 75)).heap.size from Nat.le_trans hszA ((Below.refl 0 wA).alloc (Nat.zero_le _) _).size)
        have HBL := Lib.hid (fun (wC : World) (row : Option Nat) (h : (wA.alloc (.cells (rdc tx ⟨newT n, x, 0⟩).toArray 75)).grownBy wC row) (h2 : ∀ j, row = some j → v9.heap.size ≤ j) => show Below v9.heap.size wA wC from ((Below.refl v9.heap.size wA).alloc hszA _).trans ((Below.refl v9.heap.size _).grown h HSZ.out h2))
        have HSC := Lib.hid (fun (wC : World) (row : Option Nat) (h : (wA.alloc (.cells (rdc tx ⟨newT n, x, 0⟩).toArray 75)).grownBy wC row) => show wA.heap.size ≤ wC.heap.size from Nat.le_trans ((Below.refl 0 wA).alloc (Nat.zero_le _) _).size h.size)
        have hzB : w.heap.size + 1 + 1 < v9.heap.size := hzz
        clear hzz hz0 hz1
        have hzz := HCA.out.big
        have hz0 : w.heap.size < wA.heap.size := by omega
        have hz1 : w.heap.size + 1 < wA.heap.size := by omega
        go_upto_region 11 with (first
          | (refine wpList_load_mid rfl 72 _ rfl b6 0 rfl (tc (newT n)) _ HUB.out Try.underlying72 rfl infoRTa ?_; simp only [Act.put, List.setIfInBounds_toArray, List.set_cons_succ, List.set_cons_zero])
          | (refine wpList_load_mid rfl 73 _ rfl b8 0 rfl (tec x) _ HXB.out Try.underlying73 rfl infoRTe ?_; simp only [Act.put, List.setIfInBounds_toArray, List.set_cons_succ, List.set_cons_zero])
          | (refine wpList_build_rde rfl _ _ _ rfl tx (newT n) x rfl rfl rfl ?_; simp only [Act.put, List.setIfInBounds_toArray, List.set_cons_succ, List.set_cons_zero])
          | (refine wpList_one_rde rfl _ rfl tx ⟨newT n, x, 0⟩ rfl ?_; simp only [Act.put, List.setIfInBounds_toArray, List.set_cons_succ, List.set_cons_zero])
          | (at_builtin; refine wpList_append_own_at _ rfl _ _ 26 rfl v9.heap.size 75 i z 30 184 Try.underlying26 HI.out HZ.out HS.out HBY.out HZS.out (by decide) _ D.length (dcl D) rfl (HOA.out.alloc _) ⟨wA.heap.size, 0, none⟩ 1 1 (rdc tx ⟨newT n, x, 0⟩) rfl rfl (fun j u hu => new_cells_at hu) (rdc_one _ _) (by unfold maxLen; omega) (by omega) HSZ.out ?_
             intro vC wC hoC hgC _ _
             have hbC := HBL.out wC _ hgC (fun j hj => (HOA.out.lt j hj).1)
             have HCC := Lib.hid (HCA.out.low hbC hzB hszA)
             have HOC := Lib.hid hoC
             have hszC : wA.heap.size ≤ wC.heap.size := HSC.out wC _ hgC
             obtain ⟨aC, capC, rfl, hl1, hl2, hl3⟩ := own_parts hoC
             clear hl1 hl2 hl3
             clear hoC hgC hbC HCA HOA HUB HXB c0 c1 k1
             obtain ⟨c0, c1⟩ := And.intro HCC.out.c0 HCC.out.c1
             have f0 := (HCC.out.own 0 (by decide)).2
             rw [Nat.zero_add] at f0
             simp only [Act.put, List.setIfInBounds_toArray, List.set_cons_succ, List.set_cons_zero]))
        generalize hwE : World.setCell wC _ _ = wE
        have HCE := Lib.hid (HCC.out.field0 hwE)
        have HWE := Lib.hid hwE
        clear hwE HCC c0 c1 f0
        go_wp2_with (first
          | (refine wpList_load_mid rfl 28 _ rfl w.heap.size 0 rfl (chc (.slice aC (D.length + 1) capC) lv) _ HCE.out.row Try.underlying28 rfl infoRC ?_)
          | (refine wpList_store_mid rfl 28 _ _ rfl (w.heap.size + 1 + 1) 0 (chc (.slice aC (D.length + 1) capC) lv).toArray rfl rfl HCE.out.res infoRC (all_oneCell_toArray (chc_one rfl HLV.out)) ?_; generalize hw8 : World.setCells wE _ _ _ = w8))
        obtain ⟨hr8, hb8⟩ := HCE.out.done hw8
        have hd8 : IsDeals w8 (.slice aC (D.length + 1) capC) (D ++ [(tx, ⟨newT n, x, 0⟩)]) := by
          obtain ⟨aD, capD, e1, hlc, hcm, hrow⟩ := own_parts HOC.out
          cases e1
          refine isDeals_of ⟨aC, capC, by simp, by simpa using hlc, hcm, fun _ => ?_⟩
          obtain ⟨g, e1, e2, e3, e4, _⟩ := hrow (Nat.succ_pos _)
          refine ⟨g, 0, e1, ?_, ?_⟩
          · have k1 : wC.heap.size ≤ wE.heap.size := by rw [← HWE.out]; simp
            have k2 := (below_cells _ _ _ (Below.refl 0 wE) (Nat.zero_le _) hw8).size
            omega
          · rw [show dcl (D ++ [(tx, ⟨newT n, x, 0⟩)]) = dcl D ++ rdc tx ⟨newT n, x, 0⟩ by simp [dcl, rd1]]
            have k3 := rangeAt_far e4 (by omega) HWE.out
            exact fun j v hv => (cells_apart hw8 (by omega)).trans (k3 j v hv)
        refine bodyPost_ret (fin_rc rfl _ _ _ rfl _ _ hr8) rfl ?_
        rw [HG2.out]
        exact ⟨_, rfl, hd8, hb8, .inr fun k hk => Nat.le_trans (by omega) (HOC.out.lt k hk).1⟩
      · have hg := HG.out
        rw [if_pos he] at hg
        have HG := Lib.hid hg
        have heb : (e2 != 0) = true := bne_iff_ne.2 he
        clear hg HUA HX9 k1
        go_upto_region 8 with fail
        go_wp2_with (refine wpList_store_mid rfl 28 _ _ rfl (w.heap.size + 1 + 1) 0 (chc dv lv).toArray rfl rfl HC9.out.res infoRC (all_oneCell_toArray (chc_one HDV.out HLV.out)) ?_; generalize hw8 : World.setCells v9 _ _ _ = w8)
        (obtain ⟨hr8, hb8⟩ := HC9.out.done hw8; refine bodyPost_ret (fin_rc rfl _ _ _ rfl _ _ hr8) rfl ?_; rw [HG.out]; exact ⟨dv, rfl, HD.out.below hb8, hb8, .inl rfl⟩)
end Go.Proofs.Ytdlfjbllmmkmkaa.Chair
