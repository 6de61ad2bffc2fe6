/- What the document's deal answers: one deal behind a vote, or behind its deadline put off. -/
import Derived.Test.YtdlfjbllmmkmkaaRFind
namespace Go.Proofs.Ytdlfjbllmmkmkaa.Chair
open Go.RowKit Flat ChairSpec Go.Proofs.YtdlfjbllmmkmkaaW.PrintLast
set_option linter.unusedSimpArgs false
set_option linter.unusedVariables false
set_option maxRecDepth 100000
theorem infoRTe : (Try.prog.info? 73).map (·.size) = some 4 := by kernel_rfl
theorem fin_rde {fn : Func} {p u : Tmp} (h : fn.results = #[.cell p 75, .tmp u]) (tmps : Array Value) (w : World) (b : Nat) (hp : tmps.getD p undef = .pointer (some ⟨b, 0, none⟩)) (tx : Int) (d : De) (hd : RDeAt w b tx d) :
    (results fn tmps).run Try.prog w = .ok (.tuple #[.agg (rdc tx d).toArray, tmps.getD u undef]) w := by
  have hl := run_loadVar_mid (P := Try.prog) w b 0 75 (rdc tx d) _ hd Try.underlying75 rfl infoRDe
  rw [results_cell_tmp h, hp]
  simp [asAddr, hl]
/-- What comes of a deal. -/
def dealR (d : De) (r : Re) : De × Int :=
  if d.out ≠ 0 then (d, 13)
  else if r.kind = 3 then (if (hearT d.ta r.who r.epoch).2 ≠ 0 then (d, (hearT d.ta r.who r.epoch).2) else if (extendTe d.te r.now).2 ≠ 0 then (d, (extendTe d.te r.now).2) else (⟨(hearT d.ta r.who r.epoch).1, (extendTe d.te r.now).1, d.out⟩, 0))
  else if overTe d.te r.now then (d, 11)
  else if (putT d.ta r.who r.epoch r.vote).2 ≠ 0 then (d, (putT d.ta r.who r.epoch r.vote).2)
  else (⟨(putT d.ta r.who r.epoch r.vote).1, d.te, outT (putT d.ta r.who r.epoch r.vote).1⟩, 0)
def RecAt (w : World) (b : Nat) (r : Re) : Prop :=
  w.cell? ⟨b, 0, none⟩ = some (.int .i64 r.kind) ∧ w.cell? ⟨b, 1, none⟩ = some (.int .i64 r.tx) ∧ w.cell? ⟨b, 2, none⟩ = some (.int .u8 r.who) ∧ w.cell? ⟨b, 3, none⟩ = some (.int .i64 r.epoch) ∧ w.cell? ⟨b, 4, none⟩ = some (.int .i64 r.vote) ∧ w.cell? ⟨b, 5, none⟩ = some (.int .i64 r.now) ∧ w.cell? ⟨b, 6, none⟩ = some (.int .i64 r.span) ∧ w.cell? ⟨b, 7, none⟩ = some (.int .i64 r.cap)
/-- The call's own three blocks: the deal, the record, the result. -/
structure Rdy (w0 w : World) (tx : Int) (d : De) (r : Re) : Prop where
  big : w0.heap.size + 1 + 1 < w.heap.size
  deal : RDeAt w w0.heap.size tx d
  own : w.there w0.heap.size 0 30
  rcd : RecAt w (w0.heap.size + 1) r
  res : w.there (w0.heap.size + 1 + 1) 0 30
  bel : Below w0.heap.size w0 w
theorem RecAt.below {w w' : World} {b : Nat} {r : Re} (h : RecAt w b r) (hb : Below w.heap.size w w') : RecAt w' b r := by
  obtain ⟨h0, h1, h2, h3, h4, h5, h6, h7⟩ := h
  have hl := Flat.cell_lt h0
  exact ⟨(hb.cell (p := ⟨b, _, none⟩) hl).trans h0, (hb.cell (p := ⟨b, _, none⟩) hl).trans h1, (hb.cell (p := ⟨b, _, none⟩) hl).trans h2, (hb.cell (p := ⟨b, _, none⟩) hl).trans h3, (hb.cell (p := ⟨b, _, none⟩) hl).trans h4, (hb.cell (p := ⟨b, _, none⟩) hl).trans h5, (hb.cell (p := ⟨b, _, none⟩) hl).trans h6, (hb.cell (p := ⟨b, _, none⟩) hl).trans h7⟩
theorem Rdy.below {w0 w w' : World} {tx : Int} {d : De} {r : Re} (h : Rdy w0 w tx d r) (hb : Below w.heap.size w w') : Rdy w0 w' tx d r :=
  ⟨Nat.lt_of_lt_of_le h.big hb.size, h.deal.below hb, there_below h.own hb, h.rcd.below hb, there_below h.res hb, h.bel.trans (hb.mono (by have := h.big; omega))⟩
theorem there_new30 (v : World) (B : Array Value) (t : TypeId) (hB : B.size = 30) : (v.alloc (.cells B t)).there v.heap.size 0 30 := fun j hj => by
  refine ⟨?_, World.frozen?_alloc_at _ _ _ _ rfl⟩
  rw [Nat.zero_add, World.cell?_alloc_new, Array.getElem?_eq_getElem (by omega)]; rfl
theorem rdy_new (w v1 v2 v3 : World) (tx : Int) (d : De) (r : Re) (t1 t2 t3 : TypeId) (Z : Array Value) (hZ : Z.size = 30) (h1 : World.alloc w (.cells (rdc tx d).toArray t1) = v1)
    (h2 : World.alloc v1 (.cells #[.int .i64 r.kind, .int .i64 r.tx, .int .u8 r.who, .int .i64 r.epoch, .int .i64 r.vote, .int .i64 r.now, .int .i64 r.span, .int .i64 r.cap] t2) = v2) (h3 : World.alloc v2 (.cells Z t3) = v3) : Rdy w v3 tx d r := by
  obtain ⟨b1, z1, k1⟩ := alloc_facts h1
  obtain ⟨b2, z2, k2⟩ := alloc_facts h2
  obtain ⟨b3, z3, k3⟩ := alloc_facts h3
  have e1 : v1.heap.size = w.heap.size + 1 := by rw [← h1]; simp
  have e2 : v2.heap.size = w.heap.size + 1 + 1 := by rw [← h2]; simp [e1]
  have q1 : RDeAt v1 w.heap.size tx d := fun j v hv => by rw [Nat.zero_add, k1 j]; simpa using hv
  have o1 : v1.there w.heap.size 0 30 := by rw [← h1]; exact there_new30 w _ _ (by simp [rdc_len])
  have q2 : RecAt v2 v1.heap.size r := ⟨k2 0, k2 1, k2 2, k2 3, k2 4, k2 5, k2 6, k2 7⟩
  have o3 : v3.there v2.heap.size 0 30 := by rw [← h3]; exact there_new30 v2 _ _ hZ
  rw [e1] at q2
  rw [e2] at o3
  exact ⟨by omega, (q1.below b2).below b3, there_below (there_below o1 b2) b3, q2.below b3, o3, (b1.trans (b2.mono (by omega))).trans (b3.mono (by omega))⟩
theorem RecAt.same {w w' : World} {b : Nat} {r : Re} (h : RecAt w b r) (e : ∀ i, w'.cell? ⟨b, i, none⟩ = w.cell? ⟨b, i, none⟩) : RecAt w' b r := by
  obtain ⟨h0, h1, h2, h3, h4, h5, h6, h7⟩ := h
  exact ⟨(e _).trans h0, (e _).trans h1, (e _).trans h2, (e _).trans h3, (e _).trans h4, (e _).trans h5, (e _).trans h6, (e _).trans h7⟩
theorem rdy_ta {w0 w w' : World} {tx : Int} {d : De} {r : Re} (h : Rdy w0 w tx d r) (u : Ta) (e : w.setCells w0.heap.size 1 (tc u).toArray.toList = w') : Rdy w0 w' tx ⟨u, d.te, d.out⟩ r := by
  obtain ⟨p0, p1, p2, p3⟩ := h.deal.parts
  have hb := below_cells _ _ _ h.bel (Nat.le_refl _) e
  refine ⟨Nat.lt_of_lt_of_le h.big (below_cells _ _ _ (Below.refl w0.heap.size w) (Nat.le_refl _) e).size, rde_join ?_ ?_ ?_ ?_, there_cells h.own e, h.rcd.same fun i => cells_apart e (by omega), there_cells h.res e, hb⟩
  · rw [← e, World.cell?_setCells_out _ _ 1 w ⟨w0.heap.size, 0, none⟩ (fun _ _ => .inl (by show 0 < 1; decide))]
    exact p0
  · rw [← e]; exact World.rangeAt_setCells_same _ _ 1 (tc u) (by rw [tc_len]; exact there_at h.own (by decide))
  · rw [← e]; exact World.rangeAt_setCells_apart p2 _ 1 _ (.inr (.inr (by show 1 + (tc u).length ≤ 25; rw [tc_len]; decide)))
  · rw [← e, World.cell?_setCells_out _ _ 1 w ⟨w0.heap.size, 29, none⟩ (fun _ _ => .inr (by show 1 + (tc u).length ≤ 29; rw [tc_len]; decide))]
    exact p3
theorem rdy_te {w0 w w' : World} {tx : Int} {d : De} {r : Re} (h : Rdy w0 w tx d r) (u : Te) (e : w.setCells w0.heap.size 25 (tec u).toArray.toList = w') : Rdy w0 w' tx ⟨d.ta, u, d.out⟩ r := by
  obtain ⟨p0, p1, p2, p3⟩ := h.deal.parts
  have hb := below_cells _ _ _ h.bel (Nat.le_refl _) e
  refine ⟨Nat.lt_of_lt_of_le h.big (below_cells _ _ _ (Below.refl w0.heap.size w) (Nat.le_refl _) e).size, rde_join ?_ ?_ ?_ ?_, there_cells h.own e, h.rcd.same fun i => cells_apart e (by omega), there_cells h.res e, hb⟩
  · rw [← e, World.cell?_setCells_out _ _ 25 w ⟨w0.heap.size, 0, none⟩ (fun _ _ => .inl (by show 0 < 25; decide))]
    exact p0
  · rw [← e]; exact World.rangeAt_setCells_apart p1 _ 25 _ (.inr (.inl (by show 1 + (tc d.ta).length ≤ 25; rw [tc_len]; decide)))
  · rw [← e]; exact World.rangeAt_setCells_same _ _ 25 (tec u) (there_at h.own (by show 25 + 4 ≤ 30; decide))
  · rw [← e, World.cell?_setCells_out _ _ 25 w ⟨w0.heap.size, 29, none⟩ (fun _ _ => .inr (by show 25 + 4 ≤ 29; decide))]
    exact p3
theorem rdy_out {w0 w w' : World} {tx : Int} {d : De} {r : Re} (h : Rdy w0 w tx d r) (o : Int) (e : w.setCell ⟨w0.heap.size, 29, none⟩ (.int .i64 o) = w') : Rdy w0 w' tx ⟨d.ta, d.te, o⟩ r := by
  obtain ⟨p0, p1, p2, p3⟩ := h.deal.parts
  refine ⟨by rw [← e]; simpa using h.big, rde_join ?_ (fun j v hv => ?_) (fun j v hv => ?_) ?_, by rw [← e]; exact there_set h.own, h.rcd.same fun i => ?_, by rw [← e]; exact there_set h.res, by rw [← e]; exact h.bel.setCell (p := ⟨w0.heap.size, 29, none⟩) (Nat.le_refl _) _⟩
  · rw [← e]; exact (World.cell?_setCell_other _ _ _ _ (by first | (simp; done) | (simp; omega))).trans p0
  · have hj : j < 24 := (List.getElem?_eq_some_iff.1 hv).1
    rw [← e]; exact (World.cell?_setCell_other _ _ _ _ (by first | (simp; done) | (simp; omega))).trans (p1 j v hv)
  · have hj : j < 4 := (List.getElem?_eq_some_iff.1 hv).1
    rw [← e]; exact (World.cell?_setCell_other _ _ _ _ (by first | (simp; done) | (simp; omega))).trans (p2 j v hv)
  · rw [← e]; exact World.cell?_setCell_same _ _ _ p3
  · rw [← e]; exact World.cell?_setCell_other _ _ _ _ (by first | (simp; done) | (simp; omega))
set_option maxHeartbeats 8000000 in
theorem rdeal_any (tx : Int) (d : De) (r : Re) (n : Nat) (hr : r.who = (n : Int)) (hn : n ≤ 255) (w : World) : Calls Try.prog 38 #[.agg (rdc tx d).toArray, .agg #[.int .i64 r.kind, .int .i64 r.tx, .int .u8 r.who, .int .i64 r.epoch, .int .i64 r.vote, .int .i64 r.now, .int .i64 r.span, .int .i64 r.cap]] w fun e w' => e = .returned (.tuple #[.agg (rdc tx (dealR d r).1).toArray, .int .i64 (dealR d r).2]) ∧ Below w.heap.size w w' := by
  have HL : Hid ((rdc tx d).toArray.size = 30) := Lib.hid (by simp [rdc_len])
  have hlen := HL.out
  obtain ⟨T, hT⟩ : ∃ T, T = dealR d r := ⟨_, rfl⟩
  rw [← hT]
  have HT := Lib.hid hT
  clear hT
  have HN := Lib.hid (fun v1 v2 v3 t1 t2 t3 Z hZ h1 h2 h3 => rdy_new w v1 v2 v3 tx d r t1 t2 t3 Z hZ h1 h2 h3)
  obtain ⟨kd, rtx, who, ep, vt, now, sp, cp⟩ := r
  dsimp only at hr HN
  subst hr
  have HHE := Lib.hid (fun W => rhear_ta d.ta n ep hn W)
  have HPU := Lib.hid (fun W => rput_ta d.ta n ep vt hn W)
  have HEX := Lib.hid (fun W => rextend_te d.te now W)
  have HOV := Lib.hid (fun W => rover_te d.te now W)
  go_enter Try.func38, Try.ntmps38
  go_upto_region 1 with fail
  generalize hv1 : World.alloc w _ = v1
  generalize hv2 : World.alloc v1 _ = v2
  generalize hv3 : World.alloc v2 _ = v3
  have HR := Lib.hid (HN.out v1 v2 v3 _ _ _ _ rfl hv1 hv2 hv3)
  clear hv1 hv2 hv3 HN hlen
  obtain ⟨c0, c1, c2, c3, c4, c5, c6, c7⟩ := HR.out.rcd
  obtain ⟨_, _, _, p3⟩ := HR.out.deal.parts
  have hzz := HR.out.big
  by_cases ho : d.out = 0
  · have hob : (d.out != 0) = false := by rw [ho]; rfl
    by_cases h3 : kd = 3
    · have hk3 : (kd == 3) = true := by rw [h3]; rfl
      obtain ⟨U, HU⟩ : ∃ U, Hid (hearT d.ta n ep = U) := ⟨_, Lib.hid rfl⟩
      obtain ⟨X, HX⟩ : ∃ X, Hid (extendTe d.te now = X) := ⟨_, Lib.hid rfl⟩
      have hT := HT.out
      rw [dealR, if_neg (by simp [ho]), if_pos h3] at hT
      dsimp only at hT
      rw [HU.out, HX.out] at hT
      have HT := Lib.hid hT
      rw [HU.out] at HHE
      rw [HX.out] at HEX
      obtain ⟨u, e1⟩ := U
      obtain ⟨x, e2⟩ := X
      dsimp only at HT HHE HEX
      clear hT h3 HPU HOV
      go_upto_region 4 with fail
      have P1 := Lib.hid HR.out.deal.parts.2.1
      go_wp2_with (refine wpList_load_mid rfl 72 _ rfl (w.heap.size) 1 rfl (tc d.ta) _ P1.out Try.underlying72 rfl infoRTa ?_)
      refine (HHE.out _).mono ?_
      rintro q v4 ⟨rfl, hb4⟩
      have HR4 := Lib.hid (HR.out.below hb4)
      clear HR hb4 c0 c1 c2 c3 c4 c5 c6 c7 p3 P1 hzz
      have HNEW := Lib.hid (fun B hB => there_new v4 B 72 hB)
      go_upto_region 5 with (first | (refine wpList_store_mid rfl 72 _ _ rfl (v4.heap.size) 0 (tc u).toArray rfl rfl (HNEW.out _ rfl) infoRTa (all_oneCell_toArray (tc_one _)) ?_; generalize hw5 : World.setCells _ _ _ _ = w5 at *))
      obtain ⟨hb5, hz5, hU5, hth5⟩ := new_ta u rfl hw5
      have HR5 := Lib.hid (HR4.out.below hb5)
      have HU5 := Lib.hid hU5
      have hv4b := HR4.out.big
      clear hw5 hb5 hU5 hth5 HR4 HNEW
      generalize v4.heap.size = b5 at *
      obtain ⟨c0, c1, c2, c3, c4, c5, c6, c7⟩ := HR5.out.rcd
      obtain ⟨_, _, _, p3⟩ := HR5.out.deal.parts
      have hzz := HR5.out.big
      by_cases he : e1 = 0
      · subst he
        have hT := HT.out
        rw [if_neg (by simp)] at hT
        have HT := Lib.hid hT
        clear hT
        have P5 := Lib.hid HR5.out.deal.parts.2.2.1
        go_upto_region 7 with fail
        go_wp2_with (refine wpList_load_mid rfl 73 _ rfl (w.heap.size) 25 rfl (tec d.te) _ P5.out Try.underlying73 rfl infoRTe ?_)
        refine (HEX.out _).mono ?_
        rintro q v6 ⟨rfl, hb6⟩
        have HR6 := Lib.hid (HR5.out.below hb6)
        have HU6 := Lib.hid (HU5.out.below hb6)
        clear HR5 HU5 hb6 c0 c1 c2 c3 c4 c5 c6 c7 p3 P5 hzz
        go_upto_region 8 with fail
        generalize hv7 : World.alloc v6 _ = v7
        obtain ⟨hb7, hz7, hc7⟩ := alloc_facts hv7
        have HR7 := Lib.hid (HR6.out.below hb7)
        have HU7 := Lib.hid (HU6.out.below hb7)
        have HX7 := Lib.hid (show v7.rangeAt v6.heap.size 0 (tec x) from fun j v hv => by rw [Nat.zero_add, hc7 j]; simpa [tec] using hv)
        have hv6b := HR6.out.big
        clear hv7 hb7 hc7 HR6 HU6
        generalize v6.heap.size = b7 at *
        obtain ⟨c0, c1, c2, c3, c4, c5, c6, c7⟩ := HR7.out.rcd
        obtain ⟨_, _, _, p3⟩ := HR7.out.deal.parts
        have hzz := HR7.out.big
        by_cases he2 : e2 = 0
        · subst he2
          have hT := HT.out
          rw [if_neg (by simp)] at hT
          subst hT
          go_upto_region 10 with fail
          go_upto_region 11 with (first | (refine wpList_load_mid rfl 72 _ rfl (b5) 0 rfl (tc u) _ HU7.out Try.underlying72 rfl infoRTa ?_) | (refine wpList_store_mid rfl 72 _ _ rfl (w.heap.size) 1 (tc u).toArray rfl rfl (there_at (o := 1) (m := 24) HR7.out.own (by decide)) infoRTa (all_oneCell_toArray (tc_one _)) ?_; generalize hw8 : World.setCells v7 _ _ _ = w8))
          have HR8 := Lib.hid (rdy_ta HR7.out u hw8)
          have HX8 := Lib.hid (show w8.rangeAt b7 0 (tec x) from fun j v hv => (cells_apart hw8 (by omega)).trans (HX7.out j v hv))
          clear hw8 HR7 HX7 HU7 c0 c1 c2 c3 c4 c5 c6 c7 p3
          go_upto_region 12 with (first | (refine wpList_load_mid rfl 73 _ rfl (b7) 0 rfl (tec x) _ HX8.out Try.underlying73 rfl infoRTe ?_) | (refine wpList_store_mid rfl 73 _ _ rfl (w.heap.size) 25 (tec x).toArray rfl rfl (there_at (o := 25) (m := 4) HR8.out.own (by decide)) infoRTe (all_oneCell_toArray (tec_one _)) ?_; generalize hw9 : World.setCells w8 _ _ _ = w9))
          have HR9 := Lib.hid (rdy_te HR8.out x hw9)
          clear hw9 HR8 HX8
          go_wp2_with (first
            | (refine wpList_load_mid rfl 75 _ rfl (w.heap.size) 0 rfl (rdc tx ⟨u, x, d.out⟩) _ HR9.out.deal Try.underlying75 rfl infoRDe ?_)
            | (refine wpList_store_mid rfl 75 _ _ rfl (w.heap.size + 1 + 1) 0 (rdc tx ⟨u, x, d.out⟩).toArray rfl rfl HR9.out.res infoRDe (all_oneCell_toArray (rdc_one _ _)) ?_; generalize hw8 : World.setCells w9 _ _ _ = w8))
          have HTR := Lib.hid (show RDeAt w8 (w.heap.size + 1 + 1) tx ⟨u, x, d.out⟩ by rw [← hw8]; exact World.rangeAt_setCells_same _ _ _ _ HR9.out.res)
          have HB8 := Lib.hid (below_cells _ _ _ HR9.out.bel (by omega) hw8)
          refine bodyPost_ret (fin_rde rfl _ _ _ rfl _ _ HTR.out) rfl ?_
          exact ⟨by first | rfl | (rw [ho]; rfl), HB8.out⟩
        · have hT := HT.out
          rw [if_pos he2] at hT
          subst hT
          have heb : (e2 != 0) = true := bne_iff_ne.2 he2
          go_upto_region 9 with fail
          go_wp2_with (first
            | (refine wpList_load_mid rfl 75 _ rfl (w.heap.size) 0 rfl (rdc tx d) _ HR7.out.deal Try.underlying75 rfl infoRDe ?_)
            | (refine wpList_store_mid rfl 75 _ _ rfl (w.heap.size + 1 + 1) 0 (rdc tx d).toArray rfl rfl HR7.out.res infoRDe (all_oneCell_toArray (rdc_one _ _)) ?_; generalize hw8 : World.setCells v7 _ _ _ = w8))
          have HTR := Lib.hid (show RDeAt w8 (w.heap.size + 1 + 1) tx d by rw [← hw8]; exact World.rangeAt_setCells_same _ _ _ _ HR7.out.res)
          have HB8 := Lib.hid (below_cells _ _ _ HR7.out.bel (by omega) hw8)
          refine bodyPost_ret (fin_rde rfl _ _ _ rfl _ _ HTR.out) rfl ?_
          exact ⟨by first | rfl | (rw [ho]; rfl), HB8.out⟩
      · have hT := HT.out
        rw [if_pos he] at hT
        subst hT
        have heb : (e1 != 0) = true := bne_iff_ne.2 he
        go_upto_region 6 with fail
        go_wp2_with (first
          | (refine wpList_load_mid rfl 75 _ rfl (w.heap.size) 0 rfl (rdc tx d) _ HR5.out.deal Try.underlying75 rfl infoRDe ?_)
          | (refine wpList_store_mid rfl 75 _ _ rfl (w.heap.size + 1 + 1) 0 (rdc tx d).toArray rfl rfl HR5.out.res infoRDe (all_oneCell_toArray (rdc_one _ _)) ?_; generalize hw8 : World.setCells w5 _ _ _ = w8))
        have HTR := Lib.hid (show RDeAt w8 (w.heap.size + 1 + 1) tx d by rw [← hw8]; exact World.rangeAt_setCells_same _ _ _ _ HR5.out.res)
        have HB8 := Lib.hid (below_cells _ _ _ HR5.out.bel (by omega) hw8)
        refine bodyPost_ret (fin_rde rfl _ _ _ rfl _ _ HTR.out) rfl ?_
        exact ⟨by first | rfl | (rw [ho]; rfl), HB8.out⟩
    · have hk3 : (kd == 3) = false := beq_eq_false_iff_ne.2 h3
      obtain ⟨U, HU⟩ : ∃ U, Hid (putT d.ta n ep vt = U) := ⟨_, Lib.hid rfl⟩
      have hT := HT.out
      rw [dealR, if_neg (by simp [ho]), if_neg h3] at hT
      dsimp only at hT
      rw [HU.out] at hT HPU
      obtain ⟨u, e1⟩ := U
      dsimp only at hT HPU
      have HT := Lib.hid hT
      clear hT HHE HEX
      go_upto_region 13 with fail
      have P1 := Lib.hid HR.out.deal.parts.2.2.1
      go_wp2_with (refine wpList_load_mid rfl 73 _ rfl (w.heap.size) 25 rfl (tec d.te) _ P1.out Try.underlying73 rfl infoRTe ?_)
      refine (HOV.out _).mono ?_
      rintro q v4 ⟨rfl, hb4⟩
      have HR4 := Lib.hid (HR.out.below hb4)
      clear HR hb4 c0 c1 c2 c3 c4 c5 c6 c7 p3 P1 hzz
      obtain ⟨c0, c1, c2, c3, c4, c5, c6, c7⟩ := HR4.out.rcd
      obtain ⟨_, _, _, p3⟩ := HR4.out.deal.parts
      have hzz := HR4.out.big
      cases hov : overTe d.te now with
      | true =>
        have hT := HT.out
        rw [if_pos hov] at hT
        subst hT
        go_upto_region 14 with fail
        go_wp2_with (first
          | (refine wpList_load_mid rfl 75 _ rfl (w.heap.size) 0 rfl (rdc tx d) _ HR4.out.deal Try.underlying75 rfl infoRDe ?_)
          | (refine wpList_store_mid rfl 75 _ _ rfl (w.heap.size + 1 + 1) 0 (rdc tx d).toArray rfl rfl HR4.out.res infoRDe (all_oneCell_toArray (rdc_one _ _)) ?_; generalize hw8 : World.setCells v4 _ _ _ = w8))
        have HTR := Lib.hid (show RDeAt w8 (w.heap.size + 1 + 1) tx d by rw [← hw8]; exact World.rangeAt_setCells_same _ _ _ _ HR4.out.res)
        have HB8 := Lib.hid (below_cells _ _ _ HR4.out.bel (by omega) hw8)
        refine bodyPost_ret (fin_rde rfl _ _ _ rfl _ _ HTR.out) rfl ?_
        exact ⟨by first | rfl | (rw [ho]; rfl), HB8.out⟩
      | false =>
        have hT := HT.out
        rw [if_neg (by rw [hov]; decide)] at hT
        have HT := Lib.hid hT
        clear hT
        go_upto_region 15 with fail
        have P1 := Lib.hid HR4.out.deal.parts.2.1
        go_wp2_with (refine wpList_load_mid rfl 72 _ rfl (w.heap.size) 1 rfl (tc d.ta) _ P1.out Try.underlying72 rfl infoRTa ?_)
        refine (HPU.out _).mono ?_
        rintro q v5 ⟨rfl, hb5⟩
        have HR5 := Lib.hid (HR4.out.below hb5)
        clear HR4 hb5 c0 c1 c2 c3 c4 c5 c6 c7 p3 P1 hzz
        have HNEW := Lib.hid (fun B hB => there_new v5 B 72 hB)
        go_upto_region 16 with (first | (refine wpList_store_mid rfl 72 _ _ rfl (v5.heap.size) 0 (tc u).toArray rfl rfl (HNEW.out _ rfl) infoRTa (all_oneCell_toArray (tc_one _)) ?_; generalize hw6 : World.setCells _ _ _ _ = w6 at *))
        obtain ⟨hb6, hz6, hU6, hth6⟩ := new_ta u rfl hw6
        have HR6 := Lib.hid (HR5.out.below hb6)
        have HU6 := Lib.hid hU6
        have hv5b := HR5.out.big
        clear hw6 hb6 hU6 hth6 HR5 HNEW
        generalize v5.heap.size = b6 at *
        obtain ⟨c0, c1, c2, c3, c4, c5, c6, c7⟩ := HR6.out.rcd
        obtain ⟨_, _, _, p3⟩ := HR6.out.deal.parts
        have hzz := HR6.out.big
        by_cases he : e1 = 0
        · subst he
          have hT := HT.out
          rw [if_neg (by simp)] at hT
          subst hT
          have HOT := Lib.hid (fun W => rout_ta u W)
          go_upto_region 18 with fail
          go_upto_region 19 with (first | (refine wpList_load_mid rfl 72 _ rfl (b6) 0 rfl (tc u) _ HU6.out Try.underlying72 rfl infoRTa ?_) | (refine wpList_store_mid rfl 72 _ _ rfl (w.heap.size) 1 (tc u).toArray rfl rfl (there_at (o := 1) (m := 24) HR6.out.own (by decide)) infoRTa (all_oneCell_toArray (tc_one _)) ?_; generalize hw7 : World.setCells w6 _ _ _ = w7))
          have HR7 := Lib.hid (rdy_ta HR6.out u hw7)
          have HU7 := Lib.hid (show TaAt w7 b6 0 u from fun j v hv => (cells_apart hw7 (by omega)).trans (HU6.out j v hv))
          clear hw7 HR6 HU6 c0 c1 c2 c3 c4 c5 c6 c7 p3 hzz
          go_wp2_with (first | (refine wpList_load_mid rfl 72 _ rfl (b6) 0 rfl (tc u) _ HU7.out Try.underlying72 rfl infoRTa ?_))
          refine (HOT.out _).mono ?_
          rintro q v8 ⟨rfl, hb8⟩
          have HR8 := Lib.hid (HR7.out.below hb8)
          clear HR7 HU7 hb8
          obtain ⟨_, _, _, p3⟩ := HR8.out.deal.parts
          have pf := (HR8.out.own 29 (by decide)).2
          have hzz := HR8.out.big
          rw [Nat.zero_add] at pf
          go_upto_region 20 with fail
          generalize hw9 : World.setCell v8 _ _ = w9
          have HR9 := Lib.hid (rdy_out HR8.out (outT u) hw9)
          clear hw9 HR8 p3 pf
          go_wp2_with (first
            | (refine wpList_load_mid rfl 75 _ rfl (w.heap.size) 0 rfl (rdc tx ⟨u, d.te, outT u⟩) _ HR9.out.deal Try.underlying75 rfl infoRDe ?_)
            | (refine wpList_store_mid rfl 75 _ _ rfl (w.heap.size + 1 + 1) 0 (rdc tx ⟨u, d.te, outT u⟩).toArray rfl rfl HR9.out.res infoRDe (all_oneCell_toArray (rdc_one _ _)) ?_; generalize hw8 : World.setCells w9 _ _ _ = w8))
          have HTR := Lib.hid (show RDeAt w8 (w.heap.size + 1 + 1) tx ⟨u, d.te, outT u⟩ by rw [← hw8]; exact World.rangeAt_setCells_same _ _ _ _ HR9.out.res)
          have HB8 := Lib.hid (below_cells _ _ _ HR9.out.bel (by omega) hw8)
          refine bodyPost_ret (fin_rde rfl _ _ _ rfl _ _ HTR.out) rfl ?_
          exact ⟨by first | rfl | (rw [ho]; rfl), HB8.out⟩
        · have hT := HT.out
          rw [if_pos he] at hT
          subst hT
          have heb : (e1 != 0) = true := bne_iff_ne.2 he
          go_upto_region 17 with fail
          go_wp2_with (first
            | (refine wpList_load_mid rfl 75 _ rfl (w.heap.size) 0 rfl (rdc tx d) _ HR6.out.deal Try.underlying75 rfl infoRDe ?_)
            | (refine wpList_store_mid rfl 75 _ _ rfl (w.heap.size + 1 + 1) 0 (rdc tx d).toArray rfl rfl HR6.out.res infoRDe (all_oneCell_toArray (rdc_one _ _)) ?_; generalize hw8 : World.setCells w6 _ _ _ = w8))
          have HTR := Lib.hid (show RDeAt w8 (w.heap.size + 1 + 1) tx d by rw [← hw8]; exact World.rangeAt_setCells_same _ _ _ _ HR6.out.res)
          have HB8 := Lib.hid (below_cells _ _ _ HR6.out.bel (by omega) hw8)
          refine bodyPost_ret (fin_rde rfl _ _ _ rfl _ _ HTR.out) rfl ?_
          exact ⟨by first | rfl | (rw [ho]; rfl), HB8.out⟩
  · have hT : T = (d, 13) := by rw [HT.out, dealR, if_pos ho]
    subst hT
    have hob : (d.out != 0) = true := bne_iff_ne.2 ho
    go_upto_region 2 with fail
    go_wp2_with (first
      | (refine wpList_load_mid rfl 75 _ rfl (w.heap.size) 0 rfl (rdc tx d) _ HR.out.deal Try.underlying75 rfl infoRDe ?_)
      | (refine wpList_store_mid rfl 75 _ _ rfl (w.heap.size + 1 + 1) 0 (rdc tx d).toArray rfl rfl HR.out.res infoRDe (all_oneCell_toArray (rdc_one _ _)) ?_; generalize hw8 : World.setCells v3 _ _ _ = w8))
    have HTR := Lib.hid (show RDeAt w8 (w.heap.size + 1 + 1) tx d by rw [← hw8]; exact World.rangeAt_setCells_same _ _ _ _ HR.out.res)
    have HB8 := Lib.hid (below_cells _ _ _ HR.out.bel (by omega) hw8)
    refine bodyPost_ret (fin_rde rfl _ _ _ rfl _ _ HTR.out) rfl ?_
    exact ⟨by first | rfl | (rw [ho]; rfl), HB8.out⟩
end Go.Proofs.Ytdlfjbllmmkmkaa.Chair
