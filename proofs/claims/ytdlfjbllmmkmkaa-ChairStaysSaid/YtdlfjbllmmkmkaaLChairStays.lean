/- ChairStays: an outcome stays once it is one; it is a commit only where each mobile voted Yes ahead of the deadline. -/
import Derived.Test.YtdlfjbllmmkmkaaStays
import Derived.Test.YtdlfjbllmmkmkaaReplay
namespace Go.Proofs.Ytdlfjbllmmkmkaa.LChairStays
open Go.RowKit Go.Maps Flat ChairSpec News Chair Go.Proofs.YtdlfjbllmmkmkaaW.PrintLast
set_option linter.unusedSimpArgs false
set_option linter.unusedVariables false
set_option maxRecDepth 100000
set_option maxHeartbeats 16000000 in
theorem walk (a0 : Option Addr) (len0 cap0 : Nat) (r0 : List (List Value)) (w : World) (w0 : IsRows [.int .i64, .int .i64, .int .u8, .int .i64, .int .i64, .int .i64, .int .i64, .int .i64] w a0 len0 cap0 r0) :
    Calls Try.prog 4 #[.slice a0 len0 cap0] w fun e w' => e = .returned (.bool true) ∧ Below w.heap.size w w' := by
  obtain ⟨l, rfl, hlc, hcm, hok, hrec⟩ := recs_of w0
  have HREC := Lib.hid hrec
  have HOK := Lib.hid hok
  have hcm' := hcm
  unfold maxLen at hcm'
  clear w0 hok hrec hcm
  have hmm := @run_makeMap Try.prog
  go_enter Try.func4, Try.ntmps4
  go_wp2_with fail
  refine (alive_any w).mono ?_
  rintro e v1 ⟨rfl, hb1⟩
  have HB1 := Lib.hid hb1
  clear hb1
  go_wp2_with fail
  refine (chair_new v1).mono ?_
  rintro e v2 ⟨g, bm, rfl, hbm0, hbmg, hgl, h0, h1, hf, ho, hb2⟩
  have HC2 := Lib.hid (chair_made h0 hbmg h1 hf ho)
  have HB2 := Lib.hid (HB1.out.trans (hb2.mono HB1.out.size))
  have hwbm : w.heap.size ≤ bm := Nat.le_trans HB1.out.size hbm0
  clear h0 h1 hf ho hb2
  go_wp2_with fail
  have HO3 := Lib.hid (MapV.own_made (P := Try.prog) (q := .i64) (kt := 3) v2)
  have HC3 := Lib.hid (HC2.out.below ((Below.refl v2.heap.size v2).alloc (Nat.le_refl _) (.map #[] 0)))
  have HB3 := Lib.hid (HB2.out.trans (((Below.refl v2.heap.size v2).alloc (Nat.le_refl _) (.map #[] 0)).mono HB2.out.size))
  generalize hv3 : World.alloc v2 (.map #[] 0) = v3 at *
  have hgm : g < v2.heap.size := hgl
  have hwm : w.heap.size ≤ v2.heap.size := HB2.out.size
  generalize v2.heap.size = mo at *
  clear hv3 HC2 HB2 HB1
  have HOV := Lib.hid over_te
  go_loopw [5] (fun i wr => ∃ (k : Nat) (s : Ch) (lv : Value) (c : Nat) (O : Int → Option Int) (cc : Nat), k ≤ l.length ∧ k ≤ 120 ∧ i = .int .i64 (k : Int) ∧ s.log.length ≤ k ∧ OutOk O s.deals ∧ MapV.Own Try.prog .i64 3 wr mo (mi O) cc ∧ cc ≤ 200 * k ∧ ChairAt wr g bm lv c s ∧ lv.ownBlock ≠ some mo ∧ Below w.heap.size w wr) (fun i _ => 120 - (intOf i).toNat)
  case atStart => exact ⟨0, c0, _, 0, fun _ => none, 0, by omega, by omega, rfl, Nat.le_refl _, fun t o h => (by cases h), HO3.out, by omega, HC3.out, by simp [Value.ownBlock], HB3.out⟩
  case round =>
    obtain ⟨wo, h_wo⟩ : ∃ v : World, v = wr := ⟨_, rfl⟩; subst h_wo
    clear HO3 HC3 HB3
    obtain ⟨k, s, lv, c, O, cc, hk, hk120, rfl, hlen, hOO, hO, hcc, hC, hne, hB⟩ := hrel
    have HOO := Lib.hid hOO
    have HO := Lib.hid hO
    have HC := Lib.hid hC
    have HB := Lib.hid hB
    have HNE := Lib.hid hne
    clear hOO hO hC hB hne
    by_cases hkl : k = l.length
    · have hkI : ¬ (k : Int) < (l.length : Int) := by omega
      go_wp2_with fail
      go_ret
      exact ⟨rfl, HB.out⟩
    · have hkI : (k : Int) < (l.length : Int) := by omega
      by_cases hk2 : k = 120
      · have hkJ : ¬ (k : Int) < 120 := by omega
        go_wp2_with fail
        go_ret
        exact ⟨rfl, HB.out⟩
      · have hkJ : (k : Int) < 120 := by omega
        have hk0 : (0 : Int) ≤ (k : Int) := by omega
        have hlt : k < l.length := by omega
        obtain ⟨b, off, rfl, hbl, hcell⟩ := HREC.out (by omega)
        have HCELL := Lib.hid hcell
        have hq := fun j v hv => (HB.out.cell (p := ⟨b, off + (k * 8 + j), none⟩) hbl).trans (hcell k hlt j v hv)
        have hro := HOK.out _ (List.getElem_mem hlt)
        generalize l[k] = r at hq hro
        obtain ⟨kd, tx, who, ep, vt, now, sp, cp⟩ := r
        obtain ⟨w0, w255, htx⟩ := hro
        dsimp only at w0 w255 htx
        obtain ⟨n, rfl⟩ : ∃ n : Nat, who = (n : Int) := ⟨who.toNat, by omega⟩
        have q0 := hq 0 _ rfl
        have q1 := hq 1 _ rfl
        have q2 := hq 2 _ rfl
        have q3 := hq 3 _ rfl
        have q4 := hq 4 _ rfl
        have q5 := hq 5 _ rfl
        have q6 := hq 6 _ rfl
        have q7 := hq 7 _ rfl
        simp only [Nat.add_zero, ← Nat.add_assoc] at q0 q1 q2 q3 q4 q5 q6 q7
        clear hq hcell
        have hgw := Flat.cell_lt HC.out.map
        have hmw : mo < wo.heap.size := HO.out.lt
        have hbw := HC.out.lt
        have HRW := Lib.hid (fun i hi => (HC.out.row.lt i hi).2)
        have HDC := Lib.hid (fun (W : World) (h : ChairAt W g bm lv c s) => do_any g bm c lv s kd tx ep vt now sp cp n (by omega) (by omega) W h)
        have HDL := Lib.hid (fun (W : World) (h : ChairAt W g bm lv c s) => deal_any g bm c lv s tx htx W h)
        have HLE := Lib.hid (doC_len s ⟨kd, tx, n, ep, vt, now, sp, cp⟩)
        have HOO2 := Lib.hid (HOO.out.step ⟨kd, tx, n, ep, vt, now, sp, cp⟩)
        have HCOM := Lib.hid (fun d d2 h h0 h2 h1 => commit_law (s := s) (r := ⟨kd, tx, n, ep, vt, now, sp, cp⟩) (d := d) (d2 := d2) h h0 h2 h1)
        obtain ⟨pp, HPP⟩ : ∃ pp, Hid (doC s ⟨kd, tx, n, ep, vt, now, sp, cp⟩ = pp) := ⟨_, Lib.hid rfl⟩
        rw [HPP.out] at HDC HLE HOO2 HCOM
        obtain ⟨s2, n2, e2⟩ := pp
        dsimp only at HLE HOO2 HCOM
        have HDL2 := Lib.hid (fun (W : World) (lv : Value) (c : Nat) (t : Int) (ht : (Lit.int .i64 t).wf = true) (h : ChairAt W g bm lv c s2) => deal_any g bm c lv s2 t ht W h)
        have HD2 := Lib.hid (fun (W : World) (lv : Value) (c : Nat) (h : ChairAt W g bm lv c s2) => deal_any g bm c lv s2 tx htx W h)
        obtain ⟨d, HDD⟩ : ∃ d, Hid (dealOf s tx = d) := ⟨_, Lib.hid rfl⟩
        obtain ⟨d2, HDD2⟩ : ∃ d, Hid (dealOf s2 tx = d) := ⟨_, Lib.hid rfl⟩
        obtain ⟨is1, HIS⟩ : ∃ d, Hid ((s.deals tx).isSome = d) := ⟨_, Lib.hid rfl⟩
        obtain ⟨is2, HIS2⟩ : ∃ d, Hid ((s2.deals tx).isSome = d) := ⟨_, Lib.hid rfl⟩
        rw [HDD.out, HIS.out] at HDL
        rw [HDD2.out, HIS2.out] at HD2
        clear HPP HOO
        go_wp2_with fail
        generalize hv4 : World.alloc wo _ = v4
        obtain ⟨hb4, hz4, hc4⟩ := alloc_facts hv4
        have HB4 := Lib.hid hb4
        have HC4 := Lib.hid hc4
        clear hv4 hb4 hc4 q0 q1 q2 q3 q4 q5 q6 q7
        refine (HDL.out v4 (HC.out.below HB4.out)).mono ?_
        rintro e v5 ⟨rfl, hb5⟩
        have HB45 := Lib.hid hb5
        have hz5 : wo.heap.size < v5.heap.size := Nat.lt_of_lt_of_le hz4 hb5.size
        have HN5 := Lib.hid (fun B hB => there_de v5 B 44 hB)
        clear hb5
        go_wp2_with (refine wpList_store_mid rfl 44 _ _ rfl (v5.heap.size) 0 (dc d).toArray (by rfl) (by rfl) (HN5.out _ rfl) infoDe (all_oneCell_toArray (dc_one _)) ?_; generalize hw6 : World.setCells _ _ _ _ = w6 at *; obtain ⟨hb6, hz6, hD6, _⟩ := new_de d rfl hw6; have HD6 := Lib.hid hD6; have HB46 := Lib.hid (HB45.out.trans (hb6.mono HB45.out.size)); have HR6 := Lib.hid (fun i => (HB46.out.cell (p := ⟨wo.heap.size, i, none⟩) hz4).trans (HC4.out i)); have q0 := HR6.out 0; have q1 := HR6.out 1; have q2 := HR6.out 2; have q3 := HR6.out 3; have q4 := HR6.out 4; have q5 := HR6.out 5; have q6 := HR6.out 6; have q7 := HR6.out 7; clear hw6 hb6 hD6)
        have HBo6 := Lib.hid (HB4.out.trans (HB46.out.mono (Nat.le_of_lt hz4)))
        refine (HDC.out w6 (HC.out.below HBo6.out)).mono ?_
        rintro e v7 ⟨rfl, hap, lv2, c2, hC7, hloc⟩
        have hz46 : wo.heap.size < w6.heap.size := by omega
        have HC7 := Lib.hid hC7
        have HD7 := Lib.hid (de_apart HD6.out hap (by omega) (by omega) (fun e => by have := HRW.out _ e.symm; omega))
        have HR7 := Lib.hid (fun i => (hap.cell (b := wo.heap.size) (o := i) hz46 (by omega) (by omega) (fun e => by have := HRW.out _ e.symm; omega)).trans (HR6.out i))
        have HO7 := Lib.hid ((HO.out.below HBo6.out hmw).heap (hap.block mo (by omega) (by omega) (by omega) (fun e => HNE.out e.symm)))
        have HB7 := Lib.hid ((HB.out.trans (HBo6.out.mono HB.out.size)).trans (hap.below (HC.out.below HBo6.out) hwbm (Nat.le_trans HB.out.size HBo6.out.size)))
        have HNE7 : Hid (lv2.ownBlock ≠ some mo) := Lib.hid (by
          rcases hloc with e | e
          · rw [e]; exact HNE.out
          · intro h; have := e _ h; omega)
        have hz67 := hap.size
        clear hap hC7 hloc q0 q1 q2 q3 q4 q5 q6 q7 HR6 HD6 HDC HDL HC HO HB HNE HN5
        have q1 := HR7.out 1
        go_wp2_with fail
        refine (HD2.out v7 _ _ HC7.out).mono ?_
        rintro e v8 ⟨rfl, hb8⟩
        have HB78 := Lib.hid hb8
        have HN8 := Lib.hid (fun B hB => there_de v8 B 44 hB)
        clear hb8 q1 HD2
        go_upto_region 14 with (refine wpList_store_mid rfl 44 _ _ rfl (v8.heap.size) 0 (dc d2).toArray (by rfl) (by rfl) (HN8.out _ rfl) infoDe (all_oneCell_toArray (dc_one _)) ?_; generalize hw9 : World.setCells _ _ _ _ = w9 at *; obtain ⟨hb9, hz9, hD9, _⟩ := new_de d2 rfl hw9; have HD9 := Lib.hid hD9; have HB79 := Lib.hid (HB78.out.trans (hb9.mono HB78.out.size)); clear hw9 hb9 hD9)
        have HD79 := Lib.hid (HD7.out.below HB79.out)
        have HR9 := Lib.hid (fun i => (HB79.out.cell (p := ⟨wo.heap.size, i, none⟩) (Nat.lt_of_lt_of_le hz46 hz67)).trans (HR7.out i))
        clear HR7 HD7 HN8
        go_cut [67] (fun v wx => v = .bool (is1 && (d.out == 0) && (d2.out == 1)) ∧ w9 = wx)
        case first =>
          have p28 := HD79.out.out
          have f28 := HD9.out.out
          cases is1
          · go_wp2_with fail
            go_meet
            exact ⟨by simp, rfl⟩
          · by_cases hd0 : d.out = 0
            · have hdb : (d.out == 0) = true := by rw [hd0]; rfl
              by_cases hd1 : d2.out = 1
              · have hdc : (d2.out == 1) = true := by rw [hd1]; rfl
                go_wp2_with fail
                go_meet
                exact ⟨by simp [hd0, hd1], rfl⟩
              · have hdc : (d2.out == 1) = false := beq_eq_false_iff_ne.2 hd1
                go_wp2_with fail
                go_meet
                exact ⟨by simp [hdc], rfl⟩
            · have hdb : (d.out == 0) = false := beq_eq_false_iff_ne.2 hd0
              go_wp2_with fail
              go_meet
              exact ⟨by simp [hdb], rfl⟩
        case rest =>
          obtain ⟨rfl, rfl⟩ := hcut
          obtain ⟨cb, HCB⟩ : ∃ cb, Hid ((is1 && (d.out == 0) && (d2.out == 1)) = cb) := ⟨_, Lib.hid rfl⟩
          rw [HCB.out]
          go_upto_if 67 with (fail)
          go_cut [] (fun wx => Below w9.heap.size w9 wx)
          case first =>
            cases hcb : cb
            · go_wp2_with fail
              go_meet
              exact Below.refl _ _
            · have hall := HCB.out.trans hcb
              simp only [Bool.and_eq_true, beq_iff_eq] at hall
              obtain ⟨⟨hi1, hd0⟩, hd1⟩ := hall
              have hs1 : s.deals tx = some d := by
                have h1 := HIS.out
                have h2 := HDD.out
                rw [hi1] at h1
                obtain ⟨x, hx⟩ := Option.isSome_iff_exists.1 h1
                rw [dealOf, hx] at h2
                rw [hx, ← h2]; rfl
              have hs2 : s2.deals tx = some d2 := by
                have h2 := HDD2.out
                cases hx : s2.deals tx with
                | none => rw [dealOf, hx] at h2; rw [← h2] at hd1; cases hd1
                | some x => rw [dealOf, hx] at h2; rw [← h2]; rfl
              obtain ⟨hkd, hov, hvo⟩ := HCOM.out d d2 hs1 hd0 hs2 hd1
              have HVO := Lib.hid hvo
              have hT : TaAt w9 v8.heap.size 0 d2.ta := HD9.out.ta
              have HT := Lib.hid hT
              have q0 := hT.who (i := 0) (by decide)
              have q1 := hT.who (i := 1) (by decide)
              have q2 := hT.who (i := 2) (by decide)
              have q3 := hT.who (i := 3) (by decide)
              have q4 := hT.who (i := 4) (by decide)
              have q5 := hT.who (i := 5) (by decide)
              have q6 := hT.who (i := 6) (by decide)
              have q7 := hT.who (i := 7) (by decide)
              simp only [Nat.zero_add] at q0 q1 q2 q3 q4 q5 q6 q7
              have HOVD := Lib.hid (fun W => HOV.out d.te now W)
              rw [hov] at HOVD
              have HKD := Lib.hid hkd
              clear hT hvo hkd hov hs1 hs2 hd0 hd1 hi1 hcb
              go_wp2_with fail
              clear q0 q1 q2 q3 q4 q5 q6 q7
              go_loopw [71] (fun i wr => ∃ j : Nat, j ≤ 8 ∧ i = .int .i64 (j : Int) ∧ wr = w9) (fun i _ => 8 - (intOf i).toNat)
              case atStart => exact ⟨0, by omega, rfl, rfl⟩
              case round =>
                obtain ⟨j, hj, rfl, rfl⟩ := hrel
                by_cases hj8 : j = 8
                · have hjI : ¬ (j : Int) < 8 := by omega
                  have p24 := HD79.out.te 0 (.int .i64 d.te.dl) rfl
                  have p25 := HD79.out.te 1 (.int .i64 d.te.span) rfl
                  have p26 := HD79.out.te 2 (.int .i64 d.te.used) rfl
                  have p27 := HD79.out.te 3 (.int .i64 d.te.cap) rfl
                  have u5 := HR9.out 5
                  go_wp2_with fail
                  refine (HOVD.out _).mono ?_
                  rintro e6 w10 ⟨rfl, hb10⟩
                  have u0 := (hb10.cell (p := ⟨wo.heap.size, 0, none⟩) (by show wo.heap.size < _; have := HB79.out.size; omega)).trans (HR9.out 0)
                  rw [HKD.out] at u0
                  go_wp2_with fail
                  go_meet
                  exact hb10
                · have hj7 : j < 8 := by omega
                  have hjI : (j : Int) < 8 := by omega
                  have hj0 : (0 : Int) ≤ (j : Int) := by omega
                  have hix := who_index d2.ta.who j hj7 wr
                  have q8 := HT.out.vote hj7
                  simp only [Nat.zero_add] at q8
                  cases hw : d2.ta.who j
                  · rw [hw] at hix
                    go_wp2_with fail
                    exact ⟨⟨j + 1, by omega, by go_num, by trivial⟩, by simp [intOf]; omega⟩
                  · rw [hw] at hix
                    rw [HVO.out j hj7 hw] at q8
                    go_wp2_with fail
                    exact ⟨⟨j + 1, by omega, by go_num, by trivial⟩, by simp [intOf]; omega⟩
          case rest =>
            obtain ⟨w10, h_w10⟩ : ∃ v : World, v = wc := ⟨_, rfl⟩; subst h_w10
            have HB910 := Lib.hid (show Below w9.heap.size w9 w10 from hcut)
            have HC10 := Lib.hid ((HC7.out.below HB79.out).below HB910.out)
            have hmo7 : mo < v7.heap.size := HO7.out.lt
            have hmo9 : mo < w9.heap.size := Nat.lt_of_lt_of_le hmo7 HB79.out.size
            have HO10 := Lib.hid ((HO7.out.below HB79.out hmo7).below HB910.out hmo9)
            have HB10 := Lib.hid ((HB7.out.trans (HB79.out.mono HB7.out.size)).trans (HB910.out.mono (Nat.le_trans HB7.out.size HB79.out.size)))
            have hmo10 : mo < w10.heap.size := HO10.out.lt
            have hle := HLE.out
            clear hcut HC7 HO7 HB7 HB910 HB79 HD79 HR9 HD9 HCB HCOM HDD HDD2 HIS HIS2 HOV
            obtain ⟨D, hown, hD⟩ := HO10.out
            have HD := Lib.hid hD
            clear hD
            go_wp2_with (first
              | (at_range; refine wpList_range_own _ rfl _ 50 rfl 3 3 (int_keyed Try.underlying3) Try.underlying50 MapV.RV mo cc D (by rfl) hown ?_; intro wj hrg0 hg0 hs0)
              | go_in)
            go_frame
            have HBJ := Lib.hid (show Below w10.heap.size w10 wj from ⟨hg0.os, hg0.tape, hg0.output, hg0.size, fun i hi => hg0.block i hi (by simp)⟩)
            clear hg0
            go_loopw [] (fun wr => ∃ (leftL : Lit → Bool) (cnt : Nat), wr.ranges Try.prog 3 MapV.RV mo w10.heap.size cc D leftL cnt ∧ Below w10.heap.size w10 wr) (fun wr => wr.rangeLeft mo w10.heap.size)
            case atStart => exact ⟨_, _, hrg0, HBJ.out⟩
            case round =>
              obtain ⟨leftL, cnt, hrg, hBr⟩ := hrel
              have HBR := Lib.hid hBr
              clear hBr hrg0 hs0 HBJ hown
              go_wp2_with (first
                | (at_next; refine wpList_next_ranges _ rfl _ rfl 3 (int_keyed Try.underlying3) MapV.RV id id (fun key _ _ => ⟨key, rfl⟩) (fun v _ _ => ⟨v, rfl⟩) mo w10.heap.size cc _ _ _ rfl hrg ?_ ?_)
                | go_in)
              · intro _ _
                have HCR := Lib.hid (HC10.out.below HBR.out)
                have HOR := Lib.hid (HO10.out.below HBR.out hmo10)
                have HBX := Lib.hid (HB10.out.trans (HBR.out.mono HB10.out.size))
                clear hrg HC10 HO10 HB10 HBR HD
                obtain ⟨wx, h_wx⟩ : ∃ v : World, v = wr := ⟨_, rfl⟩; subst h_wx
                go_wp2_with fail
                go_loopw [17] (fun i wr => ∃ (j : Nat) (O : Int → Option Int) (cc : Nat), j ≤ k + 1 ∧ i = .int .i64 (j : Int) ∧ OutOk O s2.deals ∧ MapV.Own Try.prog .i64 3 wr mo (mi O) cc ∧ cc ≤ 200 * k + j ∧ ChairAt wr g bm lv2 c2 s2 ∧ Below w.heap.size w wr) (fun i _ => k + 1 - (intOf i).toNat)
                case atStart => exact ⟨0, O, cc, by omega, rfl, HOO2.out, HOR.out, by omega, HCR.out, HBX.out⟩
                case round =>
                  clear HCR HOR HBX HOO2 hcc
                  obtain ⟨wy, h_wy⟩ : ∃ v : World, v = wr := ⟨_, rfl⟩; subst h_wy
                  obtain ⟨j, O, cc, hj, rfl, hOO, hO, hcc, hC, hB⟩ := hrel
                  have HOO := Lib.hid hOO
                  have HO := Lib.hid hO
                  have HC := Lib.hid hC
                  have HB := Lib.hid hB
                  clear hOO hO hC hB
                  by_cases hjk : j = k + 1
                  · have hjI : ¬ (j : Int) ≤ (k : Int) := by omega
                    go_wp2_with fail
                    go_roundw
                    case rel =>
                      exact ⟨k + 1, s2, lv2, c2, O, cc, by omega, by omega, by go_num, by omega, HOO.out, HO.out, by omega, HC.out, HNE7.out, HB.out⟩
                    case measure => simp [intOf]; omega
                  · have hjI : (j : Int) ≤ (k : Int) := by omega
                    have hj0 : (0 : Int) ≤ (j : Int) := by omega
                    have hjl : j < l.length := by omega
                    have hjlI : (j : Int) < (l.length : Int) := by omega
                    have hq := (HB.out.cell (p := ⟨b, off + (j * 8 + 1), none⟩) hbl).trans (HCELL.out j hjl 1 _ rfl)
                    have hro := HOK.out _ (List.getElem_mem hjl)
                    have htx2 : (Lit.int .i64 l[j].tx).wf = true := hro.2.2
                    simp only [← Nat.add_assoc] at hq
                    generalize l[j].tx = t at hq htx2
                    have HKEY : Hid (keyOf Try.prog 3 (.int .i64 t) = some (.int .i64 t)) := Lib.hid (keyOf_int_mk Try.underlying3 htx2)
                    have hdx := HDL2.out wy lv2 c2 t htx2 HC.out
                    have hqb := Flat.cell_lt hq
                    have hmy := HO.out.lt
                    clear hro
                    cases hf : s2.deals t with
                    | none =>
                      rw [show dealOf s2 t = zDe by rw [dealOf, hf]; rfl, hf] at hdx
                      have HDX := Lib.hid hdx
                      clear hdx hf
                      go_wp2_with fail
                      refine HDX.out.mono ?_
                      rintro e v5 ⟨rfl, hb5⟩
                      have HB5 := Lib.hid hb5
                      have HN5 := Lib.hid (fun B hB => there_de v5 B 44 hB)
                      clear hb5 HDX
                      go_wp2_with (refine wpList_store_mid rfl 44 _ _ rfl (v5.heap.size) 0 (dc zDe).toArray (by rfl) (by rfl) (HN5.out _ rfl) infoDe (all_oneCell_toArray (dc_one _)) ?_; generalize hw6 : World.setCells _ _ _ _ = w6 at *; obtain ⟨hb6, hz6, hD6, _⟩ := new_de zDe rfl hw6; have HB6 := Lib.hid (HB5.out.trans (hb6.mono HB5.out.size)); clear hw6 hb6 hD6)
                      exact ⟨⟨j + 1, O, cc, by omega, by go_num, HOO.out, HO.out.below HB6.out hmy, by omega, HC.out.below HB6.out, HB.out.trans (HB6.out.mono HB.out.size)⟩, by simp [intOf]; omega⟩
                    | some d' =>
                      rw [show dealOf s2 t = d' by rw [dealOf, hf]; rfl, hf] at hdx
                      have HDX := Lib.hid hdx
                      have HF := Lib.hid hf
                      clear hdx hf
                      go_wp2_with fail
                      refine HDX.out.mono ?_
                      rintro e v5 ⟨rfl, hb5⟩
                      have HB5 := Lib.hid hb5
                      have HN5 := Lib.hid (fun B hB => there_de v5 B 44 hB)
                      clear hb5 HDX
                      by_cases ho : d'.out = 0
                      · have hob : (d'.out != 0) = false := by rw [ho]; rfl
                        go_wp2_with (refine wpList_store_mid rfl 44 _ _ rfl (v5.heap.size) 0 (dc d').toArray (by rfl) (by rfl) (HN5.out _ rfl) infoDe (all_oneCell_toArray (dc_one _)) ?_; generalize hw6 : World.setCells _ _ _ _ = w6 at *; obtain ⟨hb6, hz6, hD6, _⟩ := new_de d' rfl hw6; have HB6 := Lib.hid (HB5.out.trans (hb6.mono HB5.out.size)); have p28 := hD6.out; clear hw6 hb6 hD6)
                        exact ⟨⟨j + 1, O, cc, by omega, by go_num, HOO.out, HO.out.below HB6.out hmy, by omega, HC.out.below HB6.out, HB.out.trans (HB6.out.mono HB.out.size)⟩, by simp [intOf]; omega⟩
                      · have hob : (d'.out != 0) = true := bne_iff_ne.2 ho
                        go_wp2_with (refine wpList_store_mid rfl 44 _ _ rfl (v5.heap.size) 0 (dc d').toArray (by rfl) (by rfl) (HN5.out _ rfl) infoDe (all_oneCell_toArray (dc_one _)) ?_; generalize hw6 : World.setCells _ _ _ _ = w6 at *; obtain ⟨hb6, hz6, hD6, _⟩ := new_de d' rfl hw6; have HB6 := Lib.hid (HB5.out.trans (hb6.mono HB5.out.size)); have p28 := hD6.out; clear hw6 hb6 hD6)
                        have hq6 := (HB6.out.cell (p := ⟨b, off + j * 8 + 1, none⟩) hqb).trans hq
                        have HO6 := Lib.hid (HO.out.below HB6.out hmy)
                        have HC6 := Lib.hid (HC.out.below HB6.out)
                        have HBw6 := Lib.hid (HB.out.trans (HB6.out.mono HB.out.size))
                        clear hq
                        refine start_ (n := 9) (S := fun w' => Below w6.heap.size w6 w' ∧ w'.cell? ⟨b, off + j * 8 + 1, none⟩ = some (.int .i64 t) ∧ w'.cell? ⟨v5.heap.size, 28, none⟩ = some (.int .i64 d'.out)) (ds := [8]) #[false, false, false, false, false, false, false, false, false] (by kernel_rfl) rfl rfl ⟨(still_drew w6).1, hq6, p28⟩ (fun hHeld => ?_)
                        refine pure_ (i := 0) (N := some 137) (v := ?_) (a' := ?_) #[true, false, false, false, false, false, false, false, false] rfl rfl (by kernel_rfl) (fun _ _ _ h => h) (Or.inl ⟨by rfl, ?_⟩) ?_ ?_
                        rotate_left
                        · intro w'
                          go_simp
                          with_reducible rfl
                        rotate_left
                        · simp only [Act.put, List.setIfInBounds_toArray, List.set_cons_zero, List.set_cons_succ, i64_w, i32_w]
                          rfl
                        refine pure_ (i := 1) (N := some 138) (v := ?_) (a' := ?_) #[true, true, false, false, false, false, false, false, false] rfl rfl (by kernel_rfl) (fun _ _ _ h => h) (Or.inl ⟨by rfl, ?_⟩) ?_ ?_
                        rotate_left
                        · intro w'
                          go_simp
                          with_reducible rfl
                        rotate_left
                        · simp only [Act.put, List.setIfInBounds_toArray, List.set_cons_zero, List.set_cons_succ, i64_w, i32_w]
                          rfl
                        refine pure_ (i := 2) (N := some 139) (v := ?_) (a' := ?_) #[true, true, true, false, false, false, false, false, false] rfl rfl (by kernel_rfl) (fun _ _ _ h => h) (Or.inl ⟨by rfl, ?_⟩) ?_ ?_
                        rotate_left
                        · intro w'
                          go_simp
                          with_reducible rfl
                        rotate_left
                        · simp only [Act.put, List.setIfInBounds_toArray, List.set_cons_zero, List.set_cons_succ, i64_w, i32_w]
                          rfl
                        refine pure_ (i := 3) (N := some 140) (v := ?_) (a' := ?_) #[true, true, true, true, false, false, false, false, false] rfl rfl (by kernel_rfl) (fun _ _ _ h => h) (Or.inl ⟨by rfl, ?_⟩) ?_ ?_
                        rotate_left
                        · intro w'
                          go_simp
                          with_reducible rfl
                        rotate_left
                        · simp only [Act.put, List.setIfInBounds_toArray, List.set_cons_zero, List.set_cons_succ, i64_w, i32_w]
                          rfl
                        refine pure_ (i := 4) (N := some 141) (v := ?_) (a' := ?_) #[true, true, true, true, true, false, false, false, false] rfl rfl (by kernel_rfl) (fun _ _ _ h => h) (Or.inl ⟨by rfl, ?_⟩) ?_ ?_
                        rotate_left
                        · intro w'
                          go_simp
                          with_reducible rfl
                        rotate_left
                        · simp only [Act.put, List.setIfInBounds_toArray, List.set_cons_zero, List.set_cons_succ, i64_w, i32_w]
                          rfl
                        refine pure_ (i := 6) (N := some 143) (v := ?_) (a' := ?_) #[true, true, true, true, true, false, true, false, false] rfl rfl (by kernel_rfl) (fun _ _ _ h => h) (Or.inl ⟨by rfl, ?_⟩) ?_ ?_
                        rotate_left
                        · intro w'
                          go_simp
                          with_reducible rfl
                        rotate_left
                        · simp only [Act.put, List.setIfInBounds_toArray, List.set_cons_zero, List.set_cons_succ, i64_w, i32_w]
                          rfl
                        refine take_ (i := 5) (N := some 142) (v := ?_) (a' := ?_) #[true, true, true, true, true, true, true, false, false] rfl rfl (by kernel_rfl) (fun _ _ _ h => h) (Or.inl ⟨by rfl, ?_⟩) hHeld ?_ ?_
                        rotate_left
                        · rintro w' ⟨s0, s1, s2⟩
                          go_simp
                          with_reducible rfl
                        rotate_left
                        · simp only [Act.put, List.setIfInBounds_toArray, List.set_cons_zero, List.set_cons_succ, i64_w, i32_w]
                          rfl
                        refine take_ (i := 7) (N := some 144) (v := ?_) (a' := ?_) #[true, true, true, true, true, true, true, true, false] rfl rfl (by kernel_rfl) (fun _ _ _ h => h) (Or.inl ⟨by rfl, ?_⟩) hHeld ?_ ?_
                        rotate_left
                        · rintro w' ⟨s0, s1, s2⟩
                          go_simp
                          with_reducible rfl
                        rotate_left
                        · simp only [Act.put, List.setIfInBounds_toArray, List.set_cons_zero, List.set_cons_succ, i64_w, i32_w]
                          rfl
                        refine last_ (i := 8) (N := none) #[true, true, true, true, true, true, true, true, true] rfl rfl (by kernel_rfl) (by decide) (fun K hK => ?_)
                        have HOW := HO6.out.below hHeld.1 HO6.out.lt
                        have hltw := HOW.lt
                        have HCW := HC6.out.below hHeld.1
                        obtain ⟨w8, hrun8, ho8, htu8⟩ := MapV.Own.store (t := 50) (et := 3) HOW (int_keyed Try.underlying3) Try.underlying50 (by unfold maxLen; omega) HKEY.out (.int .i64 d'.out)
                        refine mapset_ (by rfl) rfl (.tmp 137) (.tmp 142) (.tmp 144) 50 rfl _ _ _ (by rfl) (by rfl) (by rfl) hrun8 ?_
                        have HB8 := Lib.hid ((HBw6.out.trans (hHeld.1.mono HBw6.out.size)).trans (MapV.turned_below htu8 (by omega) (by have := HBw6.out.size; have := hHeld.1.size; omega)))
                        have HC8 := Lib.hid (HCW.heap (MapV.turned_block htu8 (by omega) (Flat.cell_lt HCW.map)) (MapV.turned_block htu8 (by omega) HCW.own.lt) (fun i hi => MapV.turned_block htu8 (fun e => HNE7.out (by rw [hi, e])) (HCW.row.lt i hi).2))
                        have HO8 := Lib.hid ho8
                        clear hrun8 ho8 htu8 HOW HCW hltw
                        refine hK.out _ _ ?_
                        clear hK K
                        refine done_ (by kernel_rfl) ?_

                        go_wp2_with fail
                        exact ⟨⟨j + 1, setO O t d'.out, _, by omega, by go_num, HOO.out.set HF.out ho, by rw [mi_set]; exact HO8.out, by split <;> omega, HC8.out, HB8.out⟩, by simp [intOf]; omega⟩
              · intro x c1 kl ya yb w1 cnt1 hkey hlk hv hat hrg1 hlt1 hg1 hs1 hen
                obtain ⟨xi, rfl, rfl, hwf⟩ := Maps.keyOf_int_inv Try.underlying3 hkey
                obtain ⟨o, hfx, hcv⟩ := came_i HD.out hv hat
                subst hcv
                obtain ⟨ho0, d, hd, hdo⟩ := HOO2.out xi o hfx
                subst hdo
                have HRG0 := Lib.hid hrg
                have HRG1 := Lib.hid hrg1
                have HB1 := Lib.hid (HBR.out.trans (show Below w10.heap.size wr w1 from ⟨hg1.os, hg1.tape, hg1.output, hg1.size, fun i hi => hg1.block i (Nat.lt_of_lt_of_le hi HBR.out.size) (fun e => by cases e; omega)⟩))
                clear hkey hv hat hrg hrg1 hg1 hlk hs1
                have HDX := Lib.hid (HDL2.out w1 lv2 c2 xi hwf (HC10.out.below HB1.out))
                rw [show dealOf s2 xi = d by rw [dealOf, hd]; rfl, hd] at HDX
                go_wp2_with fail
                refine HDX.out.mono ?_
                rintro e v11 ⟨rfl, hb11⟩
                have HB11 := Lib.hid hb11
                have HN11 := Lib.hid (fun B hB => there_de v11 B 44 hB)
                clear hb11 hen HDX
                go_wp2_with (refine wpList_store_mid rfl 44 _ _ rfl (v11.heap.size) 0 (dc d).toArray (by rfl) (by rfl) (HN11.out _ rfl) infoDe (all_oneCell_toArray (dc_one _)) ?_; generalize hw12 : World.setCells _ _ _ _ = w12 at *; obtain ⟨hb12, hz12, hD12, _⟩ := new_de d rfl hw12; have p28 := hD12.out; have HB12 := Lib.hid (HB11.out.trans (hb12.mono HB11.out.size)); clear hw12 hb12 hD12)
                go_roundw
                case rel =>
                  exact ⟨_, cnt1, HRG1.out.kept (grown_below0 HB12.out none) (by simp) (by simp), HB1.out.trans (HB12.out.mono HB1.out.size)⟩
                case measure => rw [(HRG1.out.kept (grown_below0 HB12.out none) (by simp) (by simp)).left_eq, HRG0.out.left_eq]; exact hlt1
end Go.Proofs.Ytdlfjbllmmkmkaa.LChairStays
