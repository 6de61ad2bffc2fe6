/- ChairTicks: a tick changes just what is open and over, and tells how many that were. -/
import Derived.Test.YtdlfjbllmmkmkaaTold
namespace Go.Proofs.Ytdlfjbllmmkmkaa.LChairTicks
open Go.RowKit Go.Maps Flat ChairSpec News Chair Go.Proofs.YtdlfjbllmmkmkaaW.PrintLast
set_option linter.unusedSimpArgs false
set_option linter.unusedVariables false
set_option maxRecDepth 100000
theorem tick_plain (s : Ch) (now : Int) : doC s ⟨4, 0, (0 : Nat), 0, 0, now, 0, 0⟩ = (⟨fun k => (s.deals k).map (tickD now), s.log ++ [⟨4, 0, (0 : Nat), 0, 0, now, 0, 0⟩]⟩, hits s.deals now, 0) := by
  simp [doC, stepC]
set_option maxHeartbeats 16000000 in
theorem walk (a0 : Option Addr) (len0 cap0 : Nat) (r0 : List (List Value)) (a1 : Int) (w : World) (w0 : IsRows [.int .i64, .int .i64, .int .u8, .int .i64, .int .i64, .int .i64, .int .i64, .int .i64] w a0 len0 cap0 r0) (w1 : (Lit.int .u8 a1).wf = true) :
    Calls Try.prog 6 #[.slice a0 len0 cap0, .int .u8 a1] w fun e w' => e = .returned (.bool true) ∧ Below w.heap.size w w' := by
  obtain ⟨l, rfl, hlc, hcm, hok, hrec⟩ := recs_of w0
  obtain ⟨b1, b2⟩ := bounds_u8 w1
  obtain ⟨now, rfl⟩ : ∃ t : Nat, a1 = (t : Int) := ⟨a1.toNat, by omega⟩
  clear w0 w1
  have hwt : wrap64 (now : Int) = (now : Int) := by unfold wrap64; omega
  have HP := Lib.hid (fun (W : World) (hb : Below w.heap.size w W) => played_any W a0 cap0 l hcm hlc hok (fun hl => by
    obtain ⟨b, off, ha, hbB, hc⟩ := (hrec.below hb) hl
    exact ⟨b, off, ha, Nat.lt_of_lt_of_le hbB hb.size, hc⟩))
  have HREC := Lib.hid hrec
  have HOK := Lib.hid hok
  have hcm' := hcm
  unfold maxLen at hcm'
  clear hok hrec hcm
  have hmm := @run_makeMap Try.prog
  go_enter Try.func6, Try.ntmps6
  go_wp2_with fail
  refine (alive_any w).mono ?_
  rintro e v2 ⟨rfl, hb2⟩
  have HB2 := Lib.hid hb2
  clear hb2
  go_wp2_with fail
  refine (HP.out v2 HB2.out).mono ?_
  rintro e v3 ⟨g, bm, lv, c, rfl, hC3, hbm, hb3⟩
  have HB3 := Lib.hid (HB2.out.trans (hb3.mono HB2.out.size))
  have HC3 := Lib.hid hC3
  have hlen : (played l).log.length ≤ 120 := Nat.le_trans (play_len l _) (by omega)
  have HBE := Lib.hid (bef_end l)
  have hwbm : w.heap.size ≤ bm := Nat.le_trans HB2.out.size hbm
  clear hC3 hb3 HP HB2
  generalize played l = s at *
  go_wp2_with fail
  have HO4 := Lib.hid (MapV.own_made (P := Try.prog) (q := .i64) (kt := 3) v3)
  have HB4 := Lib.hid ((Below.refl v3.heap.size v3).alloc (Nat.le_refl _) (.map #[] 0))
  generalize hv4 : World.alloc v3 (.map #[] 0) = v4 at *
  have hlv3 : ∀ k, lv.ownBlock = some k → k < v3.heap.size := fun k e => (HC3.out.row.lt k e).2
  have HLV := Lib.hid hlv3
  have hgl := Flat.cell_lt HC3.out.map
  have hbl := HC3.out.lt
  have HDL := Lib.hid (fun (W : World) (lv : Value) (c : Nat) (s : Ch) (tx : Int) (htx : (Lit.int .i64 tx).wf = true) (h : ChairAt W g bm lv c s) => deal_any g bm c lv s tx htx W h)
  have HDO := Lib.hid (fun (W : World) (h : ChairAt W g bm lv c s) => do_any g bm c lv s 4 0 0 0 now 0 0 0 (by decide) (by omega) W h)
  rw [tick_plain] at HDO
  have hcf := HC3.out.few
  clear hv4 hlv3
  go_loopw [7] (fun i wr => ∃ k cc : Nat, k ≤ l.length ∧ k ≤ 120 ∧ i = .int .i64 (k : Int) ∧ MapV.Own Try.prog .i64 3 wr v3.heap.size (mv (bef s.deals l k)) cc ∧ cc ≤ k ∧ Below v3.heap.size v3 wr) (fun i _ => 120 - (intOf i).toNat)
  case atStart => exact ⟨0, 0, by omega, by omega, rfl, HO4.out, Nat.le_refl _, HB4.out⟩
  case round =>
    obtain ⟨wo, h_wo⟩ : ∃ v : World, v = wr := ⟨_, rfl⟩; subst h_wo
    obtain ⟨k, cc, hk, hk120, rfl, hO, hcc, hB⟩ := hrel
    have HO := Lib.hid hO
    have HB := Lib.hid hB
    have HCo := Lib.hid (HC3.out.below hB)
    clear hO hB HO4 HB4
    by_cases hkl : k = l.length
    · have hkI : ¬ (k : Int) < (l.length : Int) := by omega
      have hbe : bef s.deals l k = s.deals := by have h := HBE.out; rwa [show min l.length 120 = k by omega] at h
      rw [hbe] at HO
      have hmbl := HO.out.lt
      clear hbe HBE
      go_wp2_with fail
      refine (HDO.out wo HCo.out).mono ?_
      rintro e v6 ⟨rfl, hap, lv', c', hC6, _⟩
      have HC6 := Lib.hid hC6
      have HO6 := Lib.hid (HO.out.heap (hap.block _ hmbl (by omega) (by omega) (fun e => by have := HLV.out _ e.symm; omega)))
      have HB6 := Lib.hid ((HB3.out.trans (HB.out.mono HB3.out.size)).trans (hap.below HCo.out hwbm (Nat.le_trans HB3.out.size HB.out.size)))
      have HK := Lib.hid HC3.out.keys
      have hwfk : ∀ k d, s.deals k = some d → 0 ≤ k ∧ k < 1000 := HK.out
      have HDL6 := Lib.hid (fun (W : World) (tx : Int) (htx : (Lit.int .i64 tx).wf = true) (h : ChairAt W g bm lv' c' _) => deal_any g bm c' lv' ⟨fun k => (s.deals k).map (tickD now), s.log ++ [⟨4, 0, (0 : Nat), 0, 0, now, 0, 0⟩]⟩ tx htx W h)
      clear hap hC6 HDO HDL
      obtain ⟨D, hown, hD⟩ := HO6.out
      have HD := Lib.hid hD
      obtain ⟨H, HH⟩ : ∃ H, Hid (hits s.deals now = H) := ⟨_, Lib.hid rfl⟩
      rw [HH.out]
      have hmbg : v3.heap.size < v6.heap.size := HO6.out.lt
      clear hD hwfk
      have HOV := Lib.hid (fun t W => over_te t now W)
      go_wp2_with (first
        | (at_range; refine wpList_range_own _ rfl _ 52 rfl 3 44 (int_keyed Try.underlying3) Try.underlying52 MapV.RV v3.heap.size cc D (by rfl) hown ?_; intro w0 hrg0 hg0 hs0)
        | go_in)
      go_frame
      have HB0 := Lib.hid (show Below v6.heap.size v6 w0 from ⟨hg0.os, hg0.tape, hg0.output, hg0.size, fun i hi => hg0.block i hi (by simp)⟩)
      clear hg0
      go_loopw [12] (fun n wr => ∃ (leftL : Lit → Bool) (cnt : Nat) (left : Int → Bool), wr.ranges Try.prog 3 MapV.RV v3.heap.size v6.heap.size cc D leftL cnt ∧ (∀ k, leftL (.int .i64 k) = left k) ∧ n = .int .i64 (hitsBy s.deals now left : Nat) ∧ Below v6.heap.size v6 wr) (fun _ wr => wr.rangeLeft v3.heap.size v6.heap.size)
      case atStart =>
        have hl : ∀ k, Maps.has D (.int .i64 k) = (s.deals k).isSome := fun k => by rw [(HD.out.2 k).1]; simp [mv]
        exact ⟨_, _, fun k => (s.deals k).isSome, hrg0, hl, by rw [hits_start (fun _ => rfl)]; rfl, HB0.out⟩
      case round =>
        obtain ⟨leftL, cnt, left, hrg, hll, rfl, hBr⟩ := hrel
        have HLL := Lib.hid hll
        have HBR := Lib.hid hBr
        clear hll hBr hrg0 hs0 HB0
        go_wp2_with (first
          | (at_next; refine wpList_next_ranges _ rfl _ rfl 3 (int_keyed Try.underlying3) MapV.RV id id (fun key _ _ => ⟨key, rfl⟩) (fun v _ _ => ⟨v, rfl⟩) v3.heap.size v6.heap.size cc _ _ _ rfl hrg ?_ ?_)
          | go_in)
        · intro _ hl0
          have hend : ∀ k, left k = false := fun k => by rw [← HLL.out k]; exact hl0 _
          have he : (hitsBy s.deals now left : Int) = H := (hits_end hend).trans HH.out
          rw [he]
          clear hend hl0 hrg he
          go_wp2_with fail
          go_ret
          exact ⟨by simp, HB6.out.trans (HBR.out.mono HB6.out.size)⟩
        · intro x c1 kl ya yb w1 cnt1 hkey hlk hv hat hrg1 hlt hg1 hs1 hen
          obtain ⟨xi, rfl, rfl, hwf⟩ := Maps.keyOf_int_inv Try.underlying3 hkey
          have hlx : left xi = true := by rw [← HLL.out xi]; exact hlk
          obtain ⟨d, hfx, hcv⟩ := came_ HD.out hv hat
          subst hcv
          obtain ⟨hx0, hx1⟩ := HK.out xi d hfx
          obtain ⟨xn, rfl⟩ : ∃ xn : Nat, xi = (xn : Int) := ⟨xi.toNat, by omega⟩
          have HFX := Lib.hid hfx
          have HRG0 := Lib.hid hrg
          have HRG1 := Lib.hid hrg1
          have HB1 := Lib.hid (HBR.out.trans (show Below v6.heap.size wr w1 from ⟨hg1.os, hg1.tape, hg1.output, hg1.size, fun i hi => hg1.block i (Nat.lt_of_lt_of_le hi HBR.out.size) (fun e => by cases e; omega)⟩))
          have HLL2 : Hid (∀ k : Int, (leftL (.int .i64 k) && !(Lit.int .i64 k).sameKey (.int .i64 (xn : Int))) = gone left xn k) := Lib.hid (fun k => by
            rw [HLL.out k]; unfold gone Lit.sameKey; simp)
          have HSTEP := Lib.hid (hits_step (now := now) hfx (by omega) hlx)
          have hm0 := hitsBy_le s.deals now left
          have hm1 := hitsBy_le s.deals now (gone left xn)
          generalize hitsBy s.deals now left = m at *
          have hmI : (m : Int) ≤ 1000 := by omega
          have hmJ : (0 : Int) ≤ (m : Int) := by omega
          clear hkey hv hat hrg hrg1 hg1 hlk hlx hfx hm0 hs1
          have hw1 : v6.heap.size ≤ w1.heap.size := HB1.out.size
          go_wp2_with (refine wpList_store_mid rfl 44 _ _ rfl (w1.heap.size) 0 (dc d).toArray (by rfl) (by rfl) (there_de w1 _ _ rfl) infoDe (all_oneCell_toArray (dc_one _)) ?_; generalize hw5 : World.setCells _ _ _ _ = w5 at *; obtain ⟨hb5, hz5, hD5, ht5⟩ := new_de d rfl hw5; have HB5 := Lib.hid hb5; have HD5 := Lib.hid hD5; have HT5 := Lib.hid ht5; clear hw5 hb5 hD5 ht5)
          have HB15 := Lib.hid (HB1.out.trans (HB5.out.mono hw1))
          have hdl := HDL6.out w5 xn hwf (HC6.out.below HB15.out)
          have he2 : (({ deals := fun k => (s.deals k).map (tickD now), log := s.log ++ [⟨4, 0, (0 : Nat), 0, 0, now, 0, 0⟩] } : Ch).deals (xn : Int)).isSome = true := by simp [HFX.out]
          have he1 : dealOf { deals := fun k => (s.deals k).map (tickD now), log := s.log ++ [⟨4, 0, (0 : Nat), 0, 0, now, 0, 0⟩] } (xn : Int) = tickD now d := by simp [dealOf, HFX.out]
          rw [he1, he2] at hdl
          have HDD := Lib.hid hdl
          clear hdl he1 he2
          go_wp2_with fail
          refine HDD.out.mono ?_
          rintro e v7 ⟨rfl, hb7⟩
          have hz7 : w1.heap.size < v7.heap.size := Nat.lt_of_lt_of_le hz5 hb7.size
          have HB17 := Lib.hid (HB5.out.trans (hb7.mono (Nat.le_of_lt hz5)))
          have HB7 := Lib.hid (HB15.out.trans (hb7.mono HB15.out.size))
          have HD7 := Lib.hid (HD5.out.below hb7)
          have HT7 := Lib.hid (there_below HT5.out hb7)
          have HRG7 := Lib.hid (HRG1.out.kept (grown_below0 HB17.out none) (by simp) (by simp))
          have HN7 := Lib.hid (fun B hB => there_de v7 B 44 hB)
          clear hb7 HD5 HT5 HB5 HDD hen
          by_cases ho : d.out = 0
          · obtain ⟨e, HE⟩ : ∃ e, Hid (tickD now d = e) := ⟨_, Lib.hid rfl⟩
            rw [HE.out]
            have HNE := Lib.hid (deal_same_ne e)
            go_wp2_with (refine wpList_store_mid rfl 44 _ _ rfl (v7.heap.size) 0 (dc e).toArray (by rfl) (by rfl) (HN7.out _ rfl) infoDe (all_oneCell_toArray (dc_one _)) ?_; generalize hw8 : World.setCells _ _ _ _ = w8 at *; obtain ⟨hb8, hz8, hD8, ht8⟩ := new_de e rfl hw8; have HB8 := Lib.hid hb8; have HD8 := Lib.hid hD8; have HD78 := Lib.hid (HD7.out.below hb8); have HT78 := Lib.hid (there_below HT7.out hb8); have p28 := HD78.out.out; have p24 := HD78.out.te 0 (.int .i64 d.te.dl) rfl; have p25 := HD78.out.te 1 (.int .i64 d.te.span) rfl; have p26 := HD78.out.te 2 (.int .i64 d.te.used) rfl; have p27 := HD78.out.te 3 (.int .i64 d.te.cap) rfl; clear hw8 hb8 hD8 ht8)
            refine (HOV.out d.te _).mono ?_
            rintro e6 w9 ⟨rfl, hb9⟩
            have HD9 := Lib.hid (HD78.out.below hb9)
            have HE9 := Lib.hid (HD8.out.below hb9)
            have HT9 := Lib.hid (there_below HT78.out hb9)
            have HB79 := Lib.hid (HB8.out.trans (hb9.mono (Nat.le_of_lt hz8)))
            have HB9 := Lib.hid (HB7.out.trans (HB79.out.mono HB7.out.size))
            have HRG9 := Lib.hid (HRG7.out.kept (grown_below0 HB79.out none) (by simp) (by simp))
            clear hb9 p24 p25 p26 p27 p28 HD78 HD8 HT78 HB8
            cases hov : overTe d.te now
            · have hh : hitD now d = false := by rw [hitD, hov, Bool.and_false]
              have hed : e = d := by rw [← HE.out, tickD, if_neg (by rw [hov]; simp)]
              subst hed
              have HM : Hid (hitsBy s.deals now (gone left xn) = m) := Lib.hid (by rw [HSTEP.out, hh]; simp)
              clear hh hov
              go_wp2_with (first
                | (refine wpList_of_runG (by rfl) (range_run (x := .tmp 15) (b := v7.heap.size) (o := 0) (cs := dc e) rfl rfl HE9.out Try.underlying44 rfl infoDe) ?_)
                | (refine wpList_of_runG (by rfl) (range_run (x := .tmp 14) (b := w1.heap.size) (o := 0) (cs := dc e) rfl rfl HD9.out Try.underlying44 rfl infoDe) ?_)
                | (refine wpList_of_runG (by rfl) (neq_run (t := 44) (x := .tmp 91) (y := .tmp 92) rfl rfl rfl (by kernel_rfl) (HNE.out _)) ?_))
              exact ⟨⟨_, cnt1, gone left xn, HRG9.out, HLL2.out, by rw [HM.out], HB9.out⟩, by rw [HRG9.out.left_eq, HRG0.out.left_eq]; exact hlt⟩
            · have hh : hitD now d = true := by rw [hitD, hov, ho]; rfl
              have hed : e = ⟨d.ta, d.te, 2⟩ := by rw [← HE.out, tickD, if_pos ⟨ho, hov⟩]
              subst hed
              have HM : Hid (hitsBy s.deals now (gone left xn) = m + 1) := Lib.hid (by rw [HSTEP.out, hh]; simp)
              have p28 := HD9.out.out
              have f28 := (HT9.out 28 (by decide)).2
              rw [Nat.zero_add] at f28
              have HD10 := Lib.hid (de_out (o := 2) HD9.out)
              have HE10 := Lib.hid (de_set_other (g := w1.heap.size) (o := 28) (v := .int .i64 2) HE9.out (by omega))
              have HB10 := Lib.hid (HB9.out.setCell (p := ⟨w1.heap.size, 28, none⟩) hw1 (.int .i64 2))
              have HRG10 := Lib.hid (HRG9.out.kept (grown_cell w9 ⟨w1.heap.size, 28, none⟩ (.int .i64 2)) (fun e => by have h := Option.some.inj e; dsimp only at h; omega) (fun e => by have h := Option.some.inj e; have h9 := HRG1.out.lt; dsimp only at h; omega))
              clear hh hov
              go_wp2_with (first
                | (refine wpList_of_runG (by rfl) (range_run (x := .tmp 15) (b := v7.heap.size) (o := 0) (cs := dc ⟨d.ta, d.te, 2⟩) rfl rfl HE10.out Try.underlying44 rfl infoDe) ?_)
                | (refine wpList_of_runG (by rfl) (range_run (x := .tmp 14) (b := w1.heap.size) (o := 0) (cs := dc ⟨d.ta, d.te, 2⟩) rfl rfl HD10.out Try.underlying44 rfl infoDe) ?_)
                | (refine wpList_of_runG (by rfl) (neq_run (t := 44) (x := .tmp 91) (y := .tmp 92) rfl rfl rfl (by kernel_rfl) (HNE.out _)) ?_))
              exact ⟨⟨_, cnt1, gone left xn, HRG10.out, HLL2.out, by rw [HM.out]; rfl, HB10.out⟩, by rw [HRG10.out.left_eq, HRG0.out.left_eq]; exact hlt⟩
          · have hob : (d.out == 0) = false := beq_eq_false_iff_ne.2 ho
            have hh : hitD now d = false := by rw [hitD, decide_eq_false ho, Bool.false_and]
            have hed : tickD now d = d := by rw [tickD, if_neg (fun h => ho h.1)]
            rw [hed]
            have HM : Hid (hitsBy s.deals now (gone left xn) = m) := Lib.hid (by rw [HSTEP.out, hh]; simp)
            have HNE := Lib.hid (deal_same_ne d)
            clear hh hed
            go_wp2_with (first
              | (refine wpList_store_mid rfl 44 _ _ rfl (v7.heap.size) 0 (dc d).toArray (by rfl) (by rfl) (HN7.out _ rfl) infoDe (all_oneCell_toArray (dc_one _)) ?_; generalize hw8 : World.setCells _ _ _ _ = w8 at *; obtain ⟨hb8, hz8, hD8, ht8⟩ := new_de d rfl hw8; have HB8 := Lib.hid hb8; have HE9 := Lib.hid hD8; have HD9 := Lib.hid (HD7.out.below hb8); have p28 := HD9.out.out; clear hw8 hb8 hD8 ht8)
              | (refine wpList_of_runG (by rfl) (range_run (x := .tmp 15) (b := v7.heap.size) (o := 0) (cs := dc d) rfl rfl HE9.out Try.underlying44 rfl infoDe) ?_)
              | (refine wpList_of_runG (by rfl) (range_run (x := .tmp 14) (b := w1.heap.size) (o := 0) (cs := dc d) rfl rfl HD9.out Try.underlying44 rfl infoDe) ?_)
              | (refine wpList_of_runG (by rfl) (neq_run (t := 44) (x := .tmp 91) (y := .tmp 92) rfl rfl rfl (by kernel_rfl) (HNE.out _)) ?_))
            have HB9 := Lib.hid (HB7.out.trans (HB8.out.mono HB7.out.size))
            have HRG9 := Lib.hid (HRG7.out.kept (grown_below0 HB8.out none) (by simp) (by simp))
            exact ⟨⟨_, cnt1, gone left xn, HRG9.out, HLL2.out, by rw [HM.out], HB9.out⟩, by rw [HRG9.out.left_eq, HRG0.out.left_eq]; exact hlt⟩
    · have hkI : (k : Int) < (l.length : Int) := by omega
      by_cases hk2 : k = 120
      · have hkJ : ¬ (k : Int) < 120 := by omega
        have hbe : bef s.deals l k = s.deals := by have h := HBE.out; rwa [show min l.length 120 = k by omega] at h
        rw [hbe] at HO
        have hmbl := HO.out.lt
        clear hbe HBE
        go_wp2_with fail
        refine (HDO.out wo HCo.out).mono ?_
        rintro e v6 ⟨rfl, hap, lv', c', hC6, _⟩
        have HC6 := Lib.hid hC6
        have HO6 := Lib.hid (HO.out.heap (hap.block _ hmbl (by omega) (by omega) (fun e => by have := HLV.out _ e.symm; omega)))
        have HB6 := Lib.hid ((HB3.out.trans (HB.out.mono HB3.out.size)).trans (hap.below HCo.out hwbm (Nat.le_trans HB3.out.size HB.out.size)))
        have HK := Lib.hid HC3.out.keys
        have hwfk : ∀ k d, s.deals k = some d → 0 ≤ k ∧ k < 1000 := HK.out
        have HDL6 := Lib.hid (fun (W : World) (tx : Int) (htx : (Lit.int .i64 tx).wf = true) (h : ChairAt W g bm lv' c' _) => deal_any g bm c' lv' ⟨fun k => (s.deals k).map (tickD now), s.log ++ [⟨4, 0, (0 : Nat), 0, 0, now, 0, 0⟩]⟩ tx htx W h)
        clear hap hC6 HDO HDL
        obtain ⟨D, hown, hD⟩ := HO6.out
        have HD := Lib.hid hD
        obtain ⟨H, HH⟩ : ∃ H, Hid (hits s.deals now = H) := ⟨_, Lib.hid rfl⟩
        rw [HH.out]
        have hmbg : v3.heap.size < v6.heap.size := HO6.out.lt
        clear hD hwfk
        have HOV := Lib.hid (fun t W => over_te t now W)
        go_wp2_with (first
          | (at_range; refine wpList_range_own _ rfl _ 52 rfl 3 44 (int_keyed Try.underlying3) Try.underlying52 MapV.RV v3.heap.size cc D (by rfl) hown ?_; intro w0 hrg0 hg0 hs0)
          | go_in)
        go_frame
        have HB0 := Lib.hid (show Below v6.heap.size v6 w0 from ⟨hg0.os, hg0.tape, hg0.output, hg0.size, fun i hi => hg0.block i hi (by simp)⟩)
        clear hg0
        go_loopw [12] (fun n wr => ∃ (leftL : Lit → Bool) (cnt : Nat) (left : Int → Bool), wr.ranges Try.prog 3 MapV.RV v3.heap.size v6.heap.size cc D leftL cnt ∧ (∀ k, leftL (.int .i64 k) = left k) ∧ n = .int .i64 (hitsBy s.deals now left : Nat) ∧ Below v6.heap.size v6 wr) (fun _ wr => wr.rangeLeft v3.heap.size v6.heap.size)
        case atStart =>
          have hl : ∀ k, Maps.has D (.int .i64 k) = (s.deals k).isSome := fun k => by rw [(HD.out.2 k).1]; simp [mv]
          exact ⟨_, _, fun k => (s.deals k).isSome, hrg0, hl, by rw [hits_start (fun _ => rfl)]; rfl, HB0.out⟩
        case round =>
          obtain ⟨leftL, cnt, left, hrg, hll, rfl, hBr⟩ := hrel
          have HLL := Lib.hid hll
          have HBR := Lib.hid hBr
          clear hll hBr hrg0 hs0 HB0
          go_wp2_with (first
            | (at_next; refine wpList_next_ranges _ rfl _ rfl 3 (int_keyed Try.underlying3) MapV.RV id id (fun key _ _ => ⟨key, rfl⟩) (fun v _ _ => ⟨v, rfl⟩) v3.heap.size v6.heap.size cc _ _ _ rfl hrg ?_ ?_)
            | go_in)
          · intro _ hl0
            have hend : ∀ k, left k = false := fun k => by rw [← HLL.out k]; exact hl0 _
            have he : (hitsBy s.deals now left : Int) = H := (hits_end hend).trans HH.out
            rw [he]
            clear hend hl0 hrg he
            go_wp2_with fail
            go_ret
            exact ⟨by simp, HB6.out.trans (HBR.out.mono HB6.out.size)⟩
          · intro x c1 kl ya yb w1 cnt1 hkey hlk hv hat hrg1 hlt hg1 hs1 hen
            obtain ⟨xi, rfl, rfl, hwf⟩ := Maps.keyOf_int_inv Try.underlying3 hkey
            have hlx : left xi = true := by rw [← HLL.out xi]; exact hlk
            obtain ⟨d, hfx, hcv⟩ := came_ HD.out hv hat
            subst hcv
            obtain ⟨hx0, hx1⟩ := HK.out xi d hfx
            obtain ⟨xn, rfl⟩ : ∃ xn : Nat, xi = (xn : Int) := ⟨xi.toNat, by omega⟩
            have HFX := Lib.hid hfx
            have HRG0 := Lib.hid hrg
            have HRG1 := Lib.hid hrg1
            have HB1 := Lib.hid (HBR.out.trans (show Below v6.heap.size wr w1 from ⟨hg1.os, hg1.tape, hg1.output, hg1.size, fun i hi => hg1.block i (Nat.lt_of_lt_of_le hi HBR.out.size) (fun e => by cases e; omega)⟩))
            have HLL2 : Hid (∀ k : Int, (leftL (.int .i64 k) && !(Lit.int .i64 k).sameKey (.int .i64 (xn : Int))) = gone left xn k) := Lib.hid (fun k => by
              rw [HLL.out k]; unfold gone Lit.sameKey; simp)
            have HSTEP := Lib.hid (hits_step (now := now) hfx (by omega) hlx)
            have hm0 := hitsBy_le s.deals now left
            have hm1 := hitsBy_le s.deals now (gone left xn)
            generalize hitsBy s.deals now left = m at *
            have hmI : (m : Int) ≤ 1000 := by omega
            have hmJ : (0 : Int) ≤ (m : Int) := by omega
            clear hkey hv hat hrg hrg1 hg1 hlk hlx hfx hm0 hs1
            have hw1 : v6.heap.size ≤ w1.heap.size := HB1.out.size
            go_wp2_with (refine wpList_store_mid rfl 44 _ _ rfl (w1.heap.size) 0 (dc d).toArray (by rfl) (by rfl) (there_de w1 _ _ rfl) infoDe (all_oneCell_toArray (dc_one _)) ?_; generalize hw5 : World.setCells _ _ _ _ = w5 at *; obtain ⟨hb5, hz5, hD5, ht5⟩ := new_de d rfl hw5; have HB5 := Lib.hid hb5; have HD5 := Lib.hid hD5; have HT5 := Lib.hid ht5; clear hw5 hb5 hD5 ht5)
            have HB15 := Lib.hid (HB1.out.trans (HB5.out.mono hw1))
            have hdl := HDL6.out w5 xn hwf (HC6.out.below HB15.out)
            have he2 : (({ deals := fun k => (s.deals k).map (tickD now), log := s.log ++ [⟨4, 0, (0 : Nat), 0, 0, now, 0, 0⟩] } : Ch).deals (xn : Int)).isSome = true := by simp [HFX.out]
            have he1 : dealOf { deals := fun k => (s.deals k).map (tickD now), log := s.log ++ [⟨4, 0, (0 : Nat), 0, 0, now, 0, 0⟩] } (xn : Int) = tickD now d := by simp [dealOf, HFX.out]
            rw [he1, he2] at hdl
            have HDD := Lib.hid hdl
            clear hdl he1 he2
            go_wp2_with fail
            refine HDD.out.mono ?_
            rintro e v7 ⟨rfl, hb7⟩
            have hz7 : w1.heap.size < v7.heap.size := Nat.lt_of_lt_of_le hz5 hb7.size
            have HB17 := Lib.hid (HB5.out.trans (hb7.mono (Nat.le_of_lt hz5)))
            have HB7 := Lib.hid (HB15.out.trans (hb7.mono HB15.out.size))
            have HD7 := Lib.hid (HD5.out.below hb7)
            have HT7 := Lib.hid (there_below HT5.out hb7)
            have HRG7 := Lib.hid (HRG1.out.kept (grown_below0 HB17.out none) (by simp) (by simp))
            have HN7 := Lib.hid (fun B hB => there_de v7 B 44 hB)
            clear hb7 HD5 HT5 HB5 HDD hen
            by_cases ho : d.out = 0
            · obtain ⟨e, HE⟩ : ∃ e, Hid (tickD now d = e) := ⟨_, Lib.hid rfl⟩
              rw [HE.out]
              have HNE := Lib.hid (deal_same_ne e)
              go_wp2_with (refine wpList_store_mid rfl 44 _ _ rfl (v7.heap.size) 0 (dc e).toArray (by rfl) (by rfl) (HN7.out _ rfl) infoDe (all_oneCell_toArray (dc_one _)) ?_; generalize hw8 : World.setCells _ _ _ _ = w8 at *; obtain ⟨hb8, hz8, hD8, ht8⟩ := new_de e rfl hw8; have HB8 := Lib.hid hb8; have HD8 := Lib.hid hD8; have HD78 := Lib.hid (HD7.out.below hb8); have HT78 := Lib.hid (there_below HT7.out hb8); have p28 := HD78.out.out; have p24 := HD78.out.te 0 (.int .i64 d.te.dl) rfl; have p25 := HD78.out.te 1 (.int .i64 d.te.span) rfl; have p26 := HD78.out.te 2 (.int .i64 d.te.used) rfl; have p27 := HD78.out.te 3 (.int .i64 d.te.cap) rfl; clear hw8 hb8 hD8 ht8)
              refine (HOV.out d.te _).mono ?_
              rintro e6 w9 ⟨rfl, hb9⟩
              have HD9 := Lib.hid (HD78.out.below hb9)
              have HE9 := Lib.hid (HD8.out.below hb9)
              have HT9 := Lib.hid (there_below HT78.out hb9)
              have HB79 := Lib.hid (HB8.out.trans (hb9.mono (Nat.le_of_lt hz8)))
              have HB9 := Lib.hid (HB7.out.trans (HB79.out.mono HB7.out.size))
              have HRG9 := Lib.hid (HRG7.out.kept (grown_below0 HB79.out none) (by simp) (by simp))
              clear hb9 p24 p25 p26 p27 p28 HD78 HD8 HT78 HB8
              cases hov : overTe d.te now
              · have hh : hitD now d = false := by rw [hitD, hov, Bool.and_false]
                have hed : e = d := by rw [← HE.out, tickD, if_neg (by rw [hov]; simp)]
                subst hed
                have HM : Hid (hitsBy s.deals now (gone left xn) = m) := Lib.hid (by rw [HSTEP.out, hh]; simp)
                clear hh hov
                go_wp2_with (first
                  | (refine wpList_of_runG (by rfl) (range_run (x := .tmp 15) (b := v7.heap.size) (o := 0) (cs := dc e) rfl rfl HE9.out Try.underlying44 rfl infoDe) ?_)
                  | (refine wpList_of_runG (by rfl) (range_run (x := .tmp 14) (b := w1.heap.size) (o := 0) (cs := dc e) rfl rfl HD9.out Try.underlying44 rfl infoDe) ?_)
                  | (refine wpList_of_runG (by rfl) (neq_run (t := 44) (x := .tmp 91) (y := .tmp 92) rfl rfl rfl (by kernel_rfl) (HNE.out _)) ?_))
                exact ⟨⟨_, cnt1, gone left xn, HRG9.out, HLL2.out, by rw [HM.out], HB9.out⟩, by rw [HRG9.out.left_eq, HRG0.out.left_eq]; exact hlt⟩
              · have hh : hitD now d = true := by rw [hitD, hov, ho]; rfl
                have hed : e = ⟨d.ta, d.te, 2⟩ := by rw [← HE.out, tickD, if_pos ⟨ho, hov⟩]
                subst hed
                have HM : Hid (hitsBy s.deals now (gone left xn) = m + 1) := Lib.hid (by rw [HSTEP.out, hh]; simp)
                have p28 := HD9.out.out
                have f28 := (HT9.out 28 (by decide)).2
                rw [Nat.zero_add] at f28
                have HD10 := Lib.hid (de_out (o := 2) HD9.out)
                have HE10 := Lib.hid (de_set_other (g := w1.heap.size) (o := 28) (v := .int .i64 2) HE9.out (by omega))
                have HB10 := Lib.hid (HB9.out.setCell (p := ⟨w1.heap.size, 28, none⟩) hw1 (.int .i64 2))
                have HRG10 := Lib.hid (HRG9.out.kept (grown_cell w9 ⟨w1.heap.size, 28, none⟩ (.int .i64 2)) (fun e => by have h := Option.some.inj e; dsimp only at h; omega) (fun e => by have h := Option.some.inj e; have h9 := HRG1.out.lt; dsimp only at h; omega))
                clear hh hov
                go_wp2_with (first
                  | (refine wpList_of_runG (by rfl) (range_run (x := .tmp 15) (b := v7.heap.size) (o := 0) (cs := dc ⟨d.ta, d.te, 2⟩) rfl rfl HE10.out Try.underlying44 rfl infoDe) ?_)
                  | (refine wpList_of_runG (by rfl) (range_run (x := .tmp 14) (b := w1.heap.size) (o := 0) (cs := dc ⟨d.ta, d.te, 2⟩) rfl rfl HD10.out Try.underlying44 rfl infoDe) ?_)
                  | (refine wpList_of_runG (by rfl) (neq_run (t := 44) (x := .tmp 91) (y := .tmp 92) rfl rfl rfl (by kernel_rfl) (HNE.out _)) ?_))
                exact ⟨⟨_, cnt1, gone left xn, HRG10.out, HLL2.out, by rw [HM.out]; rfl, HB10.out⟩, by rw [HRG10.out.left_eq, HRG0.out.left_eq]; exact hlt⟩
            · have hob : (d.out == 0) = false := beq_eq_false_iff_ne.2 ho
              have hh : hitD now d = false := by rw [hitD, decide_eq_false ho, Bool.false_and]
              have hed : tickD now d = d := by rw [tickD, if_neg (fun h => ho h.1)]
              rw [hed]
              have HM : Hid (hitsBy s.deals now (gone left xn) = m) := Lib.hid (by rw [HSTEP.out, hh]; simp)
              have HNE := Lib.hid (deal_same_ne d)
              clear hh hed
              go_wp2_with (first
                | (refine wpList_store_mid rfl 44 _ _ rfl (v7.heap.size) 0 (dc d).toArray (by rfl) (by rfl) (HN7.out _ rfl) infoDe (all_oneCell_toArray (dc_one _)) ?_; generalize hw8 : World.setCells _ _ _ _ = w8 at *; obtain ⟨hb8, hz8, hD8, ht8⟩ := new_de d rfl hw8; have HB8 := Lib.hid hb8; have HE9 := Lib.hid hD8; have HD9 := Lib.hid (HD7.out.below hb8); have p28 := HD9.out.out; clear hw8 hb8 hD8 ht8)
                | (refine wpList_of_runG (by rfl) (range_run (x := .tmp 15) (b := v7.heap.size) (o := 0) (cs := dc d) rfl rfl HE9.out Try.underlying44 rfl infoDe) ?_)
                | (refine wpList_of_runG (by rfl) (range_run (x := .tmp 14) (b := w1.heap.size) (o := 0) (cs := dc d) rfl rfl HD9.out Try.underlying44 rfl infoDe) ?_)
                | (refine wpList_of_runG (by rfl) (neq_run (t := 44) (x := .tmp 91) (y := .tmp 92) rfl rfl rfl (by kernel_rfl) (HNE.out _)) ?_))
              have HB9 := Lib.hid (HB7.out.trans (HB8.out.mono HB7.out.size))
              have HRG9 := Lib.hid (HRG7.out.kept (grown_below0 HB8.out none) (by simp) (by simp))
              exact ⟨⟨_, cnt1, gone left xn, HRG9.out, HLL2.out, by rw [HM.out], HB9.out⟩, by rw [HRG9.out.left_eq, HRG0.out.left_eq]; exact hlt⟩
      · have hkJ : (k : Int) < 120 := by omega
        have hk0 : (0 : Int) ≤ (k : Int) := by omega
        have hlt : k < l.length := by omega
        obtain ⟨b, off, rfl, hbl, hcc⟩ := HREC.out (by omega)
        have hq := ((HB3.out.trans (HB.out.mono HB3.out.size)).cell (p := ⟨b, off + (k * 8 + 1), none⟩) hbl).trans (hcc k hlt 1 _ rfl)
        have hro := HOK.out _ (List.getElem_mem hlt)
        have HBH := Lib.hid (bef_hit s.deals l k hlt)
        have HBM := Lib.hid (bef_miss s.deals l k hlt)
        generalize l[k] = r at *
        obtain ⟨kd, tx, who, ep, vt, now, sp, cp⟩ := r
        obtain ⟨_, _, htx⟩ := hro
        dsimp only at htx
        simp only [Nat.add_zero, ← Nat.add_assoc] at hq
        dsimp only at HBH HBM
        have HD2 := Lib.hid (HDL.out wo lv c s tx htx HCo.out)
        have HQ := Lib.hid (show b < wo.heap.size ∧ _ from ⟨Flat.cell_lt hq, hq⟩)
        go_wp2_with fail
        refine HD2.out.mono ?_
        rintro e v5 ⟨rfl, hb5⟩
        have HB5 := Lib.hid (HB.out.trans (hb5.mono HB.out.size))
        have HO5 := Lib.hid (HO.out.below hb5 HO.out.lt)
        have hq5 := (hb5.cell (p := ⟨b, off + k * 8 + 1, none⟩) HQ.out.1).trans hq
        have HBQ := Lib.hid (Nat.lt_of_lt_of_le HQ.out.1 hb5.size)
        have HN5 := Lib.hid (fun B hB => there_de v5 B 44 hB)
        clear hb5 hq HDL HDO
        cases hf : s.deals tx with
        | none =>
          have HM := Lib.hid (HBM.out hf)
          have hdo : dealOf s tx = zDe := by rw [dealOf, hf]; rfl
          rw [hdo]
          clear hdo hf
          go_wp2_with (refine wpList_store_mid rfl 44 _ _ rfl (v5.heap.size) 0 (dc zDe).toArray (by rfl) (by rfl) (HN5.out _ rfl) infoDe (all_oneCell_toArray (dc_one _)) ?_; generalize hw6 : World.setCells _ _ _ _ = v6 at *; have hnd := new_de zDe rfl hw6; have HO6 := Lib.hid (HO5.out.below hnd.1 HO5.out.lt); have HB6 := Lib.hid (HB5.out.trans (hnd.1.mono HB5.out.size)); clear hw6 hnd)
          exact ⟨⟨k + 1, cc, by omega, by omega, by go_num, by rw [HM.out]; exact HO6.out, by omega, HB6.out⟩, by simp [intOf]; omega⟩
        | some d =>
          have HM := Lib.hid (HBH.out d hf)
          have hdo : dealOf s tx = d := by rw [dealOf, hf]; rfl
          rw [hdo]
          clear hdo hf
          have HKEY : Hid (keyOf Try.prog 3 (.int .i64 tx) = some (.int .i64 tx)) := Lib.hid (keyOf_int_mk Try.underlying3 htx)
          go_wp2_with (refine wpList_store_mid rfl 44 _ _ rfl (v5.heap.size) 0 (dc d).toArray (by rfl) (by rfl) (HN5.out _ rfl) infoDe (all_oneCell_toArray (dc_one _)) ?_; generalize hw6 : World.setCells _ _ _ _ = v6 at *; have hnd := new_de d rfl hw6; have HO6 := Lib.hid (HO5.out.below hnd.1 HO5.out.lt); have HD6 := Lib.hid hnd.2.2.1; have HB6 := Lib.hid (HB5.out.trans (hnd.1.mono HB5.out.size)); have hq6 := (hnd.1.cell (p := ⟨b, off + k * 8 + 1, none⟩) HBQ.out).trans hq5; clear hw6 hnd)
          refine start_ (n := 8) (S := fun w' => Below v6.heap.size v6 w' ∧ w'.cell? ⟨b, off + k * 8 + 1, none⟩ = some (.int .i64 tx) ∧ w'.rangeAt v5.heap.size 0 (dc d)) (ds := [7]) #[false, false, false, false, false, false, false, false] (by kernel_rfl) rfl rfl ⟨(still_drew v6).1, hq6, HD6.out⟩ (fun hHeld => ?_)
          refine pure_ (i := 0) (N := some 46) (v := ?_) (a' := ?_) #[true, false, false, false, false, false, false, false] rfl rfl (by kernel_rfl) (fun _ _ _ h => h) (Or.inl ⟨by rfl, ?_⟩) ?_ ?_
          rotate_left
          · intro w'
            go_simp
            with_reducible rfl
          rotate_left
          · simp only [Act.put, List.setIfInBounds_toArray, List.set_cons_zero, List.set_cons_succ, i64_w, i32_w]
            rfl
          refine pure_ (i := 1) (N := some 47) (v := ?_) (a' := ?_) #[true, true, false, false, false, false, false, false] rfl rfl (by kernel_rfl) (fun _ _ _ h => h) (Or.inl ⟨by rfl, ?_⟩) ?_ ?_
          rotate_left
          · intro w'
            go_simp
            with_reducible rfl
          rotate_left
          · simp only [Act.put, List.setIfInBounds_toArray, List.set_cons_zero, List.set_cons_succ, i64_w, i32_w]
            rfl
          refine pure_ (i := 2) (N := some 48) (v := ?_) (a' := ?_) #[true, true, true, false, false, false, false, false] rfl rfl (by kernel_rfl) (fun _ _ _ h => h) (Or.inl ⟨by rfl, ?_⟩) ?_ ?_
          rotate_left
          · intro w'
            go_simp
            with_reducible rfl
          rotate_left
          · simp only [Act.put, List.setIfInBounds_toArray, List.set_cons_zero, List.set_cons_succ, i64_w, i32_w]
            rfl
          refine pure_ (i := 3) (N := some 49) (v := ?_) (a' := ?_) #[true, true, true, true, false, false, false, false] rfl rfl (by kernel_rfl) (fun _ _ _ h => h) (Or.inl ⟨by rfl, ?_⟩) ?_ ?_
          rotate_left
          · intro w'
            go_simp
            with_reducible rfl
          rotate_left
          · simp only [Act.put, List.setIfInBounds_toArray, List.set_cons_zero, List.set_cons_succ, i64_w, i32_w]
            rfl
          refine pure_ (i := 4) (N := some 50) (v := ?_) (a' := ?_) #[true, true, true, true, true, false, false, false] rfl rfl (by kernel_rfl) (fun _ _ _ h => h) (Or.inl ⟨by rfl, ?_⟩) ?_ ?_
          rotate_left
          · intro w'
            go_simp
            with_reducible rfl
          rotate_left
          · simp only [Act.put, List.setIfInBounds_toArray, List.set_cons_zero, List.set_cons_succ, i64_w, i32_w]
            rfl
          refine take_ (i := 5) (N := some 51) (v := ?_) (a' := ?_) #[true, true, true, true, true, true, false, false] rfl rfl (by kernel_rfl) (fun _ _ _ h => h) (Or.inl ⟨by rfl, ?_⟩) hHeld ?_ ?_
          rotate_left
          · rintro w' ⟨s0, s1, s2⟩
            go_simp
            with_reducible rfl
          rotate_left
          · simp only [Act.put, List.setIfInBounds_toArray, List.set_cons_zero, List.set_cons_succ, i64_w, i32_w]
            rfl
          refine take_ (i := 6) (N := some 52) (v := ?_) (a' := ?_) #[true, true, true, true, true, true, true, false] rfl rfl (by kernel_rfl) (fun _ _ _ h => h) (Or.inl ⟨by rfl, ?_⟩) hHeld ?_ ?_
          rotate_left
          · rintro w' ⟨s0, s1, s2⟩
            refine Eq.trans (range_run (x := .tmp 8) (b := v5.heap.size) (o := 0) (cs := dc d) rfl rfl s2 Try.underlying44 rfl infoDe) ?_
            with_reducible rfl
          rotate_left
          · simp only [Act.put, List.setIfInBounds_toArray, List.set_cons_zero, List.set_cons_succ, i64_w, i32_w]
            rfl
          refine last_ (i := 7) (N := none) #[true, true, true, true, true, true, true, true] rfl rfl (by kernel_rfl) (by decide) (fun K hK => ?_)
          have HOW := HO6.out.below hHeld.1 HO6.out.lt
          have hltw := HOW.lt
          obtain ⟨w8, hrun8, ho8, htu8⟩ := MapV.Own.store (t := 52) (et := 44) HOW (int_keyed Try.underlying3) Try.underlying52 (by unfold maxLen; omega) HKEY.out (.agg (dc d).toArray)
          refine mapset_ (by rfl) rfl (.tmp 46) (.tmp 51) (.tmp 52) 52 rfl _ _ _ (by rfl) (by rfl) (by rfl) hrun8 ?_
          have HB8 := Lib.hid ((HB6.out.trans (hHeld.1.mono HB6.out.size)).trans (MapV.turned_below htu8 (Nat.le_refl _) (Nat.le_of_lt hltw)))
          have HO8 := Lib.hid ho8
          clear hrun8 ho8 htu8 HOW hltw
          refine hK.out _ _ ?_
          clear hK K
          refine done_ (by kernel_rfl) ?_

          go_wp2_with fail
          exact ⟨⟨k + 1, _, by omega, by omega, by go_num, by rw [HM.out, mv_set]; exact HO8.out, by split <;> omega, HB8.out⟩, by simp [intOf]; omega⟩
end Go.Proofs.Ytdlfjbllmmkmkaa.LChairTicks
