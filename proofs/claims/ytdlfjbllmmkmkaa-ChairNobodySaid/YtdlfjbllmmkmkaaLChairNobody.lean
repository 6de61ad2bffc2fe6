/- ChairNobody: a chair that no call made answers an error, or nothing; with an error a chair stays. -/
import Derived.Test.YtdlfjbllmmkmkaaNobody
namespace Go.Proofs.Ytdlfjbllmmkmkaa.LChairNobody
open Go.RowKit Go.Maps Flat ChairSpec News Chair Go.Proofs.YtdlfjbllmmkmkaaW.PrintLast
set_option linter.unusedSimpArgs false
set_option linter.unusedVariables false
set_option maxRecDepth 100000
theorem nobody_err (s : Ch) (r : Re) (h : (doC s r).2.2 ≠ 0) : (doC s r).1 = s := by
  unfold doC at h ⊢
  split
  · rfl
  · split
    · rfl
    · rename_i h1 h2; rw [if_neg h1, if_neg h2] at h; exact absurd rfl h
theorem nobody_ok (s : Ch) (r : Re) (h : (doC s r).2.2 = 0) : (doC s r).1.log.length = s.log.length + 1 := by
  unfold doC at h ⊢
  split
  · rename_i h1; rw [if_pos h1] at h; exact absurd (show (2 : Int) = 0 from h) (by decide)
  · split
    · rename_i h1 h2; rw [if_neg h1, if_pos h2] at h; exact absurd h h2
    · simp
/-- The two chairs that no call made, in a slice at block sl. -/
def TwoAt (W : World) (gb sl : Nat) : Prop := W.cell? ⟨gb, 0, none⟩ = some (.map none) ∧ W.cell? ⟨sl, 0, none⟩ = some (.pointer none) ∧ W.cell? ⟨sl, 1, none⟩ = some (.pointer (some ⟨gb, 0, none⟩))
theorem TwoAt.below {W W' : World} {gb sl : Nat} (h : TwoAt W gb sl) (hb : Below W.heap.size W W') : TwoAt W' gb sl :=
  ⟨(hb.cell (p := ⟨gb, 0, none⟩) (Flat.cell_lt h.1)).trans h.1, (hb.cell (p := ⟨sl, 0, none⟩) (Flat.cell_lt h.2.1)).trans h.2.1, (hb.cell (p := ⟨sl, 1, none⟩) (Flat.cell_lt h.2.1)).trans h.2.2⟩
set_option maxHeartbeats 8000000 in
theorem walk (a0 : Option Addr) (len0 cap0 : Nat) (r0 : List (List Value)) (c1 : List Value) (w : World) (w0 : IsRows [.int .i64, .int .i64, .int .u8, .int .i64, .int .i64, .int .i64, .int .i64, .int .i64] w a0 len0 cap0 r0) (w1 : Fits [.int .i64, .int .i64, .int .u8, .int .i64, .int .i64, .int .i64, .int .i64, .int .i64] c1) :
    Calls Try.prog 5 #[.slice a0 len0 cap0, .agg c1.toArray] w fun e w' => e = .returned (.bool true) ∧ Below w.heap.size w w' := by
  obtain ⟨l, rfl, hlc, hcm, hok, hrec⟩ := recs_of w0
  obtain ⟨r, ⟨hw0, hw1, htx⟩, rfl⟩ := fits_rec w1
  obtain ⟨kd, tx, who, ep, vt, now, sp, cp⟩ := r
  dsimp only at hw0 hw1 htx
  obtain ⟨n, rfl⟩ : ∃ n : Nat, who = (n : Int) := ⟨who.toNat, by omega⟩
  have e : (rec1 ⟨kd, tx, n, ep, vt, now, sp, cp⟩).toArray = #[.int .i64 kd, .int .i64 tx, .int .u8 (n : Int), .int .i64 ep, .int .i64 vt, .int .i64 now, .int .i64 sp, .int .i64 cp] := rfl
  rw [e]
  clear e w0 w1
  have HP := Lib.hid (fun (W : World) (hb : Below w.heap.size w W) => played_any W a0 cap0 l hcm hlc hok (fun hl => by
    obtain ⟨b, off, ha, hbB, hc⟩ := (hrec.below hb) hl
    exact ⟨b, off, ha, Nat.lt_of_lt_of_le hbB hb.size, hc⟩))
  clear hok hrec hlc hcm
  go_enter Try.func5, Try.ntmps5
  go_wp2_with fail
  generalize hv1 : World.alloc w _ = v1
  obtain ⟨hb1, hz1, hc1⟩ := alloc_facts hv1
  have HB1 := Lib.hid hb1
  have HC1 := Lib.hid hc1
  clear hv1 hb1 hc1
  refine (alive_any v1).mono ?_
  rintro e v2 ⟨rfl, hb2⟩
  have HB2 := Lib.hid (HB1.out.trans (hb2.mono (Nat.le_of_lt hz1)))
  have HC2 := Lib.hid (fun i => (hb2.cell (p := ⟨w.heap.size, i, none⟩) hz1).trans (HC1.out i))
  have hz2 : w.heap.size < v2.heap.size := Nat.lt_of_lt_of_le hz1 hb2.size
  clear hb2 HB1 HC1 hz1
  go_wp2_with fail
  generalize hv3 : World.alloc v2 _ = v3
  obtain ⟨hb3, hz3, hc3⟩ := alloc_facts hv3
  generalize hv4 : World.alloc v3 _ = v4
  obtain ⟨hb4, hz4, hc4⟩ := alloc_facts hv4
  have hs3 : v3.heap.size = v2.heap.size + 1 := by rw [← hv3]; exact Array.size_push _
  rw [← hs3]
  have HT4 := Lib.hid (show TwoAt v4 v2.heap.size v3.heap.size from ⟨(hb4.cell (p := ⟨v2.heap.size, 0, none⟩) hz3).trans (hc3 0), hc4 0, hc4 1⟩)
  have HB4 := Lib.hid ((HB2.out.trans (hb3.mono HB2.out.size)).trans (hb4.mono (Nat.le_trans HB2.out.size hb3.size)))
  have HC4 := Lib.hid (fun i => (hb4.cell (p := ⟨w.heap.size, i, none⟩) (Nat.lt_of_lt_of_le hz2 hb3.size)).trans ((hb3.cell (p := ⟨w.heap.size, i, none⟩) hz2).trans (HC2.out i)))
  have hzw : w.heap.size < v4.heap.size := Nat.lt_of_lt_of_le hz2 (Nat.le_trans hb3.size hb4.size)
  clear hv3 hv4 hb3 hb4 hc3 hc4 hs3 hz2 hz3 hz4 HB2 HC2
  generalize v2.heap.size = gb at *
  generalize v3.heap.size = sl at *
  go_loopw [25] (fun i wr => ∃ k : Nat, k ≤ 2 ∧ i = .int .i64 (k : Int) ∧ TwoAt wr gb sl ∧ Below v4.heap.size v4 wr) (fun i _ => 2 - (intOf i).toNat)
  case atStart => exact ⟨0, by omega, rfl, HT4.out, Below.refl _ _⟩
  case round =>
    obtain ⟨wo, h_wo⟩ : ∃ v : World, v = wr := ⟨_, rfl⟩; subst h_wo
    obtain ⟨k, hk, rfl, hT, hB⟩ := hrel
    have hq := fun i => (hB.cell (p := ⟨w.heap.size, i, none⟩) hzw).trans (HC4.out i)
    have HQ := Lib.hid hq
    have HT := Lib.hid hT
    have hzo : w.heap.size < wo.heap.size := Nat.lt_of_lt_of_le hzw hB.size
    have HB := Lib.hid hB
    clear hB
    rcases (by omega : k = 2 ∨ k < 2) with rfl | hk2
    · clear hq hT
      go_wp2_with fail
      have hbw := HB4.out.trans (HB.out.mono HB4.out.size)
      have HBw := Lib.hid hbw
      refine (HP.out wo hbw).mono ?_
      rintro e v3 ⟨g, bm, lv, c, rfl, hC3, hbm, hb3⟩
      have hq3 := fun i => (hb3.cell (p := ⟨w.heap.size, i, none⟩) hzo).trans (HQ.out i)
      have hz3 : w.heap.size < v3.heap.size := Nat.lt_of_lt_of_le hzo hb3.size
      have HQ3 := Lib.hid hq3
      have HB3 := Lib.hid (hbw.trans (hb3.mono hbw.size))
      have HC3 := Lib.hid hC3
      have hlen : (played l).log.length ≤ 120 := Nat.le_trans (play_len l _) (by omega)
      have q1 := hq3 1
      have hwbm : w.heap.size < bm := by omega
      clear hq3 hC3 hb3 HP hbw HBw HT hzo hzw HC4 HT4 HB4 HB HQ
      generalize played l = s at *
      have HDL := Lib.hid (fun (W : World) (lv : Value) (c : Nat) (s : Ch) (h : ChairAt W g bm lv c s) => deal_any g bm c lv s tx htx W h)
      have HDO := Lib.hid (fun (W : World) (h : ChairAt W g bm lv c s) => do_any g bm c lv s kd tx ep vt now sp cp n (by omega) (by omega) W h)
      have hge := nobody_err s ⟨kd, tx, n, ep, vt, now, sp, cp⟩
      have hgo := nobody_ok s ⟨kd, tx, n, ep, vt, now, sp, cp⟩
      obtain ⟨s', m', e', HPP⟩ : ∃ s' m' e', Hid (doC s ⟨kd, tx, n, ep, vt, now, sp, cp⟩ = (s', m', e')) := ⟨_, _, _, Lib.hid rfl⟩
      rw [HPP.out] at hge hgo HDO
      have HGE := Lib.hid hge
      have HGO := Lib.hid hgo
      clear hge hgo
      dsimp only at HGE HGO
      go_wp2_with fail
      refine (HDL.out v3 lv c s HC3.out).mono ?_
      rintro e v4 ⟨rfl, hb4⟩
      have HC4 := Lib.hid (HC3.out.below hb4)
      have HB4 := Lib.hid (HB3.out.trans (hb4.mono HB3.out.size))
      have HN4 := Lib.hid (fun B hB => there_de v4 B 44 hB)
      have hz4 : w.heap.size < v4.heap.size := Nat.lt_of_lt_of_le hz3 hb4.size
      have HQ4 := Lib.hid (fun i => (hb4.cell (p := ⟨w.heap.size, i, none⟩) hz3).trans (HQ3.out i))
      obtain ⟨d, HD⟩ : ∃ d, Hid (dealOf s tx = d) := ⟨_, Lib.hid rfl⟩
      obtain ⟨f, HF⟩ : ∃ f, Hid ((s.deals tx).isSome = f) := ⟨_, Lib.hid rfl⟩
      rw [HD.out, HF.out]
      clear hb4 q1
      have hgl4 := Flat.cell_lt HC4.out.map
      have hbl4 := HC4.out.own.lt
      have hlv4 : some v4.heap.size ≠ lv.ownBlock := fun e => by have := (HC4.out.row.lt _ e.symm).2; omega
      go_wp2_with (refine wpList_store_mid rfl 44 _ _ rfl (v4.heap.size) 0 (dc d).toArray (by rfl) (by rfl) (HN4.out _ rfl) infoDe (all_oneCell_toArray (dc_one _)) ?_; generalize hw5 : World.setCells _ _ _ _ = w5 at *; have hnd := new_de d rfl hw5; have HD5 := Lib.hid hnd.2.2.1; have HC5 := Lib.hid (HC4.out.below hnd.1); have HB5 := Lib.hid (HB4.out.trans (hnd.1.mono HB4.out.size)); have hz5 : w.heap.size < w5.heap.size := (Nat.lt_of_lt_of_le hz4 hnd.1.size); have HQ5 := Lib.hid (fun i => (hnd.1.cell (p := ⟨w.heap.size, i, none⟩) hz4).trans (HQ4.out i)); clear hw5 hnd)
      refine (log_any g bm c lv s (by omega) w5 HC5.out).mono ?_
      rintro e v6 ⟨lw, rfl, hrow6, hb6⟩
      obtain ⟨la, lc, rfl⟩ := slice_of hrow6
      have HD6 := Lib.hid (HD5.out.below hb6)
      have HC6 := Lib.hid (HC5.out.below hb6)
      have HB6 := Lib.hid (HB5.out.trans (hb6.mono HB5.out.size))
      have hq6 := fun i => (hb6.cell (p := ⟨w.heap.size, i, none⟩) hz5).trans (HQ5.out i)
      have p0 := hq6 0
      have p1 := hq6 1
      have p2 := hq6 2
      have p3 := hq6 3
      have p4 := hq6 4
      have p5 := hq6 5
      have p6 := hq6 6
      have p7 := hq6 7
      have HQ6 := Lib.hid hq6
      have hz6 : w.heap.size < v6.heap.size := Nat.lt_of_lt_of_le hz5 hb6.size
      have h46 : v4.heap.size < v6.heap.size := HD6.out.lt
      clear hb6 hq6 hrow6
      go_wp2_with fail
      refine (HDO.out v6 HC6.out).mono ?_
      rintro e v7 ⟨rfl, hap, lv', c', hC7, _⟩
      have HC7 := Lib.hid hC7
      have HD7 := Lib.hid (de_apart HD6.out hap (by omega) (by omega) hlv4)
      have HB7 := Lib.hid (HB6.out.trans (hap.below HC6.out (Nat.le_of_lt hwbm) HB6.out.size))
      have hbg := HC6.out.lt
      have r1 := (hap.cell (o := 1) hz6 (by omega) (by omega) (fun e => by have := (HC6.out.row.lt _ e.symm).1; omega)).trans p1
      clear hap hC7 p0 p1 p2 p3 p4 p5 p6 p7
      go_wp2_with fail
      refine (HDL.out v7 lv' c' _ HC7.out).mono ?_
      rintro e v8 ⟨rfl, hb8⟩
      have HC8 := Lib.hid (HC7.out.below hb8)
      have HD8 := Lib.hid (HD7.out.below hb8)
      have HB8 := Lib.hid (HB7.out.trans (hb8.mono HB7.out.size))
      have HN8 := Lib.hid (fun B hB => there_de v8 B 44 hB)
      clear hb8 r1
      have hslen := HGO.out
      by_cases he : e' = 0
      · have heb : (e' == 0) = true := by rw [he]; rfl
        have hl' := hslen he
        obtain ⟨d', HE⟩ : ∃ d', Hid (dealOf s' tx = d') := ⟨_, Lib.hid rfl⟩
        obtain ⟨f', HFE⟩ : ∃ f', Hid ((s'.deals tx).isSome = f') := ⟨_, Lib.hid rfl⟩
        rw [HE.out, HFE.out]
        have HL' := Lib.hid hl'
        have HLEN := Lib.hid hlen
        clear hslen hl' hlen
        go_wp2_with (refine wpList_store_mid rfl 44 _ _ rfl (v8.heap.size) 0 (dc d').toArray (by rfl) (by rfl) (HN8.out _ rfl) infoDe (all_oneCell_toArray (dc_one _)) ?_; generalize hw9 : World.setCells _ _ _ _ = w9 at *; have hnd := new_de d' rfl hw9; have HC9 := Lib.hid (HC8.out.below hnd.1); have HB9 := Lib.hid (HB8.out.trans (hnd.1.mono HB8.out.size)); clear hw9 hnd)
        refine (log_any g bm c' lv' s' (by have := HL'.out; have := HLEN.out; omega) w9 HC9.out).mono ?_
        rintro e v10 ⟨lx, rfl, hrow10, hb10⟩
        obtain ⟨lb, ld, rfl⟩ := slice_of hrow10
        have HB10 := Lib.hid (HB9.out.trans (hb10.mono HB9.out.size))
        have hl' := HL'.out
        have hlen := HLEN.out
        have hnum : (wrap64 ((s.log.length : Int) + 1)) = ((s.log.length + 1 : Nat) : Int) := by unfold wrap64; omega
        clear hb10 hrow10
        rw [← hl'] at hnum
        have HNUM := Lib.hid hnum
        clear hnum hl' hlen HL' HLEN HGO HC9 HC8 HC7
        generalize s'.log.length = m' at *
        generalize s.log.length = m at *
        go_wp2_with fail
        go_ret
        rw [HNUM.out]
        exact ⟨by simp, HB10.out⟩
      · have heb : (e' == 0) = false := beq_eq_false_iff_ne.2 he
        have hss : s' = s := HGE.out he
        subst hss
        rw [HD.out, HF.out]
        have HEQ := Lib.hid (deal_same d)
        clear hslen
        go_wp2_with (first
          | (refine wpList_store_mid rfl 44 _ _ rfl (v8.heap.size) 0 (dc d).toArray (by rfl) (by rfl) (HN8.out _ rfl) infoDe (all_oneCell_toArray (dc_one _)) ?_; generalize hw9 : World.setCells _ _ _ _ = w9 at *; have hnd := new_de d rfl hw9; have HD9 := Lib.hid hnd.2.2.1; have HD89 := Lib.hid (HD8.out.below hnd.1); have HC9 := Lib.hid (HC8.out.below hnd.1); have HB9 := Lib.hid (HB8.out.trans (hnd.1.mono HB8.out.size)); clear hw9 hnd)
          | (refine wpList_load_mid rfl 44 _ rfl (v4.heap.size) 0 rfl (dc d) _ (HD89.out) Try.underlying44 rfl infoDe ?_)
          | (refine wpList_load_mid rfl 44 _ rfl (v8.heap.size) 0 rfl (dc d) _ (HD9.out) Try.underlying44 rfl infoDe ?_)
          | (refine wpList_of_run rfl (eq_run (t := 44) (x := .tmp 93) (y := .tmp 94) rfl rfl rfl (by kernel_rfl) (HEQ.out _)) ?_))
        refine (log_any g bm c' lv' s' (by omega) w9 HC9.out).mono ?_
        rintro e v10 ⟨lx, rfl, hrow10, hb10⟩
        obtain ⟨lb, ld, rfl⟩ := slice_of hrow10
        have HB10 := Lib.hid (HB9.out.trans (hb10.mono HB9.out.size))
        clear hb10 hrow10
        go_wp2_with fail
        go_ret
        exact ⟨rfl, HB10.out⟩
    · have hkI : (k : Int) < 2 := by omega
      have hk0 : (0 : Int) ≤ (k : Int) := by omega
      obtain ⟨p, hp, hng⟩ : ∃ p : Option Addr, wo.cell? ⟨sl, k, none⟩ = some (.pointer p) ∧ NotGood wo p := by
        rcases (by omega : k = 0 ∨ k = 1) with rfl | rfl
        · exact ⟨none, hT.2.1, .inl rfl⟩
        · exact ⟨_, hT.2.2, .inr ⟨gb, rfl, hT.1⟩⟩
      have HDO := Lib.hid (fun W (h : NotGood W p) => do_nobody p ⟨kd, tx, n, ep, vt, now, sp, cp⟩ W h)
      have HNG := Lib.hid hng
      have q0 := hq 0
      have q1 := hq 1
      have q2 := hq 2
      have q3 := hq 3
      have q4 := hq 4
      have q5 := hq 5
      have q6 := hq 6
      have q7 := hq 7
      clear hq hT hng
      go_wp2_with fail
      refine (HDO.out wo HNG.out).mono ?_
      rintro e v5 ⟨rfl, hb5⟩
      have p1 := (hb5.cell (p := ⟨w.heap.size, 1, none⟩) hzo).trans q1
      have HNG5 := Lib.hid (HNG.out.below hb5)
      have HT5 := Lib.hid (HT.out.below hb5)
      have HB5 := Lib.hid (HB.out.trans (hb5.mono HB.out.size))
      have HDL := Lib.hid (deal_nobody p tx v5 HNG5.out)
      clear q0 q1 q2 q3 q4 q5 q6 q7 hp hb5
      go_wp2_with fail
      refine HDL.out.mono ?_
      rintro e v6 ⟨rfl, hb6⟩
      have HNG6 := Lib.hid (HNG5.out.below hb6)
      have HT6 := Lib.hid (HT5.out.below hb6)
      have HB6 := Lib.hid (HB5.out.trans (hb6.mono HB5.out.size))
      have HN6 := Lib.hid (fun B hB => there_de v6 B 44 hB)
      clear p1 hb6 HDL
      go_wp2_with (refine wpList_store_mid rfl 44 _ _ rfl (v6.heap.size) 0 (dc zDe).toArray (by rfl) (by rfl) (HN6.out _ rfl) infoDe (all_oneCell_toArray (dc_one _)) ?_; generalize hw7 : World.setCells _ _ _ _ = v7 at *; have hnd := new_de zDe rfl hw7; have HNG7 := Lib.hid (HNG6.out.below hnd.1); have HT7 := Lib.hid (HT6.out.below hnd.1); have HB7 := Lib.hid (HB6.out.trans (hnd.1.mono HB6.out.size)); clear hw7 hnd)
      refine (open_nobody p v7 HNG7.out).mono ?_
      rintro e v8 ⟨rfl, hb8⟩
      have HNG8 := Lib.hid (HNG7.out.below hb8)
      have HT8 := Lib.hid (HT7.out.below hb8)
      have HB8 := Lib.hid (HB7.out.trans (hb8.mono HB7.out.size))
      clear hb8
      go_wp2_with fail
      refine (log_nobody p v8 HNG8.out).mono ?_
      rintro e v9 ⟨rfl, hb9⟩
      have HT9 := Lib.hid (HT8.out.below hb9)
      have HB9 := Lib.hid (HB8.out.trans (hb9.mono HB8.out.size))
      clear hb9
      go_wp2_with fail
      exact ⟨⟨k + 1, by omega, by go_num, HT9.out, HB9.out⟩, by simp [intOf]; omega⟩
end Go.Proofs.Ytdlfjbllmmkmkaa.LChairNobody
