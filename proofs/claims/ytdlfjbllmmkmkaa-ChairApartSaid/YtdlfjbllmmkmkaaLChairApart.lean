/- ChairApart: what is done to one transaction changes no other one. -/
import Derived.Test.YtdlfjbllmmkmkaaPlayed
import Derived.Test.YtdlfjbllmmkmkaaDealSame
namespace Go.Proofs.Ytdlfjbllmmkmkaa.LChairApart
open Go.RowKit Go.Maps Flat ChairSpec News Chair Go.Proofs.YtdlfjbllmmkmkaaW.PrintLast
set_option linter.unusedSimpArgs false
set_option linter.unusedVariables false
set_option maxRecDepth 100000
theorem apart_law (s : Ch) (r : Re) (t : Int) (h4 : r.kind ≠ 4) (ht : r.tx ≠ t) : (doC s r).1.deals t = s.deals t := by
  unfold doC
  split
  · rfl
  · split
    · rfl
    · dsimp only
      unfold stepC
      rw [if_neg h4]
      split
      · rfl
      · dsimp only [setD]
        rw [if_neg (fun e => ht e.symm)]
theorem de_apart {w w' : World} {g bm b : Nat} {lv : Value} {d : De} (h : DeAt w b d) (hap : Apart w w' g bm lv) (h1 : b ≠ g) (h2 : b ≠ bm) (h3 : some b ≠ lv.ownBlock) : DeAt w' b d := fun j v hv => (hap.cell h.lt h1 h2 h3).trans (h j v hv)
set_option maxHeartbeats 8000000 in
theorem walk (a0 : Option Addr) (len0 cap0 : Nat) (r0 : List (List Value)) (c1 : List Value) (a2 : Int) (w : World) (w0 : IsRows [.int .i64, .int .i64, .int .u8, .int .i64, .int .i64, .int .i64, .int .i64, .int .i64] w a0 len0 cap0 r0) (w1 : Fits [.int .i64, .int .i64, .int .u8, .int .i64, .int .i64, .int .i64, .int .i64, .int .i64] c1) (w2 : (Lit.int .u8 a2).wf = true) :
    Calls Try.prog 7 #[.slice a0 len0 cap0, .agg c1.toArray, .int .u8 a2] w fun e w' => e = .returned (.bool true) ∧ Below w.heap.size w w' := by
  obtain ⟨l, rfl, hlc, hcm, hok, hrec⟩ := recs_of w0
  obtain ⟨r, ⟨hw0, hw1, _⟩, rfl⟩ := fits_rec w1
  obtain ⟨b1, b2⟩ := bounds_u8 w2
  obtain ⟨t, rfl⟩ : ∃ t : Nat, a2 = (t : Int) := ⟨a2.toNat, by omega⟩
  obtain ⟨kd, tx, who, ep, vt, now, sp, cp⟩ := r
  dsimp only at hw0 hw1
  obtain ⟨n, rfl⟩ : ∃ n : Nat, who = (n : Int) := ⟨who.toNat, by omega⟩
  have e : (rec1 ⟨kd, tx, n, ep, vt, now, sp, cp⟩).toArray = #[.int .i64 kd, .int .i64 tx, .int .u8 (n : Int), .int .i64 ep, .int .i64 vt, .int .i64 now, .int .i64 sp, .int .i64 cp] := rfl
  rw [e]
  clear e w0 w1 w2
  have hwt : wrap64 (t : Int) = (t : Int) := by unfold wrap64; omega
  have HP := Lib.hid (fun (W : World) (hb : Below w.heap.size w W) => played_any W a0 cap0 l hcm hlc hok (fun hl => by
    obtain ⟨b, off, ha, hbB, hc⟩ := (hrec.below hb) hl
    exact ⟨b, off, ha, Nat.lt_of_lt_of_le hbB hb.size, hc⟩))
  clear hok hrec hlc hcm
  go_enter Try.func7, Try.ntmps7
  go_wp2_with fail
  generalize hv1 : World.alloc w _ = v1
  obtain ⟨hb1, hz1, hc1⟩ := alloc_facts hv1
  have HB1 := Lib.hid hb1
  have HC1 := Lib.hid hc1
  clear hv1 hb1 hc1
  refine (alive_any v1).mono ?_
  rintro e v2 ⟨rfl, hb2⟩
  have HB12 := Lib.hid hb2
  have HB2 := Lib.hid (HB1.out.trans (hb2.mono (Nat.le_of_lt hz1)))
  clear hb2
  go_wp2_with fail
  refine (HP.out v2 HB2.out).mono ?_
  rintro e v3 ⟨g, bm, lv, c, rfl, hC3, hbm, hb3⟩
  have hz2 : w.heap.size < v2.heap.size := Nat.lt_of_lt_of_le hz1 HB12.out.size
  have hq3 := fun i => (hb3.cell (p := ⟨w.heap.size, i, none⟩) hz2).trans ((HB12.out.cell (p := ⟨w.heap.size, i, none⟩) hz1).trans (HC1.out i))
  have hz3 : w.heap.size < v3.heap.size := Nat.lt_of_lt_of_le hz2 hb3.size
  have HQ3 := Lib.hid hq3
  have HB3 := Lib.hid (HB2.out.trans (hb3.mono HB2.out.size))
  have HC3 := Lib.hid hC3
  have hlen : (played l).log.length ≤ 120 := Nat.le_trans (play_len l _) (by omega)
  have q0 := hq3 0
  have q1 := hq3 1
  have hwbm : w.heap.size < bm := by omega
  clear hq3 hC3 hb3 HP HC1 HB1 HB12 HB2 hz1 hz2
  generalize played l = s at *
  by_cases hk4 : kd = 4
  · have hkb : (kd == 4) = true := by rw [hk4]; rfl
    go_wp2_with fail
    go_ret
    exact ⟨rfl, HB3.out⟩
  · have hkb : (kd == 4) = false := beq_eq_false_iff_ne.2 hk4
    by_cases htx : tx = (t : Int)
    · have htb : (tx == (t : Int)) = true := by rw [htx]; exact beq_self_eq_true _
      go_wp2_with fail
      go_ret
      exact ⟨rfl, HB3.out⟩
    · have htb : (tx == (t : Int)) = false := beq_eq_false_iff_ne.2 htx
      have hsame := apart_law s ⟨kd, tx, n, ep, vt, now, sp, cp⟩ t hk4 htx
      have HSAME := Lib.hid hsame
      have HDL := Lib.hid (fun (W : World) (lv : Value) (c : Nat) (s : Ch) (h : ChairAt W g bm lv c s) => deal_any g bm c lv s t (wf64 (by omega) (by omega)) W h)
      have HDO := Lib.hid (fun (W : World) (h : ChairAt W g bm lv c s) => do_any g bm c lv s kd tx ep vt now sp cp n (by omega) (by omega) W h)
      clear hsame
      go_wp2_with fail
      refine (HDL.out v3 lv c s HC3.out).mono ?_
      rintro e v4 ⟨rfl, hb4⟩
      have HC4 := Lib.hid (HC3.out.below hb4)
      have HB4 := Lib.hid (HB3.out.trans (hb4.mono HB3.out.size))
      have HN4 := Lib.hid (fun B hB => there_de v4 B 44 hB)
      have hz4 : w.heap.size < v4.heap.size := Nat.lt_of_lt_of_le hz3 hb4.size
      have HQ4 := Lib.hid (fun i => (hb4.cell (p := ⟨w.heap.size, i, none⟩) hz3).trans (HQ3.out i))
      obtain ⟨d, HD⟩ : ∃ d, Hid (dealOf s t = d) := ⟨_, Lib.hid rfl⟩
      obtain ⟨f, HF⟩ : ∃ f, Hid ((s.deals (t : Int)).isSome = f) := ⟨_, Lib.hid rfl⟩
      rw [HD.out, HF.out]
      clear hb4 q0 q1
      have hgl4 := Flat.cell_lt HC4.out.map
      have hbl4 := HC4.out.own.lt
      have hlv4 : some v4.heap.size ≠ lv.ownBlock := fun e => by have := (HC4.out.row.lt _ e.symm).2; omega
      go_wp2_with (refine wpList_store_mid rfl 44 _ _ rfl (v4.heap.size) 0 (dc d).toArray (by rfl) (by rfl) (HN4.out _ rfl) infoDe (all_oneCell_toArray (dc_one _)) ?_; generalize hw5 : World.setCells _ _ _ _ = w5 at *; have hnd := new_de d rfl hw5; have HD5 := Lib.hid hnd.2.2.1; have HC5 := Lib.hid (HC4.out.below hnd.1); have HB5 := Lib.hid (HB4.out.trans (hnd.1.mono HB4.out.size)); have hq5 := fun i => (hnd.1.cell (p := ⟨w.heap.size, i, none⟩) hz4).trans (HQ4.out i); have p0 := hq5 0; have p1 := hq5 1; have p2 := hq5 2; have p3 := hq5 3; have p4 := hq5 4; have p5 := hq5 5; have p6 := hq5 6; have p7 := hq5 7; clear hw5 hnd hq5)
      refine (HDO.out w5 HC5.out).mono ?_
      rintro e v6 ⟨rfl, hap, lv', c', hC6, _⟩
      have HC6 := Lib.hid hC6
      have HD6 := Lib.hid (de_apart HD5.out hap (by omega) (by omega) hlv4)
      have HB6 := Lib.hid (HB5.out.trans (hap.below HC5.out (Nat.le_of_lt hwbm) HB5.out.size))
      have HN6 := Lib.hid (fun B hB => there_de v6 B 44 hB)
      clear hap hC6 p0 p1 p2 p3 p4 p5 p6 p7
      go_wp2_with fail
      refine (HDL.out v6 lv' c' _ HC6.out).mono ?_
      rintro e v7 ⟨rfl, hb7⟩
      have HD7 := Lib.hid (HD6.out.below hb7)
      have HB7 := Lib.hid (HB6.out.trans (hb7.mono HB6.out.size))
      have HN7 := Lib.hid (fun B hB => there_de v7 B 44 hB)
      rw [show dealOf (doC s ⟨kd, tx, n, ep, vt, now, sp, cp⟩).1 t = d by rw [dealOf, HSAME.out]; exact HD.out, HSAME.out, HF.out]
      clear hb7
      have HEQ := Lib.hid (deal_same d)
      go_wp2_with (first
        | (refine wpList_store_mid rfl 44 _ _ rfl (v7.heap.size) 0 (dc d).toArray (by rfl) (by rfl) (HN7.out _ rfl) infoDe (all_oneCell_toArray (dc_one _)) ?_; generalize hw8 : World.setCells _ _ _ _ = w8 at *; have hnd := new_de d rfl hw8; have HD8 := Lib.hid hnd.2.2.1; have HD78 := Lib.hid (HD7.out.below hnd.1); have HB8 := Lib.hid (HB7.out.trans (hnd.1.mono HB7.out.size)); clear hw8 hnd)
        | (refine wpList_load_mid rfl 44 _ rfl (v4.heap.size) 0 rfl (dc d) _ (HD78.out) Try.underlying44 rfl infoDe ?_)
        | (refine wpList_load_mid rfl 44 _ rfl (v7.heap.size) 0 rfl (dc d) _ (HD8.out) Try.underlying44 rfl infoDe ?_)
        | (refine wpList_of_run rfl (eq_run (t := 44) (x := .tmp 45) (y := .tmp 46) rfl rfl rfl (by kernel_rfl) (HEQ.out _)) ?_))
      go_ret
      exact ⟨rfl, HB8.out⟩
end Go.Proofs.Ytdlfjbllmmkmkaa.LChairApart
