/- ChairEnds: behind a Tick at the greatest last moment of all deals none is open. -/
import Derived.Test.YtdlfjbllmmkmkaaTermsLast
import Derived.Lib.MinMax
namespace Go.Proofs.Ytdlfjbllmmkmkaa.LChairEnds
open Go.RowKit Go.Maps Flat ChairSpec News Chair Go.Proofs.YtdlfjbllmmkmkaaW.PrintLast
set_option linter.unusedSimpArgs false
set_option linter.unusedVariables false
set_option maxRecDepth 100000
theorem tick_plain (s : Ch) (now : Int) : doC s ⟨4, 0, (0 : Nat), 0, 0, now, 0, 0⟩ = (⟨fun k => (s.deals k).map (tickD now), s.log ++ [⟨4, 0, (0 : Nat), 0, 0, now, 0, 0⟩]⟩, hits s.deals now, 0) := by
  simp [doC, stepC]
set_option maxHeartbeats 8000000 in
theorem walk (a0 : Option Addr) (len0 cap0 : Nat) (r0 : List (List Value)) (a1 : Int) (w : World) (w0 : IsRows [.int .i64, .int .i64, .int .u8, .int .i64, .int .i64, .int .i64, .int .i64, .int .i64] w a0 len0 cap0 r0) (w1 : (Lit.int .u16 a1).wf = true) :
    Calls Try.prog 8 #[.slice a0 len0 cap0, .int .u16 a1] w fun e w' => e = .returned (.bool true) ∧ Below w.heap.size w w' := by
  obtain ⟨l, rfl, hlc, hcm, hok, hrec⟩ := recs_of w0
  obtain ⟨b1, b2⟩ := bounds_u16 w1
  clear w0 w1
  have hwt : wrap64 a1 = a1 := by unfold wrap64; omega
  have HP := Lib.hid (fun (W : World) (hb : Below w.heap.size w W) => played_any W a0 cap0 l hcm hlc hok (fun hl => by
    obtain ⟨b, off, ha, hbB, hc⟩ := (hrec.below hb) hl
    exact ⟨b, off, ha, Nat.lt_of_lt_of_le hbB hb.size, hc⟩))
  clear hok hrec hlc hcm
  go_enter Try.func8, Try.ntmps8
  go_wp2_with fail
  refine (alive_any w).mono ?_
  rintro e v2 ⟨rfl, hb2⟩
  have HB2 := Lib.hid hb2
  clear hb2
  go_wp2_with fail
  refine (HP.out v2 HB2.out).mono ?_
  rintro e v3 ⟨g, bm, lv, c, rfl, hC3, hbm, hb3⟩
  have HB3 := Lib.hid (HB2.out.trans (hb3.mono HB2.out.size))
  have HC3 := Lib.hid hC3
  have hlen : (played l).log.length ≤ 120 := Nat.le_trans (play_len l _) (by omega)
  have hwbm : w.heap.size ≤ bm := Nat.le_trans HB2.out.size hbm
  have HG := Lib.hid (show GoodCh (played l) from play_good l _)
  clear hC3 hb3 HP HB2
  generalize played l = s at *
  go_wp2_with fail
  refine (open_any g bm c lv s (by omega) v3 HC3.out).mono ?_
  rintro e v4 ⟨v, rfl, ⟨a, cap, rfl, hints⟩, hb4⟩
  have HI := Lib.hid hints
  have HB34 := Lib.hid hb4
  have HB4 := Lib.hid (HB3.out.trans (hb4.mono HB3.out.size))
  have HC4 := Lib.hid (HC3.out.below hb4)
  have HMEM := Lib.hid (fun i hi => openN_mem (f := s.deals) (i := i) hi)
  have hol : (openN s.deals).length ≤ 1000 := by
    unfold openN txs
    have a := List.length_filter_le (fun i => !shutN s.deals i) ((List.range 1000).filter fun i => (s.deals (i : Int)).isSome)
    have b := List.length_filter_le (fun (i : Nat) => (s.deals (i : Int)).isSome) (List.range 1000)
    rw [List.length_range] at b
    omega
  have HEH := Lib.hid (fun m => ends_hits (f := s.deals) (m := m))
  have HEO := Lib.hid (fun m => ends_open (f := s.deals) (m := m))
  have HOV := Lib.hid (fun i (hi : i ∈ openN s.deals) => hi)
  generalize openN s.deals = os at *
  have HLA := Lib.hid last_te
  clear hints hb4
  go_wp2_with fail
  go_loopw [6, 24] (fun z i wr => ∃ (k : Nat) (m : Int), k ≤ os.length ∧ i = .int .i64 (k : Int) ∧ z = .int .i64 m ∧ 0 ≤ m ∧ m ≤ 1099511627776 ∧ (∀ j (h : j < os.length), j < k → ∀ d, s.deals (os[j] : Int) = some d → lastTe d.te ≤ m) ∧ Below v4.heap.size v4 wr) (fun _ i _ => os.length - (intOf i).toNat)
  case atStart => exact ⟨0, 0, by omega, rfl, rfl, by omega, by omega, by omega, Below.refl _ _⟩
  case round =>
    obtain ⟨k, m, hk, rfl, rfl, hm0, hm1, hall, hB⟩ := hrel
    obtain ⟨wo, h_wo⟩ : ∃ v : World, v = wr := ⟨_, rfl⟩; subst h_wo
    have HALL := Lib.hid hall
    have HB := Lib.hid hB
    have HC := Lib.hid (HC4.out.below hB)
    clear hall hB
    by_cases hkl : k = os.length
    · have hkI : ¬ (k : Int) < (os.length : Int) := by omega
      have hall : ∀ i ∈ os, ∀ d, s.deals (i : Int) = some d → overTe d.te (m + a1) = true := fun i hi d hd => by
        obtain ⟨j, hj, rfl⟩ := List.getElem_of_mem hi
        exact over_last (HG.out _ _ hd) (by have := HALL.out j hj (by omega) d hd; omega)
      have hadd : wrap64 (m + a1) = m + a1 := by unfold wrap64; omega
      have hdo := do_any g bm c lv s 4 0 0 0 (m + a1) 0 0 0 (by decide) (by omega) wo HC.out
      rw [tick_plain] at hdo
      have HDO := Lib.hid hdo
      have HH := Lib.hid (HEH.out (m + a1) hall)
      have HO := Lib.hid (HEO.out (m + a1) hall)
      clear hall hdo
      go_wp2_with fail
      refine HDO.out.mono ?_
      rintro e v6 ⟨rfl, hap, lv', c', hC6, _⟩
      have HC6 := Lib.hid hC6
      have HB6 := Lib.hid ((HB4.out.trans (HB.out.mono HB4.out.size)).trans (hap.below HC.out hwbm (Nat.le_trans HB4.out.size HB.out.size)))
      have HOP := Lib.hid (open_any g bm c' lv' _ (by simp; omega) v6 hC6)
      rw [HH.out]
      clear hap hC6 HDO
      go_wp2_with fail
      refine HOP.out.mono ?_
      rintro e v7 ⟨v, rfl, ⟨a7, cap7, rfl, _⟩, hb7⟩
      have HB7 := Lib.hid (HB6.out.trans (hb7.mono HB6.out.size))
      dsimp only
      rw [HO.out]
      clear hb7
      go_wp2_with fail
      go_ret
      exact ⟨by simp, HB7.out⟩
    · have hkI : (k : Int) < (os.length : Int) := by omega
      have hk0 : (0 : Int) ≤ (k : Int) := by omega
      have hlt : k < os.length := by omega
      obtain ⟨b, rfl, hbB, hcc⟩ := HI.out (by omega)
      have hq := HB.out.cell (p := ⟨b, k, none⟩) (Flat.cell_lt (hcc k hlt)) |>.trans (hcc k hlt)
      obtain ⟨ho1, d, hd, ho⟩ := HMEM.out os[k] (List.getElem_mem hlt)
      have HALL2 : Hid (∀ M : Int, m ≤ M → lastTe d.te ≤ M → ∀ j (h : j < os.length), j < k + 1 → ∀ d, s.deals (os[j] : Int) = some d → lastTe d.te ≤ M) := Lib.hid (fun M h1 h2 j hj hjk d' hd' => by
        by_cases e : j = k
        · subst e; rw [hd] at hd'; cases hd'; exact h2
        · exact Int.le_trans (HALL.out j hj (by omega) d' hd') h1)
      generalize os[k] = t at *
      have hdl := deal_any g bm c lv s t (wf64 (by omega) (by omega)) wo HC.out
      have hdo : dealOf s t = d := by rw [dealOf, hd]; rfl
      rw [hdo, hd] at hdl
      have HDL := Lib.hid hdl
      obtain ⟨hb0, hb1⟩ := last_bounds d.te
      have HL2 := Lib.hid (fun W => HLA.out d.te W)
      generalize lastTe d.te = z at *
      clear hdl hdo hd ho
      go_wp2_with fail
      refine HDL.out.mono ?_
      rintro e v5 ⟨rfl, hb5⟩
      have HB5 := Lib.hid (HB.out.trans (hb5.mono HB.out.size))
      have HN5 := Lib.hid (fun B hB => there_de v5 B 44 hB)
      clear hb5 hq HDL
      go_wp2_with (refine wpList_store_mid rfl 44 _ _ rfl (v5.heap.size) 0 (dc d).toArray (by rfl) (by rfl) (HN5.out _ rfl) infoDe (all_oneCell_toArray (dc_one _)) ?_; generalize hw6 : World.setCells _ _ _ _ = w6 at *; obtain ⟨hb6, hz6, hD6, ht6⟩ := new_de d rfl hw6; have HB6 := Lib.hid (HB5.out.trans (hb6.mono HB5.out.size)); have p24 := hD6.te 0 (.int .i64 d.te.dl) rfl; have p25 := hD6.te 1 (.int .i64 d.te.span) rfl; have p26 := hD6.te 2 (.int .i64 d.te.used) rfl; have p27 := hD6.te 3 (.int .i64 d.te.cap) rfl; clear hw6 hb6 hD6 ht6)
      refine (HL2.out _).mono ?_
      rintro e6 w9 ⟨rfl, hb9⟩
      have HB9 := Lib.hid (HB6.out.trans (hb9.mono HB6.out.size))
      clear hb9 p24 p25 p26 p27
      go_wp2_with fail
      exact ⟨⟨k + 1, _, by omega, by go_num, rfl, by omega, by omega, HALL2.out _ (by omega) (by omega), HB9.out⟩, by simp [intOf]; omega⟩
end Go.Proofs.Ytdlfjbllmmkmkaa.LChairEnds
