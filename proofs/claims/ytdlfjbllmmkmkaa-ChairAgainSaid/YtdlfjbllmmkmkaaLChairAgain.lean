/- ChairAgain: a chair that is made of its log answers as it does, now and later; records that are no chair's make none. -/
import Derived.Test.YtdlfjbllmmkmkaaReplayOwn
namespace Go.Proofs.Ytdlfjbllmmkmkaa.LChairAgain
open Go.RowKit Go.Maps Flat ChairSpec News Chair Go.Proofs.YtdlfjbllmmkmkaaW.PrintLast
set_option linter.unusedSimpArgs false
set_option linter.unusedVariables false
set_option maxRecDepth 100000
set_option maxHeartbeats 16000000 in
theorem walk (a0 : Option Addr) (len0 cap0 : Nat) (r0 : List (List Value)) (a1 : Option Addr) (len1 cap1 : Nat) (r1 : List (List Value)) (w : World) (w0 : IsRows [.int .i64, .int .i64, .int .u8, .int .i64, .int .i64, .int .i64, .int .i64, .int .i64] w a0 len0 cap0 r0) (w1 : IsRows [.int .i64, .int .i64, .int .u8, .int .i64, .int .i64, .int .i64, .int .i64, .int .i64] w a1 len1 cap1 r1) :
    Calls Try.prog 9 #[.slice a0 len0 cap0, .slice a1 len1 cap1] w fun e w' => e = .returned (.bool true) ∧ Below w.heap.size w w' := by
  obtain ⟨l, rfl, hlc, hcm, hok, hrec⟩ := recs_of w0
  obtain ⟨more, rfl, hlc2, hcm2, hok2, hrec2⟩ := recs_of w1
  clear w0 w1
  have HP := Lib.hid (fun (W : World) (hb : Below w.heap.size w W) => played_any W a0 cap0 l hcm hlc hok (fun hl => by
    obtain ⟨b, off, ha, hbB, hc⟩ := (hrec.below hb) hl
    exact ⟨b, off, ha, Nat.lt_of_lt_of_le hbB hb.size, hc⟩))
  have HREC := Lib.hid hrec2
  have HOK := Lib.hid hok2
  have hcm' := hcm2
  unfold maxLen at hcm'
  have HLO := Lib.hid (show LogOk (played l) from logok_play l hok _)
  clear hok hrec hlc hcm hok2 hrec2 hcm2
  go_enter Try.func9, Try.ntmps9
  go_wp2_with fail
  refine (alive_any w).mono ?_
  rintro e v2 ⟨rfl, hb2⟩
  have HB2 := Lib.hid hb2
  clear hb2
  go_wp2_with fail
  refine (HP.out v2 HB2.out).mono ?_
  rintro e v3 ⟨g, bm, lv, c, rfl, hC3, hbm, hb3⟩
  have HB3 := Lib.hid (HB2.out.trans (hb3.mono HB2.out.size))
  have HC3 := Lib.hid hC3
  have hlen : (played l).log.length ≤ 120 := Nat.le_trans (play_len l _) (by omega)
  have hwbm : w.heap.size ≤ bm := Nat.le_trans HB2.out.size hbm
  have HT := Lib.hid (show LogMakes (played l) from told_play l _)
  clear hC3 hb3 HP HB2
  generalize played l = s at *
  go_wp2_with fail
  refine (log_any g bm c lv s (by omega) v3 HC3.out).mono ?_
  rintro e v4 ⟨v, rfl, hrow, hb4⟩
  have HB4 := Lib.hid (HB3.out.trans (hb4.mono HB3.out.size))
  have HC4 := Lib.hid (HC3.out.below hb4)
  have HR := Lib.hid (replay_some v4 _ v s.log s.log.length rfl (by omega) HLO.out hrow s HT.out)
  obtain ⟨la, lc, rfl⟩ := slice_of hrow
  clear hrow hb4 HC3 HB3
  go_wp2_with fail
  refine HR.out.mono ?_
  rintro e v5 ⟨g', bm', lv', c', rfl, hD5, hbm', hb5⟩
  have HB5 := Lib.hid (HB4.out.trans (hb5.mono HB4.out.size))
  have HC5 := Lib.hid (HC4.out.below hb5)
  have HD5 := Lib.hid hD5
  have HT5 : Hid (Two g bm lv g' bm' lv') := Lib.hid ⟨by have := Flat.cell_lt HC4.out.map; omega, fun e => by have := (HC4.out.row.lt _ e).2; have := hD5.lt; omega, fun e => by have := (HC4.out.row.lt _ e).2; omega, fun i hi e => by have := (HC4.out.row.lt _ hi).2; have := (hD5.row.lt _ e).1; have := hD5.lt; omega⟩
  have hwbm' : w.heap.size ≤ bm' := by have := HB4.out.size; omega
  clear hD5 hb5 HR HC4 HB4
  go_wp2_with fail
  go_loopw [8] (fun i wr => ∃ (k : Nat) (s : Ch) (lv lv' : Value) (c c' : Nat), k ≤ more.length ∧ k ≤ 120 ∧ i = .int .i64 (k : Int) ∧ s.log.length ≤ 120 + k ∧ LogMakes s ∧ LogOk s ∧ ChairAt wr g bm lv c s ∧ ChairAt wr g' bm' lv' c' s ∧ Two g bm lv g' bm' lv' ∧ Below w.heap.size w wr) (fun i _ => 120 - (intOf i).toNat)
  case atStart => exact ⟨0, s, _, _, _, _, by omega, by omega, rfl, by omega, HT.out, HLO.out, HC5.out, HD5.out, HT5.out, HB5.out⟩
  case round =>
    obtain ⟨wo, h_wo⟩ : ∃ v : World, v = wr := ⟨_, rfl⟩; subst h_wo
    clear HT HLO HC5 HD5 HT5 HB5 hlen
    obtain ⟨k, s, lv, lv', c, c', hk, hk120, rfl, hlen, hT, hLO, hC, hD, hTw, hB⟩ := hrel
    have HT := Lib.hid hT
    have HLO := Lib.hid hLO
    have HC := Lib.hid hC
    have HD := Lib.hid hD
    have HTW := Lib.hid hTw
    have HB := Lib.hid hB
    clear hT hLO hC hD hTw hB
    by_cases hkl : k = more.length
    · have hkI : ¬ (k : Int) < (more.length : Int) := by omega
      have HOC := Lib.hid (open_any g bm c lv s (by omega) wo HC.out)
      have HOD := Lib.hid (fun (W : World) (h : ChairAt W g' bm' lv' c' s) => open_any g' bm' c' lv' s (by omega) W h)
      have HLC := Lib.hid (fun (W : World) (h : ChairAt W g bm lv c s) => log_any g bm c lv s (by omega) W h)
      have HLD := Lib.hid (fun (W : World) (h : ChairAt W g' bm' lv' c' s) => log_any g' bm' c' lv' s (by omega) W h)
      have hol : (openN s.deals).length ≤ 1000 := by
        unfold openN txs
        have a := List.length_filter_le (fun i => !shutN s.deals i) ((List.range 1000).filter fun i => (s.deals (i : Int)).isSome)
        have b := List.length_filter_le (fun (i : Nat) => (s.deals (i : Int)).isSome) (List.range 1000)
        rw [List.length_range] at b
        omega
      go_wp2_with fail
      refine HOC.out.mono ?_
      rintro e v7 ⟨v, rfl, ⟨oa, ocap, rfl, hints⟩, hb7⟩
      have HI := Lib.hid hints
      have HB7 := Lib.hid (HB.out.trans (hb7.mono HB.out.size))
      have HC7 := Lib.hid (HC.out.below hb7)
      have HD7 := Lib.hid (HD.out.below hb7)
      clear hints hb7
      go_wp2_with fail
      refine (HOD.out v7 HD7.out).mono ?_
      rintro e v8 ⟨v, rfl, ⟨oa', ocap', rfl, hints⟩, hb8⟩
      have HI' := Lib.hid hints
      have HB78 := Lib.hid hb8
      have HB8 := Lib.hid (HB7.out.trans (hb8.mono HB7.out.size))
      have HC8 := Lib.hid (HC7.out.below hb8)
      have HD8 := Lib.hid (HD7.out.below hb8)
      clear hints hb8
      generalize openN s.deals = os at *
      generalize s.log.length = sl at *
      go_wp2_with fail
      refine (HLC.out v8 HC8.out).mono ?_
      rintro e v9 ⟨v, rfl, hrow, hb9⟩
      obtain ⟨la, lc, rfl⟩ := slice_of hrow
      have HB89 := Lib.hid hb9
      have HB9 := Lib.hid (HB8.out.trans (hb9.mono HB8.out.size))
      have HD9 := Lib.hid (HD8.out.below hb9)
      clear hrow hb9
      go_wp2_with fail
      refine (HLD.out v9 HD9.out).mono ?_
      rintro e v10 ⟨v, rfl, hrow, hb10⟩
      obtain ⟨la', lc', rfl⟩ := slice_of hrow
      have HB910 := Lib.hid hb10
      have HB10 := Lib.hid (HB9.out.trans (hb10.mono HB9.out.size))
      clear hrow hb10
      go_wp2_with fail
      go_loopw [112] (fun i wr => ∃ k : Nat, k ≤ os.length ∧ i = .int .i64 (k : Int) ∧ Below v10.heap.size v10 wr) (fun i _ => os.length - (intOf i).toNat)
      case atStart => exact ⟨0, by omega, rfl, Below.refl _ _⟩
      case round =>
        obtain ⟨k, hk, rfl, hBr⟩ := hrel
        have HBR := Lib.hid hBr
        clear hBr
        by_cases hkl : k = os.length
        · have hkI : ¬ (k : Int) < (os.length : Int) := by omega
          go_wp2_with fail
          go_ret
          exact ⟨rfl, HB10.out.trans (HBR.out.mono HB10.out.size)⟩
        · have hkI : (k : Int) < (os.length : Int) := by omega
          have hk0 : (0 : Int) ≤ (k : Int) := by omega
          have hlt : k < os.length := by omega
          obtain ⟨b, rfl, hbB, hcc⟩ := HI.out (by omega)
          obtain ⟨b', rfl, hbB', hcc'⟩ := HI'.out (by omega)
          have hbl7 := Flat.cell_lt (hcc k hlt)
          have hbl8 := Flat.cell_lt (hcc' k hlt)
          have hs8 := HB78.out.size
          have hs9 := HB89.out.size
          have hs10 := HB910.out.size
          have q := (HBR.out.cell (p := ⟨b, k, none⟩) (show b < v10.heap.size by omega)).trans ((HB910.out.cell (p := ⟨b, k, none⟩) (show b < v9.heap.size by omega)).trans ((HB89.out.cell (p := ⟨b, k, none⟩) (show b < v8.heap.size by omega)).trans ((HB78.out.cell (p := ⟨b, k, none⟩) hbl7).trans (hcc k hlt))))
          have q' := (HBR.out.cell (p := ⟨b', k, none⟩) (show b' < v10.heap.size by omega)).trans ((HB910.out.cell (p := ⟨b', k, none⟩) (show b' < v9.heap.size by omega)).trans ((HB89.out.cell (p := ⟨b', k, none⟩) hbl8).trans (hcc' k hlt)))
          have hbr := Flat.cell_lt q
          have hbr' := Flat.cell_lt q'
          generalize os[k] = t at *
          clear hcc hcc'
          go_wp2_with fail
          refine start_ (n := 9) (S := fun w' => Below wr.heap.size wr w' ∧ w'.cell? ⟨b, k, none⟩ = some (.int .i64 (t : Int)) ∧ w'.cell? ⟨b', k, none⟩ = some (.int .i64 (t : Int))) (ds := []) #[false, false, false, false, false, false, false, false, false] (by kernel_rfl) rfl rfl ⟨(still_drew wr).1, q, q'⟩ (fun hHeld => ?_)
          refine pure_ (i := 0) (N := some 115) (v := ?_) (a' := ?_) #[true, false, false, false, false, false, false, false, false] rfl rfl (by kernel_rfl) (fun _ _ _ h => h) (Or.inl ⟨by rfl, ?_⟩) ?_ ?_
          rotate_left
          · intro w'
            go_simp
            with_reducible rfl
          rotate_left
          · simp only [Act.put, List.setIfInBounds_toArray, List.set_cons_zero, List.set_cons_succ, i64_w, i32_w]
            rfl
          refine pure_ (i := 1) (N := some 116) (v := ?_) (a' := ?_) #[true, true, false, false, false, false, false, false, false] rfl rfl (by kernel_rfl) (fun _ _ _ h => h) (Or.inl ⟨by rfl, ?_⟩) ?_ ?_
          rotate_left
          · intro w'
            go_simp
            with_reducible rfl
          rotate_left
          · simp only [Act.put, List.setIfInBounds_toArray, List.set_cons_zero, List.set_cons_succ, i64_w, i32_w]
            rfl
          refine pure_ (i := 2) (N := some 117) (v := ?_) (a' := ?_) #[true, true, true, false, false, false, false, false, false] rfl rfl (by kernel_rfl) (fun _ _ _ h => h) (Or.inl ⟨by rfl, ?_⟩) ?_ ?_
          rotate_left
          · intro w'
            go_simp
            with_reducible rfl
          rotate_left
          · simp only [Act.put, List.setIfInBounds_toArray, List.set_cons_zero, List.set_cons_succ, i64_w, i32_w]
            rfl
          refine pure_ (i := 4) (N := some 119) (v := ?_) (a' := ?_) #[true, true, true, false, true, false, false, false, false] rfl rfl (by kernel_rfl) (fun _ _ _ h => h) (Or.inl ⟨by rfl, ?_⟩) ?_ ?_
          rotate_left
          · intro w'
            go_simp
            with_reducible rfl
          rotate_left
          · simp only [Act.put, List.setIfInBounds_toArray, List.set_cons_zero, List.set_cons_succ, i64_w, i32_w]
            rfl
          refine pure_ (i := 5) (N := some 120) (v := ?_) (a' := ?_) #[true, true, true, false, true, true, false, false, false] rfl rfl (by kernel_rfl) (fun _ _ _ h => h) (Or.inl ⟨by rfl, ?_⟩) ?_ ?_
          rotate_left
          · intro w'
            go_simp
            with_reducible rfl
          rotate_left
          · simp only [Act.put, List.setIfInBounds_toArray, List.set_cons_zero, List.set_cons_succ, i64_w, i32_w]
            rfl
          refine pure_ (i := 6) (N := some 121) (v := ?_) (a' := ?_) #[true, true, true, false, true, true, true, false, false] rfl rfl (by kernel_rfl) (fun _ _ _ h => h) (Or.inl ⟨by rfl, ?_⟩) ?_ ?_
          rotate_left
          · intro w'
            go_simp
            with_reducible rfl
          rotate_left
          · simp only [Act.put, List.setIfInBounds_toArray, List.set_cons_zero, List.set_cons_succ, i64_w, i32_w]
            rfl
          refine take_ (i := 3) (N := some 118) (v := ?_) (a' := ?_) #[true, true, true, true, true, true, true, false, false] rfl rfl (by kernel_rfl) (fun _ _ _ h => h) (Or.inl ⟨by rfl, ?_⟩) hHeld ?_ ?_
          rotate_left
          · rintro w' ⟨s0, s1, s2⟩
            go_simp
            with_reducible rfl
          rotate_left
          · simp only [Act.put, List.setIfInBounds_toArray, List.set_cons_zero, List.set_cons_succ, i64_w, i32_w]
            rfl
          refine take_ (i := 7) (N := some 122) (v := ?_) (a' := ?_) #[true, true, true, true, true, true, true, true, false] rfl rfl (by kernel_rfl) (fun _ _ _ h => h) (Or.inl ⟨by rfl, ?_⟩) hHeld ?_ ?_
          rotate_left
          · rintro w' ⟨s0, s1, s2⟩
            go_simp
            with_reducible rfl
          rotate_left
          · simp only [Act.put, List.setIfInBounds_toArray, List.set_cons_zero, List.set_cons_succ, i64_w, i32_w]
            rfl
          refine pure_ (i := 8) (N := some 123) (v := ?_) (a' := ?_) #[true, true, true, true, true, true, true, true, true] rfl rfl (by kernel_rfl) (fun _ _ _ h => h) (Or.inl ⟨by rfl, ?_⟩) ?_ ?_
          rotate_left
          · intro w'
            go_simp
            with_reducible rfl
          rotate_left
          · simp only [Act.put, List.setIfInBounds_toArray, List.set_cons_zero, List.set_cons_succ, i64_w, i32_w]
            rfl
          refine done_ (by kernel_rfl) ?_

          go_wp2_with fail
          exact ⟨⟨k + 1, by omega, by go_num, HBR.out.trans (hHeld.1.mono HBR.out.size)⟩, by simp [intOf]; omega⟩
    · have hkI : (k : Int) < (more.length : Int) := by omega
      by_cases hk2 : k = 120
      · have hkJ : ¬ (k : Int) < 120 := by omega
        have HOC := Lib.hid (open_any g bm c lv s (by omega) wo HC.out)
        have HOD := Lib.hid (fun (W : World) (h : ChairAt W g' bm' lv' c' s) => open_any g' bm' c' lv' s (by omega) W h)
        have HLC := Lib.hid (fun (W : World) (h : ChairAt W g bm lv c s) => log_any g bm c lv s (by omega) W h)
        have HLD := Lib.hid (fun (W : World) (h : ChairAt W g' bm' lv' c' s) => log_any g' bm' c' lv' s (by omega) W h)
        have hol : (openN s.deals).length ≤ 1000 := by
          unfold openN txs
          have a := List.length_filter_le (fun i => !shutN s.deals i) ((List.range 1000).filter fun i => (s.deals (i : Int)).isSome)
          have b := List.length_filter_le (fun (i : Nat) => (s.deals (i : Int)).isSome) (List.range 1000)
          rw [List.length_range] at b
          omega
        go_wp2_with fail
        refine HOC.out.mono ?_
        rintro e v7 ⟨v, rfl, ⟨oa, ocap, rfl, hints⟩, hb7⟩
        have HI := Lib.hid hints
        have HB7 := Lib.hid (HB.out.trans (hb7.mono HB.out.size))
        have HC7 := Lib.hid (HC.out.below hb7)
        have HD7 := Lib.hid (HD.out.below hb7)
        clear hints hb7
        go_wp2_with fail
        refine (HOD.out v7 HD7.out).mono ?_
        rintro e v8 ⟨v, rfl, ⟨oa', ocap', rfl, hints⟩, hb8⟩
        have HI' := Lib.hid hints
        have HB78 := Lib.hid hb8
        have HB8 := Lib.hid (HB7.out.trans (hb8.mono HB7.out.size))
        have HC8 := Lib.hid (HC7.out.below hb8)
        have HD8 := Lib.hid (HD7.out.below hb8)
        clear hints hb8
        generalize openN s.deals = os at *
        generalize s.log.length = sl at *
        go_wp2_with fail
        refine (HLC.out v8 HC8.out).mono ?_
        rintro e v9 ⟨v, rfl, hrow, hb9⟩
        obtain ⟨la, lc, rfl⟩ := slice_of hrow
        have HB89 := Lib.hid hb9
        have HB9 := Lib.hid (HB8.out.trans (hb9.mono HB8.out.size))
        have HD9 := Lib.hid (HD8.out.below hb9)
        clear hrow hb9
        go_wp2_with fail
        refine (HLD.out v9 HD9.out).mono ?_
        rintro e v10 ⟨v, rfl, hrow, hb10⟩
        obtain ⟨la', lc', rfl⟩ := slice_of hrow
        have HB910 := Lib.hid hb10
        have HB10 := Lib.hid (HB9.out.trans (hb10.mono HB9.out.size))
        clear hrow hb10
        go_wp2_with fail
        go_loopw [112] (fun i wr => ∃ k : Nat, k ≤ os.length ∧ i = .int .i64 (k : Int) ∧ Below v10.heap.size v10 wr) (fun i _ => os.length - (intOf i).toNat)
        case atStart => exact ⟨0, by omega, rfl, Below.refl _ _⟩
        case round =>
          obtain ⟨k, hk, rfl, hBr⟩ := hrel
          have HBR := Lib.hid hBr
          clear hBr
          by_cases hkl : k = os.length
          · have hkI : ¬ (k : Int) < (os.length : Int) := by omega
            go_wp2_with fail
            go_ret
            exact ⟨rfl, HB10.out.trans (HBR.out.mono HB10.out.size)⟩
          · have hkI : (k : Int) < (os.length : Int) := by omega
            have hk0 : (0 : Int) ≤ (k : Int) := by omega
            have hlt : k < os.length := by omega
            obtain ⟨b, rfl, hbB, hcc⟩ := HI.out (by omega)
            obtain ⟨b', rfl, hbB', hcc'⟩ := HI'.out (by omega)
            have hbl7 := Flat.cell_lt (hcc k hlt)
            have hbl8 := Flat.cell_lt (hcc' k hlt)
            have hs8 := HB78.out.size
            have hs9 := HB89.out.size
            have hs10 := HB910.out.size
            have q := (HBR.out.cell (p := ⟨b, k, none⟩) (show b < v10.heap.size by omega)).trans ((HB910.out.cell (p := ⟨b, k, none⟩) (show b < v9.heap.size by omega)).trans ((HB89.out.cell (p := ⟨b, k, none⟩) (show b < v8.heap.size by omega)).trans ((HB78.out.cell (p := ⟨b, k, none⟩) hbl7).trans (hcc k hlt))))
            have q' := (HBR.out.cell (p := ⟨b', k, none⟩) (show b' < v10.heap.size by omega)).trans ((HB910.out.cell (p := ⟨b', k, none⟩) (show b' < v9.heap.size by omega)).trans ((HB89.out.cell (p := ⟨b', k, none⟩) hbl8).trans (hcc' k hlt)))
            have hbr := Flat.cell_lt q
            have hbr' := Flat.cell_lt q'
            generalize os[k] = t at *
            clear hcc hcc'
            go_wp2_with fail
            refine start_ (n := 9) (S := fun w' => Below wr.heap.size wr w' ∧ w'.cell? ⟨b, k, none⟩ = some (.int .i64 (t : Int)) ∧ w'.cell? ⟨b', k, none⟩ = some (.int .i64 (t : Int))) (ds := []) #[false, false, false, false, false, false, false, false, false] (by kernel_rfl) rfl rfl ⟨(still_drew wr).1, q, q'⟩ (fun hHeld => ?_)
            refine pure_ (i := 0) (N := some 115) (v := ?_) (a' := ?_) #[true, false, false, false, false, false, false, false, false] rfl rfl (by kernel_rfl) (fun _ _ _ h => h) (Or.inl ⟨by rfl, ?_⟩) ?_ ?_
            rotate_left
            · intro w'
              go_simp
              with_reducible rfl
            rotate_left
            · simp only [Act.put, List.setIfInBounds_toArray, List.set_cons_zero, List.set_cons_succ, i64_w, i32_w]
              rfl
            refine pure_ (i := 1) (N := some 116) (v := ?_) (a' := ?_) #[true, true, false, false, false, false, false, false, false] rfl rfl (by kernel_rfl) (fun _ _ _ h => h) (Or.inl ⟨by rfl, ?_⟩) ?_ ?_
            rotate_left
            · intro w'
              go_simp
              with_reducible rfl
            rotate_left
            · simp only [Act.put, List.setIfInBounds_toArray, List.set_cons_zero, List.set_cons_succ, i64_w, i32_w]
              rfl
            refine pure_ (i := 2) (N := some 117) (v := ?_) (a' := ?_) #[true, true, true, false, false, false, false, false, false] rfl rfl (by kernel_rfl) (fun _ _ _ h => h) (Or.inl ⟨by rfl, ?_⟩) ?_ ?_
            rotate_left
            · intro w'
              go_simp
              with_reducible rfl
            rotate_left
            · simp only [Act.put, List.setIfInBounds_toArray, List.set_cons_zero, List.set_cons_succ, i64_w, i32_w]
              rfl
            refine pure_ (i := 4) (N := some 119) (v := ?_) (a' := ?_) #[true, true, true, false, true, false, false, false, false] rfl rfl (by kernel_rfl) (fun _ _ _ h => h) (Or.inl ⟨by rfl, ?_⟩) ?_ ?_
            rotate_left
            · intro w'
              go_simp
              with_reducible rfl
            rotate_left
            · simp only [Act.put, List.setIfInBounds_toArray, List.set_cons_zero, List.set_cons_succ, i64_w, i32_w]
              rfl
            refine pure_ (i := 5) (N := some 120) (v := ?_) (a' := ?_) #[true, true, true, false, true, true, false, false, false] rfl rfl (by kernel_rfl) (fun _ _ _ h => h) (Or.inl ⟨by rfl, ?_⟩) ?_ ?_
            rotate_left
            · intro w'
              go_simp
              with_reducible rfl
            rotate_left
            · simp only [Act.put, List.setIfInBounds_toArray, List.set_cons_zero, List.set_cons_succ, i64_w, i32_w]
              rfl
            refine pure_ (i := 6) (N := some 121) (v := ?_) (a' := ?_) #[true, true, true, false, true, true, true, false, false] rfl rfl (by kernel_rfl) (fun _ _ _ h => h) (Or.inl ⟨by rfl, ?_⟩) ?_ ?_
            rotate_left
            · intro w'
              go_simp
              with_reducible rfl
            rotate_left
            · simp only [Act.put, List.setIfInBounds_toArray, List.set_cons_zero, List.set_cons_succ, i64_w, i32_w]
              rfl
            refine take_ (i := 3) (N := some 118) (v := ?_) (a' := ?_) #[true, true, true, true, true, true, true, false, false] rfl rfl (by kernel_rfl) (fun _ _ _ h => h) (Or.inl ⟨by rfl, ?_⟩) hHeld ?_ ?_
            rotate_left
            · rintro w' ⟨s0, s1, s2⟩
              go_simp
              with_reducible rfl
            rotate_left
            · simp only [Act.put, List.setIfInBounds_toArray, List.set_cons_zero, List.set_cons_succ, i64_w, i32_w]
              rfl
            refine take_ (i := 7) (N := some 122) (v := ?_) (a' := ?_) #[true, true, true, true, true, true, true, true, false] rfl rfl (by kernel_rfl) (fun _ _ _ h => h) (Or.inl ⟨by rfl, ?_⟩) hHeld ?_ ?_
            rotate_left
            · rintro w' ⟨s0, s1, s2⟩
              go_simp
              with_reducible rfl
            rotate_left
            · simp only [Act.put, List.setIfInBounds_toArray, List.set_cons_zero, List.set_cons_succ, i64_w, i32_w]
              rfl
            refine pure_ (i := 8) (N := some 123) (v := ?_) (a' := ?_) #[true, true, true, true, true, true, true, true, true] rfl rfl (by kernel_rfl) (fun _ _ _ h => h) (Or.inl ⟨by rfl, ?_⟩) ?_ ?_
            rotate_left
            · intro w'
              go_simp
              with_reducible rfl
            rotate_left
            · simp only [Act.put, List.setIfInBounds_toArray, List.set_cons_zero, List.set_cons_succ, i64_w, i32_w]
              rfl
            refine done_ (by kernel_rfl) ?_

            go_wp2_with fail
            exact ⟨⟨k + 1, by omega, by go_num, HBR.out.trans (hHeld.1.mono HBR.out.size)⟩, by simp [intOf]; omega⟩
      · have hkJ : (k : Int) < 120 := by omega
        have hk0 : (0 : Int) ≤ (k : Int) := by omega
        have hlt : k < more.length := by omega
        obtain ⟨b, off, rfl, hbl, hcc⟩ := HREC.out (by omega)
        have HCC := Lib.hid (fun j v hv => hcc k hlt j v hv)
        have hro := HOK.out _ (List.getElem_mem hlt)
        generalize more[k] = r at *
        obtain ⟨kd, tx, who, ep, vt, now, sp, cp⟩ := r
        obtain ⟨w0, w255, _⟩ := hro
        dsimp only at w0 w255
        obtain ⟨n, rfl⟩ : ∃ n : Nat, who = (n : Int) := ⟨who.toNat, by omega⟩
        have HQ := Lib.hid (fun (W : World) (hb : Below w.heap.size w W) j v hv => (hb.cell (p := ⟨b, off + (k * 8 + j), none⟩) hbl).trans (HCC.out j v hv))
        have HDC := Lib.hid (fun (W : World) (h : ChairAt W g bm lv c s) => do_any g bm c lv s kd tx ep vt now sp cp n (by omega) (by omega) W h)
        have HDD := Lib.hid (fun (W : World) (h : ChairAt W g' bm' lv' c' s) => do_any g' bm' c' lv' s kd tx ep vt now sp cp n (by omega) (by omega) W h)
        have HLE := Lib.hid (doC_len s ⟨kd, tx, n, ep, vt, now, sp, cp⟩)
        have HT2 := Lib.hid (told_do HT.out ⟨kd, tx, n, ep, vt, now, sp, cp⟩)
        have HLO2 := Lib.hid (logok_do HLO.out (r := ⟨kd, tx, n, ep, vt, now, sp, cp⟩) w0 w255)
        have HTN := Lib.hid (fun h => told_none HT.out (r := ⟨kd, tx, n, ep, vt, now, sp, cp⟩) h)
        have HER := Lib.hid (fun h => doC_err (s := s) (r := ⟨kd, tx, n, ep, vt, now, sp, cp⟩) h)
        obtain ⟨pp, HPP⟩ : ∃ pp, Hid (doC s ⟨kd, tx, n, ep, vt, now, sp, cp⟩ = pp) := ⟨_, Lib.hid rfl⟩
        rw [HPP.out] at HDC HDD HLE HT2 HLO2 HTN HER
        obtain ⟨s2, n2, e2⟩ := pp
        dsimp only at HLE HT2 HLO2 HTN HER
        have q0 := HQ.out wo HB.out 0 _ rfl
        have q1 := HQ.out wo HB.out 1 _ rfl
        have q2 := HQ.out wo HB.out 2 _ rfl
        have q3 := HQ.out wo HB.out 3 _ rfl
        have q4 := HQ.out wo HB.out 4 _ rfl
        have q5 := HQ.out wo HB.out 5 _ rfl
        have q6 := HQ.out wo HB.out 6 _ rfl
        have q7 := HQ.out wo HB.out 7 _ rfl
        simp only [Nat.add_zero, ← Nat.add_assoc] at q0 q1 q2 q3 q4 q5 q6 q7
        clear hcc HPP
        go_wp2_with fail
        refine (HDC.out wo HC.out).mono ?_
        rintro e v6 ⟨rfl, hap, lv6, c6, hC6, hloc⟩
        have HC6 := Lib.hid hC6
        have HD6 := Lib.hid (HTW.out.elder HC.out HD.out hap)
        have HT6 := Lib.hid (HTW.out.moved HD.out hloc)
        have HB6 := Lib.hid (HB.out.trans (hap.below HC.out hwbm HB.out.size))
        clear hap hC6 hloc q0 q1 q2 q3 q4 q5 q6 q7 HDC
        have q0 := HQ.out v6 HB6.out 0 _ rfl
        have q1 := HQ.out v6 HB6.out 1 _ rfl
        have q2 := HQ.out v6 HB6.out 2 _ rfl
        have q3 := HQ.out v6 HB6.out 3 _ rfl
        have q4 := HQ.out v6 HB6.out 4 _ rfl
        have q5 := HQ.out v6 HB6.out 5 _ rfl
        have q6 := HQ.out v6 HB6.out 6 _ rfl
        have q7 := HQ.out v6 HB6.out 7 _ rfl
        simp only [Nat.add_zero, ← Nat.add_assoc] at q0 q1 q2 q3 q4 q5 q6 q7
        go_wp2_with fail
        refine (HDD.out v6 HD6.out).mono ?_
        rintro e v7 ⟨rfl, hap, lv7, c7, hD7, hloc⟩
        have HC7 := Lib.hid (HT6.out.younger HC6.out HD6.out hap)
        have HD7 := Lib.hid hD7
        have HT7 := Lib.hid (HT6.out.moved' HC6.out hloc)
        have HB7 := Lib.hid (HB6.out.trans (hap.below HD6.out hwbm' HB6.out.size))
        clear hap hD7 hloc q0 q1 q2 q3 q4 q5 q6 q7 HDD HD6 HC6 HT6
        by_cases he : e2 = 0
        · subst he
          have hle := HLE.out
          go_wp2_with fail
          exact ⟨⟨k + 1, s2, lv6, lv7, c6, c7, by omega, by omega, by go_num, by omega, HT2.out, HLO2.out, HC7.out, HD7.out, HT7.out, HB7.out⟩, by simp [intOf]; omega⟩
        · have b1 : (e2 != 0) = true := bne_iff_ne.2 he
          have b2 : (e2 == 0) = false := beq_eq_false_iff_ne.2 he
          have hss : s2 = s := HER.out he
          subst hss
          have HTN2 := Lib.hid (HTN.out he)
          obtain ⟨i0, hi, hz0, hz1, hz2⟩ := info_parts infoRec
          have HI := Lib.hid hi
          have HZ0 := Lib.hid hz0
          have HZ1 := Lib.hid hz1
          have HZ2 := Lib.hid hz2
          clear hi hz0 hz1 hz2
          have q0 := HQ.out v7 HB7.out 0 _ rfl
          have q1 := HQ.out v7 HB7.out 1 _ rfl
          have q2 := HQ.out v7 HB7.out 2 _ rfl
          have q3 := HQ.out v7 HB7.out 3 _ rfl
          have q4 := HQ.out v7 HB7.out 4 _ rfl
          have q5 := HQ.out v7 HB7.out 5 _ rfl
          have q6 := HQ.out v7 HB7.out 6 _ rfl
          have q7 := HQ.out v7 HB7.out 7 _ rfl
          simp only [Nat.add_zero, ← Nat.add_assoc] at q0 q1 q2 q3 q4 q5 q6 q7
          have hb7 : b < v7.heap.size := Nat.lt_of_lt_of_le hbl HB7.out.size
          have HLA := Lib.hid (fun (W : World) (h : ChairAt W g bm lv6 c6 s2) => log_any g bm c6 lv6 s2 (by omega) W h)
          go_wp2_with fail
          refine start_ (n := 14) (S := fun w' => Below v7.heap.size v7 w' ∧ ∀ b o, b < v7.heap.size → w'.cell? ⟨b, o, none⟩ = v7.cell? ⟨b, o, none⟩) (ds := []) #[false, false, false, false, false, false, false, false, false, false, false, false, false, false] (by kernel_rfl) rfl rfl ⟨(still_drew v7).1, (still_drew v7).2⟩ (fun hHeld => ?_)
          generalize v7.drew = wD at hHeld ⊢
          refine pure_ (i := 0) (N := some 75) (v := ?_) (a' := ?_) #[true, false, false, false, false, false, false, false, false, false, false, false, false, false] rfl rfl (by kernel_rfl) (fun _ _ _ h => h) (Or.inl ⟨by rfl, ?_⟩) ?_ ?_
          rotate_left
          · intro w'
            go_simp
            with_reducible rfl
          rotate_left
          · simp only [Act.put, List.setIfInBounds_toArray, List.set_cons_zero, List.set_cons_succ, i64_w, i32_w]
            rfl
          refine pure_ (i := 2) (N := some 77) (v := ?_) (a' := ?_) #[true, false, true, false, false, false, false, false, false, false, false, false, false, false] rfl rfl (by kernel_rfl) (fun _ _ _ h => h) (Or.inl ⟨by rfl, ?_⟩) ?_ ?_
          rotate_left
          · intro w'
            go_simp
            with_reducible rfl
          rotate_left
          · simp only [Act.put, List.setIfInBounds_toArray, List.set_cons_zero, List.set_cons_succ, i64_w, i32_w]
            rfl
          refine pure_ (i := 3) (N := some 78) (v := ?_) (a' := ?_) #[true, false, true, true, false, false, false, false, false, false, false, false, false, false] rfl rfl (by kernel_rfl) (fun _ _ _ h => h) (Or.inl ⟨by rfl, ?_⟩) ?_ ?_
          rotate_left
          · intro w'
            go_simp
            with_reducible rfl
          rotate_left
          · simp only [Act.put, List.setIfInBounds_toArray, List.set_cons_zero, List.set_cons_succ, i64_w, i32_w]
            rfl
          refine pure_ (i := 4) (N := some 79) (v := ?_) (a' := ?_) #[true, false, true, true, true, false, false, false, false, false, false, false, false, false] rfl rfl (by kernel_rfl) (fun _ _ _ h => h) (Or.inl ⟨by rfl, ?_⟩) ?_ ?_
          rotate_left
          · intro w'
            go_simp
            with_reducible rfl
          rotate_left
          · simp only [Act.put, List.setIfInBounds_toArray, List.set_cons_zero, List.set_cons_succ, i64_w, i32_w]
            rfl
          refine take_ (i := 5) (N := some 80) (v := ?_) (a' := ?_) #[true, false, true, true, true, true, false, false, false, false, false, false, false, false] rfl rfl (by kernel_rfl) (fun _ _ _ h => h) (Or.inl ⟨by rfl, ?_⟩) hHeld ?_ ?_
          rotate_left
          · rintro w' ⟨s0, s1⟩
            go_simp
            with_reducible rfl
          rotate_left
          · simp only [Act.put, List.setIfInBounds_toArray, List.set_cons_zero, List.set_cons_succ, i64_w, i32_w]
            rfl
          refine join_ (σ := Value × Nat) 7 #[true, true, true, true, true, true, true, false, false, false, false, false, false, false] (fun q => [(76, q.1), (81, .slice (some ⟨q.2, 0, none⟩) 1 1)]) (fun q w' => (Below v7.heap.size v7 w' ∧ ∀ b o, b < v7.heap.size → w'.cell? ⟨b, o, none⟩ = v7.cell? ⟨b, o, none⟩) ∧ w'.ownsRow v7.heap.size 33 8 q.1 s2.log.length (rcl s2.log) ∧ Zero w' v7.heap.size q.2 (rec1 ⟨kd, tx, n, ep, vt, now, sp, cp⟩)) ?_ ?_
          rotate_left
          · intro hCont
            refine two_ (i := 1) (j := 6) (Ni := some 76) (Nj := some 81) #[true, true, true, true, true, true, false, false, false, false, false, false, false, false] #[true, false, true, true, true, true, true, false, false, false, false, false, false, false] rfl rfl rfl rfl (by kernel_rfl) (by decide) (by decide) (fun K hK => ?_) (fun K hK => ?_)
            · skip
              refine goes_ Try.func19 (by kernel_rfl) rfl #[.pointer (some ⟨g, 0, none⟩)] (by rfl) rfl rfl (by simp only [List.map_toArray, List.map_cons, List.map_nil]; rfl) ?_
              refine (HLA.out _ (HC7.out.below hHeld.1)).mono ?_
              rintro r w4 ⟨v, rfl, hrow0, hb⟩
              refine ⟨_, rfl, ?_⟩
              have hrow := row_mono hrow0 hHeld.1.size
              refine hK.out _ _ ⟨(still_keep hHeld hb).1, (still_keep hHeld hb).2⟩ (fun hHeld => ?_)
              clear hK K
              refine norm_ (a' := ?_) ?_ ?_
              rotate_left
              · show Act.put _ (some 76) _ = _
                simp only [Act.put, List.setIfInBounds_toArray, List.set_cons_zero, List.set_cons_succ, i64_w, i32_w]
                rfl
              refine one_ (i := 6) (N := some 81) #[true, true, true, true, true, true, true, false, false, false, false, false, false, false] rfl rfl (by kernel_rfl) (by decide) (fun K hK => ?_)
              refine value_ (w1 := ?_) (v := ?_) (by rfl) rfl ?_ ?_
              rotate_left 2
              · go_simp
                constructor
                · rfl
                · rfl
              generalize hga : World.alloc _ _ = wA
              have hbA := (alloc_facts hga).1
              have hZ := zero_alloc (B := v7.heap.size) hga hHeld.1.size
              clear hga
              have hrow := row_below hrow hbA
              refine hK.out _ _ ⟨(still_keep hHeld hbA).1, (still_keep hHeld hbA).2⟩ (fun hHeld => ?_)
              clear hK K
              refine norm_ (a' := ?_) ?_ ?_
              rotate_left
              · show Act.put _ (some 81) _ = _
                simp only [Act.put, List.setIfInBounds_toArray, List.set_cons_zero, List.set_cons_succ, i64_w, i32_w]
                rfl
              exact norm_ (by simp only [putAll, Act.put, List.setIfInBounds_toArray, List.set_cons_zero, List.set_cons_succ]) (hCont (v, (World.heap _).size) _ ⟨hHeld, hrow, hZ⟩)
            · skip
              refine value_ (w1 := ?_) (v := ?_) (by rfl) rfl ?_ ?_
              rotate_left 2
              · go_simp
                constructor
                · rfl
                · rfl
              generalize hga : World.alloc _ _ = wA
              have hbA := (alloc_facts hga).1
              have hZ := zero_alloc (B := v7.heap.size) hga hHeld.1.size
              clear hga
              refine hK.out _ _ ⟨(still_keep hHeld hbA).1, (still_keep hHeld hbA).2⟩ (fun hHeld => ?_)
              clear hK K
              refine norm_ (a' := ?_) ?_ ?_
              rotate_left
              · show Act.put _ (some 81) _ = _
                simp only [Act.put, List.setIfInBounds_toArray, List.set_cons_zero, List.set_cons_succ, i64_w, i32_w]
                rfl
              refine one_ (i := 1) (N := some 76) #[true, true, true, true, true, true, true, false, false, false, false, false, false, false] rfl rfl (by kernel_rfl) (by decide) (fun K hK => ?_)
              refine goes_ Try.func19 (by kernel_rfl) rfl #[.pointer (some ⟨g, 0, none⟩)] (by rfl) rfl rfl (by simp only [List.map_toArray, List.map_cons, List.map_nil]; rfl) ?_
              refine (HLA.out _ (HC7.out.below hHeld.1)).mono ?_
              rintro r w4 ⟨v, rfl, hrow0, hb⟩
              refine ⟨_, rfl, ?_⟩
              have hrow := row_mono hrow0 hHeld.1.size
              have hZ := zero_stay hb hZ
              refine hK.out _ _ ⟨(still_keep hHeld hb).1, (still_keep hHeld hb).2⟩ (fun hHeld => ?_)
              clear hK K
              refine norm_ (a' := ?_) ?_ ?_
              rotate_left
              · show Act.put _ (some 76) _ = _
                simp only [Act.put, List.setIfInBounds_toArray, List.set_cons_zero, List.set_cons_succ, i64_w, i32_w]
                rfl
              exact norm_ (by simp only [putAll, Act.put, List.setIfInBounds_toArray, List.set_cons_zero, List.set_cons_succ]) (hCont (v, (World.heap _).size) _ ⟨hHeld, hrow, hZ⟩)
          rintro ⟨v, g4⟩ w5 ⟨hHeld, hrow, hZ⟩
          refine norm_ (a' := ?_) ?_ ?_
          rotate_left
          · simp only [putAll, Act.put, List.setIfInBounds_toArray, List.set_cons_zero, List.set_cons_succ]
            rfl
          refine one_ (i := 7) (N := some 82) #[true, true, true, true, true, true, true, true, false, false, false, false, false, false] rfl rfl (by kernel_rfl) (by decide) (fun K hK => ?_)
          refine append_rowL_ (by rfl) rfl (.tmp 76) (.tmp 81) 53 rfl v7.heap.size 33 i0 _ 8 64 Try.underlying53 HI.out HZ0.out HZ1.out HZ2.out rfl (by decide) v s2.log.length (rcl s2.log) (by rfl) hrow ⟨g4, 0, none⟩ 1 1 (rec1 ⟨kd, tx, n, ep, vt, now, sp, cp⟩) (by rfl) rfl (fun j u hu => zero_news hZ j u hu) (rec1_one _) (by unfold maxLen; omega) (by omega) hHeld.1.size ?_
          intro v8 w8 hob8 hg8 hloc8
          have hb8 := hHeld.1.grown hg8 hHeld.1.size (fun j hj => (hrow.lt j hj).1)
          have HOB8 : Hid (w8.ownsRow v7.heap.size 33 8 v8 (s2.log.length + 1) (rcl (s2.log ++ [⟨kd, tx, n, ep, vt, now, sp, cp⟩]))) := Lib.hid (by rw [rcl_append]; simpa [rcl] using hob8)
          clear hob8 hg8 hloc8 hrow hZ
          refine hK.out _ _ ⟨hb8, (fun b o h => hb8.cell (p := ⟨b, o, none⟩) h)⟩ (fun hHeld => ?_)
          clear hK K
          refine norm_ (a' := ?_) ?_ ?_
          rotate_left
          · show Act.put _ (some 82) _ = _
            simp only [Act.put, List.setIfInBounds_toArray, List.set_cons_zero, List.set_cons_succ, i64_w, i32_w]
            rfl
          refine one_ (i := 8) (N := some 83) #[true, true, true, true, true, true, true, true, true, false, false, false, false, false] rfl rfl (by kernel_rfl) (by decide) (fun K hK => ?_)
          refine goes_ Try.func22 (by kernel_rfl) rfl #[v8] (by rfl) rfl rfl (by simp only [List.map_toArray, List.map_cons, List.map_nil]; rfl) ?_
          refine (replay_none w8 _ v8 _ _ (by simp) (by simp; omega) (fun x hx => (List.mem_append.1 hx).elim (HLO.out x) (fun h => by rw [List.mem_singleton] at h; subst h; exact ⟨w0, w255⟩)) HOB8.out HTN2.out).mono ?_
          rintro r w9 ⟨rfl, hb⟩
          refine ⟨_, rfl, ?_⟩
          refine hK.out _ _ ⟨(still_keep hHeld hb).1, (still_keep hHeld hb).2⟩ (fun hHeld => ?_)
          clear hK K
          refine norm_ (a' := ?_) ?_ ?_
          rotate_left
          · show Act.put _ (some 83) _ = _
            simp only [Act.put, List.setIfInBounds_toArray, List.set_cons_zero, List.set_cons_succ, i64_w, i32_w]
            rfl
          refine pure_ (i := 9) (N := some 74) (v := ?_) (a' := ?_) #[true, true, true, true, true, true, true, true, true, true, false, false, false, false] rfl rfl (by kernel_rfl) (fun _ _ _ h => h) (Or.inl ⟨by rfl, ?_⟩) ?_ ?_
          rotate_left
          · intro w'
            go_simp
            with_reducible rfl
          rotate_left
          · simp only [Act.put, List.setIfInBounds_toArray, List.set_cons_zero, List.set_cons_succ, i64_w, i32_w]
            rfl
          refine pure_ (i := 10) (N := some 84) (v := ?_) (a' := ?_) #[true, true, true, true, true, true, true, true, true, true, true, false, false, false] rfl rfl (by kernel_rfl) (fun _ _ _ h => h) (Or.inl ⟨by rfl, ?_⟩) ?_ ?_
          rotate_left
          · intro w'
            go_simp
            with_reducible rfl
          rotate_left
          · simp only [Act.put, List.setIfInBounds_toArray, List.set_cons_zero, List.set_cons_succ, i64_w, i32_w]
            rfl
          refine pure_ (i := 11) (N := some 85) (v := ?_) (a' := ?_) #[true, true, true, true, true, true, true, true, true, true, true, true, false, false] rfl rfl (by kernel_rfl) (fun _ _ _ h => h) (Or.inl ⟨by rfl, ?_⟩) ?_ ?_
          rotate_left
          · intro w'
            go_simp
            with_reducible rfl
          rotate_left
          · simp only [Act.put, List.setIfInBounds_toArray, List.set_cons_zero, List.set_cons_succ, i64_w, i32_w]
            rfl
          refine pure_ (i := 12) (N := some 13) (v := ?_) (a' := ?_) #[true, true, true, true, true, true, true, true, true, true, true, true, true, false] rfl rfl (by kernel_rfl) (fun _ _ _ h => h) (Or.inl ⟨by rfl, ?_⟩) ?_ ?_
          rotate_left
          · intro w'
            go_simp
            with_reducible rfl
          rotate_left
          · simp only [Act.put, List.setIfInBounds_toArray, List.set_cons_zero, List.set_cons_succ, i64_w, i32_w]
            rfl
          refine pure_ (i := 13) (N := some 14) (v := ?_) (a' := ?_) #[true, true, true, true, true, true, true, true, true, true, true, true, true, true] rfl rfl (by kernel_rfl) (fun _ _ _ h => h) (Or.inl ⟨by rfl, ?_⟩) ?_ ?_
          rotate_left
          · intro w'
            go_simp
            with_reducible rfl
          rotate_left
          · simp only [Act.put, List.setIfInBounds_toArray, List.set_cons_zero, List.set_cons_succ, i64_w, i32_w]
            rfl
          refine done_ (by kernel_rfl) ?_

          have hsz := hHeld.1.size
          go_wp2_with fail
          exact ⟨⟨k + 1, s2, lv6, lv7, c6, c7, by omega, by omega, by go_num, by omega, HT.out, HLO.out, HC7.out.below hHeld.1, HD7.out.below hHeld.1, HT7.out, HB7.out.trans (hHeld.1.mono HB7.out.size)⟩, by simp [intOf]; omega⟩
end Go.Proofs.Ytdlfjbllmmkmkaa.LChairAgain
