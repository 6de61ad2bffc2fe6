/- Values come back from their bytes, and bytes from their values, and no beginning of these tells values of that shape: for every shape, all values and all bytes the statement's call returns true. -/
import Derived.Test.YtpacapcloggbkaaDoorCodeUse
namespace Go.Proofs.YtpacapcloggbkaaDoor.LCodeBack
open Go.RowKit CodeSpec Flat CodeMem
set_option linter.unusedSimpArgs false
set_option linter.unusedVariables false

/-- A beginning tells nothing. -/
theorem cut_err {sh : List UInt8} {vs : List V} {o : List UInt8} (h : enc sh vs = (o, 0)) (m : Nat) (hm : m < o.length) : dec sh (o.take m) = ([], 4) := by
  obtain ⟨hs, he, _⟩ := enc_ok.mp h
  rcases dec_err sh (o.take m) with ⟨us, hd⟩ | ⟨hd, hs'⟩ | ⟨hd, _⟩
  · obtain ⟨_, hp, _⟩ := dec_ok.mp hd
    obtain ⟨o', ho', hb⟩ := enc_parse _ _ _ _ hp
    rw [List.append_nil] at hb
    subst hb
    have h1 := parse_enc sh us (o.take m) (o.drop m) ho'
    rw [List.take_append_drop] at h1
    have h2 := parse_enc sh vs o [] he
    rw [List.append_nil] at h2
    rw [h1] at h2
    have h3 := congrArg Prod.snd (Option.some.inj h2)
    have h4 := congrArg List.length h3
    rw [List.length_drop] at h4
    simp only [List.length_nil] at h4
    omega
  · rw [hs] at hs'; cases hs'
  · exact hd
theorem pair_of {α β : Type} {p : α × β} {b : β} (h : p.2 = b) : p = (p.1, b) := by rw [← h]

set_option maxRecDepth 100000 in
set_option maxHeartbeats 4000000 in
theorem walk (a0 : ByteArray) (a1 : Option Addr) (len1 cap1 : Nat) (r1 : List (List Value)) (a2 : Option Addr) (len2 cap2 : Nat) (r2 : List (List Value)) (w : World) (w0 : a0.size ≤ maxLen) (w1 : IsRows [.int .u64, .str] w a1 len1 cap1 r1) (w2 : IsRows [.int .u8] w a2 len2 cap2 r2) :
    Calls Tryd.prog 6 #[.string a0, .slice a1 len1 cap1, .slice a2 len2 cap2] w fun e w' => e = .returned (.bool true) ∧ Below w.heap.size w w' := by
  obtain ⟨vs, hvl, hv⟩ := rows_vals w1
  obtain ⟨l, rfl, hlc, hcm, hib⟩ := rows_bytes w2
  have hs := w0
  have hcm' := hcm
  unfold maxLen at hs hcm'
  clear hvl w1 w2
  generalize Value.slice a1 len1 cap1 = V at *
  by_cases h110 : 110 < a0.size
  · have hI : (110 : Int) < (a0.size : Int) := by omega
    go_enter Tryd.func6, Tryd.ntmps6
    go_wp2_with fail
    refine (alive_any _).mono ?_
    rintro e v1 ⟨rfl, hb1⟩
    go_wp2_with fail
    go_ret
    exact ⟨rfl, hb1⟩
  · have hI : ¬ (110 : Int) < (a0.size : Int) := by omega
    go_enter Tryd.func6, Tryd.ntmps6
    go_wp2_with fail
    refine (alive_any _).mono ?_
    rintro e v1 ⟨rfl, hb1⟩
    have hv1 := vals_below hv hb1
    go_wp2_with fail
    refine (few_any V vs v1 hv1).mono ?_
    rintro e v2 ⟨b, rfl, hfew, hb2⟩
    have hB2 : Below w.heap.size w v2 := hb1.trans (hb2.mono hb1.size)
    have hv2 := vals_below hv1 hb2
    clear hv1 hb1 hb2
    cases b with
    | false =>
      clear hfew
      go_wp2_with fail
      go_ret
      exact ⟨rfl, hB2⟩
    | true =>
      have hl := hfew rfl
      clear hfew
      by_cases h5 : 5000 < l.length
      · have hI5 : (5000 : Int) < (l.length : Int) := by omega
        go_wp2_with fail
        go_ret
        exact ⟨rfl, hB2⟩
      · have hI5 : ¬ (5000 : Int) < (l.length : Int) := by omega
        have hib2 := isB_up hib hB2
        clear hib
        go_wp2_with fail
        refine (theirs_use V vs v2 hv2 (by omega)).mono ?_
        rintro e v3 ⟨u, rfl, hu, hb3⟩
        have hv3 := vals_below hv2 hb3
        go_wp2_with fail
        refine (encode_use a0 u vs v3 w0 hu).mono ?_
        have HCUT := @cut_err a0.data.toList vs
        have HDEC := @dec_enc a0.data.toList vs
        generalize enc a0.data.toList vs = T at *
        obtain ⟨out, er⟩ := T
        rintro e v4 ⟨ac, capc, rfl, hc1, hc2, hi4, hb4⟩
        dsimp only at hc1 hc2 hi4
        have hB4 : Below v2.heap.size v2 v4 := hb3.trans (hb4.mono hb3.size)
        have hv4 := vals_below hv3 hb4
        have hc2' := hc2
        unfold maxLen at hc2'
        clear hv3 hb4 hu hv hv2 hb3
        go_upto_if 40 with (fail)
        go_cut [40] (fun _ wx => Below v2.heap.size v2 wx)
        case first =>
          by_cases h0 : er = 0
          · subst h0
            have hD := HDEC rfl
            go_wp2_with fail
            refine (decode_use a0 ac out capc v4 w0 hi4 hc1 hc2).mono ?_
            rw [hD]
            rintro e v5 ⟨u5, rfl, hu5, hl5, hb5⟩
            dsimp only at hu5 hl5
            have hB5 : Below v2.heap.size v2 v5 := hB4.trans (hb5.mono hB4.size)
            have hv5 := vals_below hv4 hb5
            have hi5 := isB_up hi4 hb5
            clear hv4 hi4 hD hB4
            go_wp2_with fail
            refine (ours_use u5 vs v5 hu5 (by omega)).mono ?_
            rintro e v6 ⟨u6, rfl, hu6, hb6⟩
            have hB6 : Below v2.heap.size v2 v6 := hB5.trans (hb6.mono hB5.size)
            have hv6 := vals_below hv5 hb6
            have hi6 := isB_up hi5 hb6
            clear hv5 hi5 hB5 hu5
            go_wp2_with fail
            refine (same_any u6 V vs v6 hu6 hv6).mono ?_
            rintro e v7 ⟨rfl, hb7⟩
            have hB7 : Below v2.heap.size v2 v7 := hB6.trans (hb7.mono hB6.size)
            have hi7 := isB_up hi6 hb7
            clear hv6 hi6 hu6 hB6
            by_cases hpos : 0 < out.length
            · have hpI : (0 : Int) < (out.length : Int) := by omega
              have hC := HCUT rfl (out.length - 1) (by omega)
              have hlt : (out.take (out.length - 1)).length = out.length - 1 := by rw [List.length_take]; omega
              have hd := decode_use a0 ac (out.take (out.length - 1)) capc v7 w0 (hi7.take _) (by omega) hc2
              rw [hC, hlt] at hd
              clear hC hlt HCUT HDEC
              go_wp2_with fail
              refine hd.mono ?_
              rintro e v8 ⟨u8, rfl, _, _, hb8⟩
              go_wp2_with fail
              go_meet
              exact hB7.trans (hb8.mono hB7.size)
            · have hpI : ¬ (0 : Int) < (out.length : Int) := by omega
              go_wp2_with fail
              go_meet
              exact hB7
          · have h0b : (er == 0) = false := by simpa using h0
            clear h0
            go_wp2_with fail
            go_meet
            exact hB4
        case rest =>
          obtain ⟨wi, h_wi⟩ : ∃ v : World, v = wc := ⟨_, rfl⟩; subst h_wi
          have hB9 : Below w.heap.size w wi := hB2.trans (hcut.mono hB2.size)
          have hi9 := isB_up hib2 hcut
          clear hib2 hcut hB2 hB4 hi4 hv4 HCUT HDEC
          go_wp2_with fail
          refine (decode_use a0 a2 l cap2 wi w0 hi9 hlc hcm).mono ?_
          have HENC := @enc_dec a0.data.toList l
          generalize dec a0.data.toList l = T at *
          obtain ⟨us, er2⟩ := T
          rintro e v5 ⟨u5, rfl, hu5, hl5, hb5⟩
          dsimp only at hu5 hl5
          have hB5 : Below w.heap.size w v5 := hB9.trans (hb5.mono hB9.size)
          have hi5 := isB_up hi9 hb5
          clear hi9 hB9
          by_cases h0 : er2 = 0
          · subst h0
            have hE := HENC rfl
            clear HENC
            go_wp2_with fail
            refine (encode_use a0 u5 us v5 w0 hu5).mono ?_
            rw [hE]
            rintro e v6 ⟨ac6, cap6, rfl, _, _, hi6, hb6⟩
            dsimp only at hi6
            have kc1 := conv_bytes cap6 hi6 9 Tryd.underlying9
            have kc2 := conv_bytes cap2 (isB_up hi5 hb6) 9 Tryd.underlying9
            clear hi6 hi5 hE hu5
            go_wp2_with fail
            go_ret
            exact ⟨rfl, hB5.trans (hb6.mono hB5.size)⟩
          · have h0b : (er2 == 0) = false := by simpa using h0
            clear h0 HENC
            go_wp2_with fail
            go_ret
            exact ⟨rfl, hB5⟩
end Go.Proofs.YtpacapcloggbkaaDoor.LCodeBack
