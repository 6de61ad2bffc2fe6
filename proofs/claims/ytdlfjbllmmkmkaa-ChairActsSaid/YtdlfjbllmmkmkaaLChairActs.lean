/- ChairActs: behind each call a chair has the document's deals and log, and has answered as the document says. -/
import Derived.Test.YtdlfjbllmmkmkaaRBoth
import Derived.Test.YtdlfjbllmmkmkaaRSame
import Derived.Test.YtdlfjbllmmkmkaaChairAlive
namespace Go.Proofs.Ytdlfjbllmmkmkaa.LChairActs
open Go.RowKit Go.Maps Flat ChairSpec News Chair Go.Proofs.YtdlfjbllmmkmkaaW.PrintLast
set_option linter.unusedSimpArgs false
set_option linter.unusedVariables false
set_option maxRecDepth 100000
theorem both_start {v3 v4 : World} {g bm : Nat} {t : TypeId} (hC : ChairAt v3 g bm (.slice none 0 0) 0 c0) (h : World.alloc v3 (.cells #[.slice none 0 0, .slice none 0 0] t) = v4) : Both v4 g bm v3.heap.size (.slice none 0 0) (.slice none 0 0) (.slice none 0 0) 0 c0 [] [] := by
  obtain ⟨hb, hz, hc⟩ := alloc_facts h
  refine ⟨hC.below hb, ⟨none, 0, rfl, by simp, by simp, fun h => absurd h (by simp)⟩, ⟨none, 0, rfl, by simp, by simp, fun h => absurd h (by simp)⟩, fun j u hu => ?_, ?_, Flat.cell_lt hC.map, ?_, ?_, ?_⟩
  · rw [Nat.zero_add, hc j]
    simpa [chc] using hu
  · rw [← h]; exact there_newN v3 _ _ 2 rfl
  · intro k hk; simp [Value.ownBlock] at hk
  · intro k hk; simp [Value.ownBlock] at hk
  · intro k hk; simp [Value.ownBlock] at hk
def NeQ (v' u' : Value) (q : Nat) (D' : Ds) (L' : List Re) : Prop := (∀ k, v'.ownBlock = some k → 0 < D'.length → k ≠ q) ∧ (∀ k, u'.ownBlock = some k → 0 < L'.length → k ≠ q)
theorem neq_old {W w : World} {dv lm v' u' : Value} {D' : Ds} {L' : List Re} (h : RefOut W w dv lm v' u' D' L') : NeQ v' u' w.heap.size D' L' :=
  ⟨fun k hk hl => Nat.ne_of_lt (h.1.lt k hk hl), fun k hk hl => Nat.ne_of_lt (IsSl.lt h.2.1 k hk hl)⟩
theorem sl_ne {w w3 w4 : World} {dv v' : Value} {n n' c : Nat} {xs xs' : List Value} (hd : IsSl w dv n xs) (hd' : IsSl w4 v' n' xs') (hlo : v' = dv ∨ ∀ k, v'.ownBlock = some k → w3.heap.size ≤ k) (h1 : w.heap.size ≤ c) (h2 : c < w3.heap.size) : ∀ k, v'.ownBlock = some k → 0 < n' → k ≠ c := by
  intro k hk hl
  rcases hlo with rfl | h
  · have := hd.lt k hk
    obtain ⟨a, cap, rfl, _⟩ := hd
    obtain ⟨a', cap', e, _⟩ := hd'
    have e2 : n = n' := by injection e
    have := this (by omega)
    omega
  · have := h k hk
    omega
theorem neq_new {w w3 w4 : World} {dv lm v' u' : Value} {D D' : Ds} {L L' : List Re} {q : Nat} {cs : List Value} (hd : IsDeals w dv D) (hl : IsLog w lm L) (h1 : IsDeals w4 v' D') (h2 : IsLog w4 u' L') (h3 : v' = dv ∨ ∀ k, v'.ownBlock = some k → w3.heap.size ≤ k) (h4 : u' = lm ∨ ∀ k, u'.ownBlock = some k → w3.heap.size ≤ k)
    (hZ : Zero w3 w.heap.size q cs) : NeQ v' u' q D' L' := ⟨sl_ne hd.sl h1.sl h3 hZ.1 hZ.2.1, sl_ne hl h2 h4 hZ.1 hZ.2.1⟩
set_option maxHeartbeats 16000000 in
theorem walk (a0 : Option Addr) (len0 cap0 : Nat) (r0 : List (List Value)) (w : World) (w0 : IsRows [.int .i64, .int .i64, .int .u8, .int .i64, .int .i64, .int .i64, .int .i64, .int .i64] w a0 len0 cap0 r0) :
    Calls Try.prog 3 #[.slice a0 len0 cap0] w fun e w' => e = .returned (.bool true) ∧ Below w.heap.size w w' := by
  obtain ⟨l, rfl, hlc, hcm, hok, hrec⟩ := recs_of w0
  have HREC := Lib.hid hrec
  have HOK := Lib.hid hok
  have hcm' := hcm
  unfold maxLen at hcm'
  clear w0 hok hrec hcm
  go_enter Try.func3, Try.ntmps3
  go_wp2_with fail
  refine (alive_any w).mono ?_
  rintro e v2 ⟨rfl, hb2⟩
  have HB2 := Lib.hid hb2
  clear hb2
  go_wp2_with fail
  refine (chair_new v2).mono ?_
  rintro r v3 ⟨g, bm, rfl, hbm0, hbmg, hgl, h0, h1, hf, ho, hb3⟩
  have HC3 := Lib.hid (chair_made h0 hbmg h1 hf ho)
  have HB3 := Lib.hid (HB2.out.trans (hb3.mono HB2.out.size))
  have hwbm : w.heap.size ≤ bm := Nat.le_trans HB2.out.size hbm0
  clear h0 h1 hf ho hb3 HB2
  go_upto_region 5 with fail
  generalize hv4 : World.alloc v3 _ = v4
  have HBO := Lib.hid (both_start HC3.out hv4)
  have HB4 := Lib.hid (show Below w.heap.size w v4 by rw [← hv4]; exact HB3.out.alloc HB3.out.size _)
  clear hv4 HC3 HB3
  generalize v3.heap.size = gm at *
  go_wp2_with fail
  go_loopw [5] (fun i wr => ∃ k : Nat, k ≤ l.length ∧ k ≤ 120 ∧ i = .int .i64 (k : Int) ∧ (∃ lv dv lm c, Both wr g bm gm lv dv lm c (playC l k) (playR l k).deals (playR l k).log) ∧ Below w.heap.size w wr) (fun i _ => 120 - (intOf i).toNat)
  case atStart => exact ⟨0, by omega, by omega, rfl, ⟨_, _, _, _, HBO.out⟩, HB4.out⟩
  case round =>
    obtain ⟨wo, h_wo⟩ : ∃ v : World, v = wr := ⟨_, rfl⟩; subst h_wo
    obtain ⟨k, hk, hk120, rfl, ⟨lv, dv, lm, c, hC⟩, hB⟩ := hrel
    have HC := Lib.hid hC
    have HB := Lib.hid hB
    clear hC hB HBO HB4
    by_cases hkl : k = l.length
    · have hkI : ¬ (k : Int) < (l.length : Int) := by omega
      go_wp2_with fail
      go_ret
      exact ⟨rfl, HB.out⟩
    · have hkI : (k : Int) < (l.length : Int) := by omega
      by_cases hk2 : k = 120
      · have hkJ : ¬ (k : Int) < 120 := by omega
        go_wp2_with fail
        go_ret
        exact ⟨rfl, HB.out⟩
      · have hkJ : (k : Int) < 120 := by omega
        have hk0 : (0 : Int) ≤ (k : Int) := by omega
        have hlt : k < l.length := by omega
        obtain ⟨b, off, rfl, hbl, hcc⟩ := HREC.out (by omega)
        have HQ := Lib.hid (fun (W : World) (hW : Below w.heap.size w W) (j : Nat) (v : Value) (h : (rec1 l[k])[j]? = some v) => (hW.cell (p := ⟨b, off + (k * 8 + j), none⟩) hbl).trans (hcc k hlt j v h))
        have hro := HOK.out _ (List.getElem_mem hlt)
        have hps := play_succ l k hlt
        have hpr := playR_succ l k hlt
        have hpl := play_len l k
        obtain ⟨ha1, ha2, ha3⟩ := playR_agree l k (by omega)
        have hdl := do_law ha1 ha2 l[k]
        generalize l[k] = r at *
        obtain ⟨kd, tx, who, ep, vt, now, sp, cp⟩ := r
        obtain ⟨w0, w255, wtx⟩ := hro
        dsimp only at w0 w255 wtx
        obtain ⟨n, rfl⟩ : ∃ n : Nat, who = (n : Int) := ⟨who.toNat, by omega⟩
        have hDO := do_any g bm c lv (playC l k) kd tx ep vt now sp cp n (by omega) (by omega) wo HC.out.chair
        have hRO := fun (W : World) (h1 : IsDeals W dv (playR l k).deals) (h2 : IsLog W lm (playR l k).log) => rdo_any dv lm (playR l k).deals (playR l k).log kd tx ep vt now sp cp n (by omega) W h1 h2 (by omega) (by rw [ha2]; omega)
        have hlen := doC_len (playC l k) ⟨kd, tx, n, ep, vt, now, sp, cp⟩
        have hlenD := doR_len (playR l k) ⟨kd, tx, n, ep, vt, now, sp, cp⟩
        change ∀ (W : World) (_ : IsDeals W dv (playR l k).deals) (_ : IsLog W lm (playR l k).log), Calls Try.prog _ _ W fun e w' => ∃ v' u', e = .returned (.tuple #[.agg #[v', u'], .int .i64 (doR (playR l k) ⟨kd, tx, n, ep, vt, now, sp, cp⟩).2.1, .int .i64 (doR (playR l k) ⟨kd, tx, n, ep, vt, now, sp, cp⟩).2.2]) ∧ IsDeals w' v' (doR (playR l k) ⟨kd, tx, n, ep, vt, now, sp, cp⟩).1.deals ∧ IsLog w' u' (doR (playR l k) ⟨kd, tx, n, ep, vt, now, sp, cp⟩).1.log ∧ _ at hRO
        generalize hP : doC (playC l k) ⟨kd, tx, n, ep, vt, now, sp, cp⟩ = P at *
        generalize hR : doR (playR l k) ⟨kd, tx, n, ep, vt, now, sp, cp⟩ = R at *
        obtain ⟨s', N, E⟩ := P
        obtain ⟨⟨D', L'⟩, N', E'⟩ := R
        dsimp only at hdl hps hpr hDO hRO hlen hlenD
        obtain ⟨e1, hag, hlg⟩ := hdl
        obtain ⟨rfl, rfl⟩ : N' = N ∧ E' = E := by simpa using e1
        subst hlg
        have HPS := Lib.hid hps
        have HPR := Lib.hid hpr
        have HDO := Lib.hid hDO
        have HRO := Lib.hid hRO
        have HAG := Lib.hid hag
        have hlen' : s'.log.length ≤ 1000 := by omega
        have hlenD' : D'.length ≤ 1000 := by omega
        clear hP hR hps hpr hDO hRO hag hcc e1 ha1 ha2 hlen hlenD hpl ha3
        have q0 := HQ.out wo HB.out 0 _ rfl
        have q1 := HQ.out wo HB.out 1 _ rfl
        have q2 := HQ.out wo HB.out 2 _ rfl
        have q3 := HQ.out wo HB.out 3 _ rfl
        have q4 := HQ.out wo HB.out 4 _ rfl
        have q5 := HQ.out wo HB.out 5 _ rfl
        have q6 := HQ.out wo HB.out 6 _ rfl
        have q7 := HQ.out wo HB.out 7 _ rfl
        simp only [Nat.add_zero, ← Nat.add_assoc] at q0 q1 q2 q3 q4 q5 q6 q7
        go_wp2_with fail
        refine HDO.out.mono ?_
        rintro e v5 ⟨rfl, hap, lv', c', hC', hloc⟩
        have HC5 := Lib.hid (HC.out.acted hap hC' hloc)
        have HB5 := Lib.hid (HB.out.trans (hap.below HC.out.chair hwbm HB.out.size))
        clear hap hC' hloc HDO HC HB q0 q1 q2 q3 q4 q5 q6 q7
        have q0 := HQ.out v5 HB5.out 0 _ rfl
        have q1 := HQ.out v5 HB5.out 1 _ rfl
        have q2 := HQ.out v5 HB5.out 2 _ rfl
        have q3 := HQ.out v5 HB5.out 3 _ rfl
        have q4 := HQ.out v5 HB5.out 4 _ rfl
        have q5 := HQ.out v5 HB5.out 5 _ rfl
        have q6 := HQ.out v5 HB5.out 6 _ rfl
        have q7 := HQ.out v5 HB5.out 7 _ rfl
        simp only [Nat.add_zero, ← Nat.add_assoc] at q0 q1 q2 q3 q4 q5 q6 q7
        have m0 := HC5.out.mem 0 _ rfl
        have m1 := HC5.out.mem 1 _ rfl
        rw [Nat.zero_add] at m0 m1
        have hgm5 : gm < v5.heap.size := HC5.out.lt
        have hb5 : b < v5.heap.size := Nat.lt_of_lt_of_le hbl HB5.out.size
        go_upto_region 11 with fail
        refine start_ (n := 14) (S := fun w' => Below v5.heap.size v5 w' ∧ ∀ b o, b < v5.heap.size → w'.cell? ⟨b, o, none⟩ = v5.cell? ⟨b, o, none⟩) (ds := []) #[false, false, false, false, false, false, false, false, false, false, false, false, false, false] (by kernel_rfl) rfl rfl ⟨(still_drew v5).1, (still_drew v5).2⟩ (fun hHeld => ?_)
        generalize v5.drew = wD at hHeld ⊢
        refine pure_ (i := 1) (N := some 39) (v := ?_) (a' := ?_) #[false, true, false, false, false, false, false, false, false, false, false, false, false, false] rfl rfl (by kernel_rfl) (fun _ _ _ h => h) (Or.inl ⟨by rfl, ?_⟩) ?_ ?_
        rotate_left
        · intro w'
          go_simp
          with_reducible rfl
        rotate_left
        · simp only [Act.put, List.setIfInBounds_toArray, List.set_cons_zero, List.set_cons_succ, i64_w, i32_w]
          rfl
        refine pure_ (i := 2) (N := some 40) (v := ?_) (a' := ?_) #[false, true, true, false, false, false, false, false, false, false, false, false, false, false] rfl rfl (by kernel_rfl) (fun _ _ _ h => h) (Or.inl ⟨by rfl, ?_⟩) ?_ ?_
        rotate_left
        · intro w'
          go_simp
          with_reducible rfl
        rotate_left
        · simp only [Act.put, List.setIfInBounds_toArray, List.set_cons_zero, List.set_cons_succ, i64_w, i32_w]
          rfl
        refine pure_ (i := 3) (N := some 41) (v := ?_) (a' := ?_) #[false, true, true, true, false, false, false, false, false, false, false, false, false, false] rfl rfl (by kernel_rfl) (fun _ _ _ h => h) (Or.inl ⟨by rfl, ?_⟩) ?_ ?_
        rotate_left
        · intro w'
          go_simp
          with_reducible rfl
        rotate_left
        · simp only [Act.put, List.setIfInBounds_toArray, List.set_cons_zero, List.set_cons_succ, i64_w, i32_w]
          rfl
        refine take_ (i := 0) (N := some 38) (v := ?_) (a' := ?_) #[true, true, true, true, false, false, false, false, false, false, false, false, false, false] rfl rfl (by kernel_rfl) (fun _ _ _ h => h) (Or.inl ⟨by rfl, ?_⟩) hHeld ?_ ?_
        rotate_left
        · rintro w' ⟨s0, s1⟩
          go_simp
          with_reducible rfl
        rotate_left
        · simp only [Act.put, List.setIfInBounds_toArray, List.set_cons_zero, List.set_cons_succ, i64_w, i32_w]
          rfl
        refine take_ (i := 4) (N := some 42) (v := ?_) (a' := ?_) #[true, true, true, true, true, false, false, false, false, false, false, false, false, false] rfl rfl (by kernel_rfl) (fun _ _ _ h => h) (Or.inl ⟨by rfl, ?_⟩) hHeld ?_ ?_
        rotate_left
        · rintro w' ⟨s0, s1⟩
          go_simp
          with_reducible rfl
        rotate_left
        · simp only [Act.put, List.setIfInBounds_toArray, List.set_cons_zero, List.set_cons_succ, i64_w, i32_w]
          rfl
        refine join_ (σ := Value × Value × Nat) 3 #[true, true, true, true, true, true, true, true, true, true, true, false, false, false] (fun q => [(43, .tuple #[.agg #[q.1, q.2.1], .int .i64 N', .int .i64 E']), (37, .tuple #[.agg #[q.1, q.2.1], .int .i64 N', .int .i64 E']), (44, .agg #[q.1, q.2.1]), (45, .int .i64 N'), (46, .int .i64 E'), (8, .pointer (some ⟨q.2.2, 0, none⟩))]) (fun q w' => (Below v5.heap.size v5 w' ∧ ∀ b o, b < v5.heap.size → w'.cell? ⟨b, o, none⟩ = v5.cell? ⟨b, o, none⟩) ∧ RefOut v5 w' dv lm q.1 q.2.1 D' s'.log ∧ Zero w' v5.heap.size q.2.2 (chc (.slice none 0 0) (.slice none 0 0)) ∧ NeQ q.1 q.2.1 q.2.2 D' s'.log) ?_ ?_
        rotate_left
        · intro hCont
          refine two_ (i := 5) (j := 10) (Ni := some 43) (Nj := some 8) #[true, true, true, true, true, true, false, false, false, false, false, false, false, false] #[true, true, true, true, true, false, false, false, false, false, true, false, false, false] rfl rfl rfl rfl (by kernel_rfl) (by decide) (by decide) (fun K hK => ?_) (fun K hK => ?_)
          · skip
            refine goes_ Try.func13 (by kernel_rfl) rfl #[.agg #[dv, lm], .agg #[.int .i64 kd, .int .i64 tx, .int .u8 (n : Int), .int .i64 ep, .int .i64 vt, .int .i64 now, .int .i64 sp, .int .i64 cp]] (by rfl) rfl rfl (by simp only [List.map_toArray, List.map_cons, List.map_nil]; rfl) ?_
            refine (HRO.out _ (HC5.out.deals.below hHeld.1) (IsSl.below HC5.out.log hHeld.1)).mono ?_
            rintro r w4 ⟨v', u', rfl, h1, h2, hb, h3, h4⟩
            refine ⟨_, rfl, ?_⟩
            have hro : RefOut v5 w4 dv lm v' u' D' s'.log := ⟨h1, h2, lo_up h3 hHeld.1.size, lo_up h4 hHeld.1.size⟩
            refine hK.out _ _ ⟨(still_keep hHeld hb).1, (still_keep hHeld hb).2⟩ (fun hHeld => ?_)
            clear hK K
            refine norm_ (a' := ?_) ?_ ?_
            rotate_left
            · show Act.put _ (some 43) _ = _
              simp only [Act.put, List.setIfInBounds_toArray, List.set_cons_zero, List.set_cons_succ, i64_w, i32_w]
              rfl
            refine pure_ (i := 6) (N := some 37) (v := ?_) (a' := ?_) #[true, true, true, true, true, true, true, false, false, false, false, false, false, false] rfl rfl (by kernel_rfl) (fun _ _ _ h => h) (Or.inl ⟨by rfl, ?_⟩) ?_ ?_
            rotate_left
            · intro w'
              go_simp
              with_reducible rfl
            rotate_left
            · simp only [Act.put, List.setIfInBounds_toArray, List.set_cons_zero, List.set_cons_succ, i64_w, i32_w]
              rfl
            refine pure_ (i := 7) (N := some 44) (v := ?_) (a' := ?_) #[true, true, true, true, true, true, true, true, false, false, false, false, false, false] rfl rfl (by kernel_rfl) (fun _ _ _ h => h) (Or.inl ⟨by rfl, ?_⟩) ?_ ?_
            rotate_left
            · intro w'
              go_simp
              with_reducible rfl
            rotate_left
            · simp only [Act.put, List.setIfInBounds_toArray, List.set_cons_zero, List.set_cons_succ, i64_w, i32_w]
              rfl
            refine pure_ (i := 8) (N := some 45) (v := ?_) (a' := ?_) #[true, true, true, true, true, true, true, true, true, false, false, false, false, false] rfl rfl (by kernel_rfl) (fun _ _ _ h => h) (Or.inl ⟨by rfl, ?_⟩) ?_ ?_
            rotate_left
            · intro w'
              go_simp
              with_reducible rfl
            rotate_left
            · simp only [Act.put, List.setIfInBounds_toArray, List.set_cons_zero, List.set_cons_succ, i64_w, i32_w]
              rfl
            refine pure_ (i := 9) (N := some 46) (v := ?_) (a' := ?_) #[true, true, true, true, true, true, true, true, true, true, false, false, false, false] rfl rfl (by kernel_rfl) (fun _ _ _ h => h) (Or.inl ⟨by rfl, ?_⟩) ?_ ?_
            rotate_left
            · intro w'
              go_simp
              with_reducible rfl
            rotate_left
            · simp only [Act.put, List.setIfInBounds_toArray, List.set_cons_zero, List.set_cons_succ, i64_w, i32_w]
              rfl
            refine one_ (i := 10) (N := some 8) #[true, true, true, true, true, true, true, true, true, true, true, false, false, false] rfl rfl (by kernel_rfl) (by decide) (fun K hK => ?_)
            refine value_ (w1 := ?_) (v := ?_) (by rfl) rfl ?_ ?_
            rotate_left 2
            · go_simp
              constructor
              · rfl
              · rfl
            generalize hga : World.alloc _ _ = wA
            have hbA := (alloc_facts hga).1
            have hZ := zero_alloc (B := v5.heap.size) hga hHeld.1.size
            clear hga
            have hne := neq_old hro
            have hro := RefOut.below hro hbA
            refine hK.out _ _ ⟨(still_keep hHeld hbA).1, (still_keep hHeld hbA).2⟩ (fun hHeld => ?_)
            clear hK K
            refine norm_ (a' := ?_) ?_ ?_
            rotate_left
            · show Act.put _ (some 8) _ = _
              simp only [Act.put, List.setIfInBounds_toArray, List.set_cons_zero, List.set_cons_succ, i64_w, i32_w]
              rfl
            exact norm_ (by simp only [putAll, Act.put, List.setIfInBounds_toArray, List.set_cons_zero, List.set_cons_succ]) (hCont (v', u', (World.heap _).size) _ ⟨hHeld, hro, hZ, hne⟩)
          · skip
            refine value_ (w1 := ?_) (v := ?_) (by rfl) rfl ?_ ?_
            rotate_left 2
            · go_simp
              constructor
              · rfl
              · rfl
            generalize hga : World.alloc _ _ = wA
            have hbA := (alloc_facts hga).1
            have hZ := zero_alloc (B := v5.heap.size) hga hHeld.1.size
            clear hga
            refine hK.out _ _ ⟨(still_keep hHeld hbA).1, (still_keep hHeld hbA).2⟩ (fun hHeld => ?_)
            clear hK K
            refine norm_ (a' := ?_) ?_ ?_
            rotate_left
            · show Act.put _ (some 8) _ = _
              simp only [Act.put, List.setIfInBounds_toArray, List.set_cons_zero, List.set_cons_succ, i64_w, i32_w]
              rfl
            refine one_ (i := 5) (N := some 43) #[true, true, true, true, true, true, false, false, false, false, true, false, false, false] rfl rfl (by kernel_rfl) (by decide) (fun K hK => ?_)
            refine goes_ Try.func13 (by kernel_rfl) rfl #[.agg #[dv, lm], .agg #[.int .i64 kd, .int .i64 tx, .int .u8 (n : Int), .int .i64 ep, .int .i64 vt, .int .i64 now, .int .i64 sp, .int .i64 cp]] (by rfl) rfl rfl (by simp only [List.map_toArray, List.map_cons, List.map_nil]; rfl) ?_
            refine (HRO.out _ (HC5.out.deals.below hHeld.1) (IsSl.below HC5.out.log hHeld.1)).mono ?_
            rintro r w4 ⟨v', u', rfl, h1, h2, hb, h3, h4⟩
            refine ⟨_, rfl, ?_⟩
            have hro : RefOut v5 w4 dv lm v' u' D' s'.log := ⟨h1, h2, lo_up h3 hHeld.1.size, lo_up h4 hHeld.1.size⟩
            have hne := neq_new HC5.out.deals HC5.out.log h1 h2 h3 h4 hZ
            have hZ := zero_stay hb hZ
            refine hK.out _ _ ⟨(still_keep hHeld hb).1, (still_keep hHeld hb).2⟩ (fun hHeld => ?_)
            clear hK K
            refine norm_ (a' := ?_) ?_ ?_
            rotate_left
            · show Act.put _ (some 43) _ = _
              simp only [Act.put, List.setIfInBounds_toArray, List.set_cons_zero, List.set_cons_succ, i64_w, i32_w]
              rfl
            refine pure_ (i := 6) (N := some 37) (v := ?_) (a' := ?_) #[true, true, true, true, true, true, true, false, false, false, true, false, false, false] rfl rfl (by kernel_rfl) (fun _ _ _ h => h) (Or.inl ⟨by rfl, ?_⟩) ?_ ?_
            rotate_left
            · intro w'
              go_simp
              with_reducible rfl
            rotate_left
            · simp only [Act.put, List.setIfInBounds_toArray, List.set_cons_zero, List.set_cons_succ, i64_w, i32_w]
              rfl
            refine pure_ (i := 7) (N := some 44) (v := ?_) (a' := ?_) #[true, true, true, true, true, true, true, true, false, false, true, false, false, false] rfl rfl (by kernel_rfl) (fun _ _ _ h => h) (Or.inl ⟨by rfl, ?_⟩) ?_ ?_
            rotate_left
            · intro w'
              go_simp
              with_reducible rfl
            rotate_left
            · simp only [Act.put, List.setIfInBounds_toArray, List.set_cons_zero, List.set_cons_succ, i64_w, i32_w]
              rfl
            refine pure_ (i := 8) (N := some 45) (v := ?_) (a' := ?_) #[true, true, true, true, true, true, true, true, true, false, true, false, false, false] rfl rfl (by kernel_rfl) (fun _ _ _ h => h) (Or.inl ⟨by rfl, ?_⟩) ?_ ?_
            rotate_left
            · intro w'
              go_simp
              with_reducible rfl
            rotate_left
            · simp only [Act.put, List.setIfInBounds_toArray, List.set_cons_zero, List.set_cons_succ, i64_w, i32_w]
              rfl
            refine pure_ (i := 9) (N := some 46) (v := ?_) (a' := ?_) #[true, true, true, true, true, true, true, true, true, true, true, false, false, false] rfl rfl (by kernel_rfl) (fun _ _ _ h => h) (Or.inl ⟨by rfl, ?_⟩) ?_ ?_
            rotate_left
            · intro w'
              go_simp
              with_reducible rfl
            rotate_left
            · simp only [Act.put, List.setIfInBounds_toArray, List.set_cons_zero, List.set_cons_succ, i64_w, i32_w]
              rfl
            exact norm_ (by simp only [putAll, Act.put, List.setIfInBounds_toArray, List.set_cons_zero, List.set_cons_succ]) (hCont (v', u', (World.heap _).size) _ ⟨hHeld, hro, hZ, hne⟩)
        rintro ⟨v', u', q⟩ w5 ⟨hHeld, hro, hZ, hne⟩
        refine norm_ (a' := ?_) ?_ ?_
        rotate_left
        · simp only [putAll, Act.put, List.setIfInBounds_toArray, List.set_cons_zero, List.set_cons_succ]
          rfl
        refine one_ (i := 11) (N := none) #[true, true, true, true, true, true, true, true, true, true, true, true, false, false] rfl rfl (by kernel_rfl) (by decide) (fun K hK => ?_)
        refine store_range_ (by rfl) rfl 28 (.tmp 8) (.tmp 44) rfl q 0 (chc v' u').toArray (by rfl) (by rfl) (zero_there hZ rfl) infoRC (all_oneCell_toArray (chc_one hro.1.one (IsSl.one hro.2.1))) ?_
        generalize hw6 : World.setCells w5 _ _ _ = w6
        have hb6 := below_cells _ _ _ hHeld.1 hZ.1 hw6
        refine hK.out _ _ ⟨hb6, (fun b o h => hb6.cell (p := ⟨b, o, none⟩) h)⟩ (fun hHeld => ?_)
        clear hK K
        refine pure_ (i := 12) (N := some 9) (v := ?_) (a' := ?_) #[true, true, true, true, true, true, true, true, true, true, true, true, true, false] rfl rfl (by kernel_rfl) (fun _ _ _ h => h) (Or.inl ⟨by rfl, ?_⟩) ?_ ?_
        rotate_left
        · intro w'
          go_simp
          with_reducible rfl
        rotate_left
        · simp only [Act.put, List.setIfInBounds_toArray, List.set_cons_zero, List.set_cons_succ, i64_w, i32_w]
          rfl
        refine pure_ (i := 13) (N := some 10) (v := ?_) (a' := ?_) #[true, true, true, true, true, true, true, true, true, true, true, true, true, true] rfl rfl (by kernel_rfl) (fun _ _ _ h => h) (Or.inl ⟨by rfl, ?_⟩) ?_ ?_
        rotate_left
        · intro w'
          go_simp
          with_reducible rfl
        rotate_left
        · simp only [Act.put, List.setIfInBounds_toArray, List.set_cons_zero, List.set_cons_succ, i64_w, i32_w]
          rfl
        refine done_ (by kernel_rfl) ?_

        have HR6 := Lib.hid (show RefOut v5 w6 dv lm v' u' D' s'.log from ⟨hro.1.keep hw6 hne.1, IsSl.keep hro.2.1 hw6 hne.2, hro.2.2⟩)
        have HX6 := Lib.hid (show w6.rangeAt q 0 (chc v' u') by rw [← hw6]; exact World.rangeAt_setCells_same _ _ _ _ (zero_there hZ rfl))
        have HB56 := Lib.hid hHeld.1
        have HM6 := Lib.hid (HC5.out.below hHeld.1).mth
        clear hHeld hro hZ hne hw6 q0 q1 q2 q3 q4 q5 q6 q7 m0 m1 HRO
        go_upto_region 13 with (first
          | (refine wpList_load_mid rfl 28 _ rfl q 0 rfl (chc v' u') _ HX6.out Try.underlying28 rfl infoRC ?_)
          | (refine wpList_store_mid rfl 28 _ _ rfl gm 0 (chc v' u').toArray rfl rfl HM6.out infoRC (all_oneCell_toArray (chc_one HR6.out.1.one (IsSl.one HR6.out.2.1))) ?_; generalize hw7 : World.setCells w6 _ _ _ = w7))
        have HC7 := Lib.hid (HC5.out.stored HB56.out HR6.out hw7)
        have HB7 := Lib.hid (show Below w.heap.size w w7 from below_cells _ _ _ (HB5.out.trans (HB56.out.mono HB5.out.size)) (by have := HC5.out.gmg; have := HC5.out.chair.lt; omega) hw7)
        clear hw7 HC5 HB5 HB56 HR6 HX6 HM6
        have q1 := HQ.out w7 HB7.out 1 _ rfl
        simp only [Nat.add_zero, ← Nat.add_assoc] at q1
        have q1' := q1
        have m0' := HC7.out.mem 0 _ rfl
        have m1' := HC7.out.mem 1 _ rfl
        rw [Nat.zero_add] at m0' m1'
        have hgm7 : gm < w7.heap.size := HC7.out.lt
        have hb7 : b < w7.heap.size := Nat.lt_of_lt_of_le hbl HB7.out.size
        cases hp : placeR D' tx with
        | none =>
          have hsd : (s'.deals tx).isSome = false := by rw [HAG.out.look, ← place_isSome, hp]; rfl
          have HDL := Lib.hid (deal_any g bm c' lv' s' tx wtx w7 HC7.out.chair)
          rw [hsd] at HDL
          have HSM := Lib.hid (fun (W : World) (hW : Below w7.heap.size w7 W) => same_any g bm c' lv' s' v' u' D' W (HC7.out.chair.below hW) (HC7.out.deals.below hW) (IsSl.below HC7.out.log hW) HAG.out hlenD' hlen')
          have HFI := Lib.hid (fun (W : World) (hW : Below w7.heap.size w7 W) => rfind_any v' u' D' tx W (HC7.out.deals.below hW))
          rw [findR_none hp] at HFI
          generalize dealOf s' tx = dd at *
          clear hp hsd
          go_wp2_with fail
          refine HDL.out.mono ?_
          rintro e v8 ⟨rfl, hb8⟩
          have HN8 := Lib.hid (fun B hB => there_newN v8 B 44 29 hB)
          have HB78 := Lib.hid hb8
          clear hb8 q1 HDL
          go_upto_region 14 with (refine wpList_store_mid rfl 44 _ _ rfl (v8.heap.size) 0 (dc dd).toArray rfl rfl (HN8.out _ rfl) infoDe (all_oneCell_toArray (dc_one _)) ?_; generalize hw9 : World.setCells _ _ _ _ = w9)
          obtain ⟨hb9, _, _, _⟩ := new_cells (xs := dc dd) (n := 29) rfl rfl (by decide) hw9
          have HB79 := Lib.hid (HB78.out.trans (hb9.mono HB78.out.size))
          clear hw9 hb9 HN8 HB78
          have q1 := (HB79.out.cell (p := ⟨b, off + k * 8 + 1, none⟩) hb7).trans q1'
          have m0 := (HB79.out.cell (p := ⟨gm, 0, none⟩) hgm7).trans m0'
          have m1 := (HB79.out.cell (p := ⟨gm, 1, none⟩) hgm7).trans m1'
          have hb9l : b < w9.heap.size := Nat.lt_of_lt_of_le hb7 HB79.out.size
          have hgm9 : gm < w9.heap.size := Nat.lt_of_lt_of_le hgm7 HB79.out.size
          refine start_ (n := 26) (S := fun w' => Below w9.heap.size w9 w' ∧ (∀ b oo, b < w9.heap.size → w'.cell? ⟨b, oo, none⟩ = w9.cell? ⟨b, oo, none⟩)) (ds := []) #[false, false, false, false, false, false, false, false, false, false, false, false, false, false, false, false, false, false, false, false, false, false, false, false, false, false] (by kernel_rfl) rfl rfl ⟨(still_drew w9).1, (still_drew w9).2⟩ (fun hHeld => ?_)
          refine pure_ (i := 0) (N := some 58) (v := ?_) (a' := ?_) #[true, false, false, false, false, false, false, false, false, false, false, false, false, false, false, false, false, false, false, false, false, false, false, false, false, false] rfl rfl (by kernel_rfl) (fun _ _ _ h => h) (Or.inl ⟨by rfl, ?_⟩) ?_ ?_
          rotate_left
          · intro w'
            go_simp
            with_reducible rfl
          rotate_left
          · simp only [Act.put, List.setIfInBounds_toArray, List.set_cons_zero, List.set_cons_succ, i64_w, i32_w]
            rfl
          refine pure_ (i := 1) (N := some 59) (v := ?_) (a' := ?_) #[true, true, false, false, false, false, false, false, false, false, false, false, false, false, false, false, false, false, false, false, false, false, false, false, false, false] rfl rfl (by kernel_rfl) (fun _ _ _ h => h) (Or.inl ⟨by rfl, ?_⟩) ?_ ?_
          rotate_left
          · intro w'
            go_simp
            with_reducible rfl
          rotate_left
          · simp only [Act.put, List.setIfInBounds_toArray, List.set_cons_zero, List.set_cons_succ, i64_w, i32_w]
            rfl
          refine pure_ (i := 2) (N := some 60) (v := ?_) (a' := ?_) #[true, true, true, false, false, false, false, false, false, false, false, false, false, false, false, false, false, false, false, false, false, false, false, false, false, false] rfl rfl (by kernel_rfl) (fun _ _ _ h => h) (Or.inl ⟨by rfl, ?_⟩) ?_ ?_
          rotate_left
          · intro w'
            go_simp
            with_reducible rfl
          rotate_left
          · simp only [Act.put, List.setIfInBounds_toArray, List.set_cons_zero, List.set_cons_succ, i64_w, i32_w]
            rfl
          refine pure_ (i := 3) (N := some 61) (v := ?_) (a' := ?_) #[true, true, true, true, false, false, false, false, false, false, false, false, false, false, false, false, false, false, false, false, false, false, false, false, false, false] rfl rfl (by kernel_rfl) (fun _ _ _ h => h) (Or.inl ⟨by rfl, ?_⟩) ?_ ?_
          rotate_left
          · intro w'
            go_simp
            with_reducible rfl
          rotate_left
          · simp only [Act.put, List.setIfInBounds_toArray, List.set_cons_zero, List.set_cons_succ, i64_w, i32_w]
            rfl
          refine pure_ (i := 4) (N := some 62) (v := ?_) (a' := ?_) #[true, true, true, true, true, false, false, false, false, false, false, false, false, false, false, false, false, false, false, false, false, false, false, false, false, false] rfl rfl (by kernel_rfl) (fun _ _ _ h => h) (Or.inl ⟨by rfl, ?_⟩) ?_ ?_
          rotate_left
          · intro w'
            go_simp
            with_reducible rfl
          rotate_left
          · simp only [Act.put, List.setIfInBounds_toArray, List.set_cons_zero, List.set_cons_succ, i64_w, i32_w]
            rfl
          refine pure_ (i := 5) (N := some 63) (v := ?_) (a' := ?_) #[true, true, true, true, true, true, false, false, false, false, false, false, false, false, false, false, false, false, false, false, false, false, false, false, false, false] rfl rfl (by kernel_rfl) (fun _ _ _ h => h) (Or.inl ⟨by rfl, ?_⟩) ?_ ?_
          rotate_left
          · intro w'
            go_simp
            with_reducible rfl
          rotate_left
          · simp only [Act.put, List.setIfInBounds_toArray, List.set_cons_zero, List.set_cons_succ, i64_w, i32_w]
            rfl
          refine pure_ (i := 6) (N := some 64) (v := ?_) (a' := ?_) #[true, true, true, true, true, true, true, false, false, false, false, false, false, false, false, false, false, false, false, false, false, false, false, false, false, false] rfl rfl (by kernel_rfl) (fun _ _ _ h => h) (Or.inl ⟨by rfl, ?_⟩) ?_ ?_
          rotate_left
          · intro w'
            go_simp
            with_reducible rfl
          rotate_left
          · simp only [Act.put, List.setIfInBounds_toArray, List.set_cons_zero, List.set_cons_succ, i64_w, i32_w]
            rfl
          refine pure_ (i := 7) (N := some 65) (v := ?_) (a' := ?_) #[true, true, true, true, true, true, true, true, false, false, false, false, false, false, false, false, false, false, false, false, false, false, false, false, false, false] rfl rfl (by kernel_rfl) (fun _ _ _ h => h) (Or.inl ⟨by rfl, ?_⟩) ?_ ?_
          rotate_left
          · intro w'
            go_simp
            with_reducible rfl
          rotate_left
          · simp only [Act.put, List.setIfInBounds_toArray, List.set_cons_zero, List.set_cons_succ, i64_w, i32_w]
            rfl
          refine pure_ (i := 8) (N := some 66) (v := ?_) (a' := ?_) #[true, true, true, true, true, true, true, true, true, false, false, false, false, false, false, false, false, false, false, false, false, false, false, false, false, false] rfl rfl (by kernel_rfl) (fun _ _ _ h => h) (Or.inl ⟨by rfl, ?_⟩) ?_ ?_
          rotate_left
          · intro w'
            go_simp
            with_reducible rfl
          rotate_left
          · simp only [Act.put, List.setIfInBounds_toArray, List.set_cons_zero, List.set_cons_succ, i64_w, i32_w]
            rfl
          refine pure_ (i := 9) (N := some 67) (v := ?_) (a' := ?_) #[true, true, true, true, true, true, true, true, true, true, false, false, false, false, false, false, false, false, false, false, false, false, false, false, false, false] rfl rfl (by kernel_rfl) (fun _ _ _ h => h) (Or.inl ⟨by rfl, ?_⟩) ?_ ?_
          rotate_left
          · intro w'
            go_simp
            with_reducible rfl
          rotate_left
          · simp only [Act.put, List.setIfInBounds_toArray, List.set_cons_zero, List.set_cons_succ, i64_w, i32_w]
            rfl
          refine pure_ (i := 11) (N := some 69) (v := ?_) (a' := ?_) #[true, true, true, true, true, true, true, true, true, true, false, true, false, false, false, false, false, false, false, false, false, false, false, false, false, false] rfl rfl (by kernel_rfl) (fun _ _ _ h => h) (Or.inl ⟨by rfl, ?_⟩) ?_ ?_
          rotate_left
          · intro w'
            go_simp
            with_reducible rfl
          rotate_left
          · simp only [Act.put, List.setIfInBounds_toArray, List.set_cons_zero, List.set_cons_succ, i64_w, i32_w]
            rfl
          refine pure_ (i := 12) (N := some 70) (v := ?_) (a' := ?_) #[true, true, true, true, true, true, true, true, true, true, false, true, true, false, false, false, false, false, false, false, false, false, false, false, false, false] rfl rfl (by kernel_rfl) (fun _ _ _ h => h) (Or.inl ⟨by rfl, ?_⟩) ?_ ?_
          rotate_left
          · intro w'
            go_simp
            with_reducible rfl
          rotate_left
          · simp only [Act.put, List.setIfInBounds_toArray, List.set_cons_zero, List.set_cons_succ, i64_w, i32_w]
            rfl
          refine pure_ (i := 13) (N := some 71) (v := ?_) (a' := ?_) #[true, true, true, true, true, true, true, true, true, true, false, true, true, true, false, false, false, false, false, false, false, false, false, false, false, false] rfl rfl (by kernel_rfl) (fun _ _ _ h => h) (Or.inl ⟨by rfl, ?_⟩) ?_ ?_
          rotate_left
          · intro w'
            go_simp
            with_reducible rfl
          rotate_left
          · simp only [Act.put, List.setIfInBounds_toArray, List.set_cons_zero, List.set_cons_succ, i64_w, i32_w]
            rfl
          refine pure_ (i := 14) (N := some 72) (v := ?_) (a' := ?_) #[true, true, true, true, true, true, true, true, true, true, false, true, true, true, true, false, false, false, false, false, false, false, false, false, false, false] rfl rfl (by kernel_rfl) (fun _ _ _ h => h) (Or.inl ⟨by rfl, ?_⟩) ?_ ?_
          rotate_left
          · intro w'
            go_simp
            with_reducible rfl
          rotate_left
          · simp only [Act.put, List.setIfInBounds_toArray, List.set_cons_zero, List.set_cons_succ, i64_w, i32_w]
            rfl
          refine take_ (i := 10) (N := some 68) (v := ?_) (a' := ?_) #[true, true, true, true, true, true, true, true, true, true, true, true, true, true, true, false, false, false, false, false, false, false, false, false, false, false] rfl rfl (by kernel_rfl) (fun _ _ _ h => h) (Or.inl ⟨by rfl, ?_⟩) hHeld ?_ ?_
          rotate_left
          · rintro w' ⟨s0, s1⟩
            go_simp
            with_reducible rfl
          rotate_left
          · simp only [Act.put, List.setIfInBounds_toArray, List.set_cons_zero, List.set_cons_succ, i64_w, i32_w]
            rfl
          refine take_ (i := 15) (N := some 73) (v := ?_) (a' := ?_) #[true, true, true, true, true, true, true, true, true, true, true, true, true, true, true, true, false, false, false, false, false, false, false, false, false, false] rfl rfl (by kernel_rfl) (fun _ _ _ h => h) (Or.inl ⟨by rfl, ?_⟩) hHeld ?_ ?_
          rotate_left
          · rintro w' ⟨s0, s1⟩
            go_simp
            with_reducible rfl
          rotate_left
          · simp only [Act.put, List.setIfInBounds_toArray, List.set_cons_zero, List.set_cons_succ, i64_w, i32_w]
            rfl
          refine one_ (i := 16) (N := some 74) #[true, true, true, true, true, true, true, true, true, true, true, true, true, true, true, true, true, false, false, false, false, false, false, false, false, false] rfl rfl (by kernel_rfl) (by decide) (fun K hK => ?_)
          refine goes_ Try.func15 (by kernel_rfl) rfl #[.agg #[v', u'], .int .i64 tx] (by rfl) rfl rfl (by simp only [List.map_toArray, List.map_cons, List.map_nil]; rfl) ?_
          refine (HFI.out _ (HB79.out.trans (hHeld.1.mono HB79.out.size))).mono ?_
          rintro e w3 ⟨rfl, hb⟩
          refine ⟨_, rfl, ?_⟩
          refine hK.out _ _ ⟨(still_keep hHeld hb).1, (still_keep hHeld hb).2⟩ (fun hHeld => ?_)
          clear hK K
          refine norm_ (a' := ?_) ?_ ?_
          rotate_left
          · show Act.put _ (some 74) _ = _
            simp only [Act.put, List.setIfInBounds_toArray, List.set_cons_zero, List.set_cons_succ, i64_w, i32_w]
            rfl
          refine pure_ (i := 17) (N := some 75) (v := ?_) (a' := ?_) #[true, true, true, true, true, true, true, true, true, true, true, true, true, true, true, true, true, true, false, false, false, false, false, false, false, false] rfl rfl (by kernel_rfl) (fun _ _ _ h => h) (Or.inl ⟨by rfl, ?_⟩) ?_ ?_
          rotate_left
          · intro w'
            go_simp
            with_reducible rfl
          rotate_left
          · simp only [Act.put, List.setIfInBounds_toArray, List.set_cons_zero, List.set_cons_succ, i64_w, i32_w]
            rfl
          refine pure_ (i := 18) (N := some 76) (v := ?_) (a' := ?_) #[true, true, true, true, true, true, true, true, true, true, true, true, true, true, true, true, true, true, true, false, false, false, false, false, false, false] rfl rfl (by kernel_rfl) (fun _ _ _ h => h) (Or.inl ⟨by rfl, ?_⟩) ?_ ?_
          rotate_left
          · intro w'
            go_simp
            with_reducible rfl
          rotate_left
          · simp only [Act.put, List.setIfInBounds_toArray, List.set_cons_zero, List.set_cons_succ, i64_w, i32_w]
            rfl
          refine pure_ (i := 19) (N := some 77) (v := ?_) (a' := ?_) #[true, true, true, true, true, true, true, true, true, true, true, true, true, true, true, true, true, true, true, true, false, false, false, false, false, false] rfl rfl (by kernel_rfl) (fun _ _ _ h => h) (Or.inl ⟨by rfl, ?_⟩) ?_ ?_
          rotate_left
          · intro w'
            go_simp
            with_reducible rfl
          rotate_left
          · simp only [Act.put, List.setIfInBounds_toArray, List.set_cons_zero, List.set_cons_succ, i64_w, i32_w]
            rfl
          refine pure_ (i := 20) (N := some 78) (v := ?_) (a' := ?_) #[true, true, true, true, true, true, true, true, true, true, true, true, true, true, true, true, true, true, true, true, true, false, false, false, false, false] rfl rfl (by kernel_rfl) (fun _ _ _ h => h) (Or.inl ⟨by rfl, ?_⟩) ?_ ?_
          rotate_left
          · intro w'
            go_simp
            with_reducible rfl
          rotate_left
          · simp only [Act.put, List.setIfInBounds_toArray, List.set_cons_zero, List.set_cons_succ, i64_w, i32_w]
            rfl
          refine pure_ (i := 21) (N := some 79) (v := ?_) (a' := ?_) #[true, true, true, true, true, true, true, true, true, true, true, true, true, true, true, true, true, true, true, true, true, true, false, false, false, false] rfl rfl (by kernel_rfl) (fun _ _ _ h => h) (Or.inl ⟨by rfl, ?_⟩) ?_ ?_
          rotate_left
          · intro w'
            go_simp
            with_reducible rfl
          rotate_left
          · simp only [Act.put, List.setIfInBounds_toArray, List.set_cons_zero, List.set_cons_succ, i64_w, i32_w]
            rfl
          refine take_ (i := 22) (N := some 80) (v := ?_) (a' := ?_) #[true, true, true, true, true, true, true, true, true, true, true, true, true, true, true, true, true, true, true, true, true, true, true, false, false, false] rfl rfl (by kernel_rfl) (fun _ _ _ h => h) (Or.inl ⟨by rfl, ?_⟩) hHeld ?_ ?_
          rotate_left
          · rintro w' ⟨s0, s1⟩
            go_simp
            with_reducible rfl
          rotate_left
          · simp only [Act.put, List.setIfInBounds_toArray, List.set_cons_zero, List.set_cons_succ, i64_w, i32_w]
            rfl
          refine one_ (i := 23) (N := some 81) #[true, true, true, true, true, true, true, true, true, true, true, true, true, true, true, true, true, true, true, true, true, true, true, true, false, false] rfl rfl (by kernel_rfl) (by decide) (fun K hK => ?_)
          refine goes_ Try.func16 (by kernel_rfl) rfl #[.pointer (some ⟨g, 0, none⟩), .agg #[v', u']] (by rfl) rfl rfl (by simp only [List.map_toArray, List.map_cons, List.map_nil]; rfl) ?_
          refine (HSM.out _ (HB79.out.trans (hHeld.1.mono HB79.out.size))).mono ?_
          rintro e w3 ⟨rfl, hb⟩
          refine ⟨_, rfl, ?_⟩
          refine hK.out _ _ ⟨(still_keep hHeld hb).1, (still_keep hHeld hb).2⟩ (fun hHeld => ?_)
          clear hK K
          refine norm_ (a' := ?_) ?_ ?_
          rotate_left
          · show Act.put _ (some 81) _ = _
            simp only [Act.put, List.setIfInBounds_toArray, List.set_cons_zero, List.set_cons_succ, i64_w, i32_w]
            rfl
          refine pure_ (i := 24) (N := some 82) (v := ?_) (a' := ?_) #[true, true, true, true, true, true, true, true, true, true, true, true, true, true, true, true, true, true, true, true, true, true, true, true, true, false] rfl rfl (by kernel_rfl) (fun _ _ _ h => h) (Or.inl ⟨by rfl, ?_⟩) ?_ ?_
          rotate_left
          · intro w'
            go_simp
            with_reducible rfl
          rotate_left
          · simp only [Act.put, List.setIfInBounds_toArray, List.set_cons_zero, List.set_cons_succ, i64_w, i32_w]
            rfl
          refine pure_ (i := 25) (N := some 83) (v := ?_) (a' := ?_) #[true, true, true, true, true, true, true, true, true, true, true, true, true, true, true, true, true, true, true, true, true, true, true, true, true, true] rfl rfl (by kernel_rfl) (fun _ _ _ h => h) (Or.inl ⟨by rfl, ?_⟩) ?_ ?_
          rotate_left
          · intro w'
            go_simp
            with_reducible rfl
          rotate_left
          · simp only [Act.put, List.setIfInBounds_toArray, List.set_cons_zero, List.set_cons_succ, i64_w, i32_w]
            rfl
          refine done_ (by kernel_rfl) ?_

          go_wp2_with fail
          exact ⟨⟨k + 1, by omega, by omega, by go_num, ⟨lv', v', u', c', by rw [HPS.out, HPR.out]; exact HC7.out.below (HB79.out.trans (hHeld.1.mono HB79.out.size))⟩, (HB7.out.trans (HB79.out.mono HB7.out.size)).trans (hHeld.1.mono (HB7.out.trans (HB79.out.mono HB7.out.size)).size)⟩, by simp [intOf]; omega⟩
        | some p =>
          have hp0 : (0 : Int) ≤ (p : Int) := by omega
          have hsd : (s'.deals tx).isSome = true := by rw [HAG.out.look, ← place_isSome, hp]; rfl
          have HDL := Lib.hid (deal_any g bm c' lv' s' tx wtx w7 HC7.out.chair)
          rw [hsd] at HDL
          have HSM := Lib.hid (fun (W : World) (hW : Below w7.heap.size w7 W) => same_any g bm c' lv' s' v' u' D' W (HC7.out.chair.below hW) (HC7.out.deals.below hW) (IsSl.below HC7.out.log hW) HAG.out hlenD' hlen')
          have HFI := Lib.hid (fun (W : World) (hW : Below w7.heap.size w7 W) => rfind_any v' u' D' tx W (HC7.out.deals.below hW))
          rw [findR_some hp] at HFI
          generalize dealOf s' tx = dd at *
          clear hp hsd
          go_wp2_with fail
          refine HDL.out.mono ?_
          rintro e v8 ⟨rfl, hb8⟩
          have HN8 := Lib.hid (fun B hB => there_newN v8 B 44 29 hB)
          have HB78 := Lib.hid hb8
          clear hb8 q1 HDL
          go_upto_region 14 with (refine wpList_store_mid rfl 44 _ _ rfl (v8.heap.size) 0 (dc dd).toArray rfl rfl (HN8.out _ rfl) infoDe (all_oneCell_toArray (dc_one _)) ?_; generalize hw9 : World.setCells _ _ _ _ = w9)
          obtain ⟨hb9, _, _, _⟩ := new_cells (xs := dc dd) (n := 29) rfl rfl (by decide) hw9
          have HB79 := Lib.hid (HB78.out.trans (hb9.mono HB78.out.size))
          clear hw9 hb9 HN8 HB78
          have q1 := (HB79.out.cell (p := ⟨b, off + k * 8 + 1, none⟩) hb7).trans q1'
          have m0 := (HB79.out.cell (p := ⟨gm, 0, none⟩) hgm7).trans m0'
          have m1 := (HB79.out.cell (p := ⟨gm, 1, none⟩) hgm7).trans m1'
          have hb9l : b < w9.heap.size := Nat.lt_of_lt_of_le hb7 HB79.out.size
          have hgm9 : gm < w9.heap.size := Nat.lt_of_lt_of_le hgm7 HB79.out.size
          refine start_ (n := 26) (S := fun w' => Below w9.heap.size w9 w' ∧ (∀ b oo, b < w9.heap.size → w'.cell? ⟨b, oo, none⟩ = w9.cell? ⟨b, oo, none⟩)) (ds := []) #[false, false, false, false, false, false, false, false, false, false, false, false, false, false, false, false, false, false, false, false, false, false, false, false, false, false] (by kernel_rfl) rfl rfl ⟨(still_drew w9).1, (still_drew w9).2⟩ (fun hHeld => ?_)
          refine pure_ (i := 0) (N := some 58) (v := ?_) (a' := ?_) #[true, false, false, false, false, false, false, false, false, false, false, false, false, false, false, false, false, false, false, false, false, false, false, false, false, false] rfl rfl (by kernel_rfl) (fun _ _ _ h => h) (Or.inl ⟨by rfl, ?_⟩) ?_ ?_
          rotate_left
          · intro w'
            go_simp
            with_reducible rfl
          rotate_left
          · simp only [Act.put, List.setIfInBounds_toArray, List.set_cons_zero, List.set_cons_succ, i64_w, i32_w]
            rfl
          refine pure_ (i := 1) (N := some 59) (v := ?_) (a' := ?_) #[true, true, false, false, false, false, false, false, false, false, false, false, false, false, false, false, false, false, false, false, false, false, false, false, false, false] rfl rfl (by kernel_rfl) (fun _ _ _ h => h) (Or.inl ⟨by rfl, ?_⟩) ?_ ?_
          rotate_left
          · intro w'
            go_simp
            with_reducible rfl
          rotate_left
          · simp only [Act.put, List.setIfInBounds_toArray, List.set_cons_zero, List.set_cons_succ, i64_w, i32_w]
            rfl
          refine pure_ (i := 2) (N := some 60) (v := ?_) (a' := ?_) #[true, true, true, false, false, false, false, false, false, false, false, false, false, false, false, false, false, false, false, false, false, false, false, false, false, false] rfl rfl (by kernel_rfl) (fun _ _ _ h => h) (Or.inl ⟨by rfl, ?_⟩) ?_ ?_
          rotate_left
          · intro w'
            go_simp
            with_reducible rfl
          rotate_left
          · simp only [Act.put, List.setIfInBounds_toArray, List.set_cons_zero, List.set_cons_succ, i64_w, i32_w]
            rfl
          refine pure_ (i := 3) (N := some 61) (v := ?_) (a' := ?_) #[true, true, true, true, false, false, false, false, false, false, false, false, false, false, false, false, false, false, false, false, false, false, false, false, false, false] rfl rfl (by kernel_rfl) (fun _ _ _ h => h) (Or.inl ⟨by rfl, ?_⟩) ?_ ?_
          rotate_left
          · intro w'
            go_simp
            with_reducible rfl
          rotate_left
          · simp only [Act.put, List.setIfInBounds_toArray, List.set_cons_zero, List.set_cons_succ, i64_w, i32_w]
            rfl
          refine pure_ (i := 4) (N := some 62) (v := ?_) (a' := ?_) #[true, true, true, true, true, false, false, false, false, false, false, false, false, false, false, false, false, false, false, false, false, false, false, false, false, false] rfl rfl (by kernel_rfl) (fun _ _ _ h => h) (Or.inl ⟨by rfl, ?_⟩) ?_ ?_
          rotate_left
          · intro w'
            go_simp
            with_reducible rfl
          rotate_left
          · simp only [Act.put, List.setIfInBounds_toArray, List.set_cons_zero, List.set_cons_succ, i64_w, i32_w]
            rfl
          refine pure_ (i := 5) (N := some 63) (v := ?_) (a' := ?_) #[true, true, true, true, true, true, false, false, false, false, false, false, false, false, false, false, false, false, false, false, false, false, false, false, false, false] rfl rfl (by kernel_rfl) (fun _ _ _ h => h) (Or.inl ⟨by rfl, ?_⟩) ?_ ?_
          rotate_left
          · intro w'
            go_simp
            with_reducible rfl
          rotate_left
          · simp only [Act.put, List.setIfInBounds_toArray, List.set_cons_zero, List.set_cons_succ, i64_w, i32_w]
            rfl
          refine pure_ (i := 6) (N := some 64) (v := ?_) (a' := ?_) #[true, true, true, true, true, true, true, false, false, false, false, false, false, false, false, false, false, false, false, false, false, false, false, false, false, false] rfl rfl (by kernel_rfl) (fun _ _ _ h => h) (Or.inl ⟨by rfl, ?_⟩) ?_ ?_
          rotate_left
          · intro w'
            go_simp
            with_reducible rfl
          rotate_left
          · simp only [Act.put, List.setIfInBounds_toArray, List.set_cons_zero, List.set_cons_succ, i64_w, i32_w]
            rfl
          refine pure_ (i := 7) (N := some 65) (v := ?_) (a' := ?_) #[true, true, true, true, true, true, true, true, false, false, false, false, false, false, false, false, false, false, false, false, false, false, false, false, false, false] rfl rfl (by kernel_rfl) (fun _ _ _ h => h) (Or.inl ⟨by rfl, ?_⟩) ?_ ?_
          rotate_left
          · intro w'
            go_simp
            with_reducible rfl
          rotate_left
          · simp only [Act.put, List.setIfInBounds_toArray, List.set_cons_zero, List.set_cons_succ, i64_w, i32_w]
            rfl
          refine pure_ (i := 8) (N := some 66) (v := ?_) (a' := ?_) #[true, true, true, true, true, true, true, true, true, false, false, false, false, false, false, false, false, false, false, false, false, false, false, false, false, false] rfl rfl (by kernel_rfl) (fun _ _ _ h => h) (Or.inl ⟨by rfl, ?_⟩) ?_ ?_
          rotate_left
          · intro w'
            go_simp
            with_reducible rfl
          rotate_left
          · simp only [Act.put, List.setIfInBounds_toArray, List.set_cons_zero, List.set_cons_succ, i64_w, i32_w]
            rfl
          refine pure_ (i := 9) (N := some 67) (v := ?_) (a' := ?_) #[true, true, true, true, true, true, true, true, true, true, false, false, false, false, false, false, false, false, false, false, false, false, false, false, false, false] rfl rfl (by kernel_rfl) (fun _ _ _ h => h) (Or.inl ⟨by rfl, ?_⟩) ?_ ?_
          rotate_left
          · intro w'
            go_simp
            with_reducible rfl
          rotate_left
          · simp only [Act.put, List.setIfInBounds_toArray, List.set_cons_zero, List.set_cons_succ, i64_w, i32_w]
            rfl
          refine pure_ (i := 11) (N := some 69) (v := ?_) (a' := ?_) #[true, true, true, true, true, true, true, true, true, true, false, true, false, false, false, false, false, false, false, false, false, false, false, false, false, false] rfl rfl (by kernel_rfl) (fun _ _ _ h => h) (Or.inl ⟨by rfl, ?_⟩) ?_ ?_
          rotate_left
          · intro w'
            go_simp
            with_reducible rfl
          rotate_left
          · simp only [Act.put, List.setIfInBounds_toArray, List.set_cons_zero, List.set_cons_succ, i64_w, i32_w]
            rfl
          refine pure_ (i := 12) (N := some 70) (v := ?_) (a' := ?_) #[true, true, true, true, true, true, true, true, true, true, false, true, true, false, false, false, false, false, false, false, false, false, false, false, false, false] rfl rfl (by kernel_rfl) (fun _ _ _ h => h) (Or.inl ⟨by rfl, ?_⟩) ?_ ?_
          rotate_left
          · intro w'
            go_simp
            with_reducible rfl
          rotate_left
          · simp only [Act.put, List.setIfInBounds_toArray, List.set_cons_zero, List.set_cons_succ, i64_w, i32_w]
            rfl
          refine pure_ (i := 13) (N := some 71) (v := ?_) (a' := ?_) #[true, true, true, true, true, true, true, true, true, true, false, true, true, true, false, false, false, false, false, false, false, false, false, false, false, false] rfl rfl (by kernel_rfl) (fun _ _ _ h => h) (Or.inl ⟨by rfl, ?_⟩) ?_ ?_
          rotate_left
          · intro w'
            go_simp
            with_reducible rfl
          rotate_left
          · simp only [Act.put, List.setIfInBounds_toArray, List.set_cons_zero, List.set_cons_succ, i64_w, i32_w]
            rfl
          refine pure_ (i := 14) (N := some 72) (v := ?_) (a' := ?_) #[true, true, true, true, true, true, true, true, true, true, false, true, true, true, true, false, false, false, false, false, false, false, false, false, false, false] rfl rfl (by kernel_rfl) (fun _ _ _ h => h) (Or.inl ⟨by rfl, ?_⟩) ?_ ?_
          rotate_left
          · intro w'
            go_simp
            with_reducible rfl
          rotate_left
          · simp only [Act.put, List.setIfInBounds_toArray, List.set_cons_zero, List.set_cons_succ, i64_w, i32_w]
            rfl
          refine take_ (i := 10) (N := some 68) (v := ?_) (a' := ?_) #[true, true, true, true, true, true, true, true, true, true, true, true, true, true, true, false, false, false, false, false, false, false, false, false, false, false] rfl rfl (by kernel_rfl) (fun _ _ _ h => h) (Or.inl ⟨by rfl, ?_⟩) hHeld ?_ ?_
          rotate_left
          · rintro w' ⟨s0, s1⟩
            go_simp
            with_reducible rfl
          rotate_left
          · simp only [Act.put, List.setIfInBounds_toArray, List.set_cons_zero, List.set_cons_succ, i64_w, i32_w]
            rfl
          refine take_ (i := 15) (N := some 73) (v := ?_) (a' := ?_) #[true, true, true, true, true, true, true, true, true, true, true, true, true, true, true, true, false, false, false, false, false, false, false, false, false, false] rfl rfl (by kernel_rfl) (fun _ _ _ h => h) (Or.inl ⟨by rfl, ?_⟩) hHeld ?_ ?_
          rotate_left
          · rintro w' ⟨s0, s1⟩
            go_simp
            with_reducible rfl
          rotate_left
          · simp only [Act.put, List.setIfInBounds_toArray, List.set_cons_zero, List.set_cons_succ, i64_w, i32_w]
            rfl
          refine one_ (i := 16) (N := some 74) #[true, true, true, true, true, true, true, true, true, true, true, true, true, true, true, true, true, false, false, false, false, false, false, false, false, false] rfl rfl (by kernel_rfl) (by decide) (fun K hK => ?_)
          refine goes_ Try.func15 (by kernel_rfl) rfl #[.agg #[v', u'], .int .i64 tx] (by rfl) rfl rfl (by simp only [List.map_toArray, List.map_cons, List.map_nil]; rfl) ?_
          refine (HFI.out _ (HB79.out.trans (hHeld.1.mono HB79.out.size))).mono ?_
          rintro e w3 ⟨rfl, hb⟩
          refine ⟨_, rfl, ?_⟩
          refine hK.out _ _ ⟨(still_keep hHeld hb).1, (still_keep hHeld hb).2⟩ (fun hHeld => ?_)
          clear hK K
          refine norm_ (a' := ?_) ?_ ?_
          rotate_left
          · show Act.put _ (some 74) _ = _
            simp only [Act.put, List.setIfInBounds_toArray, List.set_cons_zero, List.set_cons_succ, i64_w, i32_w]
            rfl
          refine pure_ (i := 17) (N := some 75) (v := ?_) (a' := ?_) #[true, true, true, true, true, true, true, true, true, true, true, true, true, true, true, true, true, true, false, false, false, false, false, false, false, false] rfl rfl (by kernel_rfl) (fun _ _ _ h => h) (Or.inl ⟨by rfl, ?_⟩) ?_ ?_
          rotate_left
          · intro w'
            go_simp
            with_reducible rfl
          rotate_left
          · simp only [Act.put, List.setIfInBounds_toArray, List.set_cons_zero, List.set_cons_succ, i64_w, i32_w]
            rfl
          refine pure_ (i := 18) (N := some 76) (v := ?_) (a' := ?_) #[true, true, true, true, true, true, true, true, true, true, true, true, true, true, true, true, true, true, true, false, false, false, false, false, false, false] rfl rfl (by kernel_rfl) (fun _ _ _ h => h) (Or.inl ⟨by rfl, ?_⟩) ?_ ?_
          rotate_left
          · intro w'
            go_simp
            with_reducible rfl
          rotate_left
          · simp only [Act.put, List.setIfInBounds_toArray, List.set_cons_zero, List.set_cons_succ, i64_w, i32_w]
            rfl
          refine pure_ (i := 19) (N := some 77) (v := ?_) (a' := ?_) #[true, true, true, true, true, true, true, true, true, true, true, true, true, true, true, true, true, true, true, true, false, false, false, false, false, false] rfl rfl (by kernel_rfl) (fun _ _ _ h => h) (Or.inl ⟨by rfl, ?_⟩) ?_ ?_
          rotate_left
          · intro w'
            go_simp
            with_reducible rfl
          rotate_left
          · simp only [Act.put, List.setIfInBounds_toArray, List.set_cons_zero, List.set_cons_succ, i64_w, i32_w]
            rfl
          refine pure_ (i := 20) (N := some 78) (v := ?_) (a' := ?_) #[true, true, true, true, true, true, true, true, true, true, true, true, true, true, true, true, true, true, true, true, true, false, false, false, false, false] rfl rfl (by kernel_rfl) (fun _ _ _ h => h) (Or.inl ⟨by rfl, ?_⟩) ?_ ?_
          rotate_left
          · intro w'
            go_simp
            with_reducible rfl
          rotate_left
          · simp only [Act.put, List.setIfInBounds_toArray, List.set_cons_zero, List.set_cons_succ, i64_w, i32_w]
            rfl
          refine pure_ (i := 21) (N := some 79) (v := ?_) (a' := ?_) #[true, true, true, true, true, true, true, true, true, true, true, true, true, true, true, true, true, true, true, true, true, true, false, false, false, false] rfl rfl (by kernel_rfl) (fun _ _ _ h => h) (Or.inl ⟨by rfl, ?_⟩) ?_ ?_
          rotate_left
          · intro w'
            go_simp
            with_reducible rfl
          rotate_left
          · simp only [Act.put, List.setIfInBounds_toArray, List.set_cons_zero, List.set_cons_succ, i64_w, i32_w]
            rfl
          refine take_ (i := 22) (N := some 80) (v := ?_) (a' := ?_) #[true, true, true, true, true, true, true, true, true, true, true, true, true, true, true, true, true, true, true, true, true, true, true, false, false, false] rfl rfl (by kernel_rfl) (fun _ _ _ h => h) (Or.inl ⟨by rfl, ?_⟩) hHeld ?_ ?_
          rotate_left
          · rintro w' ⟨s0, s1⟩
            go_simp
            with_reducible rfl
          rotate_left
          · simp only [Act.put, List.setIfInBounds_toArray, List.set_cons_zero, List.set_cons_succ, i64_w, i32_w]
            rfl
          refine one_ (i := 23) (N := some 81) #[true, true, true, true, true, true, true, true, true, true, true, true, true, true, true, true, true, true, true, true, true, true, true, true, false, false] rfl rfl (by kernel_rfl) (by decide) (fun K hK => ?_)
          refine goes_ Try.func16 (by kernel_rfl) rfl #[.pointer (some ⟨g, 0, none⟩), .agg #[v', u']] (by rfl) rfl rfl (by simp only [List.map_toArray, List.map_cons, List.map_nil]; rfl) ?_
          refine (HSM.out _ (HB79.out.trans (hHeld.1.mono HB79.out.size))).mono ?_
          rintro e w3 ⟨rfl, hb⟩
          refine ⟨_, rfl, ?_⟩
          refine hK.out _ _ ⟨(still_keep hHeld hb).1, (still_keep hHeld hb).2⟩ (fun hHeld => ?_)
          clear hK K
          refine norm_ (a' := ?_) ?_ ?_
          rotate_left
          · show Act.put _ (some 81) _ = _
            simp only [Act.put, List.setIfInBounds_toArray, List.set_cons_zero, List.set_cons_succ, i64_w, i32_w]
            rfl
          refine pure_ (i := 24) (N := some 82) (v := ?_) (a' := ?_) #[true, true, true, true, true, true, true, true, true, true, true, true, true, true, true, true, true, true, true, true, true, true, true, true, true, false] rfl rfl (by kernel_rfl) (fun _ _ _ h => h) (Or.inl ⟨by rfl, ?_⟩) ?_ ?_
          rotate_left
          · intro w'
            go_simp
            with_reducible rfl
          rotate_left
          · simp only [Act.put, List.setIfInBounds_toArray, List.set_cons_zero, List.set_cons_succ, i64_w, i32_w]
            rfl
          refine pure_ (i := 25) (N := some 83) (v := ?_) (a' := ?_) #[true, true, true, true, true, true, true, true, true, true, true, true, true, true, true, true, true, true, true, true, true, true, true, true, true, true] rfl rfl (by kernel_rfl) (fun _ _ _ h => h) (Or.inl ⟨by rfl, ?_⟩) ?_ ?_
          rotate_left
          · intro w'
            go_simp
            with_reducible rfl
          rotate_left
          · simp only [Act.put, List.setIfInBounds_toArray, List.set_cons_zero, List.set_cons_succ, i64_w, i32_w]
            rfl
          refine done_ (by kernel_rfl) ?_

          go_wp2_with fail
          exact ⟨⟨k + 1, by omega, by omega, by go_num, ⟨lv', v', u', c', by rw [HPS.out, HPR.out]; exact HC7.out.below (HB79.out.trans (hHeld.1.mono HB79.out.size))⟩, (HB7.out.trans (HB79.out.mono HB7.out.size)).trans (hHeld.1.mono (HB7.out.trans (HB79.out.mono HB7.out.size)).size)⟩, by simp [intOf]; omega⟩
end Go.Proofs.Ytdlfjbllmmkmkaa.LChairActs
