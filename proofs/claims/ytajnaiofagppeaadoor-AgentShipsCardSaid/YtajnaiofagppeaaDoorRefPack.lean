/- What the reference's Pack answers; ballots carried over, and compared. -/
import Derived.Test.YtajnaiofagppeaaDoorRefBal
import Derived.Test.YtajnaiofagppeaaDoorUnpack
import Derived.Test.YtajnaiofagppeaaDoorCodeOut
namespace Go.Proofs.YtajnaiofagppeaaDoor.RefPack
open Go Go.RowKit Go.Shelf CodeSpec AgentSpec Flat CodeMem Ballot SeqOver Collect Pack RefBal Go.Proofs.YtajnaiofagppeaaDoorW.PrintLast
set_option linter.unusedSimpArgs false
set_option linter.unusedVariables false
set_option maxRecDepth 100000
theorem n_any (n : Int) (w : World) : Calls Tryd.prog 30 #[.int .u64 n] w fun e w' => e = .returned (.agg #[.int .u64 n, .string ⟨#[]⟩]) ∧ Below w.heap.size w w' := by
  go_enter Tryd.func30, Tryd.ntmps30
  go_wp2_with fail
  all_goals (simp [bodyPost, results, Tryd.results30, go_sem, *])
  all_goals (repeat (first | (with_reducible exact Below.refl _ _) | (with_reducible assumption) | (with_reducible refine bw_alloc ?_) | (with_reducible refine bw_drew ?_) | (with_reducible refine bw_drewN ?_) | (with_reducible refine bw_set ?_ (by first | (simp; done) | (dsimp only; omega))) | (with_reducible refine bw_via (by assumption) ?_)))
theorem info87 : (Tryd.prog.info? 87).map (fun i => (i.zero, i.size, i.bytes)) = some (some (.agg #[.int .u64 0, .string ⟨#[]⟩]), 2, 24) := by kernel_rfl
theorem infoRB : (Tryd.prog.info? 42).map (fun i => (i.zero, i.size, i.bytes)) = some (some (.agg #[.int .i64 0, .int .i64 0]), 2, 16) := by kernel_rfl
def OwnRV (w : World) (B : Nat) (v : Value) (l : List V) : Prop := w.ownsRow B 87 2 v l.length (vcells l)
def RelRP (w : World) (l : List Ba) (v i : Value) (wr : World) : Prop := ∃ k, k ≤ l.length ∧ i = .int .i64 (k : Int) ∧ OwnRV wr w.heap.size v (valsL (l.take k)) ∧ Below w.heap.size w wr
set_option maxHeartbeats 4000000 in
theorem rpack_any (v : Value) (l : List Ba) (w : World) (h : IsBal w v l) : Calls Tryd.prog 12 #[v] w (PackPost (packL l) w) := by
  obtain ⟨a, cap, rfl, hlc, hcm, hcc⟩ := h
  have HIB : IsBal w (.slice a l.length cap) l := ⟨a, cap, rfl, hlc, hcm, hcc⟩
  have hcm2 := hcm
  unfold maxLen at hcm2
  cases hr : rightL l with
  | false =>
    have hT : packL l = ([], 2) := by rw [packL, if_pos hr]
    rw [hT]
    clear hT
    go_enter Tryd.func12, Tryd.ntmps12
    go_wp2_with fail
    refine (rright_any _ l _ HIB).mono ?_
    rw [hr]
    rintro r v1 ⟨rfl, hb1⟩
    go_wp2_with fail
    go_ret2
    exact ⟨rfl, hb1⟩
  | true =>
    have hr2 := hr
    simp only [rightL, Bool.and_eq_true, decide_eq_true_eq] at hr2
    obtain ⟨⟨hall, _⟩, h50⟩ := hr2
    obtain ⟨i0, hi, hz0, hz1, hz2⟩ := info_parts info87
    have hT : packL l = (bytesL l, 0) := by rw [packL, if_neg (by rw [hr]; decide)]
    rw [hT]
    have HALL : Hid (∀ k (h : k < l.length), 0 ≤ l[k].tx ∧ l[k].tx < 1000 ∧ 1 ≤ l[k].vote ∧ l[k].vote ≤ 2) := Lib.hid fun k h => by
      have q := List.all_eq_true.1 hall _ (List.getElem_mem h)
      simp only [mayB, decide_eq_true_eq] at q
      omega
    have HENC := Lib.hid (enc_ballots hr)
    have HSM := Lib.hid (vals_small l hall)
    have HCC := Lib.hid hcc
    clear hall hcc hT
    go_enter Tryd.func12, Tryd.ntmps12
    go_wp2_with fail
    refine (rright_any _ l _ HIB).mono ?_
    rw [hr]
    rintro r v1 ⟨rfl, hb1⟩
    clear HIB hr
    go_wp2_with fail
    go_loopw [4, 5] (fun v i wr => RelRP w l v i wr) (fun _ i _ => l.length - (intOf i).toNat)
    case atStart => exact ⟨0, Nat.zero_le _, rfl, World.ownsRow_nil _ _ _ 2, hb1⟩
    case round =>
      obtain ⟨wo, h_wo⟩ : ∃ v : World, v = wr := ⟨_, rfl⟩; subst h_wo
      obtain ⟨k, hk, rfl, hob, hB⟩ := hrel
      by_cases hkl : k < l.length
      · have hkI : (k : Int) < (l.length : Int) := by omega
        have hk0 : (0 : Int) ≤ (k : Int) := by omega
        obtain ⟨b, off, rfl, hbl, hd⟩ := HCC.out (by omega)
        obtain ⟨m0, m1, m2, m3⟩ := HALL.out k hkl
        obtain ⟨t, ht⟩ := Int.eq_ofNat_of_zero_le m0
        obtain ⟨o, ho⟩ := Int.eq_ofNat_of_zero_le (show 0 ≤ l[k].vote by omega)
        have q0 := (hB.cell (p := ⟨b, off + k * 2, none⟩) hbl).trans (hd k hkl).1
        have q1 := (hB.cell (p := ⟨b, off + k * 2 + 1, none⟩) hbl).trans (hd k hkl).2
        rw [ht] at q0
        rw [ho] at q1
        have wt := wrapn t (by omega)
        have wo' := wrapn o (by omega)
        have hbw := Nat.lt_of_lt_of_le hbl hB.size
        have HTO := Lib.hid (show valsL (l.take (k + 1)) = valsL (l.take k) ++ [⟨t, noS⟩, ⟨o, noS⟩] from by
          rw [List.take_succ_eq_append_getElem hkl, vals_append]
          show _ ++ [(⟨l[k].tx.toNat, noS⟩ : V), ⟨l[k].vote.toNat, noS⟩] = _
          rw [ht, ho]
          rfl)
        have hln : (valsL (l.take k)).length = 2 * k := by rw [vals_len, List.length_take]; omega
        have hBs := hB.size
        clear hd m0 m1 m2 m3 ht ho
        obtain ⟨sv, sc, hsl⟩ := slice_of hob
        subst hsl
        rw [hln] at hob ⊢
        go_upto_region 7 with fail
        refine start_ (n := 18) (S := fun w' => Below wo.heap.size wo w' ∧ (∀ b oo, b < wo.heap.size → w'.cell? ⟨b, oo, none⟩ = wo.cell? ⟨b, oo, none⟩)) (ds := [16]) #[false, false, false, false, false, false, false, false, false, false, false, false, false, false, false, false, false, false] (by kernel_rfl) rfl rfl ⟨(still_drew wo).1, (still_drew wo).2⟩ (fun hHeld => ?_)
        refine pure_ (i := 0) (N := some 17) (v := ?_) (a' := ?_) #[true, false, false, false, false, false, false, false, false, false, false, false, false, false, false, false, false, false] rfl rfl (by kernel_rfl) (fun _ _ _ h => h) (Or.inl ⟨by rfl, ?_⟩) ?_ ?_
        rotate_left
        · intro w'
          go_simp
          with_reducible rfl
        rotate_left
        · simp only [Act.put, List.setIfInBounds_toArray, List.set_cons_zero, List.set_cons_succ, i64_w, i32_w]
          rfl
        refine pure_ (i := 1) (N := some 18) (v := ?_) (a' := ?_) #[true, true, false, false, false, false, false, false, false, false, false, false, false, false, false, false, false, false] rfl rfl (by kernel_rfl) (fun _ _ _ h => h) (Or.inl ⟨by rfl, ?_⟩) ?_ ?_
        rotate_left
        · intro w'
          go_simp
          with_reducible rfl
        rotate_left
        · simp only [Act.put, List.setIfInBounds_toArray, List.set_cons_zero, List.set_cons_succ, i64_w, i32_w]
          rfl
        refine pure_ (i := 2) (N := some 19) (v := ?_) (a' := ?_) #[true, true, true, false, false, false, false, false, false, false, false, false, false, false, false, false, false, false] rfl rfl (by kernel_rfl) (fun _ _ _ h => h) (Or.inl ⟨by rfl, ?_⟩) ?_ ?_
        rotate_left
        · intro w'
          go_simp
          with_reducible rfl
        rotate_left
        · simp only [Act.put, List.setIfInBounds_toArray, List.set_cons_zero, List.set_cons_succ, i64_w, i32_w]
          rfl
        refine pure_ (i := 3) (N := some 20) (v := ?_) (a' := ?_) #[true, true, true, true, false, false, false, false, false, false, false, false, false, false, false, false, false, false] rfl rfl (by kernel_rfl) (fun _ _ _ h => h) (Or.inl ⟨by rfl, ?_⟩) ?_ ?_
        rotate_left
        · intro w'
          go_simp
          with_reducible rfl
        rotate_left
        · simp only [Act.put, List.setIfInBounds_toArray, List.set_cons_zero, List.set_cons_succ, i64_w, i32_w]
          rfl
        refine pure_ (i := 4) (N := some 21) (v := ?_) (a' := ?_) #[true, true, true, true, true, false, false, false, false, false, false, false, false, false, false, false, false, false] rfl rfl (by kernel_rfl) (fun _ _ _ h => h) (Or.inl ⟨by rfl, ?_⟩) ?_ ?_
        rotate_left
        · intro w'
          go_simp
          with_reducible rfl
        rotate_left
        · simp only [Act.put, List.setIfInBounds_toArray, List.set_cons_zero, List.set_cons_succ, i64_w, i32_w]
          rfl
        refine pure_ (i := 8) (N := some 25) (v := ?_) (a' := ?_) #[true, true, true, true, true, false, false, false, true, false, false, false, false, false, false, false, false, false] rfl rfl (by kernel_rfl) (fun _ _ _ h => h) (Or.inl ⟨by rfl, ?_⟩) ?_ ?_
        rotate_left
        · intro w'
          go_simp
          with_reducible rfl
        rotate_left
        · simp only [Act.put, List.setIfInBounds_toArray, List.set_cons_zero, List.set_cons_succ, i64_w, i32_w]
          rfl
        refine pure_ (i := 9) (N := some 26) (v := ?_) (a' := ?_) #[true, true, true, true, true, false, false, false, true, true, false, false, false, false, false, false, false, false] rfl rfl (by kernel_rfl) (fun _ _ _ h => h) (Or.inl ⟨by rfl, ?_⟩) ?_ ?_
        rotate_left
        · intro w'
          go_simp
          with_reducible rfl
        rotate_left
        · simp only [Act.put, List.setIfInBounds_toArray, List.set_cons_zero, List.set_cons_succ, i64_w, i32_w]
          rfl
        refine pure_ (i := 10) (N := some 27) (v := ?_) (a' := ?_) #[true, true, true, true, true, false, false, false, true, true, true, false, false, false, false, false, false, false] rfl rfl (by kernel_rfl) (fun _ _ _ h => h) (Or.inl ⟨by rfl, ?_⟩) ?_ ?_
        rotate_left
        · intro w'
          go_simp
          with_reducible rfl
        rotate_left
        · simp only [Act.put, List.setIfInBounds_toArray, List.set_cons_zero, List.set_cons_succ, i64_w, i32_w]
          rfl
        refine pure_ (i := 11) (N := some 28) (v := ?_) (a' := ?_) #[true, true, true, true, true, false, false, false, true, true, true, true, false, false, false, false, false, false] rfl rfl (by kernel_rfl) (fun _ _ _ h => h) (Or.inl ⟨by rfl, ?_⟩) ?_ ?_
        rotate_left
        · intro w'
          go_simp
          with_reducible rfl
        rotate_left
        · simp only [Act.put, List.setIfInBounds_toArray, List.set_cons_zero, List.set_cons_succ, i64_w, i32_w]
          rfl
        refine take_ (i := 5) (N := some 22) (v := ?_) (a' := ?_) #[true, true, true, true, true, true, false, false, true, true, true, true, false, false, false, false, false, false] rfl rfl (by kernel_rfl) (fun _ _ _ h => h) (Or.inl ⟨by rfl, ?_⟩) hHeld ?_ ?_
        rotate_left
        · rintro w' ⟨s0, s1⟩
          go_simp
          with_reducible rfl
        rotate_left
        · simp only [Act.put, List.setIfInBounds_toArray, List.set_cons_zero, List.set_cons_succ, i64_w, i32_w]
          rfl
        refine pure_ (i := 6) (N := some 23) (v := ?_) (a' := ?_) #[true, true, true, true, true, true, true, false, true, true, true, true, false, false, false, false, false, false] rfl rfl (by kernel_rfl) (fun _ _ _ h => h) (Or.inl ⟨by rfl, ?_⟩) ?_ ?_
        rotate_left
        · intro w'
          go_simp
          with_reducible rfl
        rotate_left
        · simp only [Act.put, List.setIfInBounds_toArray, List.set_cons_zero, List.set_cons_succ, i64_w, i32_w]
          rfl
        refine take_ (i := 12) (N := some 29) (v := ?_) (a' := ?_) #[true, true, true, true, true, true, true, false, true, true, true, true, true, false, false, false, false, false] rfl rfl (by kernel_rfl) (fun _ _ _ h => h) (Or.inl ⟨by rfl, ?_⟩) hHeld ?_ ?_
        rotate_left
        · rintro w' ⟨s0, s1⟩
          go_simp
          with_reducible rfl
        rotate_left
        · simp only [Act.put, List.setIfInBounds_toArray, List.set_cons_zero, List.set_cons_succ, i64_w, i32_w]
          rfl
        refine pure_ (i := 13) (N := some 30) (v := ?_) (a' := ?_) #[true, true, true, true, true, true, true, false, true, true, true, true, true, true, false, false, false, false] rfl rfl (by kernel_rfl) (fun _ _ _ h => h) (Or.inl ⟨by rfl, ?_⟩) ?_ ?_
        rotate_left
        · intro w'
          go_simp
          with_reducible rfl
        rotate_left
        · simp only [Act.put, List.setIfInBounds_toArray, List.set_cons_zero, List.set_cons_succ, i64_w, i32_w]
          rfl
        refine one_ (i := 7) (N := some 24) #[true, true, true, true, true, true, true, true, true, true, true, true, true, true, false, false, false, false] rfl rfl (by kernel_rfl) (by decide) (fun K hK => ?_)
        refine goes_ Tryd.func30 (by kernel_rfl) rfl #[.int .u64 (t : Int)] (by rfl) rfl rfl (by simp only [List.map_toArray, List.map_cons, List.map_nil]; rfl) ?_
        refine (n_any (t : Int) _).mono ?_
        rintro e w2 ⟨rfl, hb2⟩
        refine ⟨_, rfl, ?_⟩
        refine hK.out _ _ ⟨(still_keep hHeld hb2).1, (still_keep hHeld hb2).2⟩ (fun hHeld => ?_)
        clear hK K
        refine norm_ (a' := ?_) ?_ ?_
        rotate_left
        · show Act.put _ (some 24) _ = _
          simp only [Act.put, List.setIfInBounds_toArray, List.set_cons_zero, List.set_cons_succ, i64_w, i32_w]
          rfl
        refine one_ (i := 14) (N := some 31) #[true, true, true, true, true, true, true, true, true, true, true, true, true, true, true, false, false, false] rfl rfl (by kernel_rfl) (by decide) (fun K hK => ?_)
        refine goes_ Tryd.func30 (by kernel_rfl) rfl #[.int .u64 (o : Int)] (by rfl) rfl rfl (by simp only [List.map_toArray, List.map_cons, List.map_nil]; rfl) ?_
        refine (n_any (o : Int) _).mono ?_
        rintro e w3 ⟨rfl, hb3⟩
        refine ⟨_, rfl, ?_⟩
        refine hK.out _ _ ⟨(still_keep hHeld hb3).1, (still_keep hHeld hb3).2⟩ (fun hHeld => ?_)
        clear hK K
        refine norm_ (a' := ?_) ?_ ?_
        rotate_left
        · show Act.put _ (some 31) _ = _
          simp only [Act.put, List.setIfInBounds_toArray, List.set_cons_zero, List.set_cons_succ, i64_w, i32_w]
          rfl
        refine one_ (i := 15) (N := some 32) #[true, true, true, true, true, true, true, true, true, true, true, true, true, true, true, true, false, false] rfl rfl (by kernel_rfl) (by decide) (fun K hK => ?_)
        refine value_ (w1 := ?_) (v := ?_) (by rfl) rfl ?_ ?_
        rotate_left 2
        · go_simp
          constructor
          · rfl
          · rfl
        generalize hW5 : World.alloc _ _ = w5
        have hb5 := (alloc_facts hW5).1
        have hn5 : ∀ j v, [Value.int .u64 (t : Int), .string ⟨#[]⟩, .int .u64 (o : Int), .string ⟨#[]⟩][j]? = some v → w5.cell? ((⟨w3.heap.size, 0, none⟩ : Addr).add j) = some v := by rw [← hW5]; exact cell_four_new _ _ _ _ _ _
        clear hW5
        refine hK.out _ _ ⟨(still_keep hHeld hb5).1, (still_keep hHeld hb5).2⟩ (fun hHeld => ?_)
        clear hK K
        refine norm_ (a' := ?_) ?_ ?_
        rotate_left
        · show Act.put _ (some 32) _ = _
          simp only [Act.put, List.setIfInBounds_toArray, List.set_cons_zero, List.set_cons_succ, i64_w, i32_w]
          rfl
        refine last_ (i := 16) (N := some 33) #[true, true, true, true, true, true, true, true, true, true, true, true, true, true, true, true, true, false] rfl rfl (by kernel_rfl) (by decide) (fun K hK => ?_)
        have hob5 : OwnRV w5 w.heap.size _ _ := own_kept hob hHeld.1
        refine append_slice_ (by rfl) rfl (.tmp 17) (.tmp 32) 86 rfl w.heap.size 87 i0 _ 2 24 Tryd.underlying86 hi hz0 hz1 hz2 rfl (by decide) (.slice sv (2 * k) sc) _ _ (by rfl) hob5 ⟨w3.heap.size, 0, none⟩ 2 2 [.int .u64 (t : Int), .string ⟨#[]⟩, .int .u64 (o : Int), .string ⟨#[]⟩] (by rfl) rfl hn5 (four_one _ _ _ _) (by rw [hln]; unfold maxLen; omega) (by omega) (Nat.le_trans hBs hHeld.1.size) ?_
        intro v6 w6 hob6 hg6
        refine hK.out _ _ ?_
        clear hK K
        refine norm_ (a' := ?_) ?_ ?_
        rotate_left
        · show Act.put _ (some 33) _ = _
          simp only [Act.put, List.setIfInBounds_toArray, List.set_cons_zero, List.set_cons_succ, i64_w, i32_w]
          rfl
        refine pure_ (i := 17) (N := some 4) (v := ?_) (a' := ?_) #[true, true, true, true, true, true, true, true, true, true, true, true, true, true, true, true, true, true] rfl rfl (by kernel_rfl) (fun _ _ _ h => h) (Or.inl ⟨by rfl, ?_⟩) ?_ ?_
        rotate_left
        · intro w'
          go_simp
          with_reducible rfl
        rotate_left
        · simp only [Act.put, List.setIfInBounds_toArray, List.set_cons_zero, List.set_cons_succ, i64_w, i32_w]
          rfl
        refine done_ (by kernel_rfl) ?_

        have hob5 : OwnRV w5 w.heap.size _ _ := own_kept hob hHeld.1
        have hB5 := hB.trans (hHeld.1.mono hB.size)
        have hB6 := hB5.grown hg6 hB5.size (fun j hj => (hob5.lt j hj).1)
        clear hHeld hB hob hob5 hg6
        go_wp2_with fail
        go_roundw
        case rel =>
          refine ⟨k + 1, by omega, by go_num, ?_, hB6⟩
          rw [OwnRV, HTO.out, vcells_append, List.length_append]
          exact hob6
        case measure => simp [intOf]; omega
      · have hkI : ¬ (k : Int) < (l.length : Int) := by omega
        have hkl2 : k = l.length := by omega
        rw [hkl2, List.take_length] at hob
        have hvs : IsVals wo _ (valsL l) := row_vals hob (by rw [vals_len]; unfold maxLen; omega) HSM.out
        clear hkl hkl2
        go_wp2_with fail
        refine (shape_any l.length (by omega) wo).mono ?_
        rintro e w5 ⟨s, rfl, hs, hb5⟩
        have hB5 := hB.trans (hb5.mono hB.size)
        have hss := size_shape hs
        have HS := Lib.hid hs
        clear hs
        go_wp2_with fail
        have HX := rencode_use s _ (valsL l) w5 (by rw [hss]; unfold maxLen; omega) (vals_below hvs hb5)
        rw [HS.out, HENC.out] at HX
        refine HX.mono ?_
        rintro e w6 ⟨a6, cap6, rfl, h1, h2, h3, hb6⟩
        have hB6 := hB5.trans (hb6.mono hB5.size)
        have kc := conv_bytes cap6 h3 9 Tryd.underlying9
        clear HX
        go_wp2_with fail
        go_ret2
        exact ⟨rfl, hB6⟩
/-! ### carried over -/
theorem infoAB : (Tryd.prog.info? 49).map (fun i => (i.zero, i.size, i.bytes)) = some (some (.agg #[.int .i64 0, .int .i64 0]), 2, 16) := by kernel_rfl
theorem cell_two_new (w : World) (x y : Value) (t : TypeId) : ∀ j v, [x, y][j]? = some v → (w.alloc (.cells #[x, y] t)).cell? ((⟨w.heap.size, 0, none⟩ : Addr).add j) = some v := by
  intro j v hj
  match j, hj with
  | 0, hj => simp at hj; subst hj; simp [Addr.add]
  | 1, hj => simp at hj; subst hj; simp [Addr.add]
theorem two_one (n m : Int) : ∀ u ∈ [Value.int .i64 n, .int .i64 m], u.oneCell' = true := by
  intro u hu
  simp at hu
  rcases hu with rfl | rfl <;> rfl
def RelT (w : World) (l : List Ba) (v i : Value) (wr : World) : Prop := ∃ k, k ≤ l.length ∧ i = .int .i64 (k : Int) ∧ OwnL wr w.heap.size v (l.take k) ∧ Below w.heap.size w wr
set_option maxHeartbeats 4000000 in
theorem theirs_any (v : Value) (l : List Ba) (hl : l.length ≤ 1000) (w : World) (h : IsBal w v l) : Calls Tryd.prog 11 #[v] w fun e w' => ∃ u, e = .returned u ∧ OwnL w' w.heap.size u l ∧ Below w.heap.size w w' := by
  obtain ⟨a, cap, rfl, hlc, hcm, hcc⟩ := h
  unfold maxLen at hcm
  obtain ⟨i0, hi, hz0, hz1, hz2⟩ := info_parts infoAB
  have HCC := Lib.hid hcc
  clear hcc
  go_enter Tryd.func11, Tryd.ntmps11
  go_wp2_with fail
  go_loopw [3, 8] (fun v i wr => RelT w l v i wr) (fun _ i _ => l.length - (intOf i).toNat)
  case atStart => exact ⟨0, Nat.zero_le _, rfl, ownl_nil _ _, Below.refl _ _⟩
  case round =>
    obtain ⟨wo, h_wo⟩ : ∃ v : World, v = wr := ⟨_, rfl⟩; subst h_wo
    obtain ⟨k, hk, rfl, hob, hB⟩ := hrel
    by_cases hkl : k < l.length
    · have hkI : (k : Int) < (l.length : Int) := by omega
      have hk0 : (0 : Int) ≤ (k : Int) := by omega
      obtain ⟨b, off, rfl, hbl, hd⟩ := HCC.out (by omega)
      have q0 := (hB.cell (p := ⟨b, off + k * 2, none⟩) hbl).trans (hd k hkl).1
      have q1 := (hB.cell (p := ⟨b, off + k * 2 + 1, none⟩) hbl).trans (hd k hkl).2
      generalize hy : l[k] = y at q0 q1
      have HTO := Lib.hid (show bcl (l.take (k + 1)) = bcl (l.take k) ++ [.int .i64 y.tx, .int .i64 y.vote] from by rw [List.take_succ_eq_append_getElem hkl, bcl_append, hy]; rfl)
      have hln : (l.take k).length = k := by rw [List.length_take]; omega
      have hln2 : (l.take (k + 1)).length = k + 1 := by rw [List.length_take]; omega
      have HB := Lib.hid hB
      clear hd hy hB
      obtain ⟨sv, sc, hsl⟩ := slice_of hob
      subst hsl
      rw [hln] at hob ⊢
      go_upto_region 5 with fail
      generalize hv4 : World.alloc wo _ = v4
      obtain ⟨hb4, hz4, hc4⟩ := alloc_facts hv4
      have r0 := hc4 0
      have r1 := hc4 1
      have hob4 : OwnL v4 w.heap.size _ _ := own_kept hob hb4
      have hB4 := HB.out.trans (hb4.mono HB.out.size)
      have HB4 := Lib.hid hB4
      have hBs := hB4.size
      clear hv4 hc4 hb4 q0 q1 hob hB4
      obtain ⟨yt, yv⟩ := y
      dsimp only at r0 r1 HTO
      unfold OwnL at hob4
      rw [hln] at hob4
      go_wp2_with (first | (at_builtin; refine wpList_append_own_at _ rfl _ _ 27 rfl w.heap.size 49 i0 _ 2 16 Tryd.underlying27 hi hz0 hz1 hz2 rfl (by decide) _ _ _ rfl (World.ownsRow.alloc hob4 _) ⟨v4.heap.size, 0, none⟩ 1 1 [.int .i64 yt, .int .i64 yv] rfl rfl (cell_two_new _ _ _ _) (two_one _ _) (by unfold maxLen; omega) (by omega) (Nat.le_trans hBs (by simp)) ?_; intro v7 w7 hob7 hg7 hnil7 hloc7) | fail)
      go_roundw
      case rel =>
        refine ⟨k + 1, by omega, by go_num, ?_, (HB4.out.alloc hBs _).grown hg7 (Nat.le_trans hBs (by simp)) (fun j hj => (hob4.lt j hj).1)⟩
        rw [OwnL, HTO.out, hln2]
        exact hob7
      case measure => simp [intOf]; omega
    · have hkI : ¬ (k : Int) < (l.length : Int) := by omega
      have hkl2 : k = l.length := by omega
      rw [hkl2, List.take_length] at hob
      clear hkl hkl2
      go_wp2_with fail
      go_ret
      exact ⟨_, rfl, hob, hB⟩
/-! ### compared -/
set_option maxHeartbeats 4000000 in
theorem same_any (va vb : Value) (l : List Ba) (hl : l.length ≤ 1000) (w : World) (ha : IsBal w va l) (hb : IsBal w vb l) : Calls Tryd.prog 15 #[va, vb] w fun e w' => e = .returned (.bool true) ∧ Below w.heap.size w w' := by
  obtain ⟨a, cap, rfl, hlc, hcm, hcc⟩ := ha
  obtain ⟨c, cap2, rfl, hlc2, hcm2, hcc2⟩ := hb
  have HCA := Lib.hid hcc
  have HCB := Lib.hid hcc2
  clear hcc hcc2
  go_enter Tryd.func15, Tryd.ntmps15
  go_wp2_with fail
  go_loopw [13] (fun i wr => ∃ k : Nat, k ≤ l.length ∧ i = .int .i64 (k : Int) ∧ Below w.heap.size w wr) (fun i _ => l.length - (intOf i).toNat)
  case atStart => exact ⟨0, Nat.zero_le _, rfl, Below.refl _ _⟩
  case round =>
    obtain ⟨wo, h_wo⟩ : ∃ v : World, v = wr := ⟨_, rfl⟩; subst h_wo
    obtain ⟨k, hk, rfl, hB⟩ := hrel
    by_cases hkl : k < l.length
    · have hkI : (k : Int) < (l.length : Int) := by omega
      have hk0 : (0 : Int) ≤ (k : Int) := by omega
      obtain ⟨b, off, rfl, hbl, hd⟩ := HCA.out (by omega)
      obtain ⟨b2, off2, rfl, hbl2, hd2⟩ := HCB.out (by omega)
      have q0 := (hB.cell (p := ⟨b, off + k * 2, none⟩) hbl).trans (hd k hkl).1
      have q1 := (hB.cell (p := ⟨b, off + k * 2 + 1, none⟩) hbl).trans (hd k hkl).2
      have r0 := (hB.cell (p := ⟨b2, off2 + k * 2, none⟩) hbl2).trans (hd2 k hkl).1
      have r1 := (hB.cell (p := ⟨b2, off2 + k * 2 + 1, none⟩) hbl2).trans (hd2 k hkl).2
      have z1 := Nat.lt_of_lt_of_le hbl hB.size
      have z2 := Nat.lt_of_lt_of_le hbl2 hB.size
      generalize l[k] = y at *
      obtain ⟨yt, yv⟩ := y
      dsimp only at q0 q1 r0 r1
      clear hd hd2
      go_upto_region 6 with fail
      refine start_ (n := 9) (S := fun w' => Below wo.heap.size wo w' ∧ ∀ b o, b < wo.heap.size → w'.cell? ⟨b, o, none⟩ = wo.cell? ⟨b, o, none⟩) (ds := []) #[false, false, false, false, false, false, false, false, false] (by kernel_rfl) rfl rfl ⟨(still_drew wo).1, (still_drew wo).2⟩ (fun hHeld => ?_)
      refine pure_ (i := 0) (N := some 16) (v := ?_) (a' := ?_) #[true, false, false, false, false, false, false, false, false] rfl rfl (by kernel_rfl) (fun _ _ _ h => h) (Or.inl ⟨by rfl, ?_⟩) ?_ ?_
      rotate_left
      · intro w'
        go_simp
        with_reducible rfl
      rotate_left
      · simp only [Act.put, List.setIfInBounds_toArray, List.set_cons_zero, List.set_cons_succ, i64_w, i32_w]
        rfl
      refine pure_ (i := 1) (N := some 17) (v := ?_) (a' := ?_) #[true, true, false, false, false, false, false, false, false] rfl rfl (by kernel_rfl) (fun _ _ _ h => h) (Or.inl ⟨by rfl, ?_⟩) ?_ ?_
      rotate_left
      · intro w'
        go_simp
        with_reducible rfl
      rotate_left
      · simp only [Act.put, List.setIfInBounds_toArray, List.set_cons_zero, List.set_cons_succ, i64_w, i32_w]
        rfl
      refine pure_ (i := 2) (N := some 18) (v := ?_) (a' := ?_) #[true, true, true, false, false, false, false, false, false] rfl rfl (by kernel_rfl) (fun _ _ _ h => h) (Or.inl ⟨by rfl, ?_⟩) ?_ ?_
      rotate_left
      · intro w'
        go_simp
        with_reducible rfl
      rotate_left
      · simp only [Act.put, List.setIfInBounds_toArray, List.set_cons_zero, List.set_cons_succ, i64_w, i32_w]
        rfl
      refine pure_ (i := 4) (N := some 20) (v := ?_) (a' := ?_) #[true, true, true, false, true, false, false, false, false] rfl rfl (by kernel_rfl) (fun _ _ _ h => h) (Or.inl ⟨by rfl, ?_⟩) ?_ ?_
      rotate_left
      · intro w'
        go_simp
        with_reducible rfl
      rotate_left
      · simp only [Act.put, List.setIfInBounds_toArray, List.set_cons_zero, List.set_cons_succ, i64_w, i32_w]
        rfl
      refine pure_ (i := 5) (N := some 21) (v := ?_) (a' := ?_) #[true, true, true, false, true, true, false, false, false] rfl rfl (by kernel_rfl) (fun _ _ _ h => h) (Or.inl ⟨by rfl, ?_⟩) ?_ ?_
      rotate_left
      · intro w'
        go_simp
        with_reducible rfl
      rotate_left
      · simp only [Act.put, List.setIfInBounds_toArray, List.set_cons_zero, List.set_cons_succ, i64_w, i32_w]
        rfl
      refine pure_ (i := 6) (N := some 22) (v := ?_) (a' := ?_) #[true, true, true, false, true, true, true, false, false] rfl rfl (by kernel_rfl) (fun _ _ _ h => h) (Or.inl ⟨by rfl, ?_⟩) ?_ ?_
      rotate_left
      · intro w'
        go_simp
        with_reducible rfl
      rotate_left
      · simp only [Act.put, List.setIfInBounds_toArray, List.set_cons_zero, List.set_cons_succ, i64_w, i32_w]
        rfl
      refine take_ (i := 3) (N := some 19) (v := ?_) (a' := ?_) #[true, true, true, true, true, true, true, false, false] rfl rfl (by kernel_rfl) (fun _ _ _ h => h) (Or.inl ⟨by rfl, ?_⟩) hHeld ?_ ?_
      rotate_left
      · rintro w' ⟨s0, s1⟩
        go_simp
        with_reducible rfl
      rotate_left
      · simp only [Act.put, List.setIfInBounds_toArray, List.set_cons_zero, List.set_cons_succ, i64_w, i32_w]
        rfl
      refine take_ (i := 7) (N := some 23) (v := ?_) (a' := ?_) #[true, true, true, true, true, true, true, true, false] rfl rfl (by kernel_rfl) (fun _ _ _ h => h) (Or.inl ⟨by rfl, ?_⟩) hHeld ?_ ?_
      rotate_left
      · rintro w' ⟨s0, s1⟩
        go_simp
        with_reducible rfl
      rotate_left
      · simp only [Act.put, List.setIfInBounds_toArray, List.set_cons_zero, List.set_cons_succ, i64_w, i32_w]
        rfl
      refine pure_ (i := 8) (N := some 24) (v := ?_) (a' := ?_) #[true, true, true, true, true, true, true, true, true] rfl rfl (by kernel_rfl) (fun _ _ _ h => h) (Or.inl ⟨by rfl, ?_⟩) ?_ ?_
      rotate_left
      · intro w'
        go_simp
        with_reducible rfl
      rotate_left
      · simp only [Act.put, List.setIfInBounds_toArray, List.set_cons_zero, List.set_cons_succ, i64_w, i32_w]
        rfl
      refine done_ (by kernel_rfl) ?_

      have hB9 := hB.trans (hHeld.1.mono hB.size)
      clear hHeld
      go_wp2_with fail
      go_roundw
      case rel => exact ⟨k + 1, by omega, by go_num, hB9⟩
      case measure => simp [intOf]; omega
    · have hkI : ¬ (k : Int) < (l.length : Int) := by omega
      go_wp2_with fail
      go_ret
      exact ⟨rfl, hB⟩
end Go.Proofs.YtajnaiofagppeaaDoor.RefPack
