/- What the reference's put answers: ballots with one more. -/
import Derived.Test.YtajnaiofagppeaaDoorRefUnpack
import Derived.Test.YtajnaiofagppeaaDoorShipLaw
namespace Go.Proofs.YtajnaiofagppeaaDoor.RefPut
open Go Go.RowKit Go.Shelf CodeSpec AgentSpec Flat CodeMem Ballot SeqOver Collect Pack Search RefBal RefPack Ship Go.Proofs.YtajnaiofagppeaaDoorW.PrintLast
set_option linter.unusedSimpArgs false
set_option linter.unusedVariables false
set_option maxRecDepth 100000
def RPutPost (T : List Ba × Int) (w : World) (e : Ending) (w' : World) : Prop := ∃ u, e = .returned (.tuple #[u, .int .i64 T.2]) ∧ (∃ a n c, u = .slice a n c) ∧ (T.2 = 0 → IsBal w' u T.1) ∧ Below w.heap.size w w'
/-- What has come out behind k rounds. -/
def outL (l : List Ba) (b : Ba) (k : Nat) : List Ba := if k ≤ posL l b then l.take k else l.take (posL l b) ++ b :: (l.take k).drop (posL l b)
theorem out_zero (l : List Ba) (b : Ba) : outL l b 0 = [] := by rw [outL, if_pos (Nat.zero_le _)]; simp
theorem out_low {l : List Ba} {b : Ba} {k : Nat} (hk : k < l.length) (h : k < posL l b) : outL l b (k + 1) = outL l b k ++ [l[k]] := by
  rw [outL, if_pos (by omega), outL, if_pos (by omega), List.take_succ_eq_append_getElem hk]
theorem out_at {l : List Ba} {b : Ba} {k : Nat} (hk : k < l.length) (h : k = posL l b) : outL l b (k + 1) = outL l b k ++ [b] ++ [l[k]] := by
  rw [outL, if_neg (by omega), outL, if_pos (by omega), ← h, List.take_succ_eq_append_getElem hk, List.drop_append, List.length_take]
  simp [show min k l.length = k by omega]
theorem out_high {l : List Ba} {b : Ba} {k : Nat} (hk : k < l.length) (h : posL l b < k) : outL l b (k + 1) = outL l b k ++ [l[k]] := by
  rw [outL, if_neg (by omega), outL, if_neg (by omega), List.take_succ_eq_append_getElem hk, List.drop_append, List.length_take, show posL l b - min k l.length = 0 by omega]
  simp
theorem out_len {l : List Ba} {b : Ba} {k : Nat} (hk : k ≤ l.length) : (outL l b k).length ≤ k + 1 := by
  unfold outL
  split
  · rw [List.length_take]; omega
  · rw [List.length_append, List.length_cons, List.length_drop, List.length_take, List.length_take]; omega
theorem out_all {l : List Ba} {b : Ba} (hp : posL l b ≤ l.length) : (if posL l b < l.length then outL l b l.length else outL l b l.length ++ [b]) = Go.Proofs.YtajnaiofagppeaaDoor.Insert.insL l (posL l b) b := by
  unfold outL
  split
  · rw [if_neg (by omega), List.take_length]
    rfl
  · have e : posL l b = l.length := by omega
    rw [e, if_pos (Nat.le_refl _), Go.Proofs.YtajnaiofagppeaaDoor.Insert.insL, List.take_length, List.drop_length]
def RelPut (w1 : World) (l : List Ba) (b : Ba) (o d i : Value) (wr : World) : Prop :=
  ∃ k, k ≤ l.length ∧ i = .int .i64 (k : Int) ∧ d = .bool (decide (posL l b < k)) ∧ OwnRB wr w1.heap.size o (outL l b k) ∧ (∀ j (h : j < l.length), j < k → l[j].tx ≠ b.tx) ∧ Below w1.heap.size w1 wr
set_option maxHeartbeats 8000000 in
theorem rput_any (v : Value) (l : List Ba) (b : Ba) (hr : rightL l = true) (w : World) (h : IsBal w v l) : Calls Tryd.prog 45 #[v, .agg #[.int .i64 b.tx, .int .i64 b.vote]] w (RPutPost (putL l b) w) := by
  have h50 := right_len hr
  have hri := right_rising hr
  have HFO := Lib.hid (pos_found b hri)
  have HRI := Lib.hid hri
  obtain ⟨T, hT⟩ : ∃ T, T = putL l b := ⟨_, rfl⟩
  rw [← hT]
  have HT := Lib.hid hT
  obtain ⟨a, cap, rfl, hlc, hcm, hcc⟩ := h
  unfold maxLen at hcm
  have HIB : Hid (IsBal w (.slice a l.length cap) l) := Lib.hid ⟨a, cap, rfl, hlc, hcm, hcc⟩
  have HCC := Lib.hid hcc
  obtain ⟨i0, hi, hz0, hz1, hz2⟩ := info_parts infoRB
  clear hcc hT hri hr
  go_enter Tryd.func45, Tryd.ntmps45
  go_wp2_with fail
  generalize hv1 : World.alloc w _ = w1
  obtain ⟨hb1, hz1', hc1⟩ := alloc_facts hv1
  have b0 := hc1 0
  have b1 := hc1 1
  have hs1 : w1.heap.size = w.heap.size + 1 := by rw [← hv1]; simp
  clear hv1 hc1
  go_loopw [6, 7, 8] (fun o d i wr => RelPut w1 l b o d i wr) (fun _ _ i _ => l.length - (intOf i).toNat)
  case atStart => exact ⟨0, Nat.zero_le _, rfl, by simp, by rw [out_zero]; exact World.ownsRow_nil _ _ _ 2, fun j _ h => absurd h (Nat.not_lt_zero _), Below.refl _ _⟩
  case round =>
    obtain ⟨wo, h_wo⟩ : ∃ v : World, v = wr := ⟨_, rfl⟩; subst h_wo
    obtain ⟨k, hk, rfl, hd, hob, hne, hB⟩ := hrel
    have HB := Lib.hid hB
    have b0 := (hB.cell (p := ⟨w.heap.size, 0, none⟩) hz1').trans b0
    have b1 := (hB.cell (p := ⟨w.heap.size, 1, none⟩) hz1').trans b1
    have hzb := Nat.lt_of_lt_of_le hz1' hB.size
    by_cases hkl : k < l.length
    · have hkI : (k : Int) < (l.length : Int) := by omega
      have hk0 : (0 : Int) ≤ (k : Int) := by omega
      obtain ⟨bb, off, rfl, hbl, hdd⟩ := HCC.out (by omega)
      have hb1B : Below w.heap.size w wo := hb1.trans (hB.mono (by omega))
      have q0 := (hb1B.cell (p := ⟨bb, off + k * 2, none⟩) hbl).trans (hdd k hkl).1
      have q1 := (hb1B.cell (p := ⟨bb, off + k * 2 + 1, none⟩) hbl).trans (hdd k hkl).2
      have hbw := Nat.lt_of_lt_of_le hbl hb1B.size
      have q01 := (hb1.cell (p := ⟨bb, off + k * 2, none⟩) hbl).trans (hdd k hkl).1
      have q11 := (hb1.cell (p := ⟨bb, off + k * 2 + 1, none⟩) hbl).trans (hdd k hkl).2
      clear hdd
      by_cases heq : l[k].tx = b.tx
      · have hpk : posL l b = k := pos_eq HRI.out hkl heq
        have hat : isAt l b (posL l b) = true := (at_iff b HRI.out).2 ⟨l[k], List.getElem_mem hkl, heq⟩
        have hva : voteAt l (posL l b) = l[k].vote := vote_at HRI.out (List.getElem_mem hkl) heq
        have hT := HT.out
        rw [putL, if_pos hat, hva] at hT
        rw [heq] at q0
        obtain ⟨sv, sc, hsl⟩ := slice_of hob
        subst hsl
        generalize l[k].vote = yv at *
        obtain ⟨bt, bv⟩ := b
        dsimp only at *
        clear hat hva heq hpk HT q01 q11
        by_cases hv : yv = bv
        · subst hv
          rw [if_pos rfl] at hT
          subst hT
          have hvb : (yv != yv) = false := by simp
          go_upto_region 6 with fail
          refine start_ (n := 8) (S := fun w' => Below wo.heap.size wo w' ∧ ∀ b o, b < wo.heap.size → w'.cell? ⟨b, o, none⟩ = wo.cell? ⟨b, o, none⟩) (ds := []) #[false, false, false, false, false, false, false, false] (by kernel_rfl) rfl rfl ⟨(still_drew wo).1, (still_drew wo).2⟩ (fun hHeld => ?_)
          refine pure_ (i := 0) (N := some 15) (v := ?_) (a' := ?_) #[true, false, false, false, false, false, false, false] rfl rfl (by kernel_rfl) (fun _ _ _ h => h) (Or.inl ⟨by rfl, ?_⟩) ?_ ?_
          rotate_left
          · intro w'
            go_simp
            with_reducible rfl
          rotate_left
          · simp only [Act.put, List.setIfInBounds_toArray, List.set_cons_zero, List.set_cons_succ, i64_w, i32_w]
            rfl
          refine pure_ (i := 1) (N := some 16) (v := ?_) (a' := ?_) #[true, true, false, false, false, false, false, false] rfl rfl (by kernel_rfl) (fun _ _ _ h => h) (Or.inl ⟨by rfl, ?_⟩) ?_ ?_
          rotate_left
          · intro w'
            go_simp
            with_reducible rfl
          rotate_left
          · simp only [Act.put, List.setIfInBounds_toArray, List.set_cons_zero, List.set_cons_succ, i64_w, i32_w]
            rfl
          refine pure_ (i := 2) (N := some 17) (v := ?_) (a' := ?_) #[true, true, true, false, false, false, false, false] rfl rfl (by kernel_rfl) (fun _ _ _ h => h) (Or.inl ⟨by rfl, ?_⟩) ?_ ?_
          rotate_left
          · intro w'
            go_simp
            with_reducible rfl
          rotate_left
          · simp only [Act.put, List.setIfInBounds_toArray, List.set_cons_zero, List.set_cons_succ, i64_w, i32_w]
            rfl
          refine pure_ (i := 3) (N := some 18) (v := ?_) (a' := ?_) #[true, true, true, true, false, false, false, false] rfl rfl (by kernel_rfl) (fun _ _ _ h => h) (Or.inl ⟨by rfl, ?_⟩) ?_ ?_
          rotate_left
          · intro w'
            go_simp
            with_reducible rfl
          rotate_left
          · simp only [Act.put, List.setIfInBounds_toArray, List.set_cons_zero, List.set_cons_succ, i64_w, i32_w]
            rfl
          refine pure_ (i := 5) (N := some 20) (v := ?_) (a' := ?_) #[true, true, true, true, false, true, false, false] rfl rfl (by kernel_rfl) (fun _ _ _ h => h) (Or.inl ⟨by rfl, ?_⟩) ?_ ?_
          rotate_left
          · intro w'
            go_simp
            with_reducible rfl
          rotate_left
          · simp only [Act.put, List.setIfInBounds_toArray, List.set_cons_zero, List.set_cons_succ, i64_w, i32_w]
            rfl
          refine take_ (i := 4) (N := some 19) (v := ?_) (a' := ?_) #[true, true, true, true, true, true, false, false] rfl rfl (by kernel_rfl) (fun _ _ _ h => h) (Or.inl ⟨by rfl, ?_⟩) hHeld ?_ ?_
          rotate_left
          · rintro w' ⟨s0, s1⟩
            go_simp
            with_reducible rfl
          rotate_left
          · simp only [Act.put, List.setIfInBounds_toArray, List.set_cons_zero, List.set_cons_succ, i64_w, i32_w]
            rfl
          refine take_ (i := 6) (N := some 21) (v := ?_) (a' := ?_) #[true, true, true, true, true, true, true, false] rfl rfl (by kernel_rfl) (fun _ _ _ h => h) (Or.inl ⟨by rfl, ?_⟩) hHeld ?_ ?_
          rotate_left
          · rintro w' ⟨s0, s1⟩
            go_simp
            with_reducible rfl
          rotate_left
          · simp only [Act.put, List.setIfInBounds_toArray, List.set_cons_zero, List.set_cons_succ, i64_w, i32_w]
            rfl
          refine pure_ (i := 7) (N := some 22) (v := ?_) (a' := ?_) #[true, true, true, true, true, true, true, true] rfl rfl (by kernel_rfl) (fun _ _ _ h => h) (Or.inl ⟨by rfl, ?_⟩) ?_ ?_
          rotate_left
          · intro w'
            go_simp
            with_reducible rfl
          rotate_left
          · simp only [Act.put, List.setIfInBounds_toArray, List.set_cons_zero, List.set_cons_succ, i64_w, i32_w]
            rfl
          refine done_ (by kernel_rfl) ?_

          have hx := hHeld.1
          have q1 := (hx.cell (p := ⟨bb, off + k * 2 + 1, none⟩) hbw).trans q1
          have b1 := (hx.cell (p := ⟨w.heap.size, 1, none⟩) hzb).trans b1
          have hbw := Nat.lt_of_lt_of_le hbw hx.size
          have hzb := Nat.lt_of_lt_of_le hzb hx.size
          have hBx := hb1B.trans (hx.mono hb1B.size)
          clear hHeld hx hB hob HB b0 q0 hb1B
          go_upto_region 7 with fail
          generalize World.drew wo = wx at *
          refine start_ (n := 8) (S := fun w' => Below wx.heap.size wx w' ∧ ∀ b o, b < wx.heap.size → w'.cell? ⟨b, o, none⟩ = wx.cell? ⟨b, o, none⟩) (ds := []) #[false, false, false, false, false, false, false, false] (by kernel_rfl) rfl rfl ⟨(still_drew wx).1, (still_drew wx).2⟩ (fun hHeld => ?_)
          refine pure_ (i := 0) (N := some 23) (v := ?_) (a' := ?_) #[true, false, false, false, false, false, false, false] rfl rfl (by kernel_rfl) (fun _ _ _ h => h) (Or.inl ⟨by rfl, ?_⟩) ?_ ?_
          rotate_left
          · intro w'
            go_simp
            with_reducible rfl
          rotate_left
          · simp only [Act.put, List.setIfInBounds_toArray, List.set_cons_zero, List.set_cons_succ, i64_w, i32_w]
            rfl
          refine pure_ (i := 1) (N := some 24) (v := ?_) (a' := ?_) #[true, true, false, false, false, false, false, false] rfl rfl (by kernel_rfl) (fun _ _ _ h => h) (Or.inl ⟨by rfl, ?_⟩) ?_ ?_
          rotate_left
          · intro w'
            go_simp
            with_reducible rfl
          rotate_left
          · simp only [Act.put, List.setIfInBounds_toArray, List.set_cons_zero, List.set_cons_succ, i64_w, i32_w]
            rfl
          refine pure_ (i := 2) (N := some 25) (v := ?_) (a' := ?_) #[true, true, true, false, false, false, false, false] rfl rfl (by kernel_rfl) (fun _ _ _ h => h) (Or.inl ⟨by rfl, ?_⟩) ?_ ?_
          rotate_left
          · intro w'
            go_simp
            with_reducible rfl
          rotate_left
          · simp only [Act.put, List.setIfInBounds_toArray, List.set_cons_zero, List.set_cons_succ, i64_w, i32_w]
            rfl
          refine pure_ (i := 3) (N := some 26) (v := ?_) (a' := ?_) #[true, true, true, true, false, false, false, false] rfl rfl (by kernel_rfl) (fun _ _ _ h => h) (Or.inl ⟨by rfl, ?_⟩) ?_ ?_
          rotate_left
          · intro w'
            go_simp
            with_reducible rfl
          rotate_left
          · simp only [Act.put, List.setIfInBounds_toArray, List.set_cons_zero, List.set_cons_succ, i64_w, i32_w]
            rfl
          refine pure_ (i := 5) (N := some 28) (v := ?_) (a' := ?_) #[true, true, true, true, false, true, false, false] rfl rfl (by kernel_rfl) (fun _ _ _ h => h) (Or.inl ⟨by rfl, ?_⟩) ?_ ?_
          rotate_left
          · intro w'
            go_simp
            with_reducible rfl
          rotate_left
          · simp only [Act.put, List.setIfInBounds_toArray, List.set_cons_zero, List.set_cons_succ, i64_w, i32_w]
            rfl
          refine take_ (i := 4) (N := some 27) (v := ?_) (a' := ?_) #[true, true, true, true, true, true, false, false] rfl rfl (by kernel_rfl) (fun _ _ _ h => h) (Or.inl ⟨by rfl, ?_⟩) hHeld ?_ ?_
          rotate_left
          · rintro w' ⟨s0, s1⟩
            go_simp
            with_reducible rfl
          rotate_left
          · simp only [Act.put, List.setIfInBounds_toArray, List.set_cons_zero, List.set_cons_succ, i64_w, i32_w]
            rfl
          refine take_ (i := 6) (N := some 29) (v := ?_) (a' := ?_) #[true, true, true, true, true, true, true, false] rfl rfl (by kernel_rfl) (fun _ _ _ h => h) (Or.inl ⟨by rfl, ?_⟩) hHeld ?_ ?_
          rotate_left
          · rintro w' ⟨s0, s1⟩
            go_simp
            with_reducible rfl
          rotate_left
          · simp only [Act.put, List.setIfInBounds_toArray, List.set_cons_zero, List.set_cons_succ, i64_w, i32_w]
            rfl
          refine pure_ (i := 7) (N := some 30) (v := ?_) (a' := ?_) #[true, true, true, true, true, true, true, true] rfl rfl (by kernel_rfl) (fun _ _ _ h => h) (Or.inl ⟨by rfl, ?_⟩) ?_ ?_
          rotate_left
          · intro w'
            go_simp
            with_reducible rfl
          rotate_left
          · simp only [Act.put, List.setIfInBounds_toArray, List.set_cons_zero, List.set_cons_succ, i64_w, i32_w]
            rfl
          refine done_ (by kernel_rfl) ?_

          have hBy := hBx.trans (hHeld.1.mono hBx.size)
          go_wp2_with fail
          go_ret2
          exact ⟨_, rfl, ⟨_, _, _, rfl⟩, fun _ => HIB.out.below hBy, hBy⟩
        · rw [if_neg hv] at hT
          subst hT
          have hvb : (yv != bv) = true := bne_iff_ne.2 hv
          go_upto_region 6 with fail
          refine start_ (n := 8) (S := fun w' => Below wo.heap.size wo w' ∧ ∀ b o, b < wo.heap.size → w'.cell? ⟨b, o, none⟩ = wo.cell? ⟨b, o, none⟩) (ds := []) #[false, false, false, false, false, false, false, false] (by kernel_rfl) rfl rfl ⟨(still_drew wo).1, (still_drew wo).2⟩ (fun hHeld => ?_)
          refine pure_ (i := 0) (N := some 15) (v := ?_) (a' := ?_) #[true, false, false, false, false, false, false, false] rfl rfl (by kernel_rfl) (fun _ _ _ h => h) (Or.inl ⟨by rfl, ?_⟩) ?_ ?_
          rotate_left
          · intro w'
            go_simp
            with_reducible rfl
          rotate_left
          · simp only [Act.put, List.setIfInBounds_toArray, List.set_cons_zero, List.set_cons_succ, i64_w, i32_w]
            rfl
          refine pure_ (i := 1) (N := some 16) (v := ?_) (a' := ?_) #[true, true, false, false, false, false, false, false] rfl rfl (by kernel_rfl) (fun _ _ _ h => h) (Or.inl ⟨by rfl, ?_⟩) ?_ ?_
          rotate_left
          · intro w'
            go_simp
            with_reducible rfl
          rotate_left
          · simp only [Act.put, List.setIfInBounds_toArray, List.set_cons_zero, List.set_cons_succ, i64_w, i32_w]
            rfl
          refine pure_ (i := 2) (N := some 17) (v := ?_) (a' := ?_) #[true, true, true, false, false, false, false, false] rfl rfl (by kernel_rfl) (fun _ _ _ h => h) (Or.inl ⟨by rfl, ?_⟩) ?_ ?_
          rotate_left
          · intro w'
            go_simp
            with_reducible rfl
          rotate_left
          · simp only [Act.put, List.setIfInBounds_toArray, List.set_cons_zero, List.set_cons_succ, i64_w, i32_w]
            rfl
          refine pure_ (i := 3) (N := some 18) (v := ?_) (a' := ?_) #[true, true, true, true, false, false, false, false] rfl rfl (by kernel_rfl) (fun _ _ _ h => h) (Or.inl ⟨by rfl, ?_⟩) ?_ ?_
          rotate_left
          · intro w'
            go_simp
            with_reducible rfl
          rotate_left
          · simp only [Act.put, List.setIfInBounds_toArray, List.set_cons_zero, List.set_cons_succ, i64_w, i32_w]
            rfl
          refine pure_ (i := 5) (N := some 20) (v := ?_) (a' := ?_) #[true, true, true, true, false, true, false, false] rfl rfl (by kernel_rfl) (fun _ _ _ h => h) (Or.inl ⟨by rfl, ?_⟩) ?_ ?_
          rotate_left
          · intro w'
            go_simp
            with_reducible rfl
          rotate_left
          · simp only [Act.put, List.setIfInBounds_toArray, List.set_cons_zero, List.set_cons_succ, i64_w, i32_w]
            rfl
          refine take_ (i := 4) (N := some 19) (v := ?_) (a' := ?_) #[true, true, true, true, true, true, false, false] rfl rfl (by kernel_rfl) (fun _ _ _ h => h) (Or.inl ⟨by rfl, ?_⟩) hHeld ?_ ?_
          rotate_left
          · rintro w' ⟨s0, s1⟩
            go_simp
            with_reducible rfl
          rotate_left
          · simp only [Act.put, List.setIfInBounds_toArray, List.set_cons_zero, List.set_cons_succ, i64_w, i32_w]
            rfl
          refine take_ (i := 6) (N := some 21) (v := ?_) (a' := ?_) #[true, true, true, true, true, true, true, false] rfl rfl (by kernel_rfl) (fun _ _ _ h => h) (Or.inl ⟨by rfl, ?_⟩) hHeld ?_ ?_
          rotate_left
          · rintro w' ⟨s0, s1⟩
            go_simp
            with_reducible rfl
          rotate_left
          · simp only [Act.put, List.setIfInBounds_toArray, List.set_cons_zero, List.set_cons_succ, i64_w, i32_w]
            rfl
          refine pure_ (i := 7) (N := some 22) (v := ?_) (a' := ?_) #[true, true, true, true, true, true, true, true] rfl rfl (by kernel_rfl) (fun _ _ _ h => h) (Or.inl ⟨by rfl, ?_⟩) ?_ ?_
          rotate_left
          · intro w'
            go_simp
            with_reducible rfl
          rotate_left
          · simp only [Act.put, List.setIfInBounds_toArray, List.set_cons_zero, List.set_cons_succ, i64_w, i32_w]
            rfl
          refine done_ (by kernel_rfl) ?_

          have hx := hHeld.1
          have q1 := (hx.cell (p := ⟨bb, off + k * 2 + 1, none⟩) hbw).trans q1
          have b1 := (hx.cell (p := ⟨w.heap.size, 1, none⟩) hzb).trans b1
          have hbw := Nat.lt_of_lt_of_le hbw hx.size
          have hzb := Nat.lt_of_lt_of_le hzb hx.size
          have hBx := hb1B.trans (hx.mono hb1B.size)
          clear hHeld hx hB hob HB b0 q0 hb1B
          go_upto_region 7 with fail
          generalize World.drew wo = wx at *
          refine start_ (n := 8) (S := fun w' => Below wx.heap.size wx w' ∧ ∀ b o, b < wx.heap.size → w'.cell? ⟨b, o, none⟩ = wx.cell? ⟨b, o, none⟩) (ds := []) #[false, false, false, false, false, false, false, false] (by kernel_rfl) rfl rfl ⟨(still_drew wx).1, (still_drew wx).2⟩ (fun hHeld => ?_)
          refine pure_ (i := 0) (N := some 23) (v := ?_) (a' := ?_) #[true, false, false, false, false, false, false, false] rfl rfl (by kernel_rfl) (fun _ _ _ h => h) (Or.inl ⟨by rfl, ?_⟩) ?_ ?_
          rotate_left
          · intro w'
            go_simp
            with_reducible rfl
          rotate_left
          · simp only [Act.put, List.setIfInBounds_toArray, List.set_cons_zero, List.set_cons_succ, i64_w, i32_w]
            rfl
          refine pure_ (i := 1) (N := some 24) (v := ?_) (a' := ?_) #[true, true, false, false, false, false, false, false] rfl rfl (by kernel_rfl) (fun _ _ _ h => h) (Or.inl ⟨by rfl, ?_⟩) ?_ ?_
          rotate_left
          · intro w'
            go_simp
            with_reducible rfl
          rotate_left
          · simp only [Act.put, List.setIfInBounds_toArray, List.set_cons_zero, List.set_cons_succ, i64_w, i32_w]
            rfl
          refine pure_ (i := 2) (N := some 25) (v := ?_) (a' := ?_) #[true, true, true, false, false, false, false, false] rfl rfl (by kernel_rfl) (fun _ _ _ h => h) (Or.inl ⟨by rfl, ?_⟩) ?_ ?_
          rotate_left
          · intro w'
            go_simp
            with_reducible rfl
          rotate_left
          · simp only [Act.put, List.setIfInBounds_toArray, List.set_cons_zero, List.set_cons_succ, i64_w, i32_w]
            rfl
          refine pure_ (i := 3) (N := some 26) (v := ?_) (a' := ?_) #[true, true, true, true, false, false, false, false] rfl rfl (by kernel_rfl) (fun _ _ _ h => h) (Or.inl ⟨by rfl, ?_⟩) ?_ ?_
          rotate_left
          · intro w'
            go_simp
            with_reducible rfl
          rotate_left
          · simp only [Act.put, List.setIfInBounds_toArray, List.set_cons_zero, List.set_cons_succ, i64_w, i32_w]
            rfl
          refine pure_ (i := 5) (N := some 28) (v := ?_) (a' := ?_) #[true, true, true, true, false, true, false, false] rfl rfl (by kernel_rfl) (fun _ _ _ h => h) (Or.inl ⟨by rfl, ?_⟩) ?_ ?_
          rotate_left
          · intro w'
            go_simp
            with_reducible rfl
          rotate_left
          · simp only [Act.put, List.setIfInBounds_toArray, List.set_cons_zero, List.set_cons_succ, i64_w, i32_w]
            rfl
          refine take_ (i := 4) (N := some 27) (v := ?_) (a' := ?_) #[true, true, true, true, true, true, false, false] rfl rfl (by kernel_rfl) (fun _ _ _ h => h) (Or.inl ⟨by rfl, ?_⟩) hHeld ?_ ?_
          rotate_left
          · rintro w' ⟨s0, s1⟩
            go_simp
            with_reducible rfl
          rotate_left
          · simp only [Act.put, List.setIfInBounds_toArray, List.set_cons_zero, List.set_cons_succ, i64_w, i32_w]
            rfl
          refine take_ (i := 6) (N := some 29) (v := ?_) (a' := ?_) #[true, true, true, true, true, true, true, false] rfl rfl (by kernel_rfl) (fun _ _ _ h => h) (Or.inl ⟨by rfl, ?_⟩) hHeld ?_ ?_
          rotate_left
          · rintro w' ⟨s0, s1⟩
            go_simp
            with_reducible rfl
          rotate_left
          · simp only [Act.put, List.setIfInBounds_toArray, List.set_cons_zero, List.set_cons_succ, i64_w, i32_w]
            rfl
          refine pure_ (i := 7) (N := some 30) (v := ?_) (a' := ?_) #[true, true, true, true, true, true, true, true] rfl rfl (by kernel_rfl) (fun _ _ _ h => h) (Or.inl ⟨by rfl, ?_⟩) ?_ ?_
          rotate_left
          · intro w'
            go_simp
            with_reducible rfl
          rotate_left
          · simp only [Act.put, List.setIfInBounds_toArray, List.set_cons_zero, List.set_cons_succ, i64_w, i32_w]
            rfl
          refine done_ (by kernel_rfl) ?_

          have hBy := hBx.trans (hHeld.1.mono hBx.size)
          go_wp2_with fail
          go_ret2
          exact ⟨_, rfl, ⟨_, _, _, rfl⟩, fun h => absurd h (by show ¬ (8 : Int) = 0; decide), hBy⟩
      · have hne2 : ∀ j (h : j < l.length), j < k + 1 → l[j].tx ≠ b.tx := fun j hj hjk => by
          by_cases e : j = k
          · subst e; exact heq
          · exact hne j hj (by omega)
        have HNE := Lib.hid hne2
        have hol := out_len (b := b) hk
        have hyb : (l[k].tx == b.tx) = false := beq_eq_false_iff_ne.2 heq
        rcases Nat.lt_trichotomy k (posL l b) with hp | hp | hp
        · have hlt : ¬ b.tx < l[k].tx := by have := HFO.out.2.1 k hkl hp; omega
          have HOUT := Lib.hid (out_low hkl hp)
          have hd' : decide (posL l b < k) = false := decide_eq_false (by omega)
          rw [hd'] at hd
          subst hd
          have hd2 : decide (posL l b < k + 1) = false := decide_eq_false (by omega)
          have HD2 := Lib.hid hd2
          clear hd' hd2 hp hne hne2 heq q01 q11
          obtain ⟨sv, sc, hsl⟩ := slice_of hob
          subst hsl
          generalize l[k] = y at *
          obtain ⟨yt, yv⟩ := y
          obtain ⟨bt, bv⟩ := b
          dsimp only at *
          go_upto_region 6 with fail
          refine start_ (n := 8) (S := fun w' => Below wo.heap.size wo w' ∧ ∀ b o, b < wo.heap.size → w'.cell? ⟨b, o, none⟩ = wo.cell? ⟨b, o, none⟩) (ds := []) #[false, false, false, false, false, false, false, false] (by kernel_rfl) rfl rfl ⟨(still_drew wo).1, (still_drew wo).2⟩ (fun hHeld => ?_)
          refine pure_ (i := 0) (N := some 15) (v := ?_) (a' := ?_) #[true, false, false, false, false, false, false, false] rfl rfl (by kernel_rfl) (fun _ _ _ h => h) (Or.inl ⟨by rfl, ?_⟩) ?_ ?_
          rotate_left
          · intro w'
            go_simp
            with_reducible rfl
          rotate_left
          · simp only [Act.put, List.setIfInBounds_toArray, List.set_cons_zero, List.set_cons_succ, i64_w, i32_w]
            rfl
          refine pure_ (i := 1) (N := some 16) (v := ?_) (a' := ?_) #[true, true, false, false, false, false, false, false] rfl rfl (by kernel_rfl) (fun _ _ _ h => h) (Or.inl ⟨by rfl, ?_⟩) ?_ ?_
          rotate_left
          · intro w'
            go_simp
            with_reducible rfl
          rotate_left
          · simp only [Act.put, List.setIfInBounds_toArray, List.set_cons_zero, List.set_cons_succ, i64_w, i32_w]
            rfl
          refine pure_ (i := 2) (N := some 17) (v := ?_) (a' := ?_) #[true, true, true, false, false, false, false, false] rfl rfl (by kernel_rfl) (fun _ _ _ h => h) (Or.inl ⟨by rfl, ?_⟩) ?_ ?_
          rotate_left
          · intro w'
            go_simp
            with_reducible rfl
          rotate_left
          · simp only [Act.put, List.setIfInBounds_toArray, List.set_cons_zero, List.set_cons_succ, i64_w, i32_w]
            rfl
          refine pure_ (i := 3) (N := some 18) (v := ?_) (a' := ?_) #[true, true, true, true, false, false, false, false] rfl rfl (by kernel_rfl) (fun _ _ _ h => h) (Or.inl ⟨by rfl, ?_⟩) ?_ ?_
          rotate_left
          · intro w'
            go_simp
            with_reducible rfl
          rotate_left
          · simp only [Act.put, List.setIfInBounds_toArray, List.set_cons_zero, List.set_cons_succ, i64_w, i32_w]
            rfl
          refine pure_ (i := 5) (N := some 20) (v := ?_) (a' := ?_) #[true, true, true, true, false, true, false, false] rfl rfl (by kernel_rfl) (fun _ _ _ h => h) (Or.inl ⟨by rfl, ?_⟩) ?_ ?_
          rotate_left
          · intro w'
            go_simp
            with_reducible rfl
          rotate_left
          · simp only [Act.put, List.setIfInBounds_toArray, List.set_cons_zero, List.set_cons_succ, i64_w, i32_w]
            rfl
          refine take_ (i := 4) (N := some 19) (v := ?_) (a' := ?_) #[true, true, true, true, true, true, false, false] rfl rfl (by kernel_rfl) (fun _ _ _ h => h) (Or.inl ⟨by rfl, ?_⟩) hHeld ?_ ?_
          rotate_left
          · rintro w' ⟨s0, s1⟩
            go_simp
            with_reducible rfl
          rotate_left
          · simp only [Act.put, List.setIfInBounds_toArray, List.set_cons_zero, List.set_cons_succ, i64_w, i32_w]
            rfl
          refine take_ (i := 6) (N := some 21) (v := ?_) (a' := ?_) #[true, true, true, true, true, true, true, false] rfl rfl (by kernel_rfl) (fun _ _ _ h => h) (Or.inl ⟨by rfl, ?_⟩) hHeld ?_ ?_
          rotate_left
          · rintro w' ⟨s0, s1⟩
            go_simp
            with_reducible rfl
          rotate_left
          · simp only [Act.put, List.setIfInBounds_toArray, List.set_cons_zero, List.set_cons_succ, i64_w, i32_w]
            rfl
          refine pure_ (i := 7) (N := some 22) (v := ?_) (a' := ?_) #[true, true, true, true, true, true, true, true] rfl rfl (by kernel_rfl) (fun _ _ _ h => h) (Or.inl ⟨by rfl, ?_⟩) ?_ ?_
          rotate_left
          · intro w'
            go_simp
            with_reducible rfl
          rotate_left
          · simp only [Act.put, List.setIfInBounds_toArray, List.set_cons_zero, List.set_cons_succ, i64_w, i32_w]
            rfl
          refine done_ (by kernel_rfl) ?_

          have hx := hHeld.1
          have q0 := (hx.cell (p := ⟨bb, off + k * 2, none⟩) hbw).trans q0
          have q1 := (hx.cell (p := ⟨bb, off + k * 2 + 1, none⟩) hbw).trans q1
          have b0 := (hx.cell (p := ⟨w.heap.size, 0, none⟩) hzb).trans b0
          have b1 := (hx.cell (p := ⟨w.heap.size, 1, none⟩) hzb).trans b1
          have hbw := Nat.lt_of_lt_of_le hbw hx.size
          have hzb := Nat.lt_of_lt_of_le hzb hx.size
          have hB4 := HB.out.trans (hx.mono HB.out.size)
          have hob4 : OwnRB _ _ _ _ := own_kept hob hx
          clear hHeld hx hB hob HB hb1B
          go_upto_region 10 with fail
          generalize World.drew wo = wx at *
          refine start_ (n := 12) (S := fun w' => Below wx.heap.size wx w' ∧ ∀ b o, b < wx.heap.size → w'.cell? ⟨b, o, none⟩ = wx.cell? ⟨b, o, none⟩) (ds := []) #[false, false, false, false, false, false, false, false, false, false, false, false] (by kernel_rfl) rfl rfl ⟨(still_drew wx).1, (still_drew wx).2⟩ (fun hHeld => ?_)
          refine pure_ (i := 0) (N := some 32) (v := ?_) (a' := ?_) #[true, false, false, false, false, false, false, false, false, false, false, false] rfl rfl (by kernel_rfl) (fun _ _ _ h => h) (Or.inl ⟨by rfl, ?_⟩) ?_ ?_
          rotate_left
          · intro w'
            go_simp
            with_reducible rfl
          rotate_left
          · simp only [Act.put, List.setIfInBounds_toArray, List.set_cons_zero, List.set_cons_succ, i64_w, i32_w]
            rfl
          refine pure_ (i := 1) (N := some 33) (v := ?_) (a' := ?_) #[true, true, false, false, false, false, false, false, false, false, false, false] rfl rfl (by kernel_rfl) (fun _ _ _ h => h) (Or.inl ⟨by rfl, ?_⟩) ?_ ?_
          rotate_left
          · intro w'
            go_simp
            with_reducible rfl
          rotate_left
          · simp only [Act.put, List.setIfInBounds_toArray, List.set_cons_zero, List.set_cons_succ, i64_w, i32_w]
            rfl
          refine pure_ (i := 2) (N := some 34) (v := ?_) (a' := ?_) #[true, true, true, false, false, false, false, false, false, false, false, false] rfl rfl (by kernel_rfl) (fun _ _ _ h => h) (Or.inl ⟨by rfl, ?_⟩) ?_ ?_
          rotate_left
          · intro w'
            go_simp
            with_reducible rfl
          rotate_left
          · simp only [Act.put, List.setIfInBounds_toArray, List.set_cons_zero, List.set_cons_succ, i64_w, i32_w]
            rfl
          refine pure_ (i := 3) (N := some 35) (v := ?_) (a' := ?_) #[true, true, true, true, false, false, false, false, false, false, false, false] rfl rfl (by kernel_rfl) (fun _ _ _ h => h) (Or.inl ⟨by rfl, ?_⟩) ?_ ?_
          rotate_left
          · intro w'
            go_simp
            with_reducible rfl
          rotate_left
          · simp only [Act.put, List.setIfInBounds_toArray, List.set_cons_zero, List.set_cons_succ, i64_w, i32_w]
            rfl
          refine pure_ (i := 5) (N := some 37) (v := ?_) (a' := ?_) #[true, true, true, true, false, true, false, false, false, false, false, false] rfl rfl (by kernel_rfl) (fun _ _ _ h => h) (Or.inl ⟨by rfl, ?_⟩) ?_ ?_
          rotate_left
          · intro w'
            go_simp
            with_reducible rfl
          rotate_left
          · simp only [Act.put, List.setIfInBounds_toArray, List.set_cons_zero, List.set_cons_succ, i64_w, i32_w]
            rfl
          refine pure_ (i := 6) (N := some 38) (v := ?_) (a' := ?_) #[true, true, true, true, false, true, true, false, false, false, false, false] rfl rfl (by kernel_rfl) (fun _ _ _ h => h) (Or.inl ⟨by rfl, ?_⟩) ?_ ?_
          rotate_left
          · intro w'
            go_simp
            with_reducible rfl
          rotate_left
          · simp only [Act.put, List.setIfInBounds_toArray, List.set_cons_zero, List.set_cons_succ, i64_w, i32_w]
            rfl
          refine pure_ (i := 7) (N := some 39) (v := ?_) (a' := ?_) #[true, true, true, true, false, true, true, true, false, false, false, false] rfl rfl (by kernel_rfl) (fun _ _ _ h => h) (Or.inl ⟨by rfl, ?_⟩) ?_ ?_
          rotate_left
          · intro w'
            go_simp
            with_reducible rfl
          rotate_left
          · simp only [Act.put, List.setIfInBounds_toArray, List.set_cons_zero, List.set_cons_succ, i64_w, i32_w]
            rfl
          refine pure_ (i := 8) (N := some 40) (v := ?_) (a' := ?_) #[true, true, true, true, false, true, true, true, true, false, false, false] rfl rfl (by kernel_rfl) (fun _ _ _ h => h) (Or.inl ⟨by rfl, ?_⟩) ?_ ?_
          rotate_left
          · intro w'
            go_simp
            with_reducible rfl
          rotate_left
          · simp only [Act.put, List.setIfInBounds_toArray, List.set_cons_zero, List.set_cons_succ, i64_w, i32_w]
            rfl
          refine take_ (i := 4) (N := some 36) (v := ?_) (a' := ?_) #[true, true, true, true, true, true, true, true, true, false, false, false] rfl rfl (by kernel_rfl) (fun _ _ _ h => h) (Or.inl ⟨by rfl, ?_⟩) hHeld ?_ ?_
          rotate_left
          · rintro w' ⟨s0, s1⟩
            go_simp
            with_reducible rfl
          rotate_left
          · simp only [Act.put, List.setIfInBounds_toArray, List.set_cons_zero, List.set_cons_succ, i64_w, i32_w]
            rfl
          refine take_ (i := 9) (N := some 41) (v := ?_) (a' := ?_) #[true, true, true, true, true, true, true, true, true, true, false, false] rfl rfl (by kernel_rfl) (fun _ _ _ h => h) (Or.inl ⟨by rfl, ?_⟩) hHeld ?_ ?_
          rotate_left
          · rintro w' ⟨s0, s1⟩
            go_simp
            with_reducible rfl
          rotate_left
          · simp only [Act.put, List.setIfInBounds_toArray, List.set_cons_zero, List.set_cons_succ, i64_w, i32_w]
            rfl
          refine pure_ (i := 10) (N := some 42) (v := ?_) (a' := ?_) #[true, true, true, true, true, true, true, true, true, true, true, false] rfl rfl (by kernel_rfl) (fun _ _ _ h => h) (Or.inl ⟨by rfl, ?_⟩) ?_ ?_
          rotate_left
          · intro w'
            go_simp
            with_reducible rfl
          rotate_left
          · simp only [Act.put, List.setIfInBounds_toArray, List.set_cons_zero, List.set_cons_succ, i64_w, i32_w]
            rfl
          refine pure_ (i := 11) (N := some 43) (v := ?_) (a' := ?_) #[true, true, true, true, true, true, true, true, true, true, true, true] rfl rfl (by kernel_rfl) (fun _ _ _ h => h) (Or.inl ⟨by rfl, ?_⟩) ?_ ?_
          rotate_left
          · intro w'
            go_simp
            with_reducible rfl
          rotate_left
          · simp only [Act.put, List.setIfInBounds_toArray, List.set_cons_zero, List.set_cons_succ, i64_w, i32_w]
            rfl
          refine done_ (by kernel_rfl) ?_

          have hx := hHeld.1
          have q0 := (hx.cell (p := ⟨bb, off + k * 2, none⟩) hbw).trans q0
          have q1 := (hx.cell (p := ⟨bb, off + k * 2 + 1, none⟩) hbw).trans q1
          have b0 := (hx.cell (p := ⟨w.heap.size, 0, none⟩) hzb).trans b0
          have b1 := (hx.cell (p := ⟨w.heap.size, 1, none⟩) hzb).trans b1
          have hB5 := hB4.trans (hx.mono hB4.size)
          have hob5 : OwnRB _ _ _ _ := own_kept hob4 hx
          clear hHeld hx hB4 hob4 hbw hzb
          generalize World.drew wx = wy at *
          have hBs := hB5.size
          have HB5 := Lib.hid hB5
          clear hB5
          unfold OwnRB at hob5
          go_wp2_with (first | (at_builtin; refine wpList_append_own_at _ rfl _ _ 22 rfl w1.heap.size 42 i0 _ 2 16 Tryd.underlying22 hi hz0 hz1 hz2 rfl (by decide) _ _ _ rfl (World.ownsRow.alloc hob5 _) ⟨wy.heap.size, 0, none⟩ 1 1 [.int .i64 yt, .int .i64 yv] rfl rfl (cell_two_new _ _ _ _) (two_one _ _) (by unfold maxLen; omega) (by omega) (Nat.le_trans hBs (by simp)) ?_; intro v7 w7 hobz hg7 hnil7 hloc7) | fail)
          have hBz := (HB5.out.alloc hBs _).grown hg7 (Nat.le_trans hBs (by simp)) (fun j hj => (hob5.lt j hj).1)
          go_roundw
          case rel => exact ⟨k + 1, by omega, by go_num, by rw [HD2.out], by rw [HOUT.out, OwnRB, bcl_append, List.length_append]; exact hobz, HNE.out, hBz⟩
          case measure => simp [intOf]; omega
        · have hlt : b.tx < l[k].tx := by have := HFO.out.2.2 k hkl (by omega); omega
          have HOUT := Lib.hid (out_at hkl hp)
          have hd' : decide (posL l b < k) = false := decide_eq_false (by omega)
          rw [hd'] at hd
          subst hd
          have hd2 : decide (posL l b < k + 1) = true := decide_eq_true (by omega)
          have HD2 := Lib.hid hd2
          have HC := Lib.hid (fun (W : World) (hW : Below w1.heap.size w1 W) => And.intro ((hW.cell (p := ⟨bb, off + k * 2, none⟩) (show bb < w1.heap.size by omega)).trans q01) ((hW.cell (p := ⟨bb, off + k * 2 + 1, none⟩) (show bb < w1.heap.size by omega)).trans q11))
          clear hd' hd2 hp hne hne2 heq q01 q11
          obtain ⟨sv, sc, hsl⟩ := slice_of hob
          subst hsl
          generalize l[k] = y at *
          obtain ⟨yt, yv⟩ := y
          obtain ⟨bt, bv⟩ := b
          dsimp only at *
          go_upto_region 6 with fail
          refine start_ (n := 8) (S := fun w' => Below wo.heap.size wo w' ∧ ∀ b o, b < wo.heap.size → w'.cell? ⟨b, o, none⟩ = wo.cell? ⟨b, o, none⟩) (ds := []) #[false, false, false, false, false, false, false, false] (by kernel_rfl) rfl rfl ⟨(still_drew wo).1, (still_drew wo).2⟩ (fun hHeld => ?_)
          refine pure_ (i := 0) (N := some 15) (v := ?_) (a' := ?_) #[true, false, false, false, false, false, false, false] rfl rfl (by kernel_rfl) (fun _ _ _ h => h) (Or.inl ⟨by rfl, ?_⟩) ?_ ?_
          rotate_left
          · intro w'
            go_simp
            with_reducible rfl
          rotate_left
          · simp only [Act.put, List.setIfInBounds_toArray, List.set_cons_zero, List.set_cons_succ, i64_w, i32_w]
            rfl
          refine pure_ (i := 1) (N := some 16) (v := ?_) (a' := ?_) #[true, true, false, false, false, false, false, false] rfl rfl (by kernel_rfl) (fun _ _ _ h => h) (Or.inl ⟨by rfl, ?_⟩) ?_ ?_
          rotate_left
          · intro w'
            go_simp
            with_reducible rfl
          rotate_left
          · simp only [Act.put, List.setIfInBounds_toArray, List.set_cons_zero, List.set_cons_succ, i64_w, i32_w]
            rfl
          refine pure_ (i := 2) (N := some 17) (v := ?_) (a' := ?_) #[true, true, true, false, false, false, false, false] rfl rfl (by kernel_rfl) (fun _ _ _ h => h) (Or.inl ⟨by rfl, ?_⟩) ?_ ?_
          rotate_left
          · intro w'
            go_simp
            with_reducible rfl
          rotate_left
          · simp only [Act.put, List.setIfInBounds_toArray, List.set_cons_zero, List.set_cons_succ, i64_w, i32_w]
            rfl
          refine pure_ (i := 3) (N := some 18) (v := ?_) (a' := ?_) #[true, true, true, true, false, false, false, false] rfl rfl (by kernel_rfl) (fun _ _ _ h => h) (Or.inl ⟨by rfl, ?_⟩) ?_ ?_
          rotate_left
          · intro w'
            go_simp
            with_reducible rfl
          rotate_left
          · simp only [Act.put, List.setIfInBounds_toArray, List.set_cons_zero, List.set_cons_succ, i64_w, i32_w]
            rfl
          refine pure_ (i := 5) (N := some 20) (v := ?_) (a' := ?_) #[true, true, true, true, false, true, false, false] rfl rfl (by kernel_rfl) (fun _ _ _ h => h) (Or.inl ⟨by rfl, ?_⟩) ?_ ?_
          rotate_left
          · intro w'
            go_simp
            with_reducible rfl
          rotate_left
          · simp only [Act.put, List.setIfInBounds_toArray, List.set_cons_zero, List.set_cons_succ, i64_w, i32_w]
            rfl
          refine take_ (i := 4) (N := some 19) (v := ?_) (a' := ?_) #[true, true, true, true, true, true, false, false] rfl rfl (by kernel_rfl) (fun _ _ _ h => h) (Or.inl ⟨by rfl, ?_⟩) hHeld ?_ ?_
          rotate_left
          · rintro w' ⟨s0, s1⟩
            go_simp
            with_reducible rfl
          rotate_left
          · simp only [Act.put, List.setIfInBounds_toArray, List.set_cons_zero, List.set_cons_succ, i64_w, i32_w]
            rfl
          refine take_ (i := 6) (N := some 21) (v := ?_) (a' := ?_) #[true, true, true, true, true, true, true, false] rfl rfl (by kernel_rfl) (fun _ _ _ h => h) (Or.inl ⟨by rfl, ?_⟩) hHeld ?_ ?_
          rotate_left
          · rintro w' ⟨s0, s1⟩
            go_simp
            with_reducible rfl
          rotate_left
          · simp only [Act.put, List.setIfInBounds_toArray, List.set_cons_zero, List.set_cons_succ, i64_w, i32_w]
            rfl
          refine pure_ (i := 7) (N := some 22) (v := ?_) (a' := ?_) #[true, true, true, true, true, true, true, true] rfl rfl (by kernel_rfl) (fun _ _ _ h => h) (Or.inl ⟨by rfl, ?_⟩) ?_ ?_
          rotate_left
          · intro w'
            go_simp
            with_reducible rfl
          rotate_left
          · simp only [Act.put, List.setIfInBounds_toArray, List.set_cons_zero, List.set_cons_succ, i64_w, i32_w]
            rfl
          refine done_ (by kernel_rfl) ?_

          have hx := hHeld.1
          have q0 := (hx.cell (p := ⟨bb, off + k * 2, none⟩) hbw).trans q0
          have q1 := (hx.cell (p := ⟨bb, off + k * 2 + 1, none⟩) hbw).trans q1
          have b0 := (hx.cell (p := ⟨w.heap.size, 0, none⟩) hzb).trans b0
          have b1 := (hx.cell (p := ⟨w.heap.size, 1, none⟩) hzb).trans b1
          have hbw := Nat.lt_of_lt_of_le hbw hx.size
          have hzb := Nat.lt_of_lt_of_le hzb hx.size
          have hB4 := HB.out.trans (hx.mono HB.out.size)
          have hob4 : OwnRB _ _ _ _ := own_kept hob hx
          clear hHeld hx hB hob HB hb1B
          go_upto_region 10 with fail
          generalize World.drew wo = wx at *
          refine start_ (n := 12) (S := fun w' => Below wx.heap.size wx w' ∧ ∀ b o, b < wx.heap.size → w'.cell? ⟨b, o, none⟩ = wx.cell? ⟨b, o, none⟩) (ds := []) #[false, false, false, false, false, false, false, false, false, false, false, false] (by kernel_rfl) rfl rfl ⟨(still_drew wx).1, (still_drew wx).2⟩ (fun hHeld => ?_)
          refine pure_ (i := 0) (N := some 32) (v := ?_) (a' := ?_) #[true, false, false, false, false, false, false, false, false, false, false, false] rfl rfl (by kernel_rfl) (fun _ _ _ h => h) (Or.inl ⟨by rfl, ?_⟩) ?_ ?_
          rotate_left
          · intro w'
            go_simp
            with_reducible rfl
          rotate_left
          · simp only [Act.put, List.setIfInBounds_toArray, List.set_cons_zero, List.set_cons_succ, i64_w, i32_w]
            rfl
          refine pure_ (i := 1) (N := some 33) (v := ?_) (a' := ?_) #[true, true, false, false, false, false, false, false, false, false, false, false] rfl rfl (by kernel_rfl) (fun _ _ _ h => h) (Or.inl ⟨by rfl, ?_⟩) ?_ ?_
          rotate_left
          · intro w'
            go_simp
            with_reducible rfl
          rotate_left
          · simp only [Act.put, List.setIfInBounds_toArray, List.set_cons_zero, List.set_cons_succ, i64_w, i32_w]
            rfl
          refine pure_ (i := 2) (N := some 34) (v := ?_) (a' := ?_) #[true, true, true, false, false, false, false, false, false, false, false, false] rfl rfl (by kernel_rfl) (fun _ _ _ h => h) (Or.inl ⟨by rfl, ?_⟩) ?_ ?_
          rotate_left
          · intro w'
            go_simp
            with_reducible rfl
          rotate_left
          · simp only [Act.put, List.setIfInBounds_toArray, List.set_cons_zero, List.set_cons_succ, i64_w, i32_w]
            rfl
          refine pure_ (i := 3) (N := some 35) (v := ?_) (a' := ?_) #[true, true, true, true, false, false, false, false, false, false, false, false] rfl rfl (by kernel_rfl) (fun _ _ _ h => h) (Or.inl ⟨by rfl, ?_⟩) ?_ ?_
          rotate_left
          · intro w'
            go_simp
            with_reducible rfl
          rotate_left
          · simp only [Act.put, List.setIfInBounds_toArray, List.set_cons_zero, List.set_cons_succ, i64_w, i32_w]
            rfl
          refine pure_ (i := 5) (N := some 37) (v := ?_) (a' := ?_) #[true, true, true, true, false, true, false, false, false, false, false, false] rfl rfl (by kernel_rfl) (fun _ _ _ h => h) (Or.inl ⟨by rfl, ?_⟩) ?_ ?_
          rotate_left
          · intro w'
            go_simp
            with_reducible rfl
          rotate_left
          · simp only [Act.put, List.setIfInBounds_toArray, List.set_cons_zero, List.set_cons_succ, i64_w, i32_w]
            rfl
          refine pure_ (i := 6) (N := some 38) (v := ?_) (a' := ?_) #[true, true, true, true, false, true, true, false, false, false, false, false] rfl rfl (by kernel_rfl) (fun _ _ _ h => h) (Or.inl ⟨by rfl, ?_⟩) ?_ ?_
          rotate_left
          · intro w'
            go_simp
            with_reducible rfl
          rotate_left
          · simp only [Act.put, List.setIfInBounds_toArray, List.set_cons_zero, List.set_cons_succ, i64_w, i32_w]
            rfl
          refine pure_ (i := 7) (N := some 39) (v := ?_) (a' := ?_) #[true, true, true, true, false, true, true, true, false, false, false, false] rfl rfl (by kernel_rfl) (fun _ _ _ h => h) (Or.inl ⟨by rfl, ?_⟩) ?_ ?_
          rotate_left
          · intro w'
            go_simp
            with_reducible rfl
          rotate_left
          · simp only [Act.put, List.setIfInBounds_toArray, List.set_cons_zero, List.set_cons_succ, i64_w, i32_w]
            rfl
          refine pure_ (i := 8) (N := some 40) (v := ?_) (a' := ?_) #[true, true, true, true, false, true, true, true, true, false, false, false] rfl rfl (by kernel_rfl) (fun _ _ _ h => h) (Or.inl ⟨by rfl, ?_⟩) ?_ ?_
          rotate_left
          · intro w'
            go_simp
            with_reducible rfl
          rotate_left
          · simp only [Act.put, List.setIfInBounds_toArray, List.set_cons_zero, List.set_cons_succ, i64_w, i32_w]
            rfl
          refine take_ (i := 4) (N := some 36) (v := ?_) (a' := ?_) #[true, true, true, true, true, true, true, true, true, false, false, false] rfl rfl (by kernel_rfl) (fun _ _ _ h => h) (Or.inl ⟨by rfl, ?_⟩) hHeld ?_ ?_
          rotate_left
          · rintro w' ⟨s0, s1⟩
            go_simp
            with_reducible rfl
          rotate_left
          · simp only [Act.put, List.setIfInBounds_toArray, List.set_cons_zero, List.set_cons_succ, i64_w, i32_w]
            rfl
          refine take_ (i := 9) (N := some 41) (v := ?_) (a' := ?_) #[true, true, true, true, true, true, true, true, true, true, false, false] rfl rfl (by kernel_rfl) (fun _ _ _ h => h) (Or.inl ⟨by rfl, ?_⟩) hHeld ?_ ?_
          rotate_left
          · rintro w' ⟨s0, s1⟩
            go_simp
            with_reducible rfl
          rotate_left
          · simp only [Act.put, List.setIfInBounds_toArray, List.set_cons_zero, List.set_cons_succ, i64_w, i32_w]
            rfl
          refine pure_ (i := 10) (N := some 42) (v := ?_) (a' := ?_) #[true, true, true, true, true, true, true, true, true, true, true, false] rfl rfl (by kernel_rfl) (fun _ _ _ h => h) (Or.inl ⟨by rfl, ?_⟩) ?_ ?_
          rotate_left
          · intro w'
            go_simp
            with_reducible rfl
          rotate_left
          · simp only [Act.put, List.setIfInBounds_toArray, List.set_cons_zero, List.set_cons_succ, i64_w, i32_w]
            rfl
          refine pure_ (i := 11) (N := some 43) (v := ?_) (a' := ?_) #[true, true, true, true, true, true, true, true, true, true, true, true] rfl rfl (by kernel_rfl) (fun _ _ _ h => h) (Or.inl ⟨by rfl, ?_⟩) ?_ ?_
          rotate_left
          · intro w'
            go_simp
            with_reducible rfl
          rotate_left
          · simp only [Act.put, List.setIfInBounds_toArray, List.set_cons_zero, List.set_cons_succ, i64_w, i32_w]
            rfl
          refine done_ (by kernel_rfl) ?_

          have hx := hHeld.1
          have q0 := (hx.cell (p := ⟨bb, off + k * 2, none⟩) hbw).trans q0
          have q1 := (hx.cell (p := ⟨bb, off + k * 2 + 1, none⟩) hbw).trans q1
          have b0 := (hx.cell (p := ⟨w.heap.size, 0, none⟩) hzb).trans b0
          have b1 := (hx.cell (p := ⟨w.heap.size, 1, none⟩) hzb).trans b1
          have hB5 := hB4.trans (hx.mono hB4.size)
          have hob5 : OwnRB _ _ _ _ := own_kept hob4 hx
          clear hHeld hx hB4 hob4 hbw hzb
          generalize World.drew wx = wy at *
          have hBs := hB5.size
          have HB5 := Lib.hid hB5
          clear hB5
          unfold OwnRB at hob5
          go_upto_region 12 with (first | (at_builtin; refine wpList_append_own_at _ rfl _ _ 22 rfl w1.heap.size 42 i0 _ 2 16 Tryd.underlying22 hi hz0 hz1 hz2 rfl (by decide) _ _ _ rfl (World.ownsRow.alloc hob5 _) ⟨wy.heap.size, 0, none⟩ 1 1 [.int .i64 bt, .int .i64 bv] rfl rfl (cell_two_new _ _ _ _) (two_one _ _) (by unfold maxLen; omega) (by omega) (Nat.le_trans hBs (by simp)) ?_; intro v7 w7 hobz hg7 hnil7 hloc7) | fail)
          have hBz := (HB5.out.alloc hBs _).grown hg7 (Nat.le_trans hBs (by simp)) (fun j hj => (hob5.lt j hj).1)
          obtain ⟨q0, q1⟩ := HC.out _ hBz
          have hBzs := hBz.size
          have HBZ := Lib.hid hBz
          clear hob5 HB5 hg7 hnil7 hloc7 b0 b1 hBs hBz HC
          go_wp2_with (first | (at_builtin; refine wpList_append_own_at _ rfl _ _ 22 rfl w1.heap.size 42 i0 _ 2 16 Tryd.underlying22 hi hz0 hz1 hz2 rfl (by decide) _ _ _ rfl (World.ownsRow.alloc hobz _) ⟨w7.heap.size, 0, none⟩ 1 1 [.int .i64 yt, .int .i64 yv] rfl rfl (cell_two_new _ _ _ _) (two_one _ _) (by unfold maxLen; omega) (by omega) (Nat.le_trans hBzs (by simp)) ?_; intro v8 w8 hoby hg8 hnil8 hloc8) | fail)
          have hBy := (HBZ.out.alloc hBzs _).grown hg8 (Nat.le_trans hBzs (by simp)) (fun j hj => (hobz.lt j hj).1)
          go_roundw
          case rel => exact ⟨k + 1, by omega, by go_num, by rw [HD2.out], by rw [HOUT.out, OwnRB, bcl_append, List.length_append, bcl_append, List.length_append]; exact hoby, HNE.out, hBy⟩
          case measure => simp [intOf]; omega
        · have HOUT := Lib.hid (out_high hkl hp)
          have hd' : decide (posL l b < k) = true := decide_eq_true (by omega)
          rw [hd'] at hd
          subst hd
          have hd2 : decide (posL l b < k + 1) = true := decide_eq_true (by omega)
          have HD2 := Lib.hid hd2
          clear hd' hd2 hp hne hne2 heq q01 q11
          obtain ⟨sv, sc, hsl⟩ := slice_of hob
          subst hsl
          generalize l[k] = y at *
          obtain ⟨yt, yv⟩ := y
          obtain ⟨bt, bv⟩ := b
          dsimp only at *
          go_upto_region 6 with fail
          refine start_ (n := 8) (S := fun w' => Below wo.heap.size wo w' ∧ ∀ b o, b < wo.heap.size → w'.cell? ⟨b, o, none⟩ = wo.cell? ⟨b, o, none⟩) (ds := []) #[false, false, false, false, false, false, false, false] (by kernel_rfl) rfl rfl ⟨(still_drew wo).1, (still_drew wo).2⟩ (fun hHeld => ?_)
          refine pure_ (i := 0) (N := some 15) (v := ?_) (a' := ?_) #[true, false, false, false, false, false, false, false] rfl rfl (by kernel_rfl) (fun _ _ _ h => h) (Or.inl ⟨by rfl, ?_⟩) ?_ ?_
          rotate_left
          · intro w'
            go_simp
            with_reducible rfl
          rotate_left
          · simp only [Act.put, List.setIfInBounds_toArray, List.set_cons_zero, List.set_cons_succ, i64_w, i32_w]
            rfl
          refine pure_ (i := 1) (N := some 16) (v := ?_) (a' := ?_) #[true, true, false, false, false, false, false, false] rfl rfl (by kernel_rfl) (fun _ _ _ h => h) (Or.inl ⟨by rfl, ?_⟩) ?_ ?_
          rotate_left
          · intro w'
            go_simp
            with_reducible rfl
          rotate_left
          · simp only [Act.put, List.setIfInBounds_toArray, List.set_cons_zero, List.set_cons_succ, i64_w, i32_w]
            rfl
          refine pure_ (i := 2) (N := some 17) (v := ?_) (a' := ?_) #[true, true, true, false, false, false, false, false] rfl rfl (by kernel_rfl) (fun _ _ _ h => h) (Or.inl ⟨by rfl, ?_⟩) ?_ ?_
          rotate_left
          · intro w'
            go_simp
            with_reducible rfl
          rotate_left
          · simp only [Act.put, List.setIfInBounds_toArray, List.set_cons_zero, List.set_cons_succ, i64_w, i32_w]
            rfl
          refine pure_ (i := 3) (N := some 18) (v := ?_) (a' := ?_) #[true, true, true, true, false, false, false, false] rfl rfl (by kernel_rfl) (fun _ _ _ h => h) (Or.inl ⟨by rfl, ?_⟩) ?_ ?_
          rotate_left
          · intro w'
            go_simp
            with_reducible rfl
          rotate_left
          · simp only [Act.put, List.setIfInBounds_toArray, List.set_cons_zero, List.set_cons_succ, i64_w, i32_w]
            rfl
          refine pure_ (i := 5) (N := some 20) (v := ?_) (a' := ?_) #[true, true, true, true, false, true, false, false] rfl rfl (by kernel_rfl) (fun _ _ _ h => h) (Or.inl ⟨by rfl, ?_⟩) ?_ ?_
          rotate_left
          · intro w'
            go_simp
            with_reducible rfl
          rotate_left
          · simp only [Act.put, List.setIfInBounds_toArray, List.set_cons_zero, List.set_cons_succ, i64_w, i32_w]
            rfl
          refine take_ (i := 4) (N := some 19) (v := ?_) (a' := ?_) #[true, true, true, true, true, true, false, false] rfl rfl (by kernel_rfl) (fun _ _ _ h => h) (Or.inl ⟨by rfl, ?_⟩) hHeld ?_ ?_
          rotate_left
          · rintro w' ⟨s0, s1⟩
            go_simp
            with_reducible rfl
          rotate_left
          · simp only [Act.put, List.setIfInBounds_toArray, List.set_cons_zero, List.set_cons_succ, i64_w, i32_w]
            rfl
          refine take_ (i := 6) (N := some 21) (v := ?_) (a' := ?_) #[true, true, true, true, true, true, true, false] rfl rfl (by kernel_rfl) (fun _ _ _ h => h) (Or.inl ⟨by rfl, ?_⟩) hHeld ?_ ?_
          rotate_left
          · rintro w' ⟨s0, s1⟩
            go_simp
            with_reducible rfl
          rotate_left
          · simp only [Act.put, List.setIfInBounds_toArray, List.set_cons_zero, List.set_cons_succ, i64_w, i32_w]
            rfl
          refine pure_ (i := 7) (N := some 22) (v := ?_) (a' := ?_) #[true, true, true, true, true, true, true, true] rfl rfl (by kernel_rfl) (fun _ _ _ h => h) (Or.inl ⟨by rfl, ?_⟩) ?_ ?_
          rotate_left
          · intro w'
            go_simp
            with_reducible rfl
          rotate_left
          · simp only [Act.put, List.setIfInBounds_toArray, List.set_cons_zero, List.set_cons_succ, i64_w, i32_w]
            rfl
          refine done_ (by kernel_rfl) ?_

          have hx := hHeld.1
          have q0 := (hx.cell (p := ⟨bb, off + k * 2, none⟩) hbw).trans q0
          have q1 := (hx.cell (p := ⟨bb, off + k * 2 + 1, none⟩) hbw).trans q1
          have b0 := (hx.cell (p := ⟨w.heap.size, 0, none⟩) hzb).trans b0
          have b1 := (hx.cell (p := ⟨w.heap.size, 1, none⟩) hzb).trans b1
          have hbw := Nat.lt_of_lt_of_le hbw hx.size
          have hzb := Nat.lt_of_lt_of_le hzb hx.size
          have hB4 := HB.out.trans (hx.mono HB.out.size)
          have hob4 : OwnRB _ _ _ _ := own_kept hob hx
          clear hHeld hx hB hob HB hb1B
          go_upto_region 10 with fail
          generalize World.drew wo = wx at *
          refine start_ (n := 12) (S := fun w' => Below wx.heap.size wx w' ∧ ∀ b o, b < wx.heap.size → w'.cell? ⟨b, o, none⟩ = wx.cell? ⟨b, o, none⟩) (ds := []) #[false, false, false, false, false, false, false, false, false, false, false, false] (by kernel_rfl) rfl rfl ⟨(still_drew wx).1, (still_drew wx).2⟩ (fun hHeld => ?_)
          refine pure_ (i := 0) (N := some 32) (v := ?_) (a' := ?_) #[true, false, false, false, false, false, false, false, false, false, false, false] rfl rfl (by kernel_rfl) (fun _ _ _ h => h) (Or.inl ⟨by rfl, ?_⟩) ?_ ?_
          rotate_left
          · intro w'
            go_simp
            with_reducible rfl
          rotate_left
          · simp only [Act.put, List.setIfInBounds_toArray, List.set_cons_zero, List.set_cons_succ, i64_w, i32_w]
            rfl
          refine pure_ (i := 1) (N := some 33) (v := ?_) (a' := ?_) #[true, true, false, false, false, false, false, false, false, false, false, false] rfl rfl (by kernel_rfl) (fun _ _ _ h => h) (Or.inl ⟨by rfl, ?_⟩) ?_ ?_
          rotate_left
          · intro w'
            go_simp
            with_reducible rfl
          rotate_left
          · simp only [Act.put, List.setIfInBounds_toArray, List.set_cons_zero, List.set_cons_succ, i64_w, i32_w]
            rfl
          refine pure_ (i := 2) (N := some 34) (v := ?_) (a' := ?_) #[true, true, true, false, false, false, false, false, false, false, false, false] rfl rfl (by kernel_rfl) (fun _ _ _ h => h) (Or.inl ⟨by rfl, ?_⟩) ?_ ?_
          rotate_left
          · intro w'
            go_simp
            with_reducible rfl
          rotate_left
          · simp only [Act.put, List.setIfInBounds_toArray, List.set_cons_zero, List.set_cons_succ, i64_w, i32_w]
            rfl
          refine pure_ (i := 3) (N := some 35) (v := undef) (a' := ?_) #[true, true, true, true, false, false, false, false, false, false, false, false] rfl rfl (by kernel_rfl) (fun _ _ _ h => h) (Or.inr ⟨by rfl, rfl⟩) ?_ ?_
          rotate_left
          · simp only [Act.put, List.setIfInBounds_toArray, List.set_cons_zero, List.set_cons_succ, i64_w, i32_w]
            rfl
          refine pure_ (i := 4) (N := some 36) (v := undef) (a' := ?_) #[true, true, true, true, true, false, false, false, false, false, false, false] rfl rfl (by kernel_rfl) (fun _ _ _ h => h) (Or.inr ⟨by rfl, rfl⟩) ?_ ?_
          rotate_left
          · simp only [Act.put, List.setIfInBounds_toArray, List.set_cons_zero, List.set_cons_succ, i64_w, i32_w]
            rfl
          refine pure_ (i := 5) (N := some 37) (v := undef) (a' := ?_) #[true, true, true, true, true, true, false, false, false, false, false, false] rfl rfl (by kernel_rfl) (fun _ _ _ h => h) (Or.inr ⟨by rfl, rfl⟩) ?_ ?_
          rotate_left
          · simp only [Act.put, List.setIfInBounds_toArray, List.set_cons_zero, List.set_cons_succ, i64_w, i32_w]
            rfl
          refine pure_ (i := 6) (N := some 38) (v := undef) (a' := ?_) #[true, true, true, true, true, true, true, false, false, false, false, false] rfl rfl (by kernel_rfl) (fun _ _ _ h => h) (Or.inr ⟨by rfl, rfl⟩) ?_ ?_
          rotate_left
          · simp only [Act.put, List.setIfInBounds_toArray, List.set_cons_zero, List.set_cons_succ, i64_w, i32_w]
            rfl
          refine pure_ (i := 7) (N := some 39) (v := undef) (a' := ?_) #[true, true, true, true, true, true, true, true, false, false, false, false] rfl rfl (by kernel_rfl) (fun _ _ _ h => h) (Or.inr ⟨by rfl, rfl⟩) ?_ ?_
          rotate_left
          · simp only [Act.put, List.setIfInBounds_toArray, List.set_cons_zero, List.set_cons_succ, i64_w, i32_w]
            rfl
          refine pure_ (i := 8) (N := some 40) (v := undef) (a' := ?_) #[true, true, true, true, true, true, true, true, true, false, false, false] rfl rfl (by kernel_rfl) (fun _ _ _ h => h) (Or.inr ⟨by rfl, rfl⟩) ?_ ?_
          rotate_left
          · simp only [Act.put, List.setIfInBounds_toArray, List.set_cons_zero, List.set_cons_succ, i64_w, i32_w]
            rfl
          refine pure_ (i := 9) (N := some 41) (v := undef) (a' := ?_) #[true, true, true, true, true, true, true, true, true, true, false, false] rfl rfl (by kernel_rfl) (fun _ _ _ h => h) (Or.inr ⟨by rfl, rfl⟩) ?_ ?_
          rotate_left
          · simp only [Act.put, List.setIfInBounds_toArray, List.set_cons_zero, List.set_cons_succ, i64_w, i32_w]
            rfl
          refine pure_ (i := 10) (N := some 42) (v := undef) (a' := ?_) #[true, true, true, true, true, true, true, true, true, true, true, false] rfl rfl (by kernel_rfl) (fun _ _ _ h => h) (Or.inr ⟨by rfl, rfl⟩) ?_ ?_
          rotate_left
          · simp only [Act.put, List.setIfInBounds_toArray, List.set_cons_zero, List.set_cons_succ, i64_w, i32_w]
            rfl
          refine pure_ (i := 11) (N := some 43) (v := ?_) (a' := ?_) #[true, true, true, true, true, true, true, true, true, true, true, true] rfl rfl (by kernel_rfl) (fun _ _ _ h => h) (Or.inl ⟨by rfl, ?_⟩) ?_ ?_
          rotate_left
          · intro w'
            go_simp
            with_reducible rfl
          rotate_left
          · simp only [Act.put, List.setIfInBounds_toArray, List.set_cons_zero, List.set_cons_succ, i64_w, i32_w]
            rfl
          refine done_ (by kernel_rfl) ?_

          have hx := hHeld.1
          have q0 := (hx.cell (p := ⟨bb, off + k * 2, none⟩) hbw).trans q0
          have q1 := (hx.cell (p := ⟨bb, off + k * 2 + 1, none⟩) hbw).trans q1
          have b0 := (hx.cell (p := ⟨w.heap.size, 0, none⟩) hzb).trans b0
          have b1 := (hx.cell (p := ⟨w.heap.size, 1, none⟩) hzb).trans b1
          have hB5 := hB4.trans (hx.mono hB4.size)
          have hob5 : OwnRB _ _ _ _ := own_kept hob4 hx
          clear hHeld hx hB4 hob4 hbw hzb
          generalize World.drew wx = wy at *
          have hBs := hB5.size
          have HB5 := Lib.hid hB5
          clear hB5
          unfold OwnRB at hob5
          go_wp2_with (first | (at_builtin; refine wpList_append_own_at _ rfl _ _ 22 rfl w1.heap.size 42 i0 _ 2 16 Tryd.underlying22 hi hz0 hz1 hz2 rfl (by decide) _ _ _ rfl (World.ownsRow.alloc hob5 _) ⟨wy.heap.size, 0, none⟩ 1 1 [.int .i64 yt, .int .i64 yv] rfl rfl (cell_two_new _ _ _ _) (two_one _ _) (by unfold maxLen; omega) (by omega) (Nat.le_trans hBs (by simp)) ?_; intro v7 w7 hobz hg7 hnil7 hloc7) | fail)
          have hBz := (HB5.out.alloc hBs _).grown hg7 (Nat.le_trans hBs (by simp)) (fun j hj => (hob5.lt j hj).1)
          go_roundw
          case rel => exact ⟨k + 1, by omega, by go_num, by rw [HD2.out], by rw [HOUT.out, OwnRB, bcl_append, List.length_append]; exact hobz, HNE.out, hBz⟩
          case measure => simp [intOf]; omega
    · obtain rfl : k = l.length := by omega
      have hkI : ¬ (l.length : Int) < (l.length : Int) := by omega
      have hat : ¬ isAt l b (posL l b) = true := fun h => by
        obtain ⟨x, hx, he⟩ := (at_iff b HRI.out).1 h
        obtain ⟨j, hj, rfl⟩ := List.getElem_of_mem hx
        exact hne j hj hj he
      have hT := HT.out
      rw [putL, if_neg hat] at hT
      have hpn := HFO.out.1
      have hins := out_all hpn
      have hil := Insert.ins_len l (posL l b) b hpn
      clear hat HT hne
      by_cases hp : posL l b < l.length
      · rw [if_pos hp] at hins
        rw [hins] at hob
        rw [decide_eq_true hp] at hd
        subst hd
        generalize Go.Proofs.YtajnaiofagppeaaDoor.Insert.insL l (posL l b) b = I at *
        have hI := own_balT hob
        obtain ⟨sv, sc, hsl⟩ := slice_of hob
        subst hsl
        rw [hil]
        rw [hil] at hI
        have hbw := hb1.trans (hB.mono (by omega))
        by_cases h5 : 50 ≤ l.length
        · rw [if_pos h5] at hT
          subst hT
          have h5I : (50 : Int) < ((l.length + 1 : Nat) : Int) := by omega
          clear hob hB HB hins
          generalize l.length + 1 = n1 at *
          go_wp2_with fail
          go_ret2
          exact ⟨_, rfl, ⟨_, _, _, rfl⟩, fun h => absurd h (by show ¬ (6 : Int) = 0; decide), hbw⟩
        · rw [if_neg h5] at hT
          subst hT
          have h5I : ¬ (50 : Int) < ((l.length + 1 : Nat) : Int) := by omega
          clear hob hB HB hins
          generalize l.length + 1 = n1 at *
          go_wp2_with fail
          go_ret2
          exact ⟨_, rfl, ⟨_, _, _, rfl⟩, fun _ => hI, hbw⟩
      · rw [if_neg hp] at hins
        rw [decide_eq_false hp] at hd
        subst hd
        have HINS := Lib.hid hins
        generalize Go.Proofs.YtajnaiofagppeaaDoor.Insert.insL l (posL l b) b = I at *
        have hol := out_len (b := b) (Nat.le_refl l.length)
        have hol2 : (outL l b l.length).length + 1 = l.length + 1 := by rw [← hil, ← HINS.out, List.length_append]; rfl
        obtain ⟨sv, sc, hsl⟩ := slice_of hob
        subst hsl
        generalize hO : outL l b l.length = O at *
        clear hO
        have hol3 : O.length = l.length := by omega
        obtain ⟨bt, bv⟩ := b
        dsimp only at *
        have hBs := hB.size
        have HB5 := Lib.hid hB
        have hob5 := hob
        unfold OwnRB at hob5
        have HB1 := Lib.hid hb1
        clear hb1 hins hob hB HB
        by_cases h5 : 50 ≤ l.length
        · rw [if_pos h5] at hT
          subst hT
          have h5I : (50 : Int) < (O.length : Int) + 1 := by omega
          go_wp2_with (first | (at_builtin; refine wpList_append_own_at _ rfl _ _ 22 rfl w1.heap.size 42 i0 _ 2 16 Tryd.underlying22 hi hz0 hz1 hz2 rfl (by decide) _ _ _ rfl (World.ownsRow.alloc hob5 _) ⟨wo.heap.size, 0, none⟩ 1 1 [.int .i64 bt, .int .i64 bv] rfl rfl (cell_two_new _ _ _ _) (two_one _ _) (by unfold maxLen; omega) (by omega) (Nat.le_trans hBs (by simp)) ?_; intro v7 w7 hobz hg7 hnil7 hloc7; obtain ⟨sv7, sc7, hs7⟩ := slice_of hobz; subst hs7) | fail)
          have hBz := (HB5.out.alloc hBs _).grown hg7 (Nat.le_trans hBs (by simp)) (fun j hj => (hob5.lt j hj).1)
          go_ret2
          exact ⟨_, rfl, ⟨_, _, _, rfl⟩, fun h => absurd h (by show ¬ (6 : Int) = 0; decide), HB1.out.trans (hBz.mono (by omega))⟩
        · rw [if_neg h5] at hT
          subst hT
          have h5I : ¬ (50 : Int) < (O.length : Int) + 1 := by omega
          go_wp2_with (first | (at_builtin; refine wpList_append_own_at _ rfl _ _ 22 rfl w1.heap.size 42 i0 _ 2 16 Tryd.underlying22 hi hz0 hz1 hz2 rfl (by decide) _ _ _ rfl (World.ownsRow.alloc hob5 _) ⟨wo.heap.size, 0, none⟩ 1 1 [.int .i64 bt, .int .i64 bv] rfl rfl (cell_two_new _ _ _ _) (two_one _ _) (by unfold maxLen; omega) (by omega) (Nat.le_trans hBs (by simp)) ?_; intro v7 w7 hobz hg7 hnil7 hloc7; obtain ⟨sv7, sc7, hs7⟩ := slice_of hobz; subst hs7) | fail)
          have hBz := (HB5.out.alloc hBs _).grown hg7 (Nat.le_trans hBs (by simp)) (fun j hj => (hob5.lt j hj).1)
          go_ret2
          have hz : (w7.ownsRow w1.heap.size 42 2 (.slice sv7 (O.length + 1) sc7) I.length (bcl I)) := by rw [← HINS.out, bcl_append, List.length_append]; exact hobz
          have hz2 := own_balT hz
          rw [hol3] at hz2
          exact ⟨_, rfl, ⟨_, _, _, rfl⟩, fun _ => hz2, HB1.out.trans (hBz.mono (by omega))⟩
end Go.Proofs.YtajnaiofagppeaaDoor.RefPut
