/- What the reference's Speak answers; notes compared. -/
import Derived.Test.YtajnaiofagppeaaDoorRefShip
namespace Go.Proofs.YtajnaiofagppeaaDoor.RefShip
open Go Go.RowKit Go.Shelf CodeSpec AgentSpec NoteSpec HandSpec Flat CodeMem Ballot SeqOver Collect Pack Search Hand Held RefBal RefPack RefPut Ship Speak AgentSmall Go.Proofs.YtajnaiofagppeaaDoorW.PrintLast
set_option linter.unusedSimpArgs false
set_option linter.unusedVariables false
set_option maxRecDepth 100000
theorem infoRN : (Tryd.prog.info? 110).map (fun i => (i.zero, i.size, i.bytes)) = some (some (.agg #[.int .i64 0, .int .u8 0, .int .i64 0, .int .i64 0, .int .i64 0, .int .i64 0, .int .u8 0, .int .u8 0, .int .i64 0, .string ⟨#[]⟩]), 10, 80) := by kernel_rfl
def OwnRN (w : World) (B : Nat) (v : Value) (l : List N) : Prop := w.ownsRow B 110 10 v l.length (ncl l)
/-- A row of notes of one's own, read, of whatever type. -/
theorem own_notT {w : World} {B : Nat} {e : TypeId} {v : Value} {l : List N} (h : w.ownsRow B e 10 v l.length (ncl l)) : IsNot w v l := by
  have hc := fun g => World.ownsRow.cells (g := g) h
  have hlt := h.lt
  rcases h.2 with ⟨h1, h2⟩ | ⟨g, cap, cur, h1, _, _, h3, h4, _⟩
  · exact ⟨none, 0, by rw [h1, h2], by omega, Nat.zero_le _, fun h => by omega⟩
  · subst h1
    refine ⟨_, cap, rfl, h3, h4, fun hl => ⟨g, 0, rfl, (hlt g rfl).2, fun i hi => ?_⟩⟩
    have q : ∀ j u, j < 10 → (not1 l[i])[j]? = some u → w.cell? ⟨g, 0 + i * 10 + j, none⟩ = some u := fun j u hj hu => by
      have k := hc g rfl (i * 10 + j) u (by rw [ncl_at l i hi j hj]; exact hu)
      rw [show ((⟨g, 0, none⟩ : Addr).add (i * 10 + j)) = ⟨g, 0 + i * 10 + j, none⟩ by unfold Addr.add; split <;> simp_all [Nat.add_assoc]] at k
      exact k
    exact ⟨q 0 _ (by omega) rfl, q 1 _ (by omega) rfl, q 2 _ (by omega) rfl, q 3 _ (by omega) rfl, q 4 _ (by omega) rfl, q 5 _ (by omega) rfl, q 6 _ (by omega) rfl, q 7 _ (by omega) rfl, q 8 _ (by omega) rfl, q 9 _ (by omega) rfl⟩
def RSpeakPost (T : List N × Int) (w : World) (e : Ending) (w' : World) : Prop := ∃ v, e = .returned (.tuple #[v, .int .i64 T.2]) ∧ OwnRN w' w.heap.size v T.1 ∧ Below w.heap.size w w'
def RelRN (W : World) (m ep : Int) (l : List Ba) (v i : Value) (wr : World) : Prop := ∃ k, k ≤ l.length ∧ i = .int .i64 (k : Int) ∧ OwnRN wr W.heap.size v ((l.take k).map (noteOf m ep)) ∧ Below W.heap.size W wr
set_option maxHeartbeats 4000000 in
theorem rspeak_any (x : S) (m : Int) (hc : x.c.size ≤ 2000) (w : World) : Calls Tryd.prog 20 #[.agg #[.int .u8 x.me, .int .i64 x.e, .int .i64 x.s, .int .u8 x.t, .string x.c, .bool x.k], .int .u8 m] w (RSpeakPost (speakA x m) w) := by
  have hcm : x.c.size ≤ maxLen := by unfold maxLen; omega
  cases hr : rightS x with
  | false =>
    have hT : speakA x m = ([], 2) := by rw [speakA, if_pos hr]
    rw [hT]
    clear hT
    go_enter Tryd.func20, Tryd.ntmps20
    go_wp2_with fail
    refine (right_hand_ref x _ hcm).mono ?_
    rw [hr]
    rintro e w1 ⟨rfl, hb1⟩
    obtain ⟨c_hb1, f_hb1, z_hb1⟩ := bcell hb1; have z0_hb1 := z_hb1 (w.heap.size) (by first | omega | (simp only [World.size_alloc, World.size_setCell, World.size_drew, World.heap_drewN] <;> omega)); clear z_hb1
    go_wp2_with fail
    go_ret2
    exact ⟨_, rfl, World.ownsRow_nil _ _ _ 10, by repeat (first | (with_reducible exact Below.refl _ _) | (with_reducible assumption) | (with_reducible refine bw_alloc ?_) | (with_reducible refine bw_drew ?_) | (with_reducible refine bw_drewN ?_) | (with_reducible refine bw_set ?_ (by first | (simp; done) | (dsimp only; omega))) | (with_reducible refine bw_via (by assumption) ?_))⟩
  | true =>
    by_cases h8 : 8 ≤ m
    · have hT : speakA x m = ([], 2) := by rw [speakA, if_neg (by rw [hr]; decide), if_pos h8]
      rw [hT]
      clear hT
      go_enter Tryd.func20, Tryd.ntmps20
      go_wp2_with fail
      refine (right_hand_ref x _ hcm).mono ?_
      rw [hr]
      rintro e w1 ⟨rfl, hb1⟩
      obtain ⟨c_hb1, f_hb1, z_hb1⟩ := bcell hb1; have z0_hb1 := z_hb1 (w.heap.size) (by first | omega | (simp only [World.size_alloc, World.size_setCell, World.size_drew, World.heap_drewN] <;> omega)); clear z_hb1
      go_wp2_with fail
      go_ret2
      exact ⟨_, rfl, World.ownsRow_nil _ _ _ 10, by repeat (first | (with_reducible exact Below.refl _ _) | (with_reducible assumption) | (with_reducible refine bw_alloc ?_) | (with_reducible refine bw_drew ?_) | (with_reducible refine bw_drewN ?_) | (with_reducible refine bw_set ?_ (by first | (simp; done) | (dsimp only; omega))) | (with_reducible refine bw_via (by assumption) ?_))⟩
    · obtain ⟨T, hT⟩ : ∃ T, T = speakA x m := ⟨_, rfl⟩
      rw [← hT]
      rw [speakA, if_neg (by rw [hr]; decide), if_neg h8] at hT
      have HL := held_len x
      have HH := Lib.hid (fun W => rheld_any x hc W)
      generalize hL : heldL x = L at HL HH hT
      clear hL
      obtain ⟨l, er⟩ := L
      dsimp only at HL HH hT
      have HT := Lib.hid hT
      clear hT
      obtain ⟨i0, hi, hz0, hz1, hz2⟩ := info_parts infoRN
      go_enter Tryd.func20, Tryd.ntmps20
      go_wp2_with fail
      refine (right_hand_ref x _ hcm).mono ?_
      rw [hr]
      rintro e w1 ⟨rfl, hb1⟩
      obtain ⟨c_hb1, f_hb1, z_hb1⟩ := bcell hb1; have z0_hb1 := z_hb1 (w.heap.size) (by first | omega | (simp only [World.size_alloc, World.size_setCell, World.size_drew, World.heap_drewN] <;> omega)); clear z_hb1
      go_wp2_with fail
      refine (HH.out _).mono ?_
      rintro e w2 ⟨v, rfl, ho, hb2⟩
      have p1 := (hb2.cell (p := ⟨w.heap.size, 1, none⟩) z0_hb1).trans ((hb1.cell (p := ⟨w.heap.size, 1, none⟩) (by simp)).trans (World.cell?_alloc_new w #[.int .u8 x.me, .int .i64 x.e, .int .i64 x.s, .int .u8 x.t, .string x.c, .bool x.k] _ 1))
      simp only [List.getElem?_toArray, List.getElem?_cons_succ, List.getElem?_cons_zero] at p1
      have hw2 : w.heap.size < w2.heap.size := Nat.lt_of_lt_of_le z0_hb1 hb2.size
      have hB : Below w.heap.size w w2 := by repeat (first | (with_reducible exact Below.refl _ _) | (with_reducible assumption) | (with_reducible refine bw_alloc ?_) | (with_reducible refine bw_drew ?_) | (with_reducible refine bw_drewN ?_) | (with_reducible refine bw_set ?_ (by first | (simp; done) | (dsimp only; omega))) | (with_reducible refine bw_via (by assumption) ?_))
      clear hb1 hb2
      by_cases he : er = 0
      · subst he
        have hT : T = (l.map (noteOf m x.e), 0) := by rw [HT.out, if_neg (by simp)]
        clear HT
        subst hT
        obtain ⟨a, cap, hv, hlc, hcm2, hcc⟩ := own_balT ho
        subst hv
        have HCC := Lib.hid hcc
        clear hcc ho
        dsimp only
        go_wp2_with fail
        go_loopw [8, 9] (fun v i wr => RelRN w2 m x.e l v i wr) (fun _ i _ => l.length - (intOf i).toNat)
        case atStart => exact ⟨0, Nat.zero_le _, rfl, World.ownsRow_nil _ _ _ 10, Below.refl _ _⟩
        case round =>
          obtain ⟨wo, h_wo⟩ : ∃ v : World, v = wr := ⟨_, rfl⟩; subst h_wo
          obtain ⟨k, hk, rfl, hob, hB3⟩ := hrel
          by_cases hkl : k < l.length
          · have hkI : (k : Int) < (l.length : Int) := by omega
            have hk0 : (0 : Int) ≤ (k : Int) := by omega
            obtain ⟨b, off, rfl, hbl, hd⟩ := HCC.out (by omega)
            have q0 := (hB3.cell (p := ⟨b, off + k * 2, none⟩) hbl).trans (hd k hkl).1
            have q1 := (hB3.cell (p := ⟨b, off + k * 2 + 1, none⟩) hbl).trans (hd k hkl).2
            have p1w := (hB3.cell (p := ⟨w.heap.size, 1, none⟩) hw2).trans p1
            generalize hy : l[k] = y at q0 q1
            have HTO := Lib.hid (show ncl ((l.take (k + 1)).map (noteOf m x.e)) = ncl ((l.take k).map (noteOf m x.e)) ++ not1 (noteOf m x.e y) from by rw [List.take_succ_eq_append_getElem hkl, List.map_append, ncl_append, hy]; simp [ncl])
            have hln : ((l.take k).map (noteOf m x.e)).length = k := by rw [List.length_map, List.length_take]; omega
            have hln2 : ((l.take (k + 1)).map (noteOf m x.e)).length = k + 1 := by rw [List.length_map, List.length_take]; omega
            have hbw := Nat.lt_of_lt_of_le hbl hB3.size
            have hw3 := Nat.lt_of_lt_of_le hw2 hB3.size
            have hBs := hB3.size
            clear hd hy p1
            obtain ⟨sv, sc, hsl⟩ := slice_of hob
            subst hsl
            rw [hln] at hob ⊢
            obtain ⟨yt, yv⟩ := y
            obtain ⟨me, xe, xs, xt, xc, xk⟩ := x
            dsimp only at q0 q1 p1w HTO hln hln2 hob ⊢
            go_upto_region 10 with fail
            refine start_ (n := 19) (S := fun w' => Below wo.heap.size wo w' ∧ (∀ b oo, b < wo.heap.size → w'.cell? ⟨b, oo, none⟩ = wo.cell? ⟨b, oo, none⟩)) (ds := [17]) #[false, false, false, false, false, false, false, false, false, false, false, false, false, false, false, false, false, false, false] (by kernel_rfl) rfl rfl ⟨(still_drew wo).1, (still_drew wo).2⟩ (fun hHeld => ?_)
            refine pure_ (i := 0) (N := some 31) (v := ?_) (a' := ?_) #[true, false, false, false, false, false, false, false, false, false, false, false, false, false, false, false, false, false, false] rfl rfl (by kernel_rfl) (fun _ _ _ h => h) (Or.inl ⟨by rfl, ?_⟩) ?_ ?_
            rotate_left
            · intro w'
              go_simp
              with_reducible rfl
            rotate_left
            · simp only [Act.put, List.setIfInBounds_toArray, List.set_cons_zero, List.set_cons_succ, i64_w, i32_w]
              rfl
            refine pure_ (i := 1) (N := some 32) (v := ?_) (a' := ?_) #[true, true, false, false, false, false, false, false, false, false, false, false, false, false, false, false, false, false, false] rfl rfl (by kernel_rfl) (fun _ _ _ h => h) (Or.inl ⟨by rfl, ?_⟩) ?_ ?_
            rotate_left
            · intro w'
              go_simp
              with_reducible rfl
            rotate_left
            · simp only [Act.put, List.setIfInBounds_toArray, List.set_cons_zero, List.set_cons_succ, i64_w, i32_w]
              rfl
            refine pure_ (i := 2) (N := some 33) (v := ?_) (a' := ?_) #[true, true, true, false, false, false, false, false, false, false, false, false, false, false, false, false, false, false, false] rfl rfl (by kernel_rfl) (fun _ _ _ h => h) (Or.inl ⟨by rfl, ?_⟩) ?_ ?_
            rotate_left
            · intro w'
              go_simp
              with_reducible rfl
            rotate_left
            · simp only [Act.put, List.setIfInBounds_toArray, List.set_cons_zero, List.set_cons_succ, i64_w, i32_w]
              rfl
            refine pure_ (i := 3) (N := some 34) (v := ?_) (a' := ?_) #[true, true, true, true, false, false, false, false, false, false, false, false, false, false, false, false, false, false, false] rfl rfl (by kernel_rfl) (fun _ _ _ h => h) (Or.inl ⟨by rfl, ?_⟩) ?_ ?_
            rotate_left
            · intro w'
              go_simp
              with_reducible rfl
            rotate_left
            · simp only [Act.put, List.setIfInBounds_toArray, List.set_cons_zero, List.set_cons_succ, i64_w, i32_w]
              rfl
            refine pure_ (i := 4) (N := some 35) (v := ?_) (a' := ?_) #[true, true, true, true, true, false, false, false, false, false, false, false, false, false, false, false, false, false, false] rfl rfl (by kernel_rfl) (fun _ _ _ h => h) (Or.inl ⟨by rfl, ?_⟩) ?_ ?_
            rotate_left
            · intro w'
              go_simp
              with_reducible rfl
            rotate_left
            · simp only [Act.put, List.setIfInBounds_toArray, List.set_cons_zero, List.set_cons_succ, i64_w, i32_w]
              rfl
            refine pure_ (i := 5) (N := some 36) (v := ?_) (a' := ?_) #[true, true, true, true, true, true, false, false, false, false, false, false, false, false, false, false, false, false, false] rfl rfl (by kernel_rfl) (fun _ _ _ h => h) (Or.inl ⟨by rfl, ?_⟩) ?_ ?_
            rotate_left
            · intro w'
              go_simp
              with_reducible rfl
            rotate_left
            · simp only [Act.put, List.setIfInBounds_toArray, List.set_cons_zero, List.set_cons_succ, i64_w, i32_w]
              rfl
            refine pure_ (i := 7) (N := some 38) (v := ?_) (a' := ?_) #[true, true, true, true, true, true, false, true, false, false, false, false, false, false, false, false, false, false, false] rfl rfl (by kernel_rfl) (fun _ _ _ h => h) (Or.inl ⟨by rfl, ?_⟩) ?_ ?_
            rotate_left
            · intro w'
              go_simp
              with_reducible rfl
            rotate_left
            · simp only [Act.put, List.setIfInBounds_toArray, List.set_cons_zero, List.set_cons_succ, i64_w, i32_w]
              rfl
            refine pure_ (i := 8) (N := some 39) (v := ?_) (a' := ?_) #[true, true, true, true, true, true, false, true, true, false, false, false, false, false, false, false, false, false, false] rfl rfl (by kernel_rfl) (fun _ _ _ h => h) (Or.inl ⟨by rfl, ?_⟩) ?_ ?_
            rotate_left
            · intro w'
              go_simp
              with_reducible rfl
            rotate_left
            · simp only [Act.put, List.setIfInBounds_toArray, List.set_cons_zero, List.set_cons_succ, i64_w, i32_w]
              rfl
            refine pure_ (i := 10) (N := some 41) (v := ?_) (a' := ?_) #[true, true, true, true, true, true, false, true, true, false, true, false, false, false, false, false, false, false, false] rfl rfl (by kernel_rfl) (fun _ _ _ h => h) (Or.inl ⟨by rfl, ?_⟩) ?_ ?_
            rotate_left
            · intro w'
              go_simp
              with_reducible rfl
            rotate_left
            · simp only [Act.put, List.setIfInBounds_toArray, List.set_cons_zero, List.set_cons_succ, i64_w, i32_w]
              rfl
            refine pure_ (i := 11) (N := some 42) (v := ?_) (a' := ?_) #[true, true, true, true, true, true, false, true, true, false, true, true, false, false, false, false, false, false, false] rfl rfl (by kernel_rfl) (fun _ _ _ h => h) (Or.inl ⟨by rfl, ?_⟩) ?_ ?_
            rotate_left
            · intro w'
              go_simp
              with_reducible rfl
            rotate_left
            · simp only [Act.put, List.setIfInBounds_toArray, List.set_cons_zero, List.set_cons_succ, i64_w, i32_w]
              rfl
            refine pure_ (i := 12) (N := some 43) (v := ?_) (a' := ?_) #[true, true, true, true, true, true, false, true, true, false, true, true, true, false, false, false, false, false, false] rfl rfl (by kernel_rfl) (fun _ _ _ h => h) (Or.inl ⟨by rfl, ?_⟩) ?_ ?_
            rotate_left
            · intro w'
              go_simp
              with_reducible rfl
            rotate_left
            · simp only [Act.put, List.setIfInBounds_toArray, List.set_cons_zero, List.set_cons_succ, i64_w, i32_w]
              rfl
            refine pure_ (i := 13) (N := some 44) (v := ?_) (a' := ?_) #[true, true, true, true, true, true, false, true, true, false, true, true, true, true, false, false, false, false, false] rfl rfl (by kernel_rfl) (fun _ _ _ h => h) (Or.inl ⟨by rfl, ?_⟩) ?_ ?_
            rotate_left
            · intro w'
              go_simp
              with_reducible rfl
            rotate_left
            · simp only [Act.put, List.setIfInBounds_toArray, List.set_cons_zero, List.set_cons_succ, i64_w, i32_w]
              rfl
            refine take_ (i := 6) (N := some 37) (v := ?_) (a' := ?_) #[true, true, true, true, true, true, true, true, true, false, true, true, true, true, false, false, false, false, false] rfl rfl (by kernel_rfl) (fun _ _ _ h => h) (Or.inl ⟨by rfl, ?_⟩) hHeld ?_ ?_
            rotate_left
            · rintro w' ⟨s0, s1⟩
              go_simp
              with_reducible rfl
            rotate_left
            · simp only [Act.put, List.setIfInBounds_toArray, List.set_cons_zero, List.set_cons_succ, i64_w, i32_w]
              rfl
            refine take_ (i := 9) (N := some 40) (v := ?_) (a' := ?_) #[true, true, true, true, true, true, true, true, true, true, true, true, true, true, false, false, false, false, false] rfl rfl (by kernel_rfl) (fun _ _ _ h => h) (Or.inl ⟨by rfl, ?_⟩) hHeld ?_ ?_
            rotate_left
            · rintro w' ⟨s0, s1⟩
              go_simp
              with_reducible rfl
            rotate_left
            · simp only [Act.put, List.setIfInBounds_toArray, List.set_cons_zero, List.set_cons_succ, i64_w, i32_w]
              rfl
            refine take_ (i := 14) (N := some 45) (v := ?_) (a' := ?_) #[true, true, true, true, true, true, true, true, true, true, true, true, true, true, true, false, false, false, false] rfl rfl (by kernel_rfl) (fun _ _ _ h => h) (Or.inl ⟨by rfl, ?_⟩) hHeld ?_ ?_
            rotate_left
            · rintro w' ⟨s0, s1⟩
              go_simp
              with_reducible rfl
            rotate_left
            · simp only [Act.put, List.setIfInBounds_toArray, List.set_cons_zero, List.set_cons_succ, i64_w, i32_w]
              rfl
            refine pure_ (i := 15) (N := some 46) (v := ?_) (a' := ?_) #[true, true, true, true, true, true, true, true, true, true, true, true, true, true, true, true, false, false, false] rfl rfl (by kernel_rfl) (fun _ _ _ h => h) (Or.inl ⟨by rfl, ?_⟩) ?_ ?_
            rotate_left
            · intro w'
              go_simp
              with_reducible rfl
            rotate_left
            · simp only [Act.put, List.setIfInBounds_toArray, List.set_cons_zero, List.set_cons_succ, i64_w, i32_w]
              rfl
            refine one_ (i := 16) (N := some 47) #[true, true, true, true, true, true, true, true, true, true, true, true, true, true, true, true, true, false, false] rfl rfl (by kernel_rfl) (by decide) (fun K hK => ?_)
            refine value_ (w1 := ?_) (v := ?_) (by rfl) rfl ?_ ?_
            rotate_left 2
            · go_simp
              constructor
              · rfl
              · rfl
            generalize hW5 : World.drew (World.alloc _ _) = w5
            have hb5 : Below wo.heap.size wo w5 := by rw [← hW5]; exact ((Below.refl _ wo).alloc (Nat.le_refl _) _).drew
            have hn5 : ∀ j v, (not1 (noteOf m xe ⟨yt, yv⟩))[j]? = some v → w5.cell? ((⟨wo.heap.size, 0, none⟩ : Addr).add j) = some v := by rw [← hW5]; exact cells_new wo (not1 (noteOf m xe ⟨yt, yv⟩)) _
            clear hW5
            refine hK.out _ _ ⟨hb5, fun b oo hlt => hb5.cell (p := ⟨b, oo, none⟩) hlt⟩ (fun hHeld => ?_)
            clear hK K
            refine norm_ (a' := ?_) ?_ ?_
            rotate_left
            · show Act.put _ (some 47) _ = _
              simp only [Act.put, List.setIfInBounds_toArray, List.set_cons_zero, List.set_cons_succ, i64_w, i32_w]
              rfl
            refine last_ (i := 17) (N := some 48) #[true, true, true, true, true, true, true, true, true, true, true, true, true, true, true, true, true, true, false] rfl rfl (by kernel_rfl) (by decide) (fun K hK => ?_)
            have hob5 : OwnRN w5 w2.heap.size _ _ := own_kept hob hHeld.1
            unfold OwnRN at hob5
            rw [hln] at hob5
            refine append_slice_ (by rfl) rfl (.tmp 31) (.tmp 47) 55 rfl w2.heap.size 110 i0 _ 10 80 Tryd.underlying55 hi hz0 hz1 hz2 rfl (by decide) (.slice sv k sc) _ _ (by rfl) hob5 ⟨wo.heap.size, 0, none⟩ 1 1 (not1 (noteOf m xe ⟨yt, yv⟩)) (by rfl) rfl hn5 (not_one _) (by unfold maxLen; omega) (by omega) (Nat.le_trans hBs hHeld.1.size) ?_
            intro v6 w6 hob6 hg6
            refine hK.out _ _ ?_
            clear hK K
            refine norm_ (a' := ?_) ?_ ?_
            rotate_left
            · show Act.put _ (some 48) _ = _
              simp only [Act.put, List.setIfInBounds_toArray, List.set_cons_zero, List.set_cons_succ, i64_w, i32_w]
              rfl
            refine pure_ (i := 18) (N := some 8) (v := ?_) (a' := ?_) #[true, true, true, true, true, true, true, true, true, true, true, true, true, true, true, true, true, true, true] rfl rfl (by kernel_rfl) (fun _ _ _ h => h) (Or.inl ⟨by rfl, ?_⟩) ?_ ?_
            rotate_left
            · intro w'
              go_simp
              with_reducible rfl
            rotate_left
            · simp only [Act.put, List.setIfInBounds_toArray, List.set_cons_zero, List.set_cons_succ, i64_w, i32_w]
              rfl
            refine done_ (by kernel_rfl) ?_

            have hB5 := hB3.trans (hHeld.1.mono hB3.size)
            have hB6 := hB5.grown hg6 hB5.size (fun j hj => (hob5.lt j hj).1)
            clear hHeld hob5 hg6 hn5 hb5 hob hB3 hB5 q0 q1 p1w
            go_wp2_with fail
            go_roundw
            case rel =>
              refine ⟨k + 1, by omega, by go_num, ?_, hB6⟩
              rw [OwnRN, HTO.out, hln2]
              exact hob6
            case measure => simp [intOf]; omega
          · have hkI : ¬ (k : Int) < (l.length : Int) := by omega
            have hkl2 : k = l.length := by omega
            rw [hkl2, List.take_length] at hob
            clear hkl hkl2
            go_wp2_with fail
            go_ret2
            exact ⟨_, rfl, own_mono hob (by omega), hB.trans (hB3.mono hB.size)⟩
      · have hT : T = ([], er) := by rw [HT.out, if_pos he]
        clear HT
        subst hT
        have hnb : (er != 0) = true := bne_iff_ne.2 he
        go_wp2_with fail
        go_ret2
        exact ⟨_, rfl, World.ownsRow_nil _ _ _ 10, hB⟩
set_option maxHeartbeats 4000000 in
theorem notes_any (va vb : Value) (l : List N) (hl : l.length ≤ 1000) (w : World) (ha : IsNot w va l) (hb : IsNot w vb l) : Calls Tryd.prog 22 #[va, vb] w fun e w' => e = .returned (.bool true) ∧ Below w.heap.size w w' := by
  obtain ⟨a, cap, rfl, hlc, hcm, hcc⟩ := ha
  obtain ⟨c, cap2, rfl, hlc2, hcm2, hcc2⟩ := hb
  have HCA := Lib.hid hcc
  have HCB := Lib.hid hcc2
  clear hcc hcc2
  go_enter Tryd.func22, Tryd.ntmps22
  go_wp2_with fail
  go_loopw [14] (fun i wr => ∃ k : Nat, k ≤ l.length ∧ i = .int .i64 (k : Int) ∧ Below w.heap.size w wr) (fun i _ => l.length - (intOf i).toNat)
  case atStart => exact ⟨0, Nat.zero_le _, rfl, Below.refl _ _⟩
  case round =>
    obtain ⟨wo, h_wo⟩ : ∃ v : World, v = wr := ⟨_, rfl⟩; subst h_wo
    obtain ⟨k, hk, rfl, hB⟩ := hrel
    by_cases hkl : k < l.length
    · have hkI : (k : Int) < (l.length : Int) := by omega
      have hk0 : (0 : Int) ≤ (k : Int) := by omega
      obtain ⟨b, off, rfl, hbl, hd⟩ := HCA.out (by omega)
      obtain ⟨b2, off2, rfl, hbl2, hd2⟩ := HCB.out (by omega)
      obtain ⟨q0, q1, q2, q3, q4, q5, q6, q7, q8, q9⟩ := (hd k hkl).below hB hbl
      have HR := Lib.hid ((hd2 k hkl).below hB hbl2)
      have z2 := Nat.lt_of_lt_of_le hbl2 hB.size
      generalize l[k] = y at *
      obtain ⟨xk, xm, xt, xe, xv, xhk, xhf, xht, xhe, xhc⟩ := y
      dsimp only at q0 q1 q2 q3 q4 q5 q6 q7 q8 q9
      clear hd hd2
      go_upto_region 6 with fail
      generalize hv4 : World.alloc wo _ = v4
      obtain ⟨hb4, hz4, hc4⟩ := alloc_facts hv4
      have p0 := hc4 0
      have p1 := hc4 1
      have p2 := hc4 2
      have p3 := hc4 3
      have p4 := hc4 4
      have p5 := hc4 5
      have p6 := hc4 6
      have p7 := hc4 7
      have p8 := hc4 8
      have p9 := hc4 9
      obtain ⟨r0, r1, r2, r3, r4, r5, r6, r7, r8, r9⟩ := HR.out.below hb4 z2
      have z24 := Nat.lt_of_lt_of_le z2 hb4.size
      have hB4 := hB.trans (hb4.mono hB.size)
      dsimp only at r0 r1 r2 r3 r4 r5 r6 r7 r8 r9
      clear hv4 hc4 hb4 hB HR q0 q1 q2 q3 q4 q5 q6 q7 q8 q9 z2
      have hne : ∀ W, (binOp .neq 110 (.agg #[.int .i64 xk, .int .u8 xm, .int .i64 xt, .int .i64 xe, .int .i64 xv, .int .i64 xhk, .int .u8 xhf, .int .u8 xht, .int .i64 xhe, .string xhc]) (.agg #[.int .i64 xk, .int .u8 xm, .int .i64 xt, .int .i64 xe, .int .i64 xv, .int .i64 xhk, .int .u8 xhf, .int .u8 xht, .int .i64 xhe, .string xhc])).run Tryd.prog W = .ok (.bool false) W := fun W => by simp [go_sem]
      refine start_ (n := 18) (S := fun w' => Below v4.heap.size v4 w' ∧ ∀ b o, b < v4.heap.size → w'.cell? ⟨b, o, none⟩ = v4.cell? ⟨b, o, none⟩) (ds := []) #[false, false, false, false, false, false, false, false, false, false, false, false, false, false, false, false, false, false] (by kernel_rfl) rfl rfl ⟨(still_drew v4).1, (still_drew v4).2⟩ (fun hHeld => ?_)
      refine pure_ (i := 0) (N := some 19) (v := ?_) (a' := ?_) #[true, false, false, false, false, false, false, false, false, false, false, false, false, false, false, false, false, false] rfl rfl (by kernel_rfl) (fun _ _ _ h => h) (Or.inl ⟨by rfl, ?_⟩) ?_ ?_
      rotate_left
      · intro w'
        go_simp
        with_reducible rfl
      rotate_left
      · simp only [Act.put, List.setIfInBounds_toArray, List.set_cons_zero, List.set_cons_succ, i64_w, i32_w]
        rfl
      refine pure_ (i := 2) (N := some 21) (v := ?_) (a' := ?_) #[true, false, true, false, false, false, false, false, false, false, false, false, false, false, false, false, false, false] rfl rfl (by kernel_rfl) (fun _ _ _ h => h) (Or.inl ⟨by rfl, ?_⟩) ?_ ?_
      rotate_left
      · intro w'
        go_simp
        with_reducible rfl
      rotate_left
      · simp only [Act.put, List.setIfInBounds_toArray, List.set_cons_zero, List.set_cons_succ, i64_w, i32_w]
        rfl
      refine pure_ (i := 4) (N := some 23) (v := ?_) (a' := ?_) #[true, false, true, false, true, false, false, false, false, false, false, false, false, false, false, false, false, false] rfl rfl (by kernel_rfl) (fun _ _ _ h => h) (Or.inl ⟨by rfl, ?_⟩) ?_ ?_
      rotate_left
      · intro w'
        go_simp
        with_reducible rfl
      rotate_left
      · simp only [Act.put, List.setIfInBounds_toArray, List.set_cons_zero, List.set_cons_succ, i64_w, i32_w]
        rfl
      refine pure_ (i := 6) (N := some 25) (v := ?_) (a' := ?_) #[true, false, true, false, true, false, true, false, false, false, false, false, false, false, false, false, false, false] rfl rfl (by kernel_rfl) (fun _ _ _ h => h) (Or.inl ⟨by rfl, ?_⟩) ?_ ?_
      rotate_left
      · intro w'
        go_simp
        with_reducible rfl
      rotate_left
      · simp only [Act.put, List.setIfInBounds_toArray, List.set_cons_zero, List.set_cons_succ, i64_w, i32_w]
        rfl
      refine pure_ (i := 8) (N := some 27) (v := ?_) (a' := ?_) #[true, false, true, false, true, false, true, false, true, false, false, false, false, false, false, false, false, false] rfl rfl (by kernel_rfl) (fun _ _ _ h => h) (Or.inl ⟨by rfl, ?_⟩) ?_ ?_
      rotate_left
      · intro w'
        go_simp
        with_reducible rfl
      rotate_left
      · simp only [Act.put, List.setIfInBounds_toArray, List.set_cons_zero, List.set_cons_succ, i64_w, i32_w]
        rfl
      refine pure_ (i := 10) (N := some 29) (v := ?_) (a' := ?_) #[true, false, true, false, true, false, true, false, true, false, true, false, false, false, false, false, false, false] rfl rfl (by kernel_rfl) (fun _ _ _ h => h) (Or.inl ⟨by rfl, ?_⟩) ?_ ?_
      rotate_left
      · intro w'
        go_simp
        with_reducible rfl
      rotate_left
      · simp only [Act.put, List.setIfInBounds_toArray, List.set_cons_zero, List.set_cons_succ, i64_w, i32_w]
        rfl
      refine pure_ (i := 13) (N := some 32) (v := ?_) (a' := ?_) #[true, false, true, false, true, false, true, false, true, false, true, false, false, true, false, false, false, false] rfl rfl (by kernel_rfl) (fun _ _ _ h => h) (Or.inl ⟨by rfl, ?_⟩) ?_ ?_
      rotate_left
      · intro w'
        go_simp
        with_reducible rfl
      rotate_left
      · simp only [Act.put, List.setIfInBounds_toArray, List.set_cons_zero, List.set_cons_succ, i64_w, i32_w]
        rfl
      refine pure_ (i := 14) (N := some 33) (v := ?_) (a' := ?_) #[true, false, true, false, true, false, true, false, true, false, true, false, false, true, true, false, false, false] rfl rfl (by kernel_rfl) (fun _ _ _ h => h) (Or.inl ⟨by rfl, ?_⟩) ?_ ?_
      rotate_left
      · intro w'
        go_simp
        with_reducible rfl
      rotate_left
      · simp only [Act.put, List.setIfInBounds_toArray, List.set_cons_zero, List.set_cons_succ, i64_w, i32_w]
        rfl
      refine pure_ (i := 15) (N := some 34) (v := ?_) (a' := ?_) #[true, false, true, false, true, false, true, false, true, false, true, false, false, true, true, true, false, false] rfl rfl (by kernel_rfl) (fun _ _ _ h => h) (Or.inl ⟨by rfl, ?_⟩) ?_ ?_
      rotate_left
      · intro w'
        go_simp
        with_reducible rfl
      rotate_left
      · simp only [Act.put, List.setIfInBounds_toArray, List.set_cons_zero, List.set_cons_succ, i64_w, i32_w]
        rfl
      refine take_ (i := 1) (N := some 20) (v := ?_) (a' := ?_) #[true, true, true, false, true, false, true, false, true, false, true, false, false, true, true, true, false, false] rfl rfl (by kernel_rfl) (fun _ _ _ h => h) (Or.inl ⟨by rfl, ?_⟩) hHeld ?_ ?_
      rotate_left
      · rintro w' ⟨s0, s1⟩
        go_simp
        with_reducible rfl
      rotate_left
      · simp only [Act.put, List.setIfInBounds_toArray, List.set_cons_zero, List.set_cons_succ, i64_w, i32_w]
        rfl
      refine take_ (i := 3) (N := some 22) (v := ?_) (a' := ?_) #[true, true, true, true, true, false, true, false, true, false, true, false, false, true, true, true, false, false] rfl rfl (by kernel_rfl) (fun _ _ _ h => h) (Or.inl ⟨by rfl, ?_⟩) hHeld ?_ ?_
      rotate_left
      · rintro w' ⟨s0, s1⟩
        go_simp
        with_reducible rfl
      rotate_left
      · simp only [Act.put, List.setIfInBounds_toArray, List.set_cons_zero, List.set_cons_succ, i64_w, i32_w]
        rfl
      refine take_ (i := 5) (N := some 24) (v := ?_) (a' := ?_) #[true, true, true, true, true, true, true, false, true, false, true, false, false, true, true, true, false, false] rfl rfl (by kernel_rfl) (fun _ _ _ h => h) (Or.inl ⟨by rfl, ?_⟩) hHeld ?_ ?_
      rotate_left
      · rintro w' ⟨s0, s1⟩
        go_simp
        with_reducible rfl
      rotate_left
      · simp only [Act.put, List.setIfInBounds_toArray, List.set_cons_zero, List.set_cons_succ, i64_w, i32_w]
        rfl
      refine take_ (i := 7) (N := some 26) (v := ?_) (a' := ?_) #[true, true, true, true, true, true, true, true, true, false, true, false, false, true, true, true, false, false] rfl rfl (by kernel_rfl) (fun _ _ _ h => h) (Or.inl ⟨by rfl, ?_⟩) hHeld ?_ ?_
      rotate_left
      · rintro w' ⟨s0, s1⟩
        go_simp
        with_reducible rfl
      rotate_left
      · simp only [Act.put, List.setIfInBounds_toArray, List.set_cons_zero, List.set_cons_succ, i64_w, i32_w]
        rfl
      refine take_ (i := 9) (N := some 28) (v := ?_) (a' := ?_) #[true, true, true, true, true, true, true, true, true, true, true, false, false, true, true, true, false, false] rfl rfl (by kernel_rfl) (fun _ _ _ h => h) (Or.inl ⟨by rfl, ?_⟩) hHeld ?_ ?_
      rotate_left
      · rintro w' ⟨s0, s1⟩
        go_simp
        with_reducible rfl
      rotate_left
      · simp only [Act.put, List.setIfInBounds_toArray, List.set_cons_zero, List.set_cons_succ, i64_w, i32_w]
        rfl
      refine take_ (i := 11) (N := some 30) (v := ?_) (a' := ?_) #[true, true, true, true, true, true, true, true, true, true, true, true, false, true, true, true, false, false] rfl rfl (by kernel_rfl) (fun _ _ _ h => h) (Or.inl ⟨by rfl, ?_⟩) hHeld ?_ ?_
      rotate_left
      · rintro w' ⟨s0, s1⟩
        go_simp
        with_reducible rfl
      rotate_left
      · simp only [Act.put, List.setIfInBounds_toArray, List.set_cons_zero, List.set_cons_succ, i64_w, i32_w]
        rfl
      refine pure_ (i := 12) (N := some 31) (v := ?_) (a' := ?_) #[true, true, true, true, true, true, true, true, true, true, true, true, true, true, true, true, false, false] rfl rfl (by kernel_rfl) (fun _ _ _ h => h) (Or.inl ⟨by rfl, ?_⟩) ?_ ?_
      rotate_left
      · intro w'
        go_simp
        with_reducible rfl
      rotate_left
      · simp only [Act.put, List.setIfInBounds_toArray, List.set_cons_zero, List.set_cons_succ, i64_w, i32_w]
        rfl
      refine take_ (i := 16) (N := some 35) (v := ?_) (a' := ?_) #[true, true, true, true, true, true, true, true, true, true, true, true, true, true, true, true, true, false] rfl rfl (by kernel_rfl) (fun _ _ _ h => h) (Or.inl ⟨by rfl, ?_⟩) hHeld ?_ ?_
      rotate_left
      · rintro w' ⟨s0, s1⟩
        go_simp
        with_reducible rfl
      rotate_left
      · simp only [Act.put, List.setIfInBounds_toArray, List.set_cons_zero, List.set_cons_succ, i64_w, i32_w]
        rfl
      refine pure_ (i := 17) (N := some 36) (v := ?_) (a' := ?_) #[true, true, true, true, true, true, true, true, true, true, true, true, true, true, true, true, true, true] rfl rfl (by kernel_rfl) (fun _ _ _ h => h) (Or.inl ⟨by rfl, ?_⟩) ?_ ?_
      rotate_left
      · intro w'
        go_simp
        with_reducible rfl
      rotate_left
      · simp only [Act.put, List.setIfInBounds_toArray, List.set_cons_zero, List.set_cons_succ, i64_w, i32_w]
        rfl
      refine done_ (by kernel_rfl) ?_

      have hB9 := hB4.trans (hHeld.1.mono hB4.size)
      clear hHeld
      go_wp2_with fail
      go_roundw
      case rel => exact ⟨k + 1, by omega, by go_num, hB9⟩
      case measure => simp [intOf]; omega
    · have hkI : ¬ (k : Int) < (l.length : Int) := by omega
      go_wp2_with fail
      go_ret
      exact ⟨rfl, hB⟩
end Go.Proofs.YtajnaiofagppeaaDoor.RefShip
