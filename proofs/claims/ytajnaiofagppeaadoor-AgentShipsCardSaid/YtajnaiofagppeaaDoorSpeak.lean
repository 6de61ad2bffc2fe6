/- What Speak of package agent answers. -/
import Derived.Test.YtajnaiofagppeaaDoorHeld
import Derived.Test.YtajnaiofagppeaaDoorNoteSpec
namespace Go.Proofs.YtajnaiofagppeaaDoor.Speak
open Go Go.RowKit Go.Shelf CodeSpec AgentSpec NoteSpec Flat CodeMem Ballot Collect Pack HandSpec Hand Held Go.Proofs.YtajnaiofagppeaaDoorW.PrintLast
set_option linter.unusedSimpArgs false
set_option linter.unusedVariables false
set_option maxRecDepth 100000
def not1 (n : N) : List Value := [.int .i64 n.k, .int .u8 n.m, .int .i64 n.tx, .int .i64 n.ep, .int .i64 n.v, .int .i64 n.hk, .int .u8 n.hf, .int .u8 n.ht, .int .i64 n.he, .string n.hc]
def ncl (l : List N) : List Value := l.flatMap not1
theorem ncl_append (a b : List N) : ncl (a ++ b) = ncl a ++ ncl b := by simp [ncl]
def OwnN (w : World) (B : Nat) (v : Value) (l : List N) : Prop := w.ownsRow B 75 10 v l.length (ncl l)
theorem ownn_nil (w : World) (B : Nat) : OwnN w B (.slice none 0 0) [] := World.ownsRow_nil w B _ 10
theorem infoN : (Tryd.prog.info? 75).map (fun i => (i.zero, i.size, i.bytes)) = some (some (.agg #[.int .i64 0, .int .u8 0, .int .i64 0, .int .i64 0, .int .i64 0, .int .i64 0, .int .u8 0, .int .u8 0, .int .i64 0, .string ⟨#[]⟩]), 10, 80) := by kernel_rfl
theorem cells_new (w : World) (xs : List Value) (t : TypeId) : ∀ j v, xs[j]? = some v → (w.alloc (.cells xs.toArray t)).cell? ((⟨w.heap.size, 0, none⟩ : Addr).add j) = some v := by
  intro j v hj
  have e : ((⟨w.heap.size, 0, none⟩ : Addr).add j) = ⟨w.heap.size, j, none⟩ := by unfold Addr.add; split <;> simp_all
  rw [e, World.cell?_alloc_new]
  simpa using hj
theorem not_one (n : N) : ∀ u ∈ not1 n, u.oneCell' = true := by
  intro u hu
  simp [not1] at hu
  rcases hu with rfl | rfl | rfl | rfl | rfl | rfl | rfl | rfl | rfl | rfl <;> rfl
/-- What an agent says of a ballot. -/
def noteOf (m ep : Int) (b : Ba) : N := ⟨2, m, b.tx, ep, b.vote, 0, 0, 0, 0, ⟨#[]⟩⟩
def speakA (x : S) (m : Int) : List N × Int := if rightS x = false then ([], 2) else if 8 ≤ m then ([], 2) else if (heldL x).2 ≠ 0 then ([], (heldL x).2) else ((heldL x).1.map (noteOf m x.e), 0)
def SpeakPost (T : List N × Int) (w : World) (e : Ending) (w' : World) : Prop := ∃ v, e = .returned (.tuple #[v, .int .i64 T.2]) ∧ OwnN w' w.heap.size v T.1 ∧ Below w.heap.size w w'
def RelN (W : World) (m ep : Int) (l : List Ba) (v i : Value) (wr : World) : Prop := ∃ k, k ≤ l.length ∧ i = .int .i64 (k : Int) ∧ OwnN wr W.heap.size v ((l.take k).map (noteOf m ep)) ∧ Below W.heap.size W wr
theorem held_len (x : S) : (heldL x).1.length ≤ 50 := by
  unfold heldL
  split
  · simp
  · unfold unpackL
    split
    · simp
    · split
      · rename_i h
        have h2 := h.2
        simp only [rightL, Bool.and_eq_true, decide_eq_true_eq] at h2
        exact h2.2
      · simp
set_option maxHeartbeats 4000000 in
theorem speak_any (x : S) (m : Int) (hc : x.c.size ≤ maxLen) (w : World) : Calls Tryd.prog 19 #[.agg #[.int .u8 x.me, .int .i64 x.e, .int .i64 x.s, .int .u8 x.t, .string x.c, .bool x.k], .int .u8 m] w (SpeakPost (speakA x m) w) := by
  cases hr : rightS x with
  | false =>
    have hT : speakA x m = ([], 2) := by rw [speakA, if_pos hr]
    rw [hT]
    clear hT
    go_enter Tryd.func19, Tryd.ntmps19
    go_wp2_with fail
    refine (right_hand x _ hc).mono ?_
    rw [hr]
    rintro e w1 ⟨rfl, hb1⟩
    obtain ⟨c_hb1, f_hb1, z_hb1⟩ := bcell hb1; have z0_hb1 := z_hb1 (w.heap.size) (by first | omega | (simp only [World.size_alloc, World.size_setCell, World.size_drew, World.heap_drewN] <;> omega)); clear z_hb1
    go_wp2_with fail
    go_ret2
    exact ⟨_, rfl, ownn_nil _ _, by repeat (first | (with_reducible exact Below.refl _ _) | (with_reducible assumption) | (with_reducible refine bw_alloc ?_) | (with_reducible refine bw_drew ?_) | (with_reducible refine bw_drewN ?_) | (with_reducible refine bw_set ?_ (by first | (simp; done) | (dsimp only; omega))) | (with_reducible refine bw_via (by assumption) ?_))⟩
  | true =>
    by_cases h8 : 8 ≤ m
    · have hT : speakA x m = ([], 2) := by rw [speakA, if_neg (by rw [hr]; decide), if_pos h8]
      rw [hT]
      clear hT
      go_enter Tryd.func19, Tryd.ntmps19
      go_wp2_with fail
      refine (right_hand x _ hc).mono ?_
      rw [hr]
      rintro e w1 ⟨rfl, hb1⟩
      obtain ⟨c_hb1, f_hb1, z_hb1⟩ := bcell hb1; have z0_hb1 := z_hb1 (w.heap.size) (by first | omega | (simp only [World.size_alloc, World.size_setCell, World.size_drew, World.heap_drewN] <;> omega)); clear z_hb1
      go_wp2_with fail
      go_ret2
      exact ⟨_, rfl, ownn_nil _ _, by repeat (first | (with_reducible exact Below.refl _ _) | (with_reducible assumption) | (with_reducible refine bw_alloc ?_) | (with_reducible refine bw_drew ?_) | (with_reducible refine bw_drewN ?_) | (with_reducible refine bw_set ?_ (by first | (simp; done) | (dsimp only; omega))) | (with_reducible refine bw_via (by assumption) ?_))⟩
    · obtain ⟨T, hT⟩ : ∃ T, T = speakA x m := ⟨_, rfl⟩
      rw [← hT]
      rw [speakA, if_neg (by rw [hr]; decide), if_neg h8] at hT
      have HL := held_len x
      have HH := Lib.hid (fun W => held_any x hc W)
      generalize hL : heldL x = L at HL HH hT
      clear hL
      obtain ⟨l, er⟩ := L
      dsimp only at HL HH hT
      have HT := Lib.hid hT
      clear hT
      obtain ⟨i0, hi, hz0, hz1, hz2⟩ := info_parts infoN
      go_enter Tryd.func19, Tryd.ntmps19
      go_wp2_with fail
      refine (right_hand x _ hc).mono ?_
      rw [hr]
      rintro e w1 ⟨rfl, hb1⟩
      obtain ⟨c_hb1, f_hb1, z_hb1⟩ := bcell hb1; have z0_hb1 := z_hb1 (w.heap.size) (by first | omega | (simp only [World.size_alloc, World.size_setCell, World.size_drew, World.heap_drewN] <;> omega)); clear z_hb1
      go_wp2_with fail
      refine (HH.out _).mono ?_
      rintro e w2 ⟨v, rfl, ho, hb2⟩
      have p1 := (hb2.cell (p := ⟨w.heap.size, 1, none⟩) z0_hb1).trans ((hb1.cell (p := ⟨w.heap.size, 1, none⟩) (by simp)).trans (World.cell?_alloc_new w #[.int .u8 x.me, .int .i64 x.e, .int .i64 x.s, .int .u8 x.t, .string x.c, .bool x.k] _ 1))
      simp only [List.getElem?_toArray, List.getElem?_cons_succ, List.getElem?_cons_zero] at p1
      have hw2 : w.heap.size < w2.heap.size := Nat.lt_of_lt_of_le z0_hb1 hb2.size
      have hB : Below w.heap.size w w2 := by repeat (first | (with_reducible exact Below.refl _ _) | (with_reducible assumption) | (with_reducible refine bw_alloc ?_) | (with_reducible refine bw_drew ?_) | (with_reducible refine bw_drewN ?_) | (with_reducible refine bw_set ?_ (by first | (simp; done) | (dsimp only; omega))) | (with_reducible refine bw_via (by assumption) ?_))
      clear hb1 hb2
      by_cases he : er = 0
      · subst he
        have hT : T = (l.map (noteOf m x.e), 0) := by rw [HT.out, if_neg (by simp)]
        clear HT
        subst hT
        obtain ⟨a, cap, hv, hlc, hcm, hcc⟩ := own_bal ho
        subst hv
        have HCC := Lib.hid hcc
        clear hcc ho
        go_wp2_with fail
        go_loopw [8, 28] (fun v i wr => RelN w2 m x.e l v i wr) (fun _ i _ => l.length - (intOf i).toNat)
        case atStart => exact ⟨0, Nat.zero_le _, rfl, ownn_nil _ _, Below.refl _ _⟩
        case round =>
          obtain ⟨wo, h_wo⟩ : ∃ v : World, v = wr := ⟨_, rfl⟩; subst h_wo
          obtain ⟨k, hk, rfl, hob, hB3⟩ := hrel
          by_cases hkl : k < l.length
          · have hkI : (k : Int) < (l.length : Int) := by omega
            have hk0 : (0 : Int) ≤ (k : Int) := by omega
            obtain ⟨b, off, rfl, hbl, hd⟩ := HCC.out (by omega)
            have q0 := (hB3.cell (p := ⟨b, off + k * 2, none⟩) hbl).trans (hd k hkl).1
            have q1 := (hB3.cell (p := ⟨b, off + k * 2 + 1, none⟩) hbl).trans (hd k hkl).2
            have p1w := (hB3.cell (p := ⟨w.heap.size, 1, none⟩) hw2).trans p1
            generalize hy : l[k] = y at q0 q1
            have HTO := Lib.hid (show (l.take (k + 1)).map (noteOf m x.e) = (l.take k).map (noteOf m x.e) ++ [noteOf m x.e y] from by rw [List.take_succ_eq_append_getElem hkl, List.map_append, hy]; rfl)
            have hln : ((l.take k).map (noteOf m x.e)).length = k := by rw [List.length_map, List.length_take]; omega
            have HB := Lib.hid hB3
            clear hd hy hB3 p1
            have hw3 := Nat.lt_of_lt_of_le hw2 HB.out.size
            go_upto_region 10 with fail
            generalize hv4 : World.alloc wo _ = v4
            obtain ⟨hb4, hz4, hc4⟩ := alloc_facts hv4
            have r0 := hc4 0
            have r1 := hc4 1
            have p4 := (hb4.cell (p := ⟨w.heap.size, 1, none⟩) hw3).trans p1w
            have hob4 : OwnN v4 w2.heap.size _ _ := own_kept hob hb4
            have hB4 := HB.out.trans (hb4.mono HB.out.size)
            have HB4 := Lib.hid hB4
            have hBs := hB4.size
            clear hv4 hc4 hb4 q0 q1 hob hB4 p1w
            obtain ⟨yt, yv⟩ := y
            dsimp only at r0 r1 HTO
            go_wp2_with (first | (at_builtin; refine wpList_append_own_at _ rfl _ _ 52 rfl w2.heap.size 75 i0 _ 10 80 Tryd.underlying52 hi hz0 hz1 hz2 rfl (by decide) _ _ _ rfl (World.ownsRow.alloc hob4 _) ⟨v4.heap.size, 0, none⟩ 1 1 (not1 (noteOf m x.e ⟨yt, yv⟩)) rfl rfl (cells_new _ (not1 (noteOf m x.e ⟨yt, yv⟩)) _) (not_one _) (by rw [hln]; unfold maxLen; omega) (by rw [hln]; omega) (Nat.le_trans hBs (by simp)) ?_; intro v7 w7 hob7 hg7 hnil7 hloc7) | fail)
            go_roundw
            case rel =>
              refine ⟨k + 1, by omega, by go_num, ?_, (HB4.out.alloc hBs _).grown hg7 (Nat.le_trans hBs (by simp)) (fun j hj => (hob4.lt j hj).1)⟩
              rw [OwnN, HTO.out, ncl_append, List.length_append]
              exact hob7
            case measure => simp [intOf]; omega
          · have hkI : ¬ (k : Int) < (l.length : Int) := by omega
            have hkl2 : k = l.length := by omega
            rw [hkl2, List.take_length] at hob
            clear hkl hkl2
            go_wp2_with fail
            go_ret2
            exact ⟨_, rfl, own_mono hob (by omega), hB.trans (hB3.mono hB.size)⟩
      · have hT : T = ([], er) := by rw [HT.out, if_pos he]
        clear HT
        subst hT
        go_wp2_with fail
        go_ret2
        exact ⟨_, rfl, ownn_nil _ _, hB⟩
end Go.Proofs.YtajnaiofagppeaaDoor.Speak
