/- What the reference's held, Ship and Speak answer. -/
import Derived.Test.YtajnaiofagppeaaDoorRefPut
import Derived.Test.YtajnaiofagppeaaDoorNoteSame
import Derived.Test.YtajnaiofagppeaaDoorAgentSmall
namespace Go.Proofs.YtajnaiofagppeaaDoor.RefShip
open Go Go.RowKit Go.Shelf CodeSpec AgentSpec NoteSpec HandSpec Flat CodeMem Ballot SeqOver Collect Pack Search Hand Held RefBal RefPack RefPut Ship Speak AgentSmall Go.Proofs.YtajnaiofagppeaaDoorW.PrintLast
set_option linter.unusedSimpArgs false
set_option linter.unusedVariables false
set_option maxRecDepth 100000
/-! ### plain -/
theorem be_two (a b : UInt8) : be 2 (val [a, b]) = [a, b] := be_val [a, b]
theorem be_one (c : UInt8) : be 1 (val [c]) = [c] := be_val [c]
theorem bytes_threes (s : List UInt8) (h : s.length % 3 = 0) : bytesL (threes s) = s := by
  fun_induction threes s with
  | case1 a b c l ih =>
    have ih := ih (by simp only [List.length_cons] at h; omega)
    show (be 2 ((val [a, b] : Int)).toNat ++ be 1 ((val [c] : Int)).toNat) ++ bytesL (threes l) = _
    rw [ih, Int.toNat_natCast, Int.toNat_natCast, be_two, be_one]
    rfl
  | case2 s hn =>
    match s, hn with
    | [], _ => rfl
    | [_], _ => simp at h
    | [_, _], _ => simp at h
    | a :: b :: c :: l, hn => exact absurd rfl (hn a b c l)
theorem held_bytes {x : S} {l : List Ba} (h : heldL x = (l, 0)) : mkS x l = x := by
  obtain ⟨me, e, s, t, c, k⟩ := x
  unfold heldL at h
  split at h
  · simp at h
  · unfold unpackL at h
    dsimp only at h
    split at h
    · simp at h
    · split at h
      · rename_i h3
        have e1 : threes c.data.toList = l := congrArg Prod.fst h
        have e2 := bytes_threes _ h3.1
        rw [e1] at e2
        show S.mk me e s t ⟨(bytesL l).toArray⟩ k = _
        rw [e2]
      · simp at h
theorem ship_put {x : S} {b : Ba} {l m : List Ba} (hr : rightS x = true) (hb : mayB b = true) (hh : heldL x = (l, 0)) (hp : putL l b = (m, 0)) : rightL l = true ∧ rightL m = true ∧ shipA x b = (mkS x m, 0) := by
  have hlr : rightL l = true := by
    have h := held_right (x := x) (by rw [hh])
    rw [hh] at h
    exact h
  have hm : rightL m = true := by
    have h := put_right hlr hb
    rw [hp] at h
    exact h
  refine ⟨hlr, hm, ?_⟩
  rw [ship_held hr hb hh hlr, hp]
  dsimp only
  split
  · rename_i e
    rw [e, held_bytes hh]
  · rfl
theorem ship_bad {x : S} {b : Ba} {l m : List Ba} {n : Int} (hr : rightS x = true) (hb : mayB b = true) (hh : heldL x = (l, 0)) (hp : putL l b = (m, n)) (hn : n ≠ 0) : rightL l = true ∧ shipA x b = (x, n) := by
  have hlr : rightL l = true := by
    have h := held_right (x := x) (by rw [hh])
    rw [hh] at h
    exact h
  refine ⟨hlr, ?_⟩
  rw [ship_held hr hb hh hlr, if_pos (put_err (by rw [hp]; exact hn)), hp]
/-! ### held -/
set_option maxHeartbeats 1000000 in
theorem rheld_any (x : S) (hc : x.c.size ≤ 2000) (w : World) : Calls Tryd.prog 44 #[.agg #[.int .u8 x.me, .int .i64 x.e, .int .i64 x.s, .int .u8 x.t, .string x.c, .bool x.k]] w (RUnpackPost (heldL x) w) := by
  obtain ⟨me, e, s, t, c, k⟩ := x
  dsimp only at hc ⊢
  by_cases h : s = 1
  · have hT : heldL ⟨me, e, s, t, c, k⟩ = unpackL c.data.toList := by rw [heldL, if_neg (fun q => q h)]
    rw [hT]
    clear hT
    subst h
    go_enter Tryd.func44, Tryd.ntmps44
    go_wp2_with fail
    refine (runpack_any c hc _).mono ?_
    rintro r w1 ⟨v, rfl, ho, hb⟩
    go_wp2_with fail
    go_ret2
    exact ⟨_, rfl, own_mono ho (by simp), by repeat (first | (with_reducible exact Below.refl _ _) | (with_reducible assumption) | (with_reducible refine bw_alloc ?_) | (with_reducible refine bw_drew ?_) | (with_reducible refine bw_drewN ?_) | (with_reducible refine bw_set ?_ (by first | (simp; done) | (dsimp only; omega))) | (with_reducible refine bw_via (by assumption) ?_))⟩
  · have hT : heldL ⟨me, e, s, t, c, k⟩ = ([], 7) := by rw [heldL, if_pos h]
    rw [hT]
    clear hT
    have hb : (s != 1) = true := bne_iff_ne.2 h
    go_enter Tryd.func44, Tryd.ntmps44
    go_wp2_with fail
    go_ret2
    exact ⟨_, rfl, World.ownsRow_nil _ _ _ 2, by repeat (first | (with_reducible exact Below.refl _ _) | (with_reducible assumption) | (with_reducible refine bw_alloc ?_) | (with_reducible refine bw_drew ?_) | (with_reducible refine bw_drewN ?_) | (with_reducible refine bw_set ?_ (by first | (simp; done) | (dsimp only; omega))) | (with_reducible refine bw_via (by assumption) ?_))⟩
/-! ### Ship -/
set_option maxHeartbeats 4000000 in
theorem rship_any (x : S) (b : Ba) (hc : x.c.size ≤ 2000) (w : World) : Calls Tryd.prog 18 #[.agg #[.int .u8 x.me, .int .i64 x.e, .int .i64 x.s, .int .u8 x.t, .string x.c, .bool x.k], .agg #[.int .i64 b.tx, .int .i64 b.vote]] w (ShipPost (shipA x b) w) := by
  have hcm : x.c.size ≤ maxLen := by unfold maxLen; omega
  obtain ⟨T, hT⟩ : ∃ T, T = shipA x b := ⟨_, rfl⟩
  rw [← hT]
  have HT := Lib.hid hT
  clear hT
  go_enter Tryd.func18, Tryd.ntmps18
  go_wp2_with fail
  generalize hv1 : World.alloc w _ = v1
  generalize hv2 : World.alloc v1 _ = v2
  generalize hv3 : World.alloc v2 _ = v3
  obtain ⟨hS, hB⟩ := ship_at x b w v1 v2 v3 _ _ _ hv1 hv2 hv3
  clear hv1 hv2 hv3
  refine (right_hand_ref x v3 hcm).mono ?_
  rintro e w4 ⟨rfl, hb4⟩
  have hS4 := hS.below hb4
  have hB4 := hB.trans (hb4.mono hB.size)
  clear hS hb4 hB
  cases hr : rightS x with
  | false =>
    have hT : T = (x, 2) := by rw [HT.out, shipA, if_pos hr]
    subst hT
    obtain ⟨hz, ⟨a0, a1, a2, a3, a4, a5⟩, ⟨b0, b1⟩, ⟨d0, d1, d2, d3, d4, d5⟩, f1, f2⟩ := hS4
    go_wp2_with fail
    simp [bodyPost, results, Tryd.results18, go_sem, *]
    exact ⟨rfl, by repeat (first | (with_reducible exact Below.refl _ _) | (with_reducible assumption) | (with_reducible refine bw_alloc ?_) | (with_reducible refine bw_drew ?_) | (with_reducible refine bw_drewN ?_) | (with_reducible refine bw_set ?_ (by first | (simp; done) | (dsimp only; omega))) | (with_reducible refine bw_via (by assumption) ?_))⟩
  | true =>
    have HS4 := Lib.hid hS4
    obtain ⟨hz, ⟨a0, a1, a2, a3, a4, a5⟩, ⟨b0, b1⟩, ⟨d0, d1, d2, d3, d4, d5⟩, f1, f2⟩ := hS4
    go_wp2_with fail
    refine (rmay_any b w4).mono ?_
    rintro e w5 ⟨rfl, hb5⟩
    have hS5 := HS4.out.below hb5
    have hB5 := hB4.trans (hb5.mono hB4.size)
    clear HS4 hb5 hB4 hz a0 a1 a2 a3 a4 a5 b0 b1 d0 d1 d2 d3 d4 d5 f1 f2
    cases hm : mayB b with
    | false =>
      have hT : T = (x, 2) := by rw [HT.out, shipA, if_neg (by rw [hr]; decide), if_pos hm]
      subst hT
      obtain ⟨hz, ⟨a0, a1, a2, a3, a4, a5⟩, ⟨b0, b1⟩, ⟨d0, d1, d2, d3, d4, d5⟩, f1, f2⟩ := hS5
      go_wp2_with fail
      simp [bodyPost, results, Tryd.results18, go_sem, *]
      exact ⟨rfl, by repeat (first | (with_reducible exact Below.refl _ _) | (with_reducible assumption) | (with_reducible refine bw_alloc ?_) | (with_reducible refine bw_drew ?_) | (with_reducible refine bw_drewN ?_) | (with_reducible refine bw_set ?_ (by first | (simp; done) | (dsimp only; omega))) | (with_reducible refine bw_via (by assumption) ?_))⟩
    | true =>
      have HS5 := Lib.hid hS5
      obtain ⟨hz, ⟨a0, a1, a2, a3, a4, a5⟩, ⟨b0, b1⟩, ⟨d0, d1, d2, d3, d4, d5⟩, f1, f2⟩ := hS5
      go_wp2_with fail
      refine (rheld_any x hc w5).mono ?_
      rintro e w6 ⟨v, rfl, ho6, hb6⟩
      have hS6 := HS5.out.below hb6
      have hB6 := hB5.trans (hb6.mono hB5.size)
      clear HS5 hb6 hB5 hz a0 a1 a2 a3 a4 a5 b0 b1 d0 d1 d2 d3 d4 d5 f1 f2
      by_cases he : (heldL x).2 = 0
      · obtain ⟨l, hl⟩ : ∃ l, heldL x = (l, 0) := ⟨(heldL x).1, by rw [← he]⟩
        rw [hl] at ho6 ⊢
        obtain ⟨m, n, hp⟩ : ∃ m n, putL l b = (m, n) := ⟨_, _, rfl⟩
        have hbal := own_balT ho6
        dsimp only at hbal
        have HS6 := Lib.hid hS6
        obtain ⟨hz, ⟨a0, a1, a2, a3, a4, a5⟩, ⟨b0, b1⟩, ⟨d0, d1, d2, d3, d4, d5⟩, f1, f2⟩ := hS6
        by_cases hn : n = 0
        · subst hn
          obtain ⟨hlr, hmr, hsh⟩ := ship_put hr hm hl hp
          have HPU := rput_any v l b hlr w6 hbal
          rw [hp] at HPU
          rw [hsh] at HT
          clear hsh hl he hp
          go_wp2_with fail
          refine HPU.mono ?_
          rintro e w7 ⟨u, rfl, ⟨ua, un, uc, rfl⟩, hu, hb7⟩
          have hS7 := HS6.out.below hb7
          have hB7 := hB6.trans (hb7.mono hB6.size)
          have HU := Lib.hid (hu rfl)
          clear HS6 hb7 hB6 HPU hu hbal ho6 hz a0 a1 a2 a3 a4 a5 b0 b1 d0 d1 d2 d3 d4 d5 f1 f2
          have HS7 := Lib.hid hS7
          obtain ⟨hz, ⟨a0, a1, a2, a3, a4, a5⟩, ⟨b0, b1⟩, ⟨d0, d1, d2, d3, d4, d5⟩, f1, f2⟩ := hS7
          dsimp only
          go_wp2_with fail
          have HPK := rpack_any (.slice ua un uc) m w7 HU.out
          rw [pack_right hmr] at HPK
          refine HPK.mono ?_
          rintro e w8 ⟨rfl, hb8⟩
          have hS8 := HS7.out.below hb8
          have hB8 := hB7.trans (hb8.mono hB7.size)
          have hT := HT.out
          subst hT
          clear HS7 hb8 hB7 HPK HU HT hz a0 a1 a2 a3 a4 a5 b0 b1 d0 d1 d2 d3 d4 d5 f1 f2
          obtain ⟨hz, ⟨a0, a1, a2, a3, a4, a5⟩, ⟨b0, b1⟩, ⟨d0, d1, d2, d3, d4, d5⟩, f1, f2⟩ := hS8
          dsimp only [mkS]
          go_wp2_with fail
          simp [bodyPost, results, Tryd.results18, go_sem, *]
          exact ⟨rfl, by repeat (first | (with_reducible exact Below.refl _ _) | (with_reducible assumption) | (with_reducible refine bw_alloc ?_) | (with_reducible refine bw_drew ?_) | (with_reducible refine bw_drewN ?_) | (with_reducible refine bw_set ?_ (by first | (simp; done) | (dsimp only; omega))) | (with_reducible refine bw_via (by assumption) ?_))⟩
        · obtain ⟨hlr, hsh⟩ := ship_bad hr hm hl hp hn
          have HPU := rput_any v l b hlr w6 hbal
          rw [hp] at HPU
          have hT := HT.out
          rw [hsh] at hT
          subst hT
          clear hsh hl he hp HT
          have hnb : (n != 0) = true := bne_iff_ne.2 hn
          go_wp2_with fail
          refine HPU.mono ?_
          rintro e w7 ⟨u, rfl, ⟨ua, un, uc, rfl⟩, hu, hb7⟩
          have hS7 := HS6.out.below hb7
          have hB7 := hB6.trans (hb7.mono hB6.size)
          clear HS6 hb7 hB6 HPU hu hbal ho6 hz a0 a1 a2 a3 a4 a5 b0 b1 d0 d1 d2 d3 d4 d5 f1 f2
          obtain ⟨hz, ⟨a0, a1, a2, a3, a4, a5⟩, ⟨b0, b1⟩, ⟨d0, d1, d2, d3, d4, d5⟩, f1, f2⟩ := hS7
          dsimp only
          go_wp2_with fail
          simp [bodyPost, results, Tryd.results18, go_sem, *]
          exact ⟨rfl, by repeat (first | (with_reducible exact Below.refl _ _) | (with_reducible assumption) | (with_reducible refine bw_alloc ?_) | (with_reducible refine bw_drew ?_) | (with_reducible refine bw_drewN ?_) | (with_reducible refine bw_set ?_ (by first | (simp; done) | (dsimp only; omega))) | (with_reducible refine bw_via (by assumption) ?_))⟩
      · have hT : T = (x, (heldL x).2) := by rw [HT.out, shipA, if_neg (by rw [hr]; decide), if_neg (by rw [hm]; decide), if_pos he]
        subst hT
        generalize (heldL x).2 = er at *
        have hnb : (er != 0) = true := bne_iff_ne.2 he
        obtain ⟨hz, ⟨a0, a1, a2, a3, a4, a5⟩, ⟨b0, b1⟩, ⟨d0, d1, d2, d3, d4, d5⟩, f1, f2⟩ := hS6
        go_wp2_with fail
        simp [bodyPost, results, Tryd.results18, go_sem, *]
        exact ⟨rfl, by repeat (first | (with_reducible exact Below.refl _ _) | (with_reducible assumption) | (with_reducible refine bw_alloc ?_) | (with_reducible refine bw_drew ?_) | (with_reducible refine bw_drewN ?_) | (with_reducible refine bw_set ?_ (by first | (simp; done) | (dsimp only; omega))) | (with_reducible refine bw_via (by assumption) ?_))⟩
end Go.Proofs.YtajnaiofagppeaaDoor.RefShip
