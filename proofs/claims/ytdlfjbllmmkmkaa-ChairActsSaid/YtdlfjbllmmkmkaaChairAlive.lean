/- What alive of the chair's laws answers. -/
import Derived.Test.YtdlfjbllmmkmkaaOpen
import Derived.Test.YtdlfjbllmmkmkaaChairPlay
namespace Go.Proofs.Ytdlfjbllmmkmkaa.Chair
open Go.RowKit Go.Maps Flat ChairSpec News Go.Proofs.YtdlfjbllmmkmkaaW.PrintLast
set_option linter.unusedSimpArgs false
set_option linter.unusedVariables false
set_option maxRecDepth 100000
theorem aStep (k : Nat) (hk : k < 6) (r : Re) (hr : r = aRec k) : doC (aCh k) r = (aCh (k + 1), aN k, aE k) := by
  subst hr
  exact Prod.ext rfl (aAns ⟨k, hk⟩)
theorem aOpenN : openN (aCh 6).deals = [] := by decide +kernel
/-- A chair just made. -/
theorem chair_made {w : World} {g bm : Nat} (h0 : w.cell? ⟨g, 0, none⟩ = some (.map (some bm))) (hlt : bm < g) (h1 : w.cell? ⟨g, 1, none⟩ = some (.slice none 0 0)) (hf : ∀ o, w.frozen? ⟨g, o, none⟩ = false) (ho : MapV.Own Try.prog .i64 3 w bm MapV.none_ 0) : ChairAt w g bm (.slice none 0 0) 0 c0 where
  map := h0
  lt := hlt
  fz := hf 1
  own := ho
  few := Nat.le_refl 0
  keys := fun k d h => by cases h
  logc := h1
  row := World.ownsRow_nil _ _ _ _
/-- The table of alive at block gt. -/
def TabAt (w : World) (gt : Nat) : Prop := ∀ i : Nat, w.cell? ⟨gt, i, none⟩ = (#[.int .i64 1, .int .i64 7, .int .u8 6, .int .i64 0, .int .i64 0, .int .i64 0, .int .i64 10, .int .i64 0, .int .i64 0, .int .i64 0, .int .i64 2, .int .i64 7, .int .u8 1, .int .i64 1, .int .i64 1, .int .i64 3, .int .i64 0, .int .i64 0, .int .i64 0, .int .i64 0, .int .i64 1, .int .i64 8, .int .u8 1, .int .i64 0, .int .i64 0, .int .i64 0, .int .i64 5, .int .i64 0, .int .i64 0, .int .i64 0, .int .i64 2, .int .i64 7, .int .u8 2, .int .i64 1, .int .i64 1, .int .i64 9, .int .i64 0, .int .i64 0, .int .i64 1, .int .i64 0, .int .i64 4, .int .i64 0, .int .u8 0, .int .i64 0, .int .i64 0, .int .i64 5, .int .i64 0, .int .i64 0, .int .i64 1, .int .i64 0, .int .i64 2, .int .i64 8, .int .u8 0, .int .i64 1, .int .i64 1, .int .i64 0, .int .i64 0, .int .i64 0, .int .i64 0, .int .i64 13] : Array Value)[i]?
def RelL (w : World) (g bm gt : Nat) (i : Value) (wr : World) : Prop :=
  ∃ k : Nat, k ≤ 6 ∧ i = .int .i64 (k : Int) ∧ TabAt wr gt ∧ gt < wr.heap.size ∧ (∃ lv c, ChairAt wr g bm lv c (aCh k) ∧ lv.ownBlock ≠ some gt) ∧ Below w.heap.size w wr
theorem Apart.cell {w w' : World} {g bm b o : Nat} {lv : Value} (h : Apart w w' g bm lv) (hb : b < w.heap.size) (h1 : b ≠ g) (h2 : b ≠ bm) (h3 : some b ≠ lv.ownBlock) : w'.cell? ⟨b, o, none⟩ = w.cell? ⟨b, o, none⟩ := cell_block (h.block b hb h1 h2 h3)
set_option maxHeartbeats 16000000 in
theorem alive_any (w : World) : Calls Try.prog 10 #[] w fun r w' => r = .returned (.bool true) ∧ Below w.heap.size w w' := by
  go_enter Try.func10, Try.ntmps10
  go_wp2_with fail
  refine (chair_new w).mono ?_
  rintro r v1 ⟨g, bm, rfl, hbm0, hbmg, hgl, h0, h1, hf, ho, hb1⟩
  have HC1 := Lib.hid (chair_made h0 hbmg h1 hf ho)
  have HB1 := Lib.hid hb1
  clear h0 h1 hf ho hb1
  go_wp2_with fail
  generalize hv2 : World.alloc v1 _ = v2
  obtain ⟨hb2, hz2, hc2⟩ := alloc_facts hv2
  have hIN : RelL w g bm v1.heap.size (.int .i64 0) v2 := ⟨0, by omega, rfl, hc2, hz2, ⟨_, _, HC1.out.below hb2, by simp [Value.ownBlock]⟩, HB1.out.trans (hb2.mono HB1.out.size)⟩
  have hgtg : g < v1.heap.size := hgl
  have hwb : w.heap.size ≤ bm := hbm0
  clear hv2 hb2 hz2 hc2 HC1 HB1
  generalize v1.heap.size = gt at *
  go_loopw [27] (fun i wr => RelL w g bm gt i wr) (fun i _ => 6 - (intOf i).toNat)
  case atStart => exact hIN
  case round =>
    obtain ⟨wo, h_wo⟩ : ∃ v : World, v = wr := ⟨_, rfl⟩; subst h_wo
    clear hIN
    obtain ⟨k, hk, rfl, hT, hgt, ⟨lv, c, hC, hlv⟩, hB⟩ := hrel
    have HT := Lib.hid hT
    have HC := Lib.hid hC
    have HB := Lib.hid hB
    clear hC hB
    rcases (by omega : k = 0 ∨ k = 1 ∨ k = 2 ∨ k = 3 ∨ k = 4 ∨ k = 5 ∨ k = 6) with rfl | rfl | rfl | rfl | rfl | rfl | rfl
    · clear hk
      have q0 := hT 0
      have q1 := hT 1
      have q2 := hT 2
      have q3 := hT 3
      have q4 := hT 4
      have q5 := hT 5
      have q6 := hT 6
      have q7 := hT 7
      have q8 := hT 8
      have q9 := hT 9
      go_wp2_with fail
      generalize hv4 : World.alloc wo _ = v4
      obtain ⟨hb4, hz4, hc4⟩ := alloc_facts hv4
      have HC4 := Lib.hid (HC.out.below hb4)
      have hlv4 : some wo.heap.size ≠ lv.ownBlock := fun e => by have := (HC.out.row.lt _ e.symm).2; omega
      have hgl := Flat.cell_lt HC.out.map
      have hbl := HC.out.own.lt
      have hd := do_any g bm c lv (aCh 0) 1 7 0 0 0 10 0 6 (by decide) (by have := aLen ⟨0, by decide⟩; simp only at this; omega) v4 HC4.out
      rw [aStep 0 (by decide) _ (by rfl)] at hd
      refine hd.mono ?_
      rintro r v5 ⟨rfl, hap, lv', c', hC', hloc⟩
      have p8 := (hap.cell hz4 (by omega) (by omega) hlv4).trans (hc4 8)
      have p9 := (hap.cell hz4 (by omega) (by omega) hlv4).trans (hc4 9)
      have HT5 := Lib.hid (show TabAt v5 gt from fun i => (hap.cell (Nat.lt_of_lt_of_le hgt hb4.size) (by omega) (by omega) (fun e => hlv e.symm)).trans ((hb4.cell (p := ⟨gt, i, none⟩) hgt).trans (HT.out i)))
      have HC5 := Lib.hid hC'
      have hlv' : lv'.ownBlock ≠ some gt := fun e => by
        rcases hloc with h | h
        · exact hlv (h ▸ e)
        · have h1 := h gt e
          have h2 := hb4.size
          omega
      have HB5 := Lib.hid ((HB.out.trans (hb4.mono HB.out.size)).trans (hap.below HC4.out hwb (Nat.le_trans HB.out.size hb4.size)))
      have hs5 : gt < v5.heap.size := Nat.lt_of_lt_of_le hgt (Nat.le_trans hb4.size hap.size)
      clear hd hv4 hc4 hap hC' hloc hb4 HC4 hT q0 q1 q2 q3 q4 q5 q6 q7 q8 q9
      simp only [aN, aE]
      go_wp2_with fail
      exact ⟨⟨1, by omega, by go_num, HT5.out, hs5, ⟨lv', c', HC5.out, hlv'⟩, HB5.out⟩, by simp [intOf]⟩
    · clear hk
      have q0 := hT 10
      have q1 := hT 11
      have q2 := hT 12
      have q3 := hT 13
      have q4 := hT 14
      have q5 := hT 15
      have q6 := hT 16
      have q7 := hT 17
      have q8 := hT 18
      have q9 := hT 19
      go_wp2_with fail
      generalize hv4 : World.alloc wo _ = v4
      obtain ⟨hb4, hz4, hc4⟩ := alloc_facts hv4
      have HC4 := Lib.hid (HC.out.below hb4)
      have hlv4 : some wo.heap.size ≠ lv.ownBlock := fun e => by have := (HC.out.row.lt _ e.symm).2; omega
      have hgl := Flat.cell_lt HC.out.map
      have hbl := HC.out.own.lt
      have hd := do_any g bm c lv (aCh 1) 2 7 1 1 3 0 0 1 (by decide) (by have := aLen ⟨1, by decide⟩; simp only at this; omega) v4 HC4.out
      rw [aStep 1 (by decide) _ (by rfl)] at hd
      refine hd.mono ?_
      rintro r v5 ⟨rfl, hap, lv', c', hC', hloc⟩
      have p8 := (hap.cell hz4 (by omega) (by omega) hlv4).trans (hc4 8)
      have p9 := (hap.cell hz4 (by omega) (by omega) hlv4).trans (hc4 9)
      have HT5 := Lib.hid (show TabAt v5 gt from fun i => (hap.cell (Nat.lt_of_lt_of_le hgt hb4.size) (by omega) (by omega) (fun e => hlv e.symm)).trans ((hb4.cell (p := ⟨gt, i, none⟩) hgt).trans (HT.out i)))
      have HC5 := Lib.hid hC'
      have hlv' : lv'.ownBlock ≠ some gt := fun e => by
        rcases hloc with h | h
        · exact hlv (h ▸ e)
        · have h1 := h gt e
          have h2 := hb4.size
          omega
      have HB5 := Lib.hid ((HB.out.trans (hb4.mono HB.out.size)).trans (hap.below HC4.out hwb (Nat.le_trans HB.out.size hb4.size)))
      have hs5 : gt < v5.heap.size := Nat.lt_of_lt_of_le hgt (Nat.le_trans hb4.size hap.size)
      clear hd hv4 hc4 hap hC' hloc hb4 HC4 hT q0 q1 q2 q3 q4 q5 q6 q7 q8 q9
      simp only [aN, aE]
      go_wp2_with fail
      exact ⟨⟨2, by omega, by go_num, HT5.out, hs5, ⟨lv', c', HC5.out, hlv'⟩, HB5.out⟩, by simp [intOf]⟩
    · clear hk
      have q0 := hT 20
      have q1 := hT 21
      have q2 := hT 22
      have q3 := hT 23
      have q4 := hT 24
      have q5 := hT 25
      have q6 := hT 26
      have q7 := hT 27
      have q8 := hT 28
      have q9 := hT 29
      go_wp2_with fail
      generalize hv4 : World.alloc wo _ = v4
      obtain ⟨hb4, hz4, hc4⟩ := alloc_facts hv4
      have HC4 := Lib.hid (HC.out.below hb4)
      have hlv4 : some wo.heap.size ≠ lv.ownBlock := fun e => by have := (HC.out.row.lt _ e.symm).2; omega
      have hgl := Flat.cell_lt HC.out.map
      have hbl := HC.out.own.lt
      have hd := do_any g bm c lv (aCh 2) 1 8 0 0 0 5 0 1 (by decide) (by have := aLen ⟨2, by decide⟩; simp only at this; omega) v4 HC4.out
      rw [aStep 2 (by decide) _ (by rfl)] at hd
      refine hd.mono ?_
      rintro r v5 ⟨rfl, hap, lv', c', hC', hloc⟩
      have p8 := (hap.cell hz4 (by omega) (by omega) hlv4).trans (hc4 8)
      have p9 := (hap.cell hz4 (by omega) (by omega) hlv4).trans (hc4 9)
      have HT5 := Lib.hid (show TabAt v5 gt from fun i => (hap.cell (Nat.lt_of_lt_of_le hgt hb4.size) (by omega) (by omega) (fun e => hlv e.symm)).trans ((hb4.cell (p := ⟨gt, i, none⟩) hgt).trans (HT.out i)))
      have HC5 := Lib.hid hC'
      have hlv' : lv'.ownBlock ≠ some gt := fun e => by
        rcases hloc with h | h
        · exact hlv (h ▸ e)
        · have h1 := h gt e
          have h2 := hb4.size
          omega
      have HB5 := Lib.hid ((HB.out.trans (hb4.mono HB.out.size)).trans (hap.below HC4.out hwb (Nat.le_trans HB.out.size hb4.size)))
      have hs5 : gt < v5.heap.size := Nat.lt_of_lt_of_le hgt (Nat.le_trans hb4.size hap.size)
      clear hd hv4 hc4 hap hC' hloc hb4 HC4 hT q0 q1 q2 q3 q4 q5 q6 q7 q8 q9
      simp only [aN, aE]
      go_wp2_with fail
      exact ⟨⟨3, by omega, by go_num, HT5.out, hs5, ⟨lv', c', HC5.out, hlv'⟩, HB5.out⟩, by simp [intOf]⟩
    · clear hk
      have q0 := hT 30
      have q1 := hT 31
      have q2 := hT 32
      have q3 := hT 33
      have q4 := hT 34
      have q5 := hT 35
      have q6 := hT 36
      have q7 := hT 37
      have q8 := hT 38
      have q9 := hT 39
      go_wp2_with fail
      generalize hv4 : World.alloc wo _ = v4
      obtain ⟨hb4, hz4, hc4⟩ := alloc_facts hv4
      have HC4 := Lib.hid (HC.out.below hb4)
      have hlv4 : some wo.heap.size ≠ lv.ownBlock := fun e => by have := (HC.out.row.lt _ e.symm).2; omega
      have hgl := Flat.cell_lt HC.out.map
      have hbl := HC.out.own.lt
      have hd := do_any g bm c lv (aCh 3) 2 7 1 1 9 0 0 2 (by decide) (by have := aLen ⟨3, by decide⟩; simp only at this; omega) v4 HC4.out
      rw [aStep 3 (by decide) _ (by rfl)] at hd
      refine hd.mono ?_
      rintro r v5 ⟨rfl, hap, lv', c', hC', hloc⟩
      have p8 := (hap.cell hz4 (by omega) (by omega) hlv4).trans (hc4 8)
      have p9 := (hap.cell hz4 (by omega) (by omega) hlv4).trans (hc4 9)
      have HT5 := Lib.hid (show TabAt v5 gt from fun i => (hap.cell (Nat.lt_of_lt_of_le hgt hb4.size) (by omega) (by omega) (fun e => hlv e.symm)).trans ((hb4.cell (p := ⟨gt, i, none⟩) hgt).trans (HT.out i)))
      have HC5 := Lib.hid hC'
      have hlv' : lv'.ownBlock ≠ some gt := fun e => by
        rcases hloc with h | h
        · exact hlv (h ▸ e)
        · have h1 := h gt e
          have h2 := hb4.size
          omega
      have HB5 := Lib.hid ((HB.out.trans (hb4.mono HB.out.size)).trans (hap.below HC4.out hwb (Nat.le_trans HB.out.size hb4.size)))
      have hs5 : gt < v5.heap.size := Nat.lt_of_lt_of_le hgt (Nat.le_trans hb4.size hap.size)
      clear hd hv4 hc4 hap hC' hloc hb4 HC4 hT q0 q1 q2 q3 q4 q5 q6 q7 q8 q9
      simp only [aN, aE]
      go_wp2_with fail
      exact ⟨⟨4, by omega, by go_num, HT5.out, hs5, ⟨lv', c', HC5.out, hlv'⟩, HB5.out⟩, by simp [intOf]⟩
    · clear hk
      have q0 := hT 40
      have q1 := hT 41
      have q2 := hT 42
      have q3 := hT 43
      have q4 := hT 44
      have q5 := hT 45
      have q6 := hT 46
      have q7 := hT 47
      have q8 := hT 48
      have q9 := hT 49
      go_wp2_with fail
      generalize hv4 : World.alloc wo _ = v4
      obtain ⟨hb4, hz4, hc4⟩ := alloc_facts hv4
      have HC4 := Lib.hid (HC.out.below hb4)
      have hlv4 : some wo.heap.size ≠ lv.ownBlock := fun e => by have := (HC.out.row.lt _ e.symm).2; omega
      have hgl := Flat.cell_lt HC.out.map
      have hbl := HC.out.own.lt
      have hd := do_any g bm c lv (aCh 4) 4 0 0 0 5 0 0 0 (by decide) (by have := aLen ⟨4, by decide⟩; simp only at this; omega) v4 HC4.out
      rw [aStep 4 (by decide) _ (by rfl)] at hd
      refine hd.mono ?_
      rintro r v5 ⟨rfl, hap, lv', c', hC', hloc⟩
      have p8 := (hap.cell hz4 (by omega) (by omega) hlv4).trans (hc4 8)
      have p9 := (hap.cell hz4 (by omega) (by omega) hlv4).trans (hc4 9)
      have HT5 := Lib.hid (show TabAt v5 gt from fun i => (hap.cell (Nat.lt_of_lt_of_le hgt hb4.size) (by omega) (by omega) (fun e => hlv e.symm)).trans ((hb4.cell (p := ⟨gt, i, none⟩) hgt).trans (HT.out i)))
      have HC5 := Lib.hid hC'
      have hlv' : lv'.ownBlock ≠ some gt := fun e => by
        rcases hloc with h | h
        · exact hlv (h ▸ e)
        · have h1 := h gt e
          have h2 := hb4.size
          omega
      have HB5 := Lib.hid ((HB.out.trans (hb4.mono HB.out.size)).trans (hap.below HC4.out hwb (Nat.le_trans HB.out.size hb4.size)))
      have hs5 : gt < v5.heap.size := Nat.lt_of_lt_of_le hgt (Nat.le_trans hb4.size hap.size)
      clear hd hv4 hc4 hap hC' hloc hb4 HC4 hT q0 q1 q2 q3 q4 q5 q6 q7 q8 q9
      simp only [aN, aE]
      go_wp2_with fail
      exact ⟨⟨5, by omega, by go_num, HT5.out, hs5, ⟨lv', c', HC5.out, hlv'⟩, HB5.out⟩, by simp [intOf]⟩
    · clear hk
      have q0 := hT 50
      have q1 := hT 51
      have q2 := hT 52
      have q3 := hT 53
      have q4 := hT 54
      have q5 := hT 55
      have q6 := hT 56
      have q7 := hT 57
      have q8 := hT 58
      have q9 := hT 59
      go_wp2_with fail
      generalize hv4 : World.alloc wo _ = v4
      obtain ⟨hb4, hz4, hc4⟩ := alloc_facts hv4
      have HC4 := Lib.hid (HC.out.below hb4)
      have hlv4 : some wo.heap.size ≠ lv.ownBlock := fun e => by have := (HC.out.row.lt _ e.symm).2; omega
      have hgl := Flat.cell_lt HC.out.map
      have hbl := HC.out.own.lt
      have hd := do_any g bm c lv (aCh 5) 2 8 1 1 0 0 0 0 (by decide) (by have := aLen ⟨5, by decide⟩; simp only at this; omega) v4 HC4.out
      rw [aStep 5 (by decide) _ (by rfl)] at hd
      refine hd.mono ?_
      rintro r v5 ⟨rfl, hap, lv', c', hC', hloc⟩
      have p8 := (hap.cell hz4 (by omega) (by omega) hlv4).trans (hc4 8)
      have p9 := (hap.cell hz4 (by omega) (by omega) hlv4).trans (hc4 9)
      have HT5 := Lib.hid (show TabAt v5 gt from fun i => (hap.cell (Nat.lt_of_lt_of_le hgt hb4.size) (by omega) (by omega) (fun e => hlv e.symm)).trans ((hb4.cell (p := ⟨gt, i, none⟩) hgt).trans (HT.out i)))
      have HC5 := Lib.hid hC'
      have hlv' : lv'.ownBlock ≠ some gt := fun e => by
        rcases hloc with h | h
        · exact hlv (h ▸ e)
        · have h1 := h gt e
          have h2 := hb4.size
          omega
      have HB5 := Lib.hid ((HB.out.trans (hb4.mono HB.out.size)).trans (hap.below HC4.out hwb (Nat.le_trans HB.out.size hb4.size)))
      have hs5 : gt < v5.heap.size := Nat.lt_of_lt_of_le hgt (Nat.le_trans hb4.size hap.size)
      clear hd hv4 hc4 hap hC' hloc hb4 HC4 hT q0 q1 q2 q3 q4 q5 q6 q7 q8 q9
      simp only [aN, aE]
      go_wp2_with fail
      exact ⟨⟨6, by omega, by go_num, HT5.out, hs5, ⟨lv', c', HC5.out, hlv'⟩, HB5.out⟩, by simp [intOf]⟩
    · have hkI : ¬ (((6 : Nat) : Int)) < 6 := by decide
      clear hT hk
      obtain ⟨d7, hd7, ho7⟩ : ∃ d, (aCh 6).deals 7 = some d ∧ d.out = 1 := by
        have k := aDeal7
        cases h : (aCh 6).deals 7 with
        | none => rw [h] at k; cases k
        | some d => rw [h] at k; exact ⟨d, rfl, by simpa using k⟩
      obtain ⟨d8, hd8, ho8⟩ : ∃ d, (aCh 6).deals 8 = some d ∧ d.out = 2 := by
        have k := aDeal8
        cases h : (aCh 6).deals 8 with
        | none => rw [h] at k; cases k
        | some d => rw [h] at k; exact ⟨d, rfl, by simpa using k⟩
      have HD7 := Lib.hid (by
        have k := deal_any g bm c lv (aCh 6) 7 (by decide) wo HC.out
        rw [show dealOf (aCh 6) 7 = d7 by rw [dealOf, hd7]; rfl, show ((aCh 6).deals 7).isSome = true by rw [hd7]; rfl] at k
        exact k)
      have HD8 := Lib.hid (fun (W : World) (h : ChairAt W g bm lv c (aCh 6)) => by
        have k := deal_any g bm c lv (aCh 6) 8 (by decide) W h
        rw [show dealOf (aCh 6) 8 = d8 by rw [dealOf, hd8]; rfl, show ((aCh 6).deals 8).isSome = true by rw [hd8]; rfl] at k
        exact k)
      have hl5 : (aCh 6).log.length = 5 := aLog
      have HOP := Lib.hid (fun (W : World) (h : ChairAt W g bm lv c (aCh 6)) => open_any g bm c lv (aCh 6) (by rw [hl5]; decide) W h)
      have HLG := Lib.hid (fun (W : World) (h : ChairAt W g bm lv c (aCh 6)) => log_any g bm c lv (aCh 6) (by rw [hl5]; decide) W h)
      have HO7 := Lib.hid ho7
      have HO8 := Lib.hid ho8
      have HL5 := Lib.hid hl5
      clear hd7 ho7 hd8 ho8 hl5 HT
      go_wp2_with fail
      refine HD7.out.mono ?_
      rintro r v4 ⟨rfl, hb4⟩
      have HC4 := Lib.hid (HC.out.below hb4)
      have HB4 := Lib.hid (HB.out.trans (hb4.mono HB.out.size))
      have HN4 := Lib.hid (fun B hB => there_de v4 B 44 hB)
      clear hb4
      go_wp2_with (refine wpList_store_mid rfl 44 _ _ rfl (v4.heap.size) 0 (dc d7).toArray (by rfl) (by rfl) (HN4.out _ rfl) infoDe (all_oneCell_toArray (dc_one _)) ?_; generalize hw5 : World.setCells _ _ _ _ = w5 at *; have hnd := new_de d7 rfl hw5; have HD5 := Lib.hid hnd.2.2.1; have HC5 := Lib.hid (HC4.out.below hnd.1); have HB5 := Lib.hid (HB4.out.trans (hnd.1.mono HB4.out.size)); clear hw5 hnd)
      refine (HD8.out _ HC5.out).mono ?_
      rintro r v6 ⟨rfl, hb6⟩
      have HC6 := Lib.hid (HC5.out.below hb6)
      have HD6 := Lib.hid (HD5.out.below hb6)
      have HB6 := Lib.hid (HB5.out.trans (hb6.mono HB5.out.size))
      have HN6 := Lib.hid (fun B hB => there_de v6 B 44 hB)
      clear hb6
      go_wp2_with (refine wpList_store_mid rfl 44 _ _ rfl (v6.heap.size) 0 (dc d8).toArray (by rfl) (by rfl) (HN6.out _ rfl) infoDe (all_oneCell_toArray (dc_one _)) ?_; generalize hw7 : World.setCells _ _ _ _ = w7 at *; have hnd := new_de d8 rfl hw7; have HC7 := Lib.hid (HC6.out.below hnd.1); have HB7 := Lib.hid (HB6.out.trans (hnd.1.mono HB6.out.size)); have p7 := (HD6.out.below hnd.1).out; have p8 := hnd.2.2.1.out; rw [HO7.out] at p7; rw [HO8.out] at p8; clear hw7 hnd)
      refine (HOP.out _ HC7.out).mono ?_
      rintro r v8 ⟨v, rfl, hint, hb8⟩
      obtain ⟨a8, cap8, rfl, _⟩ := hint
      have HC8 := Lib.hid (HC7.out.below hb8)
      have HB8 := Lib.hid (HB7.out.trans (hb8.mono HB7.out.size))
      simp only [aOpenN, List.length_nil]
      clear hb8
      go_wp2_with fail
      refine (HLG.out _ HC8.out).mono ?_
      rintro r v9 ⟨v, rfl, hrow, hb9⟩
      obtain ⟨a9, cap9, rfl⟩ := slice_of hrow
      have HB9 := Lib.hid (HB8.out.trans (hb9.mono HB8.out.size))
      rw [HL5.out]
      clear hrow hb9
      go_wp2_with fail
      go_ret
      exact ⟨rfl, HB9.out⟩
end Go.Proofs.Ytdlfjbllmmkmkaa.Chair
