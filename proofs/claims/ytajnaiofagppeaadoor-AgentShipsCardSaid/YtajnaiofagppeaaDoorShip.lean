/- What Ship of package agent answers. -/
import Derived.Test.YtajnaiofagppeaaDoorInsert
import Derived.Test.YtajnaiofagppeaaDoorSearch
import Derived.Test.YtajnaiofagppeaaDoorHeld
namespace Go.Proofs.YtajnaiofagppeaaDoor.Ship
open Go Go.RowKit Go.Shelf CodeSpec AgentSpec Flat Ballot Collect Pack HandSpec Hand Held Search Go.Proofs.YtajnaiofagppeaaDoor.Insert Go.Proofs.YtajnaiofagppeaaDoorW.PrintLast
set_option linter.unusedSimpArgs false
set_option linter.unusedVariables false
set_option maxRecDepth 100000
/-! ### Insert, any road -/
theorem insert_any (B : Nat) (vb : Nat) (v : Value) (l : List Ba) (b : Ba) (i : Nat) (hl : l.length ≤ 100) (hin : i ≤ l.length) (w : World) (ho : OwnL w B v l) (hB : B ≤ w.heap.size) (hvb : ∀ g, v.ownBlock = some g → g < vb)
    (c0 : w.cell? ⟨vb, 0, none⟩ = some (.int .i64 b.tx)) (c1 : w.cell? ⟨vb, 1, none⟩ = some (.int .i64 b.vote)) (hsa : w.shape? vb = some (49, 2)) (hfa : w.frozen? ⟨vb, 0, none⟩ = false) (hfe : w.frozen? ⟨vb, 2, none⟩ = false) :
    Calls Tryd.prog 41 #[v, .int .i64 (i : Int), .slice (some ⟨vb, 0, none⟩) 1 1] w (InsPost B (insL l i b) w) := by
  by_cases he : i = l.length
  · subst he
    exact insert_end B vb v l b hl w ho hB c0 c1
  · rcases ho.2 with ⟨h1, h2⟩ | ⟨g, cap, cur, h1, h2, h3, h4, h5, h6, h7⟩
    · omega
    · subst h1
      by_cases hc : l.length + 1 ≤ cap
      · exact insert_shift B g cap cur vb l b i hl (by omega) w h2 h3 hc h5 h6 h7 (by have := hvb g rfl; omega) c0 c1 hsa hfa hfe
      · obtain rfl : cap = l.length := by omega
        exact insert_grow B g cur vb l b i hl (by omega) w h2 h3 h6 h7 c0 c1
/-! ### Ship -/
def posL (l : List Ba) (b : Ba) : Nat := (l.takeWhile fun a => decide (a.tx < b.tx)).length
theorem found_pos {l : List Ba} {b : Ba} {n : Nat} (h : Search.Found l b n) : n = posL l b := by
  induction l generalizing n with
  | nil =>
    have := h.1
    simp [posL] at *
    exact this
  | cons a l ih =>
    obtain ⟨h1, h2, h3⟩ := h
    by_cases ha : a.tx < b.tx
    · have hn : 0 < n := by
        rcases Nat.eq_zero_or_pos n with h | h
        · have := h3 0 (by simp) (by omega)
          simp at this
          omega
        · exact h
      obtain ⟨m, rfl⟩ : ∃ m, n = m + 1 := ⟨n - 1, by omega⟩
      have k := ih (n := m) ⟨by simpa using h1, fun i hi hlt => by have := h2 (i + 1) (by simpa using hi) (by omega); simpa using this, fun i hi hle => by have := h3 (i + 1) (by simpa using hi) (by omega); simpa using this⟩
      rw [k]
      simp [posL, List.takeWhile_cons, ha]
    · have hn : n = 0 := by
        rcases Nat.eq_zero_or_pos n with h | h
        · exact h
        · have := h2 0 (by simp) h
          simp at this
          omega
      rw [hn]
      simp [posL, List.takeWhile_cons, ha]
/-- The ballots' vote where they have it; else nothing. -/
def voteAt (l : List Ba) (n : Nat) : Int := if h : n < l.length then l[n].vote else 0
def shipA (x : S) (b : Ba) : S × Int :=
  if rightS x = false then (x, 2) else if mayB b = false then (x, 2) else if (heldL x).2 ≠ 0 then (x, (heldL x).2)
  else if isAt (heldL x).1 b (posL (heldL x).1 b) = true then (x, if voteAt (heldL x).1 (posL (heldL x).1 b) = b.vote then 0 else 8)
  else if 50 ≤ (heldL x).1.length then (x, 6)
  else if (packL (insL (heldL x).1 (posL (heldL x).1 b) b)).2 ≠ 0 then (x, (packL (insL (heldL x).1 (posL (heldL x).1 b) b)).2)
  else (⟨x.me, x.e, x.s, x.t, ⟨(packL (insL (heldL x).1 (posL (heldL x).1 b) b)).1.toArray⟩, x.k⟩, 0)
theorem held_right {x : S} (h : (heldL x).2 = 0) : rightL (heldL x).1 = true := by
  unfold heldL at *
  split at h
  · simp at h
  · rename_i hs
    rw [if_neg hs]
    unfold unpackL at *
    split at h
    · simp at h
    · rename_i h1
      rw [if_neg h1]
      split at h
      · rename_i h2
        rw [if_pos h2]
        exact h2.2
      · simp at h
theorem right_rising {l : List Ba} (h : rightL l = true) : Rising l := by
  simp only [rightL, Bool.and_eq_true, decide_eq_true_eq] at h
  have hr := (rise_iff l).1 h.1.2
  intro i j hij hj
  obtain ⟨d, rfl⟩ : ∃ d, j = i + 1 + d := ⟨j - i - 1, by omega⟩
  induction d with
  | zero => exact hr i hj
  | succ d ih => exact Int.lt_trans (ih (by omega) (by omega)) (hr (i + 1 + d) hj)
theorem right_len {l : List Ba} (h : rightL l = true) : l.length ≤ 50 := by
  simp only [rightL, Bool.and_eq_true, decide_eq_true_eq] at h
  exact h.2
/-- The call's own three blocks: the side, the ballot, what is given back. -/
def ShipAt (w : World) (B : Nat) (x : S) (b : Ba) : Prop :=
  B + 1 + 1 < w.heap.size ∧
  (w.cell? ⟨B, 0, none⟩ = some (.int .u8 x.me) ∧ w.cell? ⟨B, 1, none⟩ = some (.int .i64 x.e) ∧ w.cell? ⟨B, 2, none⟩ = some (.int .i64 x.s) ∧ w.cell? ⟨B, 3, none⟩ = some (.int .u8 x.t) ∧ w.cell? ⟨B, 4, none⟩ = some (.string x.c) ∧ w.cell? ⟨B, 5, none⟩ = some (.bool x.k)) ∧
  (w.cell? ⟨B + 1, 0, none⟩ = some (.int .i64 b.tx) ∧ w.cell? ⟨B + 1, 1, none⟩ = some (.int .i64 b.vote)) ∧
  (w.cell? ⟨B + 1 + 1, 0, none⟩ = some (.int .u8 0) ∧ w.cell? ⟨B + 1 + 1, 1, none⟩ = some (.int .i64 0) ∧ w.cell? ⟨B + 1 + 1, 2, none⟩ = some (.int .i64 0) ∧ w.cell? ⟨B + 1 + 1, 3, none⟩ = some (.int .u8 0) ∧ w.cell? ⟨B + 1 + 1, 4, none⟩ = some (.string ⟨#[]⟩) ∧ w.cell? ⟨B + 1 + 1, 5, none⟩ = some (.bool false)) ∧
  (∀ o, w.frozen? ⟨B, o, none⟩ = false) ∧ ∀ o, w.frozen? ⟨B + 1 + 1, o, none⟩ = false
theorem ShipAt.under {w w' : World} {B C : Nat} {x : S} {b : Ba} (h : ShipAt w B x b) (hb : Below C w w') (hC : B + 1 + 1 < C) : ShipAt w' B x b := by
  obtain ⟨hz, ⟨a0, a1, a2, a3, a4, a5⟩, ⟨b0, b1⟩, ⟨d0, d1, d2, d3, d4, d5⟩, f1, f2⟩ := h
  have k0 : B < C := by omega
  have k1 : B + 1 < C := by omega
  exact ⟨Nat.lt_of_lt_of_le hz hb.size,
    ⟨(hb.cell (p := ⟨B, 0, none⟩) k0).trans a0, (hb.cell (p := ⟨B, 1, none⟩) k0).trans a1, (hb.cell (p := ⟨B, 2, none⟩) k0).trans a2, (hb.cell (p := ⟨B, 3, none⟩) k0).trans a3, (hb.cell (p := ⟨B, 4, none⟩) k0).trans a4, (hb.cell (p := ⟨B, 5, none⟩) k0).trans a5⟩,
    ⟨(hb.cell (p := ⟨B + 1, 0, none⟩) k1).trans b0, (hb.cell (p := ⟨B + 1, 1, none⟩) k1).trans b1⟩,
    ⟨(hb.cell (p := ⟨B + 1 + 1, 0, none⟩) hC).trans d0, (hb.cell (p := ⟨B + 1 + 1, 1, none⟩) hC).trans d1, (hb.cell (p := ⟨B + 1 + 1, 2, none⟩) hC).trans d2, (hb.cell (p := ⟨B + 1 + 1, 3, none⟩) hC).trans d3, (hb.cell (p := ⟨B + 1 + 1, 4, none⟩) hC).trans d4, (hb.cell (p := ⟨B + 1 + 1, 5, none⟩) hC).trans d5⟩,
    fun o => (World.frozen?_of_block (a := ⟨B, o, none⟩) (hb.block B k0)).trans (f1 o), fun o => (World.frozen?_of_block (a := ⟨B + 1 + 1, o, none⟩) (hb.block (B + 1 + 1) hC)).trans (f2 o)⟩
theorem ShipAt.below {w w' : World} {B : Nat} {x : S} {b : Ba} (h : ShipAt w B x b) (hb : Below w.heap.size w w') : ShipAt w' B x b := h.under hb h.1
theorem ship_at (x : S) (b : Ba) (w v1 v2 v3 : World) (t1 t2 t3 : TypeId) (h1 : World.alloc w (.cells #[.int .u8 x.me, .int .i64 x.e, .int .i64 x.s, .int .u8 x.t, .string x.c, .bool x.k] t1) = v1) (h2 : World.alloc v1 (.cells #[.int .i64 b.tx, .int .i64 b.vote] t2) = v2)
    (h3 : World.alloc v2 (.cells #[.int .u8 0, .int .i64 0, .int .i64 0, .int .u8 0, .string ⟨#[]⟩, .bool false] t3) = v3) : ShipAt v3 w.heap.size x b ∧ Below w.heap.size w v3 := by
  obtain ⟨B1, z1, k1⟩ := alloc_facts h1
  obtain ⟨B2, z2, k2⟩ := alloc_facts h2
  obtain ⟨B3, z3, k3⟩ := alloc_facts h3
  have e1 : v1.heap.size = w.heap.size + 1 := by rw [← h1]; simp
  have e2 : v2.heap.size = w.heap.size + 1 + 1 := by rw [← h2]; simp [e1]
  have f1 : ∀ o, v1.frozen? ⟨w.heap.size, o, none⟩ = false := fun o => by rw [← h1]; exact World.frozen?_alloc_at _ _ _ _ rfl
  have f3 : ∀ o, v3.frozen? ⟨v2.heap.size, o, none⟩ = false := fun o => by rw [← h3]; exact World.frozen?_alloc_at _ _ _ _ rfl
  have B23 := B2.trans (B3.mono B2.size)
  have BB := B1.trans (B23.mono B1.size)
  rw [e1] at k2
  rw [e2] at k3 f3
  have q1 : w.heap.size + 1 < v2.heap.size := by omega
  refine ⟨⟨by omega, ⟨?_, ?_, ?_, ?_, ?_, ?_⟩, ⟨?_, ?_⟩, ⟨k3 0, k3 1, k3 2, k3 3, k3 4, k3 5⟩, fun o => ?_, f3⟩, BB⟩
  · exact (B23.cell (p := ⟨w.heap.size, 0, none⟩) z1).trans (k1 0)
  · exact (B23.cell (p := ⟨w.heap.size, 1, none⟩) z1).trans (k1 1)
  · exact (B23.cell (p := ⟨w.heap.size, 2, none⟩) z1).trans (k1 2)
  · exact (B23.cell (p := ⟨w.heap.size, 3, none⟩) z1).trans (k1 3)
  · exact (B23.cell (p := ⟨w.heap.size, 4, none⟩) z1).trans (k1 4)
  · exact (B23.cell (p := ⟨w.heap.size, 5, none⟩) z1).trans (k1 5)
  · exact (B3.cell (p := ⟨w.heap.size + 1, 0, none⟩) q1).trans (k2 0)
  · exact (B3.cell (p := ⟨w.heap.size + 1, 1, none⟩) q1).trans (k2 1)
  · exact (World.frozen?_of_block (a := ⟨w.heap.size, o, none⟩) (B23.block w.heap.size z1)).trans (f1 o)
def ShipPost (T : S × Int) (w : World) (e : Ending) (w' : World) : Prop := e = .returned (.tuple #[.agg #[.int .u8 T.1.me, .int .i64 T.1.e, .int .i64 T.1.s, .int .u8 T.1.t, .string T.1.c, .bool T.1.k], .int .i64 T.2]) ∧ Below w.heap.size w w'
set_option maxHeartbeats 4000000 in
theorem ship_any (x : S) (b : Ba) (hc : x.c.size ≤ maxLen) (w : World) : Calls Tryd.prog 16 #[.agg #[.int .u8 x.me, .int .i64 x.e, .int .i64 x.s, .int .u8 x.t, .string x.c, .bool x.k], .agg #[.int .i64 b.tx, .int .i64 b.vote]] w (ShipPost (shipA x b) w) := by
  obtain ⟨T, hT⟩ : ∃ T, T = shipA x b := ⟨_, rfl⟩
  rw [← hT]
  have HT := Lib.hid hT
  clear hT
  go_enter Tryd.func16, Tryd.ntmps16
  go_wp2_with fail
  generalize hv1 : World.alloc w _ = v1
  generalize hv2 : World.alloc v1 _ = v2
  generalize hv3 : World.alloc v2 _ = v3
  obtain ⟨hS, hB⟩ := ship_at x b w v1 v2 v3 _ _ _ hv1 hv2 hv3
  clear hv1 hv2 hv3
  refine (right_hand x v3 hc).mono ?_
  rintro e w4 ⟨rfl, hb4⟩
  have hS4 := hS.below hb4
  have hB4 := hB.trans (hb4.mono hB.size)
  clear hS hb4 hB
  cases hr : rightS x with
  | false =>
    have hT : T = (x, 2) := by rw [HT.out, shipA, if_pos hr]
    subst hT
    obtain ⟨hz, ⟨a0, a1, a2, a3, a4, a5⟩, ⟨b0, b1⟩, ⟨d0, d1, d2, d3, d4, d5⟩, f1, f2⟩ := hS4
    go_wp2_with fail
    simp [bodyPost, results, Tryd.results16, go_sem, *]
    exact ⟨rfl, by repeat (first | (with_reducible exact Below.refl _ _) | (with_reducible assumption) | (with_reducible refine bw_alloc ?_) | (with_reducible refine bw_drew ?_) | (with_reducible refine bw_drewN ?_) | (with_reducible refine bw_set ?_ (by first | (simp; done) | (dsimp only; omega))) | (with_reducible refine bw_via (by assumption) ?_))⟩
  | true =>
    have HS4 := Lib.hid hS4
    obtain ⟨hz, ⟨a0, a1, a2, a3, a4, a5⟩, ⟨b0, b1⟩, ⟨d0, d1, d2, d3, d4, d5⟩, f1, f2⟩ := hS4
    go_wp2_with fail
    refine (may_any b w4).mono ?_
    rintro e w5 ⟨rfl, hb5⟩
    have hS5 := HS4.out.below hb5
    have hB5 := hB4.trans (hb5.mono hB4.size)
    clear HS4 hb5 hB4 hz a0 a1 a2 a3 a4 a5 b0 b1 d0 d1 d2 d3 d4 d5 f1 f2
    cases hm : mayB b with
    | false =>
      have hT : T = (x, 2) := by rw [HT.out, shipA, if_neg (by rw [hr]; decide), if_pos hm]
      subst hT
      obtain ⟨hz, ⟨a0, a1, a2, a3, a4, a5⟩, ⟨b0, b1⟩, ⟨d0, d1, d2, d3, d4, d5⟩, f1, f2⟩ := hS5
      go_wp2_with fail
      simp [bodyPost, results, Tryd.results16, go_sem, *]
      exact ⟨rfl, by repeat (first | (with_reducible exact Below.refl _ _) | (with_reducible assumption) | (with_reducible refine bw_alloc ?_) | (with_reducible refine bw_drew ?_) | (with_reducible refine bw_drewN ?_) | (with_reducible refine bw_set ?_ (by first | (simp; done) | (dsimp only; omega))) | (with_reducible refine bw_via (by assumption) ?_))⟩
    | true =>
      have HS5 := Lib.hid hS5
      obtain ⟨hz, ⟨a0, a1, a2, a3, a4, a5⟩, ⟨b0, b1⟩, ⟨d0, d1, d2, d3, d4, d5⟩, f1, f2⟩ := hS5
      go_wp2_with fail
      refine (held_any x hc w5).mono ?_
      rintro e w6 ⟨v, rfl, ho6, hb6⟩
      have hS6 := HS5.out.below hb6
      have hB6 := hB5.trans (hb6.mono hB5.size)
      have hz6 := hb6.size
      have hz5 := HS5.out.1
      clear HS5 hb6 hB5 hz a0 a1 a2 a3 a4 a5 b0 b1 d0 d1 d2 d3 d4 d5 f1 f2
      by_cases he : (heldL x).2 = 0
      · have HLR := held_right he
        have HT2 : T = (if isAt (heldL x).1 b (posL (heldL x).1 b) = true then (x, if voteAt (heldL x).1 (posL (heldL x).1 b) = b.vote then 0 else 8)
            else if 50 ≤ (heldL x).1.length then (x, 6)
            else if (packL (insL (heldL x).1 (posL (heldL x).1 b) b)).2 ≠ 0 then (x, (packL (insL (heldL x).1 (posL (heldL x).1 b) b)).2)
            else (⟨x.me, x.e, x.s, x.t, ⟨(packL (insL (heldL x).1 (posL (heldL x).1 b) b)).1.toArray⟩, x.k⟩, 0)) := by
          rw [HT.out, shipA, if_neg (by rw [hr]; decide), if_neg (by rw [hm]; decide), if_neg (by rw [he]; simp)]
        rw [he] at *
        clear he HT
        generalize (heldL x).1 = l at *
        have HT := Lib.hid HT2
        clear HT2
        have HRI := right_rising HLR
        have h50 := right_len HLR
        have hbal := own_bal ho6
        have HO := Lib.hid ho6
        have HS6 := Lib.hid hS6
        clear ho6
        obtain ⟨hz, ⟨a0, a1, a2, a3, a4, a5⟩, ⟨b0, b1⟩, ⟨d0, d1, d2, d3, d4, d5⟩, f1, f2⟩ := hS6
        have HBS := Lib.hid (fun W (h : IsBal W v l) => bsf_any v l b W h (by omega) HRI)
        clear HRI HLR
        go_wp2_with fail
        refine (HBS.out _ hbal).mono ?_
        rintro e w7 ⟨at_, rfl, hf, hb7⟩
        obtain rfl := found_pos hf
        have hpn := hf.1
        have hS7 := HS6.out.below hb7
        have hB7 := hB6.trans (hb7.mono hB6.size)
        have hz7 : w5.heap.size ≤ w7.heap.size := Nat.le_trans hz6 hb7.size
        have HO7 : OwnL w7 w5.heap.size v l := own_kept HO.out hb7
        clear HS6 HO hb7 hB6 hbal HBS hf hz6 hz a0 a1 a2 a3 a4 a5 b0 b1 d0 d1 d2 d3 d4 d5 f1 f2
        generalize posL l b = p at *
        cases hi : isAt l b p with
        | true =>
          rw [hi] at HT
          have hpl : p < l.length := by
            unfold isAt at hi
            split at hi
            · assumption
            · cases hi
          have hva : voteAt l p = l[p].vote := by rw [voteAt, dif_pos hpl]
          obtain ⟨a, cap, rfl, _, _, hcc⟩ := own_bal HO7
          obtain ⟨bb, off, rfl, hbl, hd⟩ := hcc (by omega)
          have q1 := (hd p hpl).2
          rw [← hva] at q1
          have hpI : (p : Int) < (l.length : Int) := by omega
          have hp0 : (0 : Int) ≤ (p : Int) := by omega
          generalize voteAt l p = vv at *
          clear hcc hd hva hpn
          have HS7 := Lib.hid hS7
          obtain ⟨hz, ⟨a0, a1, a2, a3, a4, a5⟩, ⟨b0, b1⟩, ⟨d0, d1, d2, d3, d4, d5⟩, f1, f2⟩ := hS7
          have hzb : w.heap.size + 1 < w7.heap.size := by omega
          by_cases hv : vv = b.vote
          · have hT : T = (x, 0) := by rw [HT.out, if_pos rfl, if_pos hv]
            subst hT
            have hvI : (b.vote == b.vote) = true := beq_self_eq_true _
            rw [hv] at q1
            go_upto_region 7 with fail
            refine start_ (n := 12) (S := fun w' => Below w7.heap.size w7 w' ∧ ∀ b o, b < w7.heap.size → w'.cell? ⟨b, o, none⟩ = w7.cell? ⟨b, o, none⟩) (ds := []) #[false, false, false, false, false, false, false, false, false, false, false, false] (by kernel_rfl) rfl rfl ⟨(still_drew w7).1, (still_drew w7).2⟩ (fun hHeld => ?_)
            refine pure_ (i := 0) (N := some 36) (v := ?_) (a' := ?_) #[true, false, false, false, false, false, false, false, false, false, false, false] rfl rfl (by kernel_rfl) (fun _ _ _ h => h) (Or.inl ⟨by rfl, ?_⟩) ?_ ?_
            rotate_left
            · intro w'
              go_simp
              with_reducible rfl
            rotate_left
            · simp only [Act.put, List.setIfInBounds_toArray, List.set_cons_zero, List.set_cons_succ, i64_w, i32_w]
              rfl
            refine pure_ (i := 1) (N := some 37) (v := ?_) (a' := ?_) #[true, true, false, false, false, false, false, false, false, false, false, false] rfl rfl (by kernel_rfl) (fun _ _ _ h => h) (Or.inl ⟨by rfl, ?_⟩) ?_ ?_
            rotate_left
            · intro w'
              go_simp
              with_reducible rfl
            rotate_left
            · simp only [Act.put, List.setIfInBounds_toArray, List.set_cons_zero, List.set_cons_succ, i64_w, i32_w]
              rfl
            refine pure_ (i := 2) (N := some 38) (v := ?_) (a' := ?_) #[true, true, true, false, false, false, false, false, false, false, false, false] rfl rfl (by kernel_rfl) (fun _ _ _ h => h) (Or.inl ⟨by rfl, ?_⟩) ?_ ?_
            rotate_left
            · intro w'
              go_simp
              with_reducible rfl
            rotate_left
            · simp only [Act.put, List.setIfInBounds_toArray, List.set_cons_zero, List.set_cons_succ, i64_w, i32_w]
              rfl
            refine pure_ (i := 3) (N := some 39) (v := ?_) (a' := ?_) #[true, true, true, true, false, false, false, false, false, false, false, false] rfl rfl (by kernel_rfl) (fun _ _ _ h => h) (Or.inl ⟨by rfl, ?_⟩) ?_ ?_
            rotate_left
            · intro w'
              go_simp
              with_reducible rfl
            rotate_left
            · simp only [Act.put, List.setIfInBounds_toArray, List.set_cons_zero, List.set_cons_succ, i64_w, i32_w]
              rfl
            refine pure_ (i := 4) (N := some 40) (v := ?_) (a' := ?_) #[true, true, true, true, true, false, false, false, false, false, false, false] rfl rfl (by kernel_rfl) (fun _ _ _ h => h) (Or.inl ⟨by rfl, ?_⟩) ?_ ?_
            rotate_left
            · intro w'
              go_simp
              with_reducible rfl
            rotate_left
            · simp only [Act.put, List.setIfInBounds_toArray, List.set_cons_zero, List.set_cons_succ, i64_w, i32_w]
              rfl
            refine pure_ (i := 5) (N := some 41) (v := ?_) (a' := ?_) #[true, true, true, true, true, true, false, false, false, false, false, false] rfl rfl (by kernel_rfl) (fun _ _ _ h => h) (Or.inl ⟨by rfl, ?_⟩) ?_ ?_
            rotate_left
            · intro w'
              go_simp
              with_reducible rfl
            rotate_left
            · simp only [Act.put, List.setIfInBounds_toArray, List.set_cons_zero, List.set_cons_succ, i64_w, i32_w]
              rfl
            refine pure_ (i := 7) (N := some 43) (v := ?_) (a' := ?_) #[true, true, true, true, true, true, false, true, false, false, false, false] rfl rfl (by kernel_rfl) (fun _ _ _ h => h) (Or.inl ⟨by rfl, ?_⟩) ?_ ?_
            rotate_left
            · intro w'
              go_simp
              with_reducible rfl
            rotate_left
            · simp only [Act.put, List.setIfInBounds_toArray, List.set_cons_zero, List.set_cons_succ, i64_w, i32_w]
              rfl
            refine take_ (i := 6) (N := some 42) (v := ?_) (a' := ?_) #[true, true, true, true, true, true, true, true, false, false, false, false] rfl rfl (by kernel_rfl) (fun _ _ _ h => h) (Or.inl ⟨by rfl, ?_⟩) hHeld ?_ ?_
            rotate_left
            · rintro w' ⟨s0, s1⟩
              go_simp
              with_reducible rfl
            rotate_left
            · simp only [Act.put, List.setIfInBounds_toArray, List.set_cons_zero, List.set_cons_succ, i64_w, i32_w]
              rfl
            refine take_ (i := 8) (N := some 44) (v := ?_) (a' := ?_) #[true, true, true, true, true, true, true, true, true, false, false, false] rfl rfl (by kernel_rfl) (fun _ _ _ h => h) (Or.inl ⟨by rfl, ?_⟩) hHeld ?_ ?_
            rotate_left
            · rintro w' ⟨s0, s1⟩
              go_simp
              with_reducible rfl
            rotate_left
            · simp only [Act.put, List.setIfInBounds_toArray, List.set_cons_zero, List.set_cons_succ, i64_w, i32_w]
              rfl
            refine pure_ (i := 9) (N := some 45) (v := ?_) (a' := ?_) #[true, true, true, true, true, true, true, true, true, true, false, false] rfl rfl (by kernel_rfl) (fun _ _ _ h => h) (Or.inl ⟨by rfl, ?_⟩) ?_ ?_
            rotate_left
            · intro w'
              go_simp
              with_reducible rfl
            rotate_left
            · simp only [Act.put, List.setIfInBounds_toArray, List.set_cons_zero, List.set_cons_succ, i64_w, i32_w]
              rfl
            refine pure_ (i := 10) (N := some 46) (v := ?_) (a' := ?_) #[true, true, true, true, true, true, true, true, true, true, true, false] rfl rfl (by kernel_rfl) (fun _ _ _ h => h) (Or.inl ⟨by rfl, ?_⟩) ?_ ?_
            rotate_left
            · intro w'
              go_simp
              with_reducible rfl
            rotate_left
            · simp only [Act.put, List.setIfInBounds_toArray, List.set_cons_zero, List.set_cons_succ, i64_w, i32_w]
              rfl
            refine pure_ (i := 11) (N := some 35) (v := ?_) (a' := ?_) #[true, true, true, true, true, true, true, true, true, true, true, true] rfl rfl (by kernel_rfl) (fun _ _ _ h => h) (Or.inl ⟨by rfl, ?_⟩) ?_ ?_
            rotate_left
            · intro w'
              go_simp
              with_reducible rfl
            rotate_left
            · simp only [Act.put, List.setIfInBounds_toArray, List.set_cons_zero, List.set_cons_succ, i64_w, i32_w]
              rfl
            refine done_ (by kernel_rfl) ?_

            have hS8 := HS7.out.below hHeld.1
            have hB8 := hB7.trans (hHeld.1.mono hB7.size)
            clear hHeld hB7 HS7 hz a0 a1 a2 a3 a4 a5 b0 b1 d0 d1 d2 d3 d4 d5 f1 f2
            generalize World.drew w7 = w8 at *
            obtain ⟨hz, ⟨a0, a1, a2, a3, a4, a5⟩, ⟨b0, b1⟩, ⟨d0, d1, d2, d3, d4, d5⟩, f1, f2⟩ := hS8
            go_wp2_with fail
            simp [bodyPost, results, Tryd.results16, go_sem, *]
            exact ⟨rfl, by repeat (first | (with_reducible exact Below.refl _ _) | (with_reducible assumption) | (with_reducible refine bw_alloc ?_) | (with_reducible refine bw_drew ?_) | (with_reducible refine bw_drewN ?_) | (with_reducible refine bw_set ?_ (by first | (simp; done) | (dsimp only; omega))) | (with_reducible refine bw_via (by assumption) ?_))⟩
          · have hT : T = (x, 8) := by rw [HT.out, if_pos rfl, if_neg hv]
            subst hT
            have hvI : (vv == b.vote) = false := beq_eq_false_iff_ne.2 hv
            go_upto_region 7 with fail
            refine start_ (n := 12) (S := fun w' => Below w7.heap.size w7 w' ∧ ∀ b o, b < w7.heap.size → w'.cell? ⟨b, o, none⟩ = w7.cell? ⟨b, o, none⟩) (ds := []) #[false, false, false, false, false, false, false, false, false, false, false, false] (by kernel_rfl) rfl rfl ⟨(still_drew w7).1, (still_drew w7).2⟩ (fun hHeld => ?_)
            refine pure_ (i := 0) (N := some 36) (v := ?_) (a' := ?_) #[true, false, false, false, false, false, false, false, false, false, false, false] rfl rfl (by kernel_rfl) (fun _ _ _ h => h) (Or.inl ⟨by rfl, ?_⟩) ?_ ?_
            rotate_left
            · intro w'
              go_simp
              with_reducible rfl
            rotate_left
            · simp only [Act.put, List.setIfInBounds_toArray, List.set_cons_zero, List.set_cons_succ, i64_w, i32_w]
              rfl
            refine pure_ (i := 1) (N := some 37) (v := ?_) (a' := ?_) #[true, true, false, false, false, false, false, false, false, false, false, false] rfl rfl (by kernel_rfl) (fun _ _ _ h => h) (Or.inl ⟨by rfl, ?_⟩) ?_ ?_
            rotate_left
            · intro w'
              go_simp
              with_reducible rfl
            rotate_left
            · simp only [Act.put, List.setIfInBounds_toArray, List.set_cons_zero, List.set_cons_succ, i64_w, i32_w]
              rfl
            refine pure_ (i := 2) (N := some 38) (v := ?_) (a' := ?_) #[true, true, true, false, false, false, false, false, false, false, false, false] rfl rfl (by kernel_rfl) (fun _ _ _ h => h) (Or.inl ⟨by rfl, ?_⟩) ?_ ?_
            rotate_left
            · intro w'
              go_simp
              with_reducible rfl
            rotate_left
            · simp only [Act.put, List.setIfInBounds_toArray, List.set_cons_zero, List.set_cons_succ, i64_w, i32_w]
              rfl
            refine pure_ (i := 3) (N := some 39) (v := ?_) (a' := ?_) #[true, true, true, true, false, false, false, false, false, false, false, false] rfl rfl (by kernel_rfl) (fun _ _ _ h => h) (Or.inl ⟨by rfl, ?_⟩) ?_ ?_
            rotate_left
            · intro w'
              go_simp
              with_reducible rfl
            rotate_left
            · simp only [Act.put, List.setIfInBounds_toArray, List.set_cons_zero, List.set_cons_succ, i64_w, i32_w]
              rfl
            refine pure_ (i := 4) (N := some 40) (v := ?_) (a' := ?_) #[true, true, true, true, true, false, false, false, false, false, false, false] rfl rfl (by kernel_rfl) (fun _ _ _ h => h) (Or.inl ⟨by rfl, ?_⟩) ?_ ?_
            rotate_left
            · intro w'
              go_simp
              with_reducible rfl
            rotate_left
            · simp only [Act.put, List.setIfInBounds_toArray, List.set_cons_zero, List.set_cons_succ, i64_w, i32_w]
              rfl
            refine pure_ (i := 5) (N := some 41) (v := ?_) (a' := ?_) #[true, true, true, true, true, true, false, false, false, false, false, false] rfl rfl (by kernel_rfl) (fun _ _ _ h => h) (Or.inl ⟨by rfl, ?_⟩) ?_ ?_
            rotate_left
            · intro w'
              go_simp
              with_reducible rfl
            rotate_left
            · simp only [Act.put, List.setIfInBounds_toArray, List.set_cons_zero, List.set_cons_succ, i64_w, i32_w]
              rfl
            refine pure_ (i := 7) (N := some 43) (v := ?_) (a' := ?_) #[true, true, true, true, true, true, false, true, false, false, false, false] rfl rfl (by kernel_rfl) (fun _ _ _ h => h) (Or.inl ⟨by rfl, ?_⟩) ?_ ?_
            rotate_left
            · intro w'
              go_simp
              with_reducible rfl
            rotate_left
            · simp only [Act.put, List.setIfInBounds_toArray, List.set_cons_zero, List.set_cons_succ, i64_w, i32_w]
              rfl
            refine take_ (i := 6) (N := some 42) (v := ?_) (a' := ?_) #[true, true, true, true, true, true, true, true, false, false, false, false] rfl rfl (by kernel_rfl) (fun _ _ _ h => h) (Or.inl ⟨by rfl, ?_⟩) hHeld ?_ ?_
            rotate_left
            · rintro w' ⟨s0, s1⟩
              go_simp
              with_reducible rfl
            rotate_left
            · simp only [Act.put, List.setIfInBounds_toArray, List.set_cons_zero, List.set_cons_succ, i64_w, i32_w]
              rfl
            refine take_ (i := 8) (N := some 44) (v := ?_) (a' := ?_) #[true, true, true, true, true, true, true, true, true, false, false, false] rfl rfl (by kernel_rfl) (fun _ _ _ h => h) (Or.inl ⟨by rfl, ?_⟩) hHeld ?_ ?_
            rotate_left
            · rintro w' ⟨s0, s1⟩
              go_simp
              with_reducible rfl
            rotate_left
            · simp only [Act.put, List.setIfInBounds_toArray, List.set_cons_zero, List.set_cons_succ, i64_w, i32_w]
              rfl
            refine pure_ (i := 9) (N := some 45) (v := ?_) (a' := ?_) #[true, true, true, true, true, true, true, true, true, true, false, false] rfl rfl (by kernel_rfl) (fun _ _ _ h => h) (Or.inl ⟨by rfl, ?_⟩) ?_ ?_
            rotate_left
            · intro w'
              go_simp
              with_reducible rfl
            rotate_left
            · simp only [Act.put, List.setIfInBounds_toArray, List.set_cons_zero, List.set_cons_succ, i64_w, i32_w]
              rfl
            refine pure_ (i := 10) (N := some 46) (v := ?_) (a' := ?_) #[true, true, true, true, true, true, true, true, true, true, true, false] rfl rfl (by kernel_rfl) (fun _ _ _ h => h) (Or.inl ⟨by rfl, ?_⟩) ?_ ?_
            rotate_left
            · intro w'
              go_simp
              with_reducible rfl
            rotate_left
            · simp only [Act.put, List.setIfInBounds_toArray, List.set_cons_zero, List.set_cons_succ, i64_w, i32_w]
              rfl
            refine pure_ (i := 11) (N := some 35) (v := ?_) (a' := ?_) #[true, true, true, true, true, true, true, true, true, true, true, true] rfl rfl (by kernel_rfl) (fun _ _ _ h => h) (Or.inl ⟨by rfl, ?_⟩) ?_ ?_
            rotate_left
            · intro w'
              go_simp
              with_reducible rfl
            rotate_left
            · simp only [Act.put, List.setIfInBounds_toArray, List.set_cons_zero, List.set_cons_succ, i64_w, i32_w]
              rfl
            refine done_ (by kernel_rfl) ?_

            have hS8 := HS7.out.below hHeld.1
            have hB8 := hB7.trans (hHeld.1.mono hB7.size)
            clear hHeld hB7 HS7 hz a0 a1 a2 a3 a4 a5 b0 b1 d0 d1 d2 d3 d4 d5 f1 f2
            generalize World.drew w7 = w8 at *
            obtain ⟨hz, ⟨a0, a1, a2, a3, a4, a5⟩, ⟨b0, b1⟩, ⟨d0, d1, d2, d3, d4, d5⟩, f1, f2⟩ := hS8
            go_wp2_with fail
            simp [bodyPost, results, Tryd.results16, go_sem, *]
            exact ⟨rfl, by repeat (first | (with_reducible exact Below.refl _ _) | (with_reducible assumption) | (with_reducible refine bw_alloc ?_) | (with_reducible refine bw_drew ?_) | (with_reducible refine bw_drewN ?_) | (with_reducible refine bw_set ?_ (by first | (simp; done) | (dsimp only; omega))) | (with_reducible refine bw_via (by assumption) ?_))⟩
        | false =>
          rw [hi] at HT
          by_cases h5 : 50 ≤ l.length
          · have hT : T = (x, 6) := by rw [HT.out, if_neg (by simp), if_pos h5]
            subst hT
            have h5I : (50 : Int) ≤ (l.length : Int) := by omega
            obtain ⟨a, cap, rfl, _, _, hcc⟩ := own_bal HO7
            have HS7 := Lib.hid hS7
            clear hcc
            obtain ⟨hz, ⟨a0, a1, a2, a3, a4, a5⟩, ⟨b0, b1⟩, ⟨d0, d1, d2, d3, d4, d5⟩, f1, f2⟩ := hS7
            go_upto_region 7 with fail
            refine start_ (n := 12) (S := fun w' => Below w7.heap.size w7 w' ∧ ∀ b o, b < w7.heap.size → w'.cell? ⟨b, o, none⟩ = w7.cell? ⟨b, o, none⟩) (ds := []) #[false, false, false, false, false, false, false, false, false, false, false, false] (by kernel_rfl) rfl rfl ⟨(still_drew w7).1, (still_drew w7).2⟩ (fun hHeld => ?_)
            refine pure_ (i := 0) (N := some 36) (v := ?_) (a' := ?_) #[true, false, false, false, false, false, false, false, false, false, false, false] rfl rfl (by kernel_rfl) (fun _ _ _ h => h) (Or.inl ⟨by rfl, ?_⟩) ?_ ?_
            rotate_left
            · intro w'
              go_simp
              with_reducible rfl
            rotate_left
            · simp only [Act.put, List.setIfInBounds_toArray, List.set_cons_zero, List.set_cons_succ, i64_w, i32_w]
              rfl
            refine pure_ (i := 1) (N := some 37) (v := ?_) (a' := ?_) #[true, true, false, false, false, false, false, false, false, false, false, false] rfl rfl (by kernel_rfl) (fun _ _ _ h => h) (Or.inl ⟨by rfl, ?_⟩) ?_ ?_
            rotate_left
            · intro w'
              go_simp
              with_reducible rfl
            rotate_left
            · simp only [Act.put, List.setIfInBounds_toArray, List.set_cons_zero, List.set_cons_succ, i64_w, i32_w]
              rfl
            refine pure_ (i := 2) (N := some 38) (v := undef) (a' := ?_) #[true, true, true, false, false, false, false, false, false, false, false, false] rfl rfl (by kernel_rfl) (fun _ _ _ h => h) (Or.inr ⟨by rfl, rfl⟩) ?_ ?_
            rotate_left
            · simp only [Act.put, List.setIfInBounds_toArray, List.set_cons_zero, List.set_cons_succ, i64_w, i32_w]
              rfl
            refine pure_ (i := 3) (N := some 39) (v := undef) (a' := ?_) #[true, true, true, true, false, false, false, false, false, false, false, false] rfl rfl (by kernel_rfl) (fun _ _ _ h => h) (Or.inr ⟨by rfl, rfl⟩) ?_ ?_
            rotate_left
            · simp only [Act.put, List.setIfInBounds_toArray, List.set_cons_zero, List.set_cons_succ, i64_w, i32_w]
              rfl
            refine pure_ (i := 4) (N := some 40) (v := undef) (a' := ?_) #[true, true, true, true, true, false, false, false, false, false, false, false] rfl rfl (by kernel_rfl) (fun _ _ _ h => h) (Or.inr ⟨by rfl, rfl⟩) ?_ ?_
            rotate_left
            · simp only [Act.put, List.setIfInBounds_toArray, List.set_cons_zero, List.set_cons_succ, i64_w, i32_w]
              rfl
            refine pure_ (i := 5) (N := some 41) (v := undef) (a' := ?_) #[true, true, true, true, true, true, false, false, false, false, false, false] rfl rfl (by kernel_rfl) (fun _ _ _ h => h) (Or.inr ⟨by rfl, rfl⟩) ?_ ?_
            rotate_left
            · simp only [Act.put, List.setIfInBounds_toArray, List.set_cons_zero, List.set_cons_succ, i64_w, i32_w]
              rfl
            refine pure_ (i := 6) (N := some 42) (v := undef) (a' := ?_) #[true, true, true, true, true, true, true, false, false, false, false, false] rfl rfl (by kernel_rfl) (fun _ _ _ h => h) (Or.inr ⟨by rfl, rfl⟩) ?_ ?_
            rotate_left
            · simp only [Act.put, List.setIfInBounds_toArray, List.set_cons_zero, List.set_cons_succ, i64_w, i32_w]
              rfl
            refine pure_ (i := 7) (N := some 43) (v := undef) (a' := ?_) #[true, true, true, true, true, true, true, true, false, false, false, false] rfl rfl (by kernel_rfl) (fun _ _ _ h => h) (Or.inr ⟨by rfl, rfl⟩) ?_ ?_
            rotate_left
            · simp only [Act.put, List.setIfInBounds_toArray, List.set_cons_zero, List.set_cons_succ, i64_w, i32_w]
              rfl
            refine pure_ (i := 8) (N := some 44) (v := undef) (a' := ?_) #[true, true, true, true, true, true, true, true, true, false, false, false] rfl rfl (by kernel_rfl) (fun _ _ _ h => h) (Or.inr ⟨by rfl, rfl⟩) ?_ ?_
            rotate_left
            · simp only [Act.put, List.setIfInBounds_toArray, List.set_cons_zero, List.set_cons_succ, i64_w, i32_w]
              rfl
            refine pure_ (i := 9) (N := some 45) (v := undef) (a' := ?_) #[true, true, true, true, true, true, true, true, true, true, false, false] rfl rfl (by kernel_rfl) (fun _ _ _ h => h) (Or.inr ⟨by rfl, rfl⟩) ?_ ?_
            rotate_left
            · simp only [Act.put, List.setIfInBounds_toArray, List.set_cons_zero, List.set_cons_succ, i64_w, i32_w]
              rfl
            refine pure_ (i := 10) (N := some 46) (v := ?_) (a' := ?_) #[true, true, true, true, true, true, true, true, true, true, true, false] rfl rfl (by kernel_rfl) (fun _ _ _ h => h) (Or.inl ⟨by rfl, ?_⟩) ?_ ?_
            rotate_left
            · intro w'
              go_simp
              with_reducible rfl
            rotate_left
            · simp only [Act.put, List.setIfInBounds_toArray, List.set_cons_zero, List.set_cons_succ, i64_w, i32_w]
              rfl
            refine pure_ (i := 11) (N := some 35) (v := ?_) (a' := ?_) #[true, true, true, true, true, true, true, true, true, true, true, true] rfl rfl (by kernel_rfl) (fun _ _ _ h => h) (Or.inl ⟨by rfl, ?_⟩) ?_ ?_
            rotate_left
            · intro w'
              go_simp
              with_reducible rfl
            rotate_left
            · simp only [Act.put, List.setIfInBounds_toArray, List.set_cons_zero, List.set_cons_succ, i64_w, i32_w]
              rfl
            refine done_ (by kernel_rfl) ?_

            have hS8 := HS7.out.below hHeld.1
            have hB8 := hB7.trans (hHeld.1.mono hB7.size)
            clear hHeld hB7 HS7 hz a0 a1 a2 a3 a4 a5 b0 b1 d0 d1 d2 d3 d4 d5 f1 f2
            generalize World.drew w7 = w8 at *
            obtain ⟨hz, ⟨a0, a1, a2, a3, a4, a5⟩, ⟨b0, b1⟩, ⟨d0, d1, d2, d3, d4, d5⟩, f1, f2⟩ := hS8
            go_wp2_with fail
            simp [bodyPost, results, Tryd.results16, go_sem, *]
            exact ⟨rfl, by repeat (first | (with_reducible exact Below.refl _ _) | (with_reducible assumption) | (with_reducible refine bw_alloc ?_) | (with_reducible refine bw_drew ?_) | (with_reducible refine bw_drewN ?_) | (with_reducible refine bw_set ?_ (by first | (simp; done) | (dsimp only; omega))) | (with_reducible refine bw_via (by assumption) ?_))⟩
          · have h5I : ¬ (50 : Int) ≤ (l.length : Int) := by omega
            obtain ⟨R, hR⟩ : ∃ R, R = packL (insL l p b) := ⟨_, rfl⟩
            have hT : T = (if R.2 ≠ 0 then (x, R.2) else (⟨x.me, x.e, x.s, x.t, ⟨R.1.toArray⟩, x.k⟩, 0)) := by rw [HT.out, if_neg (by simp), if_neg h5, ← hR]
            clear HT
            have HT := Lib.hid hT
            clear hT
            have HO := Lib.hid HO7
            obtain ⟨a, cap, rfl, _, _, hcc⟩ := own_bal HO7
            clear hcc HO7
            have HS7 := Lib.hid hS7
            obtain ⟨hz, ⟨a0, a1, a2, a3, a4, a5⟩, ⟨b0, b1⟩, ⟨d0, d1, d2, d3, d4, d5⟩, f1, f2⟩ := hS7
            go_upto_region 7 with fail
            refine start_ (n := 12) (S := fun w' => Below w7.heap.size w7 w' ∧ ∀ b o, b < w7.heap.size → w'.cell? ⟨b, o, none⟩ = w7.cell? ⟨b, o, none⟩) (ds := []) #[false, false, false, false, false, false, false, false, false, false, false, false] (by kernel_rfl) rfl rfl ⟨(still_drew w7).1, (still_drew w7).2⟩ (fun hHeld => ?_)
            refine pure_ (i := 0) (N := some 36) (v := ?_) (a' := ?_) #[true, false, false, false, false, false, false, false, false, false, false, false] rfl rfl (by kernel_rfl) (fun _ _ _ h => h) (Or.inl ⟨by rfl, ?_⟩) ?_ ?_
            rotate_left
            · intro w'
              go_simp
              with_reducible rfl
            rotate_left
            · simp only [Act.put, List.setIfInBounds_toArray, List.set_cons_zero, List.set_cons_succ, i64_w, i32_w]
              rfl
            refine pure_ (i := 1) (N := some 37) (v := ?_) (a' := ?_) #[true, true, false, false, false, false, false, false, false, false, false, false] rfl rfl (by kernel_rfl) (fun _ _ _ h => h) (Or.inl ⟨by rfl, ?_⟩) ?_ ?_
            rotate_left
            · intro w'
              go_simp
              with_reducible rfl
            rotate_left
            · simp only [Act.put, List.setIfInBounds_toArray, List.set_cons_zero, List.set_cons_succ, i64_w, i32_w]
              rfl
            refine pure_ (i := 2) (N := some 38) (v := undef) (a' := ?_) #[true, true, true, false, false, false, false, false, false, false, false, false] rfl rfl (by kernel_rfl) (fun _ _ _ h => h) (Or.inr ⟨by rfl, rfl⟩) ?_ ?_
            rotate_left
            · simp only [Act.put, List.setIfInBounds_toArray, List.set_cons_zero, List.set_cons_succ, i64_w, i32_w]
              rfl
            refine pure_ (i := 3) (N := some 39) (v := undef) (a' := ?_) #[true, true, true, true, false, false, false, false, false, false, false, false] rfl rfl (by kernel_rfl) (fun _ _ _ h => h) (Or.inr ⟨by rfl, rfl⟩) ?_ ?_
            rotate_left
            · simp only [Act.put, List.setIfInBounds_toArray, List.set_cons_zero, List.set_cons_succ, i64_w, i32_w]
              rfl
            refine pure_ (i := 4) (N := some 40) (v := undef) (a' := ?_) #[true, true, true, true, true, false, false, false, false, false, false, false] rfl rfl (by kernel_rfl) (fun _ _ _ h => h) (Or.inr ⟨by rfl, rfl⟩) ?_ ?_
            rotate_left
            · simp only [Act.put, List.setIfInBounds_toArray, List.set_cons_zero, List.set_cons_succ, i64_w, i32_w]
              rfl
            refine pure_ (i := 5) (N := some 41) (v := undef) (a' := ?_) #[true, true, true, true, true, true, false, false, false, false, false, false] rfl rfl (by kernel_rfl) (fun _ _ _ h => h) (Or.inr ⟨by rfl, rfl⟩) ?_ ?_
            rotate_left
            · simp only [Act.put, List.setIfInBounds_toArray, List.set_cons_zero, List.set_cons_succ, i64_w, i32_w]
              rfl
            refine pure_ (i := 6) (N := some 42) (v := undef) (a' := ?_) #[true, true, true, true, true, true, true, false, false, false, false, false] rfl rfl (by kernel_rfl) (fun _ _ _ h => h) (Or.inr ⟨by rfl, rfl⟩) ?_ ?_
            rotate_left
            · simp only [Act.put, List.setIfInBounds_toArray, List.set_cons_zero, List.set_cons_succ, i64_w, i32_w]
              rfl
            refine pure_ (i := 7) (N := some 43) (v := undef) (a' := ?_) #[true, true, true, true, true, true, true, true, false, false, false, false] rfl rfl (by kernel_rfl) (fun _ _ _ h => h) (Or.inr ⟨by rfl, rfl⟩) ?_ ?_
            rotate_left
            · simp only [Act.put, List.setIfInBounds_toArray, List.set_cons_zero, List.set_cons_succ, i64_w, i32_w]
              rfl
            refine pure_ (i := 8) (N := some 44) (v := undef) (a' := ?_) #[true, true, true, true, true, true, true, true, true, false, false, false] rfl rfl (by kernel_rfl) (fun _ _ _ h => h) (Or.inr ⟨by rfl, rfl⟩) ?_ ?_
            rotate_left
            · simp only [Act.put, List.setIfInBounds_toArray, List.set_cons_zero, List.set_cons_succ, i64_w, i32_w]
              rfl
            refine pure_ (i := 9) (N := some 45) (v := undef) (a' := ?_) #[true, true, true, true, true, true, true, true, true, true, false, false] rfl rfl (by kernel_rfl) (fun _ _ _ h => h) (Or.inr ⟨by rfl, rfl⟩) ?_ ?_
            rotate_left
            · simp only [Act.put, List.setIfInBounds_toArray, List.set_cons_zero, List.set_cons_succ, i64_w, i32_w]
              rfl
            refine pure_ (i := 10) (N := some 46) (v := ?_) (a' := ?_) #[true, true, true, true, true, true, true, true, true, true, true, false] rfl rfl (by kernel_rfl) (fun _ _ _ h => h) (Or.inl ⟨by rfl, ?_⟩) ?_ ?_
            rotate_left
            · intro w'
              go_simp
              with_reducible rfl
            rotate_left
            · simp only [Act.put, List.setIfInBounds_toArray, List.set_cons_zero, List.set_cons_succ, i64_w, i32_w]
              rfl
            refine pure_ (i := 11) (N := some 35) (v := ?_) (a' := ?_) #[true, true, true, true, true, true, true, true, true, true, true, true] rfl rfl (by kernel_rfl) (fun _ _ _ h => h) (Or.inl ⟨by rfl, ?_⟩) ?_ ?_
            rotate_left
            · intro w'
              go_simp
              with_reducible rfl
            rotate_left
            · simp only [Act.put, List.setIfInBounds_toArray, List.set_cons_zero, List.set_cons_succ, i64_w, i32_w]
              rfl
            refine done_ (by kernel_rfl) ?_

            have hS8 := HS7.out.below hHeld.1
            have hB8 := hB7.trans (hHeld.1.mono hB7.size)
            have HO8 := own_kept HO.out hHeld.1
            have hz8 := Nat.le_trans hz7 hHeld.1.size
            clear hHeld hB7 HS7 HO hz7 hz a0 a1 a2 a3 a4 a5 b0 b1 d0 d1 d2 d3 d4 d5 f1 f2
            generalize World.drew w7 = w8 at *
            have HS8 := Lib.hid hS8
            obtain ⟨hz, ⟨a0, a1, a2, a3, a4, a5⟩, ⟨b0, b1⟩, ⟨d0, d1, d2, d3, d4, d5⟩, f1, f2⟩ := hS8
            have HO := Lib.hid HO8
            clear HO8
            go_wp2_with fail
            generalize hv9 : World.alloc w8 _ = v9
            obtain ⟨hb9, hz9, hc9⟩ := alloc_facts hv9
            have hsa : v9.shape? w8.heap.size = some (49, 2) := by rw [← hv9]; exact World.shape?_alloc_at _ _ _ rfl
            have hfa : ∀ o, v9.frozen? ⟨w8.heap.size, o, none⟩ = false := fun o => by rw [← hv9]; exact World.frozen?_alloc_at _ _ _ _ rfl
            have hS9 := HS8.out.below hb9
            have hB9 := hB8.trans (hb9.mono hB8.size)
            have hO9 := own_kept HO.out hb9
            have hlt : ∀ g, (Value.slice a l.length cap).ownBlock = some g → g < w8.heap.size := fun g e => (HO.out.lt g e).2
            refine (insert_any w5.heap.size w8.heap.size _ l b p (by omega) hpn v9 hO9 (Nat.le_trans hz8 hb9.size) hlt (hc9 0) (hc9 1) hsa (hfa 0) (hfa 2)).mono ?_
            rintro e w10 ⟨v10, rfl, ho10, hb10⟩
            have hS10 := hS9.under hb10 hz5
            have hB10 := hB9.trans (hb10.mono (by omega))
            clear hv9 hb9 hz9 hc9 hsa hfa hS9 hB9 hO9 hlt hb10 HO HS8 hB8 hz a0 a1 a2 a3 a4 a5 b0 b1 d0 d1 d2 d3 d4 d5 f1 f2
            have HS10 := Lib.hid hS10
            obtain ⟨hz, ⟨a0, a1, a2, a3, a4, a5⟩, ⟨b0, b1⟩, ⟨d0, d1, d2, d3, d4, d5⟩, f1, f2⟩ := hS10
            have HO10 := Lib.hid ho10
            clear ho10
            go_wp2_with fail
            have HP := pack_any v10 (insL l p b) w10 (own_bal HO10.out)
            rw [← hR] at HP
            refine HP.mono ?_
            clear HP hR
            obtain ⟨rl, re⟩ := R
            rintro e w11 ⟨rfl, hb11⟩
            have hS11 := HS10.out.below hb11
            have hB11 := hB10.trans (hb11.mono hB10.size)
            clear hb11 hB10 HS10 HO10 hz a0 a1 a2 a3 a4 a5 b0 b1 d0 d1 d2 d3 d4 d5 f1 f2
            dsimp only at HT ⊢
            obtain ⟨hz, ⟨a0, a1, a2, a3, a4, a5⟩, ⟨b0, b1⟩, ⟨d0, d1, d2, d3, d4, d5⟩, f1, f2⟩ := hS11
            by_cases hre : re = 0
            · subst hre
              have hT := HT.out
              rw [if_neg (by simp)] at hT
              subst hT
              clear HT
              go_wp2_with fail
              simp [bodyPost, results, Tryd.results16, go_sem, *]
              exact ⟨rfl, by repeat (first | (with_reducible exact Below.refl _ _) | (with_reducible assumption) | (with_reducible refine bw_alloc ?_) | (with_reducible refine bw_drew ?_) | (with_reducible refine bw_drewN ?_) | (with_reducible refine bw_set ?_ (by first | (simp; done) | (dsimp only; omega))) | (with_reducible refine bw_via (by assumption) ?_))⟩
            · have hT := HT.out
              rw [if_pos hre] at hT
              subst hT
              clear HT
              go_wp2_with fail
              simp [bodyPost, results, Tryd.results16, go_sem, *]
              exact ⟨rfl, by repeat (first | (with_reducible exact Below.refl _ _) | (with_reducible assumption) | (with_reducible refine bw_alloc ?_) | (with_reducible refine bw_drew ?_) | (with_reducible refine bw_drewN ?_) | (with_reducible refine bw_set ?_ (by first | (simp; done) | (dsimp only; omega))) | (with_reducible refine bw_via (by assumption) ?_))⟩
      · have hT : T = (x, (heldL x).2) := by rw [HT.out, shipA, if_neg (by rw [hr]; decide), if_neg (by rw [hm]; decide), if_pos he]
        subst hT
        generalize (heldL x).2 = er at *
        obtain ⟨hz, ⟨a0, a1, a2, a3, a4, a5⟩, ⟨b0, b1⟩, ⟨d0, d1, d2, d3, d4, d5⟩, f1, f2⟩ := hS6
        go_wp2_with fail
        simp [bodyPost, results, Tryd.results16, go_sem, *]
        exact ⟨rfl, by repeat (first | (with_reducible exact Below.refl _ _) | (with_reducible assumption) | (with_reducible refine bw_alloc ?_) | (with_reducible refine bw_drew ?_) | (with_reducible refine bw_drewN ?_) | (with_reducible refine bw_set ?_ (by first | (simp; done) | (dsimp only; omega))) | (with_reducible refine bw_via (by assumption) ?_))⟩
end Go.Proofs.YtajnaiofagppeaaDoor.Ship
