/- What the reference's functions of the handoff answer. -/
import Derived.Test.YtamlkmnkdcoebaaHandTop
namespace Go.Proofs.Ytamlkmnkdcoebaa.Hand
open Go.RowKit LeaseSpec Flat Lease HandSpec Go.Proofs.YtamlkmnkdcoebaaW.PrintLast
set_option linter.unusedSimpArgs false
set_option linter.unusedVariables false

def Told (T : S × Option M × Int) (w : World) (r : Ending) (w' : World) : Prop :=
  ∃ v, r = .returned (.agg #[.int .u8 T.1.me, .int .i64 T.1.e, .int .i64 T.1.s, .int .u8 T.1.t, .string T.1.c, .bool T.1.k, v, .int .i64 T.2.2]) ∧ Below w.heap.size w w' ∧ Said w' w.heap.size T.2.1 v

theorem told_mk {y : S} {w w' : World} {o : Option M} {v : Value} {n : Int} (hB : Below w.heap.size w w') (hs : Said w' w.heap.size o v) :
    Told (y, o, n) w (.returned (.agg #[.int .u8 y.me, .int .i64 y.e, .int .i64 y.s, .int .u8 y.t, .string y.c, .bool y.k, v, .int .i64 n])) w' := ⟨v, rfl, hB, hs⟩

theorem said_box_ref {w W : World} {m : M} (hB : w.heap.size ≤ W.heap.size) : Said (W.alloc (.cells #[.int .i64 m.kind, .int .u8 m.src, .int .u8 m.dst, .int .i64 m.ep, .string m.c] 27)) w.heap.size (some m) (.slice (some ⟨W.heap.size, 0, none⟩) 1 1) := by
  refine ⟨W.heap.size, rfl, hB, by simp, ?_⟩
  simp [go_sem]

theorem gives_ref (me e s t : Int) (c : ByteArray) (k : Bool) (w : World) (h1 : 0 ≤ e) (h2 : e ≤ 1048576) : Calls Try.prog 34 #[.agg #[.int .u8 me, .int .i64 e, .int .i64 s, .int .u8 t, .string c, .bool k]] w fun r w' =>
    r = .returned (.agg #[.int .i64 3, .int .u8 me, .int .u8 t, .int .i64 (e + 1), .string c]) ∧ Below w.heap.size w w' := by
  go_enter Try.func34, Try.ntmps34
  go_wp2_with fail
  simp [bodyPost, results, Try.results34, go_sem, *]
  repeat (first | (with_reducible exact Below.refl _ _) | (with_reducible assumption) | (with_reducible refine bw_alloc ?_) | (with_reducible refine bw_drew ?_) | (with_reducible refine bw_drewN ?_) | (with_reducible refine bw_set ?_ (by first | (simp; done) | (dsimp only; omega))) | (with_reducible refine bw_via (by assumption) ?_))

set_option maxHeartbeats 4000000 in
theorem again_ref (x : S) (w : World) (hc : x.c.size ≤ maxLen) : Calls Try.prog 20 #[.agg #[.int .u8 x.me, .int .i64 x.e, .int .i64 x.s, .int .u8 x.t, .string x.c, .bool x.k]] w (AgainPost x w) := by
  obtain ⟨me, e, s, t, c, k⟩ := x
  dsimp only at hc ⊢
  have hm : c.size ≤ maxLen := hc
  unfold maxLen at hc
  cases hr : rightS ⟨me, e, s, t, c, k⟩ with
  | false =>
    go_enter Try.func20, Try.ntmps20
    go_wp2_with fail
    refine (right_hand_ref ⟨me, e, s, t, c, k⟩ _ hm).mono ?_
    rw [hr]
    rintro r w' ⟨rfl, hb⟩
    obtain ⟨c_hb, f_hb, z_hb⟩ := bcell hb; have z0_hb := z_hb (w.heap.size) (by first | omega | (simp only [World.size_alloc, World.size_setCell, World.size_drew, World.heap_drewN] <;> omega)); clear z_hb
    go_wp2_with fail
    go_ret
    refine ⟨_, rfl, ?_, ?_⟩
    · simp [againH, hr, Said]
    · repeat (first | (with_reducible exact Below.refl _ _) | (with_reducible assumption) | (with_reducible refine bw_alloc ?_) | (with_reducible refine bw_drew ?_) | (with_reducible refine bw_drewN ?_) | (with_reducible refine bw_set ?_ (by first | (simp; done) | (dsimp only; omega))) | (with_reducible refine bw_via (by assumption) ?_))
  | true =>
    obtain ⟨he1, he2⟩ := right_le hr
    dsimp only at he1 he2
    cases k with
    | false =>
      go_enter Try.func20, Try.ntmps20
      go_wp2_with fail
      refine (right_hand_ref ⟨me, e, s, t, c, false⟩ _ hm).mono ?_
      rw [hr]
      rintro r w' ⟨rfl, hb⟩
      obtain ⟨c_hb, f_hb, z_hb⟩ := bcell hb; have z0_hb := z_hb (w.heap.size) (by first | omega | (simp only [World.size_alloc, World.size_setCell, World.size_drew, World.heap_drewN] <;> omega)); clear z_hb
      go_wp2_with fail
      go_ret
      refine ⟨_, rfl, ?_, ?_⟩
      · simp [againH, hr, Said]
      · repeat (first | (with_reducible exact Below.refl _ _) | (with_reducible assumption) | (with_reducible refine bw_alloc ?_) | (with_reducible refine bw_drew ?_) | (with_reducible refine bw_drewN ?_) | (with_reducible refine bw_set ?_ (by first | (simp; done) | (dsimp only; omega))) | (with_reducible refine bw_via (by assumption) ?_))
    | true =>
      go_enter Try.func20, Try.ntmps20
      go_wp2_with fail
      refine (right_hand_ref ⟨me, e, s, t, c, true⟩ _ hm).mono ?_
      rw [hr]
      rintro r w' ⟨rfl, hb⟩
      obtain ⟨c_hb, f_hb, z_hb⟩ := bcell hb; have z0_hb := z_hb (w.heap.size) (by first | omega | (simp only [World.size_alloc, World.size_setCell, World.size_drew, World.heap_drewN] <;> omega)); clear z_hb
      go_wp2_with fail
      refine (gives_ref me e s t c true _ he1 he2).mono ?_
      rintro r w2 ⟨rfl, hb2⟩
      have hs : w.heap.size ≤ w2.heap.size := Nat.le_trans (Nat.le_of_lt z0_hb) hb2.size
      go_wp2_with fail
      go_ret
      refine ⟨_, rfl, ?_, ?_⟩
      · simp only [againH, hr]
        exact said_box_ref (m := givesH ⟨me, e, s, t, c, true⟩) hs
      · repeat (first | (with_reducible exact Below.refl _ _) | (with_reducible assumption) | (with_reducible refine bw_alloc ?_) | (with_reducible refine bw_drew ?_) | (with_reducible refine bw_drewN ?_) | (with_reducible refine bw_set ?_ (by first | (simp; done) | (dsimp only; omega))) | (with_reducible refine bw_via (by assumption) ?_))

set_option maxHeartbeats 4000000 in
theorem ask_ref (x : S) (tt : Int) (w : World) (hc : x.c.size ≤ maxLen) : Calls Try.prog 16 #[.agg #[.int .u8 x.me, .int .i64 x.e, .int .i64 x.s, .int .u8 x.t, .string x.c, .bool x.k], .int .u8 tt] w fun r w' =>
    r = .returned (.tuple #[.agg #[.int .i64 (askH x tt).1.kind, .int .u8 (askH x tt).1.src, .int .u8 (askH x tt).1.dst, .int .i64 (askH x tt).1.ep, .string (askH x tt).1.c], .int .i64 (askH x tt).2]) ∧ Below w.heap.size w w' := by
  obtain ⟨me, e, s, t, c, k⟩ := x
  dsimp only at hc ⊢
  cases hr : rightS ⟨me, e, s, t, c, k⟩ with
  | false =>
    go_enter Try.func16, Try.ntmps16
    go_wp2_with fail
    refine (right_hand_ref ⟨me, e, s, t, c, k⟩ _ hc).mono ?_
    rw [hr]
    rintro r w' ⟨rfl, hb⟩
    obtain ⟨c_hb, f_hb, z_hb⟩ := bcell hb; have z0_hb := z_hb (w.heap.size) (by first | omega | (simp only [World.size_alloc, World.size_setCell, World.size_drew, World.heap_drewN] <;> omega)); have z1_hb := z_hb (w.heap.size + 1) (by first | omega | (simp only [World.size_alloc, World.size_setCell, World.size_drew, World.heap_drewN] <;> omega)); clear z_hb
    go_wp2_with fail
    all_goals (simp [bodyPost, results, Try.results16, go_sem, *])
    all_goals refine ⟨?_, ?_⟩
    · simp [askH, hr, noM, noC]
    · repeat (first | (with_reducible exact Below.refl _ _) | (with_reducible assumption) | (with_reducible refine bw_alloc ?_) | (with_reducible refine bw_drew ?_) | (with_reducible refine bw_drewN ?_) | (with_reducible refine bw_set ?_ (by first | (simp; done) | (dsimp only; omega))) | (with_reducible refine bw_via (by assumption) ?_))
  | true =>
    have hrr := (right_lease hr).1
    dsimp only at hrr
    by_cases h8 : 8 ≤ tt
    · go_enter Try.func16, Try.ntmps16
      go_wp2_with fail
      refine (right_hand_ref ⟨me, e, _, t, c, k⟩ _ hc).mono ?_
      rw [hr]
      rintro r w' ⟨rfl, hb⟩
      obtain ⟨c_hb, f_hb, z_hb⟩ := bcell hb; have z0_hb := z_hb (w.heap.size) (by first | omega | (simp only [World.size_alloc, World.size_setCell, World.size_drew, World.heap_drewN] <;> omega)); have z1_hb := z_hb (w.heap.size + 1) (by first | omega | (simp only [World.size_alloc, World.size_setCell, World.size_drew, World.heap_drewN] <;> omega)); clear z_hb
      go_wp2_with fail
      simp [bodyPost, results, Try.results16, go_sem, *]
      refine ⟨?_, ?_⟩
      · have hgv : give e s t tt = (⟨e, s, t⟩, 2) := by simp [give, hrr, h8]
        simp [askH, hr, hgv, noM, noC]
      · repeat (first | (with_reducible exact Below.refl _ _) | (with_reducible assumption) | (with_reducible refine bw_alloc ?_) | (with_reducible refine bw_drew ?_) | (with_reducible refine bw_drewN ?_) | (with_reducible refine bw_set ?_ (by first | (simp; done) | (dsimp only; omega))) | (with_reducible refine bw_via (by assumption) ?_))
    · by_cases h9 : tt = me
      · subst h9
        have h9b : (tt == tt) = true := by simp
        go_enter Try.func16, Try.ntmps16
        go_wp2_with fail
        refine (right_hand_ref ⟨tt, e, _, t, c, k⟩ _ hc).mono ?_
        rw [hr]
        rintro r w' ⟨rfl, hb⟩
        obtain ⟨c_hb, f_hb, z_hb⟩ := bcell hb; have z0_hb := z_hb (w.heap.size) (by first | omega | (simp only [World.size_alloc, World.size_setCell, World.size_drew, World.heap_drewN] <;> omega)); have z1_hb := z_hb (w.heap.size + 1) (by first | omega | (simp only [World.size_alloc, World.size_setCell, World.size_drew, World.heap_drewN] <;> omega)); clear z_hb
        go_wp2_with fail
        simp [bodyPost, results, Try.results16, go_sem, *]
        refine ⟨?_, ?_⟩
        · simp [askH, hr, noM, noC]
        · repeat (first | (with_reducible exact Below.refl _ _) | (with_reducible assumption) | (with_reducible refine bw_alloc ?_) | (with_reducible refine bw_drew ?_) | (with_reducible refine bw_drewN ?_) | (with_reducible refine bw_set ?_ (by first | (simp; done) | (dsimp only; omega))) | (with_reducible refine bw_via (by assumption) ?_))
      · have h9b : (tt == me) = false := by simpa using h9
        by_cases hs1 : s = 1
        · subst hs1
          have hs2 : ((1 : Int) != 1) = false := by simp
          by_cases hm : e = 1048576
          · have hmb : (e == 1048576) = true := by simpa using hm
            have hgv : give e 1 t tt = (⟨e, 1, t⟩, 3) := by unfold give; rw [hrr, if_neg (by simp), if_neg h8, if_pos rfl, if_pos hm]
            have Hm := Lib.hid hm
            clear hm
            go_enter Try.func16, Try.ntmps16
            go_wp2_with fail
            refine (right_hand_ref ⟨me, e, _, t, c, k⟩ _ hc).mono ?_
            rw [hr]
            rintro r w' ⟨rfl, hb⟩
            obtain ⟨c_hb, f_hb, z_hb⟩ := bcell hb; have z0_hb := z_hb (w.heap.size) (by first | omega | (simp only [World.size_alloc, World.size_setCell, World.size_drew, World.heap_drewN] <;> omega)); have z1_hb := z_hb (w.heap.size + 1) (by first | omega | (simp only [World.size_alloc, World.size_setCell, World.size_drew, World.heap_drewN] <;> omega)); clear z_hb
            go_wp2_with fail
            simp [bodyPost, results, Try.results16, go_sem, *]
            refine ⟨?_, ?_⟩
            · simp [askH, hr, hgv, noM, noC, h9]
            · repeat (first | (with_reducible exact Below.refl _ _) | (with_reducible assumption) | (with_reducible refine bw_alloc ?_) | (with_reducible refine bw_drew ?_) | (with_reducible refine bw_drewN ?_) | (with_reducible refine bw_set ?_ (by first | (simp; done) | (dsimp only; omega))) | (with_reducible refine bw_via (by assumption) ?_))
          · have hmb : (e == 1048576) = false := by simpa using hm
            have hgv : give e 1 t tt = (⟨e, 2, tt⟩, 0) := by
              unfold give; rw [hrr, if_neg (by simp), if_neg h8, if_pos rfl, if_neg hm]
            go_enter Try.func16, Try.ntmps16
            go_wp2_with fail
            refine (right_hand_ref ⟨me, e, _, t, c, k⟩ _ hc).mono ?_
            rw [hr]
            rintro r w' ⟨rfl, hb⟩
            obtain ⟨c_hb, f_hb, z_hb⟩ := bcell hb; have z0_hb := z_hb (w.heap.size) (by first | omega | (simp only [World.size_alloc, World.size_setCell, World.size_drew, World.heap_drewN] <;> omega)); have z1_hb := z_hb (w.heap.size + 1) (by first | omega | (simp only [World.size_alloc, World.size_setCell, World.size_drew, World.heap_drewN] <;> omega)); clear z_hb
            go_wp2_with fail
            simp [bodyPost, results, Try.results16, go_sem, *]
            refine ⟨?_, ?_⟩
            · simp [askH, hr, hgv, noC, h9]
            · repeat (first | (with_reducible exact Below.refl _ _) | (with_reducible assumption) | (with_reducible refine bw_alloc ?_) | (with_reducible refine bw_drew ?_) | (with_reducible refine bw_drewN ?_) | (with_reducible refine bw_set ?_ (by first | (simp; done) | (dsimp only; omega))) | (with_reducible refine bw_via (by assumption) ?_))
        · have hs2 : (s != 1) = true := by simpa using hs1
          have hgv : give e s t tt = (⟨e, s, t⟩, 7) := by
            unfold give; rw [hrr, if_neg (by simp), if_neg h8, if_neg hs1]
          go_enter Try.func16, Try.ntmps16
          go_wp2_with fail
          refine (right_hand_ref ⟨me, e, _, t, c, k⟩ _ hc).mono ?_
          rw [hr]
          rintro r w' ⟨rfl, hb⟩
          obtain ⟨c_hb, f_hb, z_hb⟩ := bcell hb; have z0_hb := z_hb (w.heap.size) (by first | omega | (simp only [World.size_alloc, World.size_setCell, World.size_drew, World.heap_drewN] <;> omega)); have z1_hb := z_hb (w.heap.size + 1) (by first | omega | (simp only [World.size_alloc, World.size_setCell, World.size_drew, World.heap_drewN] <;> omega)); clear z_hb
          go_wp2_with fail
          simp [bodyPost, results, Try.results16, go_sem, *]
          refine ⟨?_, ?_⟩
          · simp [askH, hr, hgv, noM, noC, h9]
          · repeat (first | (with_reducible exact Below.refl _ _) | (with_reducible assumption) | (with_reducible refine bw_alloc ?_) | (with_reducible refine bw_drew ?_) | (with_reducible refine bw_drewN ?_) | (with_reducible refine bw_set ?_ (by first | (simp; done) | (dsimp only; omega))) | (with_reducible refine bw_via (by assumption) ?_))

set_option maxHeartbeats 4000000 in
set_option maxRecDepth 100000 in
theorem give_ref12 (me e s t src dst ep : Int) (c mc : ByteArray) (k : Bool) (w : World) (hr : rightB e s t = true) (hep : 1 ≤ ep ∧ ep ≤ 1048576) : Calls Try.prog 30 #[.agg #[.int .u8 me, .int .i64 e, .int .i64 s, .int .u8 t, .string c, .bool k], .agg #[.int .i64 3, .int .u8 src, .int .u8 dst, .int .i64 ep, .string mc]] w (Told (hearH ⟨me, e, s, t, c, k⟩ ⟨3, src, dst, ep, mc⟩) w) := by
  by_cases h2 : e < ep
  · have hh : hearH ⟨me, e, s, t, c, k⟩ ⟨3, src, dst, ep, mc⟩ = (⟨me, ep, 1, 0, mc, false⟩, some ⟨4, me, src, ep, noC⟩, 0) := by simp [hearH, h2]
    have ht : take e s t ep = (⟨ep, 1, 0⟩, 0) := by
      have h3 : epochB ep = true := by simp [epochB]; omega
      have h4 : speaksB e s t ep = false := by simp [speaksB]; intros; omega
      have h5 : ¬ ep ≤ e := by omega
      simp [take, hr, h3, h4, h5]
    rw [hh]
    clear hh
    go_enter Try.func30, Try.ntmps30
    go_wp2_with fail
    refine (take_ref e s t ep _).mono ?_
    rw [ht]
    rintro r w1 ⟨rfl, hb1⟩
    obtain ⟨c_hb1, f_hb1, z_hb1⟩ := bcell hb1; have z0_hb1 := z_hb1 (w.heap.size) (by first | omega | (simp only [World.size_alloc, World.size_setCell, World.size_drew, World.heap_drewN] <;> omega)); have z1_hb1 := z_hb1 (w.heap.size + 1) (by first | omega | (simp only [World.size_alloc, World.size_setCell, World.size_drew, World.heap_drewN] <;> omega)); have z2_hb1 := z_hb1 (w.heap.size + 2) (by first | omega | (simp only [World.size_alloc, World.size_setCell, World.size_drew, World.heap_drewN] <;> omega)); clear z_hb1
    have u0 : w1.cell? ⟨w.heap.size, 0, none⟩ = some (.int .u8 me) := (by simp [go_sem, c_hb1]); have u1 : w1.cell? ⟨w.heap.size, 1, none⟩ = some (.int .i64 e) := (by simp [go_sem, c_hb1]); have u2 : w1.cell? ⟨w.heap.size, 2, none⟩ = some (.int .i64 s) := (by simp [go_sem, c_hb1]); have u3 : w1.cell? ⟨w.heap.size, 3, none⟩ = some (.int .u8 t) := (by simp [go_sem, c_hb1]); have u4 : w1.cell? ⟨w.heap.size, 4, none⟩ = some (.string c) := (by simp [go_sem, c_hb1]); have u5 : w1.cell? ⟨w.heap.size, 5, none⟩ = some (.bool k) := (by simp [go_sem, c_hb1])
    have m0 : w1.cell? ⟨w.heap.size + 1, 0, none⟩ = some (.int .i64 3) := (by simp [go_sem, c_hb1]); have m1 : w1.cell? ⟨w.heap.size + 1, 1, none⟩ = some (.int .u8 src) := (by simp [go_sem, c_hb1]); have m2 : w1.cell? ⟨w.heap.size + 1, 2, none⟩ = some (.int .u8 dst) := (by simp [go_sem, c_hb1]); have m3 : w1.cell? ⟨w.heap.size + 1, 3, none⟩ = some (.int .i64 ep) := (by simp [go_sem, c_hb1]); have m4 : w1.cell? ⟨w.heap.size + 1, 4, none⟩ = some (.string mc) := (by simp [go_sem, c_hb1])
    have v0 : w1.cell? ⟨w.heap.size + 1 + 1, 0, none⟩ = some (.int .u8 0) := (by simp [go_sem, c_hb1]); have v1 : w1.cell? ⟨w.heap.size + 1 + 1, 1, none⟩ = some (.int .i64 0) := (by simp [go_sem, c_hb1]); have v2 : w1.cell? ⟨w.heap.size + 1 + 1, 2, none⟩ = some (.int .i64 0) := (by simp [go_sem, c_hb1]); have v3 : w1.cell? ⟨w.heap.size + 1 + 1, 3, none⟩ = some (.int .u8 0) := (by simp [go_sem, c_hb1]); have v4 : w1.cell? ⟨w.heap.size + 1 + 1, 4, none⟩ = some (.string ⟨#[]⟩) := (by simp [go_sem, c_hb1]); have v5 : w1.cell? ⟨w.heap.size + 1 + 1, 5, none⟩ = some (.bool false) := (by simp [go_sem, c_hb1]); have v6 : w1.cell? ⟨w.heap.size + 1 + 1, 6, none⟩ = some (.slice none 0 0) := (by simp [go_sem, c_hb1]); have v7 : w1.cell? ⟨w.heap.size + 1 + 1, 7, none⟩ = some (.int .i64 0) := (by simp [go_sem, c_hb1])
    have f1 : ∀ o, w1.frozen? ⟨w.heap.size, o, none⟩ = false := by intro o; simp [go_sem, f_hb1]
    have f2 : ∀ o, w1.frozen? ⟨w.heap.size + 1 + 1, o, none⟩ = false := by intro o; simp [go_sem, f_hb1]
    clear c_hb1 f_hb1
    go_wp2_with fail
    simp [bodyPost, results, Try.results30, go_sem, *]
    refine told_mk (y := ⟨me, ep, 1, 0, mc, false⟩) ?_ ?_
    · repeat (first | (with_reducible exact Below.refl _ _) | (with_reducible assumption) | (with_reducible refine bw_alloc ?_) | (with_reducible refine bw_drew ?_) | (with_reducible refine bw_drewN ?_) | (with_reducible refine bw_set ?_ (by first | (simp; done) | (dsimp only; omega))) | (with_reducible refine bw_via (by assumption) ?_))
    · refine ⟨_, rfl, by omega, by simp, by simp [go_sem, noC]⟩
  · have hh : hearH ⟨me, e, s, t, c, k⟩ ⟨3, src, dst, ep, mc⟩ = (⟨me, e, s, t, c, k⟩, some ⟨4, me, src, ep, noC⟩, 0) := by simp [hearH, h2]
    rw [hh]
    clear hh
    go_enter Try.func30, Try.ntmps30
    go_wp2_with fail
    simp [bodyPost, results, Try.results30, go_sem, *]
    refine told_mk (y := ⟨me, e, s, t, c, k⟩) ?_ ?_
    · repeat (first | (with_reducible exact Below.refl _ _) | (with_reducible assumption) | (with_reducible refine bw_alloc ?_) | (with_reducible refine bw_drew ?_) | (with_reducible refine bw_drewN ?_) | (with_reducible refine bw_set ?_ (by first | (simp; done) | (dsimp only; omega))) | (with_reducible refine bw_via (by assumption) ?_))
    · refine ⟨_, rfl, by omega, by simp, by simp [go_sem, noC]⟩

set_option maxHeartbeats 4000000 in
set_option maxRecDepth 100000 in
theorem want_old (me e s t src dst ep : Int) (c mc : ByteArray) (k : Bool) (w : World) (hx : rightS ⟨me, e, s, t, c, k⟩ = true) (hsp : speaksB e s t ep = false) : Calls Try.prog 29 #[.agg #[.int .u8 me, .int .i64 e, .int .i64 s, .int .u8 t, .string c, .bool k], .agg #[.int .i64 2, .int .u8 src, .int .u8 dst, .int .i64 ep, .string mc]] w (Told (hearH ⟨me, e, s, t, c, k⟩ ⟨2, src, dst, ep, mc⟩) w) := by
  obtain ⟨he1, he2⟩ := right_le hx
  dsimp only at he1 he2
  by_cases hg : k = true ∧ e = ep ∧ s = 2 ∧ t = src
  · obtain ⟨rfl, rfl, rfl, rfl⟩ := hg
    have hh : hearH ⟨me, e, 2, t, c, true⟩ ⟨2, t, dst, e, mc⟩ = (⟨me, e, 2, t, c, true⟩, some ⟨3, me, t, e + 1, c⟩, 0) := by
      simp [hearH, againH, hx, givesH]
    rw [hh]
    clear hh
    · go_enter Try.func29, Try.ntmps29
      go_wp2_with fail
      refine (speaks_ref _ _ _ _ _).mono ?_
      rw [hsp]
      rintro r w1 ⟨rfl, hb1⟩
      obtain ⟨c_hb1, f_hb1, z_hb1⟩ := bcell hb1; have z0_hb1 := z_hb1 (w.heap.size) (by first | omega | (simp only [World.size_alloc, World.size_setCell, World.size_drew, World.heap_drewN] <;> omega)); have z1_hb1 := z_hb1 (w.heap.size + 1) (by first | omega | (simp only [World.size_alloc, World.size_setCell, World.size_drew, World.heap_drewN] <;> omega)); have z2_hb1 := z_hb1 (w.heap.size + 1 + 1) (by first | omega | (simp only [World.size_alloc, World.size_setCell, World.size_drew, World.heap_drewN] <;> omega)); have z3_hb1 := z_hb1 (w.heap.size + 1 + 1 + 1) (by first | omega | (simp only [World.size_alloc, World.size_setCell, World.size_drew, World.heap_drewN] <;> omega)); clear z_hb1
      have u0 : w1.cell? ⟨w.heap.size, 0, none⟩ = some (.int .u8 me) := (by simp [go_sem, c_hb1]); have u1 : w1.cell? ⟨w.heap.size, 1, none⟩ = some (.int .i64 e) := (by simp [go_sem, c_hb1]); have u2 : w1.cell? ⟨w.heap.size, 2, none⟩ = some (.int .i64 2) := (by simp [go_sem, c_hb1]); have u3 : w1.cell? ⟨w.heap.size, 3, none⟩ = some (.int .u8 t) := (by simp [go_sem, c_hb1]); have u4 : w1.cell? ⟨w.heap.size, 4, none⟩ = some (.string c) := (by simp [go_sem, c_hb1]); have u5 : w1.cell? ⟨w.heap.size, 5, none⟩ = some (.bool true) := (by simp [go_sem, c_hb1])
      have m0 : w1.cell? ⟨w.heap.size + 1, 0, none⟩ = some (.int .i64 2) := (by simp [go_sem, c_hb1]); have m1 : w1.cell? ⟨w.heap.size + 1, 1, none⟩ = some (.int .u8 t) := (by simp [go_sem, c_hb1]); have m2 : w1.cell? ⟨w.heap.size + 1, 2, none⟩ = some (.int .u8 dst) := (by simp [go_sem, c_hb1]); have m3 : w1.cell? ⟨w.heap.size + 1, 3, none⟩ = some (.int .i64 e) := (by simp [go_sem, c_hb1]); have m4 : w1.cell? ⟨w.heap.size + 1, 4, none⟩ = some (.string mc) := (by simp [go_sem, c_hb1])
      have v0 : w1.cell? ⟨w.heap.size + 1 + 1, 0, none⟩ = some (.int .u8 0) := (by simp [go_sem, c_hb1]); have v1 : w1.cell? ⟨w.heap.size + 1 + 1, 1, none⟩ = some (.int .i64 0) := (by simp [go_sem, c_hb1]); have v2 : w1.cell? ⟨w.heap.size + 1 + 1, 2, none⟩ = some (.int .i64 0) := (by simp [go_sem, c_hb1]); have v3 : w1.cell? ⟨w.heap.size + 1 + 1, 3, none⟩ = some (.int .u8 0) := (by simp [go_sem, c_hb1]); have v4 : w1.cell? ⟨w.heap.size + 1 + 1, 4, none⟩ = some (.string ⟨#[]⟩) := (by simp [go_sem, c_hb1]); have v5 : w1.cell? ⟨w.heap.size + 1 + 1, 5, none⟩ = some (.bool false) := (by simp [go_sem, c_hb1]); have v6 : w1.cell? ⟨w.heap.size + 1 + 1, 6, none⟩ = some (.slice none 0 0) := (by simp [go_sem, c_hb1]); have v7 : w1.cell? ⟨w.heap.size + 1 + 1, 7, none⟩ = some (.int .i64 0) := (by simp [go_sem, c_hb1])
      have l0 : w1.cell? ⟨w.heap.size + 1 + 1 + 1, 0, none⟩ = some (.int .i64 e) := (by simp [go_sem, c_hb1]); have l1 : w1.cell? ⟨w.heap.size + 1 + 1 + 1, 1, none⟩ = some (.int .i64 2) := (by simp [go_sem, c_hb1]); have l2 : w1.cell? ⟨w.heap.size + 1 + 1 + 1, 2, none⟩ = some (.int .u8 t) := (by simp [go_sem, c_hb1])
      have f1 : ∀ o, w1.frozen? ⟨w.heap.size, o, none⟩ = false := by intro o; simp [go_sem, f_hb1]
      have f2 : ∀ o, w1.frozen? ⟨w.heap.size + 1 + 1, o, none⟩ = false := by intro o; simp [go_sem, f_hb1]
      clear c_hb1 f_hb1
      go_wp2_with fail
      obtain ⟨W, hW⟩ : ∃ W, W = w1 := ⟨_, rfl⟩
      rw [← hW]
      have s0 : W.cell? ⟨w.heap.size, 0, none⟩ = some (.int .u8 me) := (by subst hW; simp [go_sem, u0, u1, u2, u3, u4, u5]); have s1 : W.cell? ⟨w.heap.size, 1, none⟩ = some (.int .i64 e) := (by subst hW; simp [go_sem, u0, u1, u2, u3, u4, u5]); have s2 : W.cell? ⟨w.heap.size, 2, none⟩ = some (.int .i64 2) := (by subst hW; simp [go_sem, u0, u1, u2, u3, u4, u5]); have s3 : W.cell? ⟨w.heap.size, 3, none⟩ = some (.int .u8 t) := (by subst hW; simp [go_sem, u0, u1, u2, u3, u4, u5]); have s4 : W.cell? ⟨w.heap.size, 4, none⟩ = some (.string c) := (by subst hW; simp [go_sem, u0, u1, u2, u3, u4, u5]); have s5 : W.cell? ⟨w.heap.size, 5, none⟩ = some (.bool true) := (by subst hW; simp [go_sem, u0, u1, u2, u3, u4, u5])
      have q0 : W.cell? ⟨w.heap.size + 1 + 1, 0, none⟩ = some (.int .u8 0) := (by subst hW; simp [go_sem, v0, v1, v2, v3, v4, v5, v6, v7]); have q1 : W.cell? ⟨w.heap.size + 1 + 1, 1, none⟩ = some (.int .i64 0) := (by subst hW; simp [go_sem, v0, v1, v2, v3, v4, v5, v6, v7]); have q2 : W.cell? ⟨w.heap.size + 1 + 1, 2, none⟩ = some (.int .i64 0) := (by subst hW; simp [go_sem, v0, v1, v2, v3, v4, v5, v6, v7]); have q3 : W.cell? ⟨w.heap.size + 1 + 1, 3, none⟩ = some (.int .u8 0) := (by subst hW; simp [go_sem, v0, v1, v2, v3, v4, v5, v6, v7]); have q4 : W.cell? ⟨w.heap.size + 1 + 1, 4, none⟩ = some (.string ⟨#[]⟩) := (by subst hW; simp [go_sem, v0, v1, v2, v3, v4, v5, v6, v7]); have q5 : W.cell? ⟨w.heap.size + 1 + 1, 5, none⟩ = some (.bool false) := (by subst hW; simp [go_sem, v0, v1, v2, v3, v4, v5, v6, v7]); have q6 : W.cell? ⟨w.heap.size + 1 + 1, 6, none⟩ = some (.slice none 0 0) := (by subst hW; simp [go_sem, v0, v1, v2, v3, v4, v5, v6, v7]); have q7 : W.cell? ⟨w.heap.size + 1 + 1, 7, none⟩ = some (.int .i64 0) := (by subst hW; simp [go_sem, v0, v1, v2, v3, v4, v5, v6, v7])
      have qf : ∀ o, W.frozen? ⟨w.heap.size + 1 + 1, o, none⟩ = false := by intro o; subst hW; simp [go_sem, f2]
      have n0 : w.heap.size < W.heap.size := by subst hW; first | omega | (simp only [World.size_setCell, World.size_alloc]; omega)
      have n2 : w.heap.size + 1 + 1 < W.heap.size := by subst hW; first | omega | (simp only [World.size_setCell, World.size_alloc]; omega)
      have hBW : Below w.heap.size w W := by subst hW; repeat (first | (with_reducible exact Below.refl _ _) | (with_reducible assumption) | (with_reducible refine bw_alloc ?_) | (with_reducible refine bw_drew ?_) | (with_reducible refine bw_drewN ?_) | (with_reducible refine bw_set ?_ (by first | (simp; done) | (dsimp only; omega))) | (with_reducible refine bw_via (by assumption) ?_))
      clear hW
      refine start_ (n := 6) (S := fun w' => Below W.heap.size W w' ∧ ∀ b o, b < W.heap.size → w'.cell? ⟨b, o, none⟩ = W.cell? ⟨b, o, none⟩) (ds := [5]) #[false, false, false, false, false, false] (by kernel_rfl) rfl rfl ⟨(still_drew W).1, (still_drew W).2⟩ (fun hHeld => ?_)
      refine take_ (i := 0) (N := some 57) (v := ?_) (a' := ?_) #[true, false, false, false, false, false] rfl rfl (by kernel_rfl) (fun _ _ _ h => h) (Or.inl ⟨by rfl, ?_⟩) hHeld ?_ ?_
      rotate_left
      · rintro w' ⟨s0, s1⟩
        go_simp
        with_reducible rfl
      rotate_left
      · simp only [Act.put, List.setIfInBounds_toArray, List.set_cons_zero, List.set_cons_succ, i64_w, i32_w]
        rfl
      refine take_ (i := 1) (N := some 58) (v := ?_) (a' := ?_) #[true, true, false, false, false, false] rfl rfl (by kernel_rfl) (fun _ _ _ h => h) (Or.inl ⟨by rfl, ?_⟩) hHeld ?_ ?_
      rotate_left
      · rintro w' ⟨s0, s1⟩
        go_simp
        with_reducible rfl
      rotate_left
      · simp only [Act.put, List.setIfInBounds_toArray, List.set_cons_zero, List.set_cons_succ, i64_w, i32_w]
        rfl
      refine one_ (i := 2) (N := some 59) #[true, true, true, false, false, false] rfl rfl (by kernel_rfl) (by decide) (fun K hK => ?_)
      refine goes_ Try.func34 (by kernel_rfl) rfl #[.agg #[.int .u8 me, .int .i64 e, .int .i64 2, .int .u8 t, .string c, .bool true]] (by rfl) rfl rfl (by simp only [List.map_toArray, List.map_cons, List.map_nil]; rfl) ?_
      refine (gives_ref me e 2 t c true _ he1 he2).mono ?_
      rintro r w5 ⟨rfl, hb⟩
      refine ⟨_, rfl, ?_⟩
      have hfr : ∀ o, w5.frozen? ⟨w.heap.size + 1 + 1, o, none⟩ = false := fun o => (hb.frozen (p := ⟨_, o, none⟩) n2).trans (qf o)
      have g0 := stay hb n2 q0
      have g1 := stay hb n2 q1
      have g2 := stay hb n2 q2
      have g3 := stay hb n2 q3
      have g4 := stay hb n2 q4
      have g5 := stay hb n2 q5
      have g6 := stay hb n2 q6
      have g7 := stay hb n2 q7
      have z5 : w.heap.size + 1 + 1 < w5.heap.size := Nat.lt_of_lt_of_le n2 hb.size
      refine hK.out _ _ ⟨(still_keep hHeld hb).1, (still_keep hHeld hb).2⟩ (fun hHeld => ?_)
      clear hK K
      refine norm_ (a' := ?_) ?_ ?_
      rotate_left
      · show Act.put _ (some 59) _ = _
        simp only [Act.put, List.setIfInBounds_toArray, List.set_cons_zero, List.set_cons_succ, i64_w, i32_w]
        rfl
      refine one_ (i := 3) (N := some 60) #[true, true, true, true, false, false] rfl rfl (by kernel_rfl) (by decide) (fun K hK => ?_)
      refine value_ (w1 := ?_) (v := ?_) (by rfl) rfl ?_ ?_
      rotate_left 2
      · go_simp
        constructor
        · rfl
        · rfl
      refine hK.out _ _ ⟨(still_keep hHeld ((Below.refl _ _).alloc (Nat.le_refl _) _)).1, (still_keep hHeld ((Below.refl _ _).alloc (Nat.le_refl _) _)).2⟩ (fun hHeld => ?_)
      clear hK K
      refine norm_ (a' := ?_) ?_ ?_
      rotate_left
      · show Act.put _ (some 60) _ = _
        simp only [Act.put, List.setIfInBounds_toArray, List.set_cons_zero, List.set_cons_succ, i64_w, i32_w]
        rfl
      refine pure_ (i := 4) (N := some 61) (v := ?_) (a' := ?_) #[true, true, true, true, true, false] rfl rfl (by kernel_rfl) (fun _ _ _ h => h) (Or.inl ⟨by rfl, ?_⟩) ?_ ?_
      rotate_left
      · intro w'
        go_simp
        with_reducible rfl
      rotate_left
      · simp only [Act.put, List.setIfInBounds_toArray, List.set_cons_zero, List.set_cons_succ, i64_w, i32_w]
        rfl
      refine last_ (i := 5) (N := none) #[true, true, true, true, true, true] rfl rfl (by kernel_rfl) (by decide) (fun K hK => ?_)
      refine skip_ (w1 := ?_) (by rfl) rfl ?_ ?_
      rotate_left
      · go_simp
        rfl
      refine hK.out _ _ ?_
      clear hK K
      refine done_ (by kernel_rfl) ?_

      go_wp2_with fail
      simp [bodyPost, results, Try.results29, go_sem, *]
      refine told_mk (y := ⟨me, e, 2, t, c, true⟩) ?_ ?_
      · repeat (first | (with_reducible exact Below.refl _ _) | (with_reducible assumption) | (with_reducible refine bw_alloc ?_) | (with_reducible refine bw_drew ?_) | (with_reducible refine bw_drewN ?_) | (with_reducible refine bw_set ?_ (by first | (simp; done) | (dsimp only; omega))) | (with_reducible refine bw_via (by assumption) ?_))
      · exact ⟨_, rfl, by first | omega | (simp only [World.size_setCell]; omega), by simp, by simp [go_sem]⟩
  · have hh : hearH ⟨me, e, s, t, c, k⟩ ⟨2, src, dst, ep, mc⟩ = (⟨me, e, s, t, c, k⟩, none, 10) := by
      simp only [hearH]; simp [hg, hsp]
    rw [hh]
    clear hh
    · go_enter Try.func29, Try.ntmps29
      go_wp2_with fail
      refine (speaks_ref _ _ _ _ _).mono ?_
      rw [hsp]
      rintro r w1 ⟨rfl, hb1⟩
      obtain ⟨c_hb1, f_hb1, z_hb1⟩ := bcell hb1; have z0_hb1 := z_hb1 (w.heap.size) (by first | omega | (simp only [World.size_alloc, World.size_setCell, World.size_drew, World.heap_drewN] <;> omega)); have z1_hb1 := z_hb1 (w.heap.size + 1) (by first | omega | (simp only [World.size_alloc, World.size_setCell, World.size_drew, World.heap_drewN] <;> omega)); have z2_hb1 := z_hb1 (w.heap.size + 1 + 1) (by first | omega | (simp only [World.size_alloc, World.size_setCell, World.size_drew, World.heap_drewN] <;> omega)); have z3_hb1 := z_hb1 (w.heap.size + 1 + 1 + 1) (by first | omega | (simp only [World.size_alloc, World.size_setCell, World.size_drew, World.heap_drewN] <;> omega)); clear z_hb1
      have u0 : w1.cell? ⟨w.heap.size, 0, none⟩ = some (.int .u8 me) := (by simp [go_sem, c_hb1]); have u1 : w1.cell? ⟨w.heap.size, 1, none⟩ = some (.int .i64 e) := (by simp [go_sem, c_hb1]); have u2 : w1.cell? ⟨w.heap.size, 2, none⟩ = some (.int .i64 s) := (by simp [go_sem, c_hb1]); have u3 : w1.cell? ⟨w.heap.size, 3, none⟩ = some (.int .u8 t) := (by simp [go_sem, c_hb1]); have u4 : w1.cell? ⟨w.heap.size, 4, none⟩ = some (.string c) := (by simp [go_sem, c_hb1]); have u5 : w1.cell? ⟨w.heap.size, 5, none⟩ = some (.bool k) := (by simp [go_sem, c_hb1])
      have m0 : w1.cell? ⟨w.heap.size + 1, 0, none⟩ = some (.int .i64 2) := (by simp [go_sem, c_hb1]); have m1 : w1.cell? ⟨w.heap.size + 1, 1, none⟩ = some (.int .u8 src) := (by simp [go_sem, c_hb1]); have m2 : w1.cell? ⟨w.heap.size + 1, 2, none⟩ = some (.int .u8 dst) := (by simp [go_sem, c_hb1]); have m3 : w1.cell? ⟨w.heap.size + 1, 3, none⟩ = some (.int .i64 ep) := (by simp [go_sem, c_hb1]); have m4 : w1.cell? ⟨w.heap.size + 1, 4, none⟩ = some (.string mc) := (by simp [go_sem, c_hb1])
      have v0 : w1.cell? ⟨w.heap.size + 1 + 1, 0, none⟩ = some (.int .u8 0) := (by simp [go_sem, c_hb1]); have v1 : w1.cell? ⟨w.heap.size + 1 + 1, 1, none⟩ = some (.int .i64 0) := (by simp [go_sem, c_hb1]); have v2 : w1.cell? ⟨w.heap.size + 1 + 1, 2, none⟩ = some (.int .i64 0) := (by simp [go_sem, c_hb1]); have v3 : w1.cell? ⟨w.heap.size + 1 + 1, 3, none⟩ = some (.int .u8 0) := (by simp [go_sem, c_hb1]); have v4 : w1.cell? ⟨w.heap.size + 1 + 1, 4, none⟩ = some (.string ⟨#[]⟩) := (by simp [go_sem, c_hb1]); have v5 : w1.cell? ⟨w.heap.size + 1 + 1, 5, none⟩ = some (.bool false) := (by simp [go_sem, c_hb1]); have v6 : w1.cell? ⟨w.heap.size + 1 + 1, 6, none⟩ = some (.slice none 0 0) := (by simp [go_sem, c_hb1]); have v7 : w1.cell? ⟨w.heap.size + 1 + 1, 7, none⟩ = some (.int .i64 0) := (by simp [go_sem, c_hb1])
      have l0 : w1.cell? ⟨w.heap.size + 1 + 1 + 1, 0, none⟩ = some (.int .i64 e) := (by simp [go_sem, c_hb1]); have l1 : w1.cell? ⟨w.heap.size + 1 + 1 + 1, 1, none⟩ = some (.int .i64 s) := (by simp [go_sem, c_hb1]); have l2 : w1.cell? ⟨w.heap.size + 1 + 1 + 1, 2, none⟩ = some (.int .u8 t) := (by simp [go_sem, c_hb1])
      have f1 : ∀ o, w1.frozen? ⟨w.heap.size, o, none⟩ = false := by intro o; simp [go_sem, f_hb1]
      have f2 : ∀ o, w1.frozen? ⟨w.heap.size + 1 + 1, o, none⟩ = false := by intro o; simp [go_sem, f_hb1]
      clear c_hb1 f_hb1
      go_wp2_with fail
      all_goals first | exact (hg ⟨by assumption, by assumption, by assumption, by assumption⟩).elim | skip
      all_goals (simp [bodyPost, results, Try.results29, go_sem, *])
      all_goals (refine told_mk ?_ rfl)
      all_goals (repeat (first | (with_reducible exact Below.refl _ _) | (with_reducible assumption) | (with_reducible refine bw_alloc ?_) | (with_reducible refine bw_drew ?_) | (with_reducible refine bw_drewN ?_) | (with_reducible refine bw_set ?_ (by first | (simp; done) | (dsimp only; omega))) | (with_reducible refine bw_via (by assumption) ?_)))

set_option maxHeartbeats 4000000 in
set_option maxRecDepth 100000 in
theorem want_new (me e s t src dst ep : Int) (c mc : ByteArray) (k : Bool) (w : World) (hx : rightS ⟨me, e, s, t, c, k⟩ = true) (hsrc : src < 8) (hsp : speaksB e s t ep = true) : Calls Try.prog 29 #[.agg #[.int .u8 me, .int .i64 e, .int .i64 s, .int .u8 t, .string c, .bool k], .agg #[.int .i64 2, .int .u8 src, .int .u8 dst, .int .i64 ep, .string mc]] w (Told (hearH ⟨me, e, s, t, c, k⟩ ⟨2, src, dst, ep, mc⟩) w) := by
  obtain ⟨he1, he2⟩ := right_le hx
  dsimp only at he1 he2
  have hsp2 := hsp
  simp [speaksB] at hsp2
  obtain ⟨⟨hr, rfl⟩, rfl⟩ := hsp2
  by_cases hmax : e = 1048576
  · have hgv : give e 1 t src = (⟨e, 1, t⟩, 3) := by
      unfold give; rw [hr, if_neg (by simp), if_neg (by omega), if_pos rfl, if_pos hmax]
    have hh : hearH ⟨me, e, 1, t, c, k⟩ ⟨2, src, dst, e, mc⟩ = (⟨me, e, 1, t, c, k⟩, none, 3) := by
      unfold hearH; simp [hsp, hmax]
      rw [hmax] at hsp; simp [hsp]
    rw [hh]
    clear hh hmax
    · go_enter Try.func29, Try.ntmps29
      go_wp2_with fail
      refine (speaks_ref _ _ _ _ _).mono ?_
      rw [hsp]
      rintro r w1 ⟨rfl, hb1⟩
      obtain ⟨c_hb1, f_hb1, z_hb1⟩ := bcell hb1; have z0_hb1 := z_hb1 (w.heap.size) (by first | omega | (simp only [World.size_alloc, World.size_setCell, World.size_drew, World.heap_drewN] <;> omega)); have z1_hb1 := z_hb1 (w.heap.size + 1) (by first | omega | (simp only [World.size_alloc, World.size_setCell, World.size_drew, World.heap_drewN] <;> omega)); have z2_hb1 := z_hb1 (w.heap.size + 1 + 1) (by first | omega | (simp only [World.size_alloc, World.size_setCell, World.size_drew, World.heap_drewN] <;> omega)); have z3_hb1 := z_hb1 (w.heap.size + 1 + 1 + 1) (by first | omega | (simp only [World.size_alloc, World.size_setCell, World.size_drew, World.heap_drewN] <;> omega)); clear z_hb1
      have u0 : w1.cell? ⟨w.heap.size, 0, none⟩ = some (.int .u8 me) := (by simp [go_sem, c_hb1]); have u1 : w1.cell? ⟨w.heap.size, 1, none⟩ = some (.int .i64 e) := (by simp [go_sem, c_hb1]); have u2 : w1.cell? ⟨w.heap.size, 2, none⟩ = some (.int .i64 1) := (by simp [go_sem, c_hb1]); have u3 : w1.cell? ⟨w.heap.size, 3, none⟩ = some (.int .u8 t) := (by simp [go_sem, c_hb1]); have u4 : w1.cell? ⟨w.heap.size, 4, none⟩ = some (.string c) := (by simp [go_sem, c_hb1]); have u5 : w1.cell? ⟨w.heap.size, 5, none⟩ = some (.bool k) := (by simp [go_sem, c_hb1])
      have m0 : w1.cell? ⟨w.heap.size + 1, 0, none⟩ = some (.int .i64 2) := (by simp [go_sem, c_hb1]); have m1 : w1.cell? ⟨w.heap.size + 1, 1, none⟩ = some (.int .u8 src) := (by simp [go_sem, c_hb1]); have m2 : w1.cell? ⟨w.heap.size + 1, 2, none⟩ = some (.int .u8 dst) := (by simp [go_sem, c_hb1]); have m3 : w1.cell? ⟨w.heap.size + 1, 3, none⟩ = some (.int .i64 e) := (by simp [go_sem, c_hb1]); have m4 : w1.cell? ⟨w.heap.size + 1, 4, none⟩ = some (.string mc) := (by simp [go_sem, c_hb1])
      have v0 : w1.cell? ⟨w.heap.size + 1 + 1, 0, none⟩ = some (.int .u8 0) := (by simp [go_sem, c_hb1]); have v1 : w1.cell? ⟨w.heap.size + 1 + 1, 1, none⟩ = some (.int .i64 0) := (by simp [go_sem, c_hb1]); have v2 : w1.cell? ⟨w.heap.size + 1 + 1, 2, none⟩ = some (.int .i64 0) := (by simp [go_sem, c_hb1]); have v3 : w1.cell? ⟨w.heap.size + 1 + 1, 3, none⟩ = some (.int .u8 0) := (by simp [go_sem, c_hb1]); have v4 : w1.cell? ⟨w.heap.size + 1 + 1, 4, none⟩ = some (.string ⟨#[]⟩) := (by simp [go_sem, c_hb1]); have v5 : w1.cell? ⟨w.heap.size + 1 + 1, 5, none⟩ = some (.bool false) := (by simp [go_sem, c_hb1]); have v6 : w1.cell? ⟨w.heap.size + 1 + 1, 6, none⟩ = some (.slice none 0 0) := (by simp [go_sem, c_hb1]); have v7 : w1.cell? ⟨w.heap.size + 1 + 1, 7, none⟩ = some (.int .i64 0) := (by simp [go_sem, c_hb1])
      have l0 : w1.cell? ⟨w.heap.size + 1 + 1 + 1, 0, none⟩ = some (.int .i64 e) := (by simp [go_sem, c_hb1]); have l1 : w1.cell? ⟨w.heap.size + 1 + 1 + 1, 1, none⟩ = some (.int .i64 1) := (by simp [go_sem, c_hb1]); have l2 : w1.cell? ⟨w.heap.size + 1 + 1 + 1, 2, none⟩ = some (.int .u8 t) := (by simp [go_sem, c_hb1])
      have f1 : ∀ o, w1.frozen? ⟨w.heap.size, o, none⟩ = false := by intro o; simp [go_sem, f_hb1]
      have f2 : ∀ o, w1.frozen? ⟨w.heap.size + 1 + 1, o, none⟩ = false := by intro o; simp [go_sem, f_hb1]
      clear c_hb1 f_hb1
      go_wp2_with fail
      refine (give_ref e 1 t src _).mono ?_
      rw [hgv]
      rintro r w2 ⟨rfl, hb2⟩
      have f3 : ∀ o, w2.frozen? ⟨w.heap.size, o, none⟩ = false := fun o => stayf hb2 z0_hb1 (f1 o)
      have f4 : ∀ o, w2.frozen? ⟨w.heap.size + 1 + 1, o, none⟩ = false := fun o => stayf hb2 z2_hb1 (f2 o)
      have u0 := stay hb2 z0_hb1 u0
      have u1 := stay hb2 z0_hb1 u1
      have u2 := stay hb2 z0_hb1 u2
      have u3 := stay hb2 z0_hb1 u3
      have u4 := stay hb2 z0_hb1 u4
      have u5 := stay hb2 z0_hb1 u5
      have v0 := stay hb2 z2_hb1 v0
      have v1 := stay hb2 z2_hb1 v1
      have v2 := stay hb2 z2_hb1 v2
      have v3 := stay hb2 z2_hb1 v3
      have v4 := stay hb2 z2_hb1 v4
      have v5 := stay hb2 z2_hb1 v5
      have v6 := stay hb2 z2_hb1 v6
      have v7 := stay hb2 z2_hb1 v7
      have z5_ : w.heap.size < w2.heap.size := Nat.lt_of_lt_of_le z0_hb1 hb2.size
      have z6_ : w.heap.size + 1 + 1 < w2.heap.size := Nat.lt_of_lt_of_le z2_hb1 hb2.size
      go_wp2_with fail
      all_goals (simp [bodyPost, results, Try.results29, go_sem, *])
      all_goals (refine told_mk ?_ rfl)
      all_goals (repeat (first | (with_reducible exact Below.refl _ _) | (with_reducible assumption) | (with_reducible refine bw_alloc ?_) | (with_reducible refine bw_drew ?_) | (with_reducible refine bw_drewN ?_) | (with_reducible refine bw_set ?_ (by first | (simp; done) | (dsimp only; omega))) | (with_reducible refine bw_via (by assumption) ?_)))
  · have hgv : give e 1 t src = (⟨e, 2, src⟩, 0) := by
      unfold give; rw [hr, if_neg (by simp), if_neg (by omega), if_pos rfl, if_neg hmax]
    have hh : hearH ⟨me, e, 1, t, c, k⟩ ⟨2, src, dst, e, mc⟩ = (⟨me, e, 2, src, c, true⟩, some ⟨3, me, src, e + 1, c⟩, 0) := by
      simp [hearH, hsp, hmax]
    rw [hh]
    clear hh hmax
    · go_enter Try.func29, Try.ntmps29
      go_wp2_with fail
      refine (speaks_ref _ _ _ _ _).mono ?_
      rw [hsp]
      rintro r w1 ⟨rfl, hb1⟩
      obtain ⟨c_hb1, f_hb1, z_hb1⟩ := bcell hb1; have z0_hb1 := z_hb1 (w.heap.size) (by first | omega | (simp only [World.size_alloc, World.size_setCell, World.size_drew, World.heap_drewN] <;> omega)); have z1_hb1 := z_hb1 (w.heap.size + 1) (by first | omega | (simp only [World.size_alloc, World.size_setCell, World.size_drew, World.heap_drewN] <;> omega)); have z2_hb1 := z_hb1 (w.heap.size + 1 + 1) (by first | omega | (simp only [World.size_alloc, World.size_setCell, World.size_drew, World.heap_drewN] <;> omega)); have z3_hb1 := z_hb1 (w.heap.size + 1 + 1 + 1) (by first | omega | (simp only [World.size_alloc, World.size_setCell, World.size_drew, World.heap_drewN] <;> omega)); clear z_hb1
      have u0 : w1.cell? ⟨w.heap.size, 0, none⟩ = some (.int .u8 me) := (by simp [go_sem, c_hb1]); have u1 : w1.cell? ⟨w.heap.size, 1, none⟩ = some (.int .i64 e) := (by simp [go_sem, c_hb1]); have u2 : w1.cell? ⟨w.heap.size, 2, none⟩ = some (.int .i64 1) := (by simp [go_sem, c_hb1]); have u3 : w1.cell? ⟨w.heap.size, 3, none⟩ = some (.int .u8 t) := (by simp [go_sem, c_hb1]); have u4 : w1.cell? ⟨w.heap.size, 4, none⟩ = some (.string c) := (by simp [go_sem, c_hb1]); have u5 : w1.cell? ⟨w.heap.size, 5, none⟩ = some (.bool k) := (by simp [go_sem, c_hb1])
      have m0 : w1.cell? ⟨w.heap.size + 1, 0, none⟩ = some (.int .i64 2) := (by simp [go_sem, c_hb1]); have m1 : w1.cell? ⟨w.heap.size + 1, 1, none⟩ = some (.int .u8 src) := (by simp [go_sem, c_hb1]); have m2 : w1.cell? ⟨w.heap.size + 1, 2, none⟩ = some (.int .u8 dst) := (by simp [go_sem, c_hb1]); have m3 : w1.cell? ⟨w.heap.size + 1, 3, none⟩ = some (.int .i64 e) := (by simp [go_sem, c_hb1]); have m4 : w1.cell? ⟨w.heap.size + 1, 4, none⟩ = some (.string mc) := (by simp [go_sem, c_hb1])
      have v0 : w1.cell? ⟨w.heap.size + 1 + 1, 0, none⟩ = some (.int .u8 0) := (by simp [go_sem, c_hb1]); have v1 : w1.cell? ⟨w.heap.size + 1 + 1, 1, none⟩ = some (.int .i64 0) := (by simp [go_sem, c_hb1]); have v2 : w1.cell? ⟨w.heap.size + 1 + 1, 2, none⟩ = some (.int .i64 0) := (by simp [go_sem, c_hb1]); have v3 : w1.cell? ⟨w.heap.size + 1 + 1, 3, none⟩ = some (.int .u8 0) := (by simp [go_sem, c_hb1]); have v4 : w1.cell? ⟨w.heap.size + 1 + 1, 4, none⟩ = some (.string ⟨#[]⟩) := (by simp [go_sem, c_hb1]); have v5 : w1.cell? ⟨w.heap.size + 1 + 1, 5, none⟩ = some (.bool false) := (by simp [go_sem, c_hb1]); have v6 : w1.cell? ⟨w.heap.size + 1 + 1, 6, none⟩ = some (.slice none 0 0) := (by simp [go_sem, c_hb1]); have v7 : w1.cell? ⟨w.heap.size + 1 + 1, 7, none⟩ = some (.int .i64 0) := (by simp [go_sem, c_hb1])
      have l0 : w1.cell? ⟨w.heap.size + 1 + 1 + 1, 0, none⟩ = some (.int .i64 e) := (by simp [go_sem, c_hb1]); have l1 : w1.cell? ⟨w.heap.size + 1 + 1 + 1, 1, none⟩ = some (.int .i64 1) := (by simp [go_sem, c_hb1]); have l2 : w1.cell? ⟨w.heap.size + 1 + 1 + 1, 2, none⟩ = some (.int .u8 t) := (by simp [go_sem, c_hb1])
      have f1 : ∀ o, w1.frozen? ⟨w.heap.size, o, none⟩ = false := by intro o; simp [go_sem, f_hb1]
      have f2 : ∀ o, w1.frozen? ⟨w.heap.size + 1 + 1, o, none⟩ = false := by intro o; simp [go_sem, f_hb1]
      clear c_hb1 f_hb1
      go_wp2_with fail
      refine (give_ref e 1 t src _).mono ?_
      rw [hgv]
      rintro r w2 ⟨rfl, hb2⟩
      have f3 : ∀ o, w2.frozen? ⟨w.heap.size, o, none⟩ = false := fun o => stayf hb2 z0_hb1 (f1 o)
      have f4 : ∀ o, w2.frozen? ⟨w.heap.size + 1 + 1, o, none⟩ = false := fun o => stayf hb2 z2_hb1 (f2 o)
      have u0 := stay hb2 z0_hb1 u0
      have u1 := stay hb2 z0_hb1 u1
      have u2 := stay hb2 z0_hb1 u2
      have u3 := stay hb2 z0_hb1 u3
      have u4 := stay hb2 z0_hb1 u4
      have u5 := stay hb2 z0_hb1 u5
      have v0 := stay hb2 z2_hb1 v0
      have v1 := stay hb2 z2_hb1 v1
      have v2 := stay hb2 z2_hb1 v2
      have v3 := stay hb2 z2_hb1 v3
      have v4 := stay hb2 z2_hb1 v4
      have v5 := stay hb2 z2_hb1 v5
      have v6 := stay hb2 z2_hb1 v6
      have v7 := stay hb2 z2_hb1 v7
      have z5_ : w.heap.size < w2.heap.size := Nat.lt_of_lt_of_le z0_hb1 hb2.size
      have z6_ : w.heap.size + 1 + 1 < w2.heap.size := Nat.lt_of_lt_of_le z2_hb1 hb2.size
      go_wp2_with fail
      generalize hW : World.alloc _ _ = W
      have s0 : W.cell? ⟨w.heap.size, 0, none⟩ = some (.int .u8 me) := (by subst hW; simp [go_sem, z5_, z6_, u0, u1, u2, u3, u4, u5]); have s1 : W.cell? ⟨w.heap.size, 1, none⟩ = some (.int .i64 e) := (by subst hW; simp [go_sem, z5_, z6_, u0, u1, u2, u3, u4, u5]); have s2 : W.cell? ⟨w.heap.size, 2, none⟩ = some (.int .i64 2) := (by subst hW; simp [go_sem, z5_, z6_, u0, u1, u2, u3, u4, u5]); have s3 : W.cell? ⟨w.heap.size, 3, none⟩ = some (.int .u8 src) := (by subst hW; simp [go_sem, z5_, z6_, u0, u1, u2, u3, u4, u5]); have s4 : W.cell? ⟨w.heap.size, 4, none⟩ = some (.string c) := (by subst hW; simp [go_sem, z5_, z6_, u0, u1, u2, u3, u4, u5]); have s5 : W.cell? ⟨w.heap.size, 5, none⟩ = some (.bool true) := (by subst hW; simp [go_sem, z5_, z6_, u0, u1, u2, u3, u4, u5])
      have q0 : W.cell? ⟨w.heap.size + 1 + 1, 0, none⟩ = some (.int .u8 0) := (by subst hW; simp [go_sem, z5_, z6_, v0, v1, v2, v3, v4, v5, v6, v7]); have q1 : W.cell? ⟨w.heap.size + 1 + 1, 1, none⟩ = some (.int .i64 0) := (by subst hW; simp [go_sem, z5_, z6_, v0, v1, v2, v3, v4, v5, v6, v7]); have q2 : W.cell? ⟨w.heap.size + 1 + 1, 2, none⟩ = some (.int .i64 0) := (by subst hW; simp [go_sem, z5_, z6_, v0, v1, v2, v3, v4, v5, v6, v7]); have q3 : W.cell? ⟨w.heap.size + 1 + 1, 3, none⟩ = some (.int .u8 0) := (by subst hW; simp [go_sem, z5_, z6_, v0, v1, v2, v3, v4, v5, v6, v7]); have q4 : W.cell? ⟨w.heap.size + 1 + 1, 4, none⟩ = some (.string ⟨#[]⟩) := (by subst hW; simp [go_sem, z5_, z6_, v0, v1, v2, v3, v4, v5, v6, v7]); have q5 : W.cell? ⟨w.heap.size + 1 + 1, 5, none⟩ = some (.bool false) := (by subst hW; simp [go_sem, z5_, z6_, v0, v1, v2, v3, v4, v5, v6, v7]); have q6 : W.cell? ⟨w.heap.size + 1 + 1, 6, none⟩ = some (.slice none 0 0) := (by subst hW; simp [go_sem, z5_, z6_, v0, v1, v2, v3, v4, v5, v6, v7]); have q7 : W.cell? ⟨w.heap.size + 1 + 1, 7, none⟩ = some (.int .i64 0) := (by subst hW; simp [go_sem, z5_, z6_, v0, v1, v2, v3, v4, v5, v6, v7])
      have qf : ∀ o, W.frozen? ⟨w.heap.size + 1 + 1, o, none⟩ = false := by intro o; subst hW; simp [go_sem, z6_, f4]
      have n0 : w.heap.size < W.heap.size := by subst hW; first | omega | (simp only [World.size_setCell, World.size_alloc]; omega)
      have n2 : w.heap.size + 1 + 1 < W.heap.size := by subst hW; first | omega | (simp only [World.size_setCell, World.size_alloc]; omega)
      have hBW : Below w.heap.size w W := by subst hW; repeat (first | (with_reducible exact Below.refl _ _) | (with_reducible assumption) | (with_reducible refine bw_alloc ?_) | (with_reducible refine bw_drew ?_) | (with_reducible refine bw_drewN ?_) | (with_reducible refine bw_set ?_ (by first | (simp; done) | (dsimp only; omega))) | (with_reducible refine bw_via (by assumption) ?_))
      clear hW
      refine start_ (n := 6) (S := fun w' => Below W.heap.size W w' ∧ ∀ b o, b < W.heap.size → w'.cell? ⟨b, o, none⟩ = W.cell? ⟨b, o, none⟩) (ds := [5]) #[false, false, false, false, false, false] (by kernel_rfl) rfl rfl ⟨(still_drew W).1, (still_drew W).2⟩ (fun hHeld => ?_)
      refine take_ (i := 0) (N := some 30) (v := ?_) (a' := ?_) #[true, false, false, false, false, false] rfl rfl (by kernel_rfl) (fun _ _ _ h => h) (Or.inl ⟨by rfl, ?_⟩) hHeld ?_ ?_
      rotate_left
      · rintro w' ⟨s0, s1⟩
        go_simp
        with_reducible rfl
      rotate_left
      · simp only [Act.put, List.setIfInBounds_toArray, List.set_cons_zero, List.set_cons_succ, i64_w, i32_w]
        rfl
      refine take_ (i := 1) (N := some 31) (v := ?_) (a' := ?_) #[true, true, false, false, false, false] rfl rfl (by kernel_rfl) (fun _ _ _ h => h) (Or.inl ⟨by rfl, ?_⟩) hHeld ?_ ?_
      rotate_left
      · rintro w' ⟨s0, s1⟩
        go_simp
        with_reducible rfl
      rotate_left
      · simp only [Act.put, List.setIfInBounds_toArray, List.set_cons_zero, List.set_cons_succ, i64_w, i32_w]
        rfl
      refine one_ (i := 2) (N := some 32) #[true, true, true, false, false, false] rfl rfl (by kernel_rfl) (by decide) (fun K hK => ?_)
      refine goes_ Try.func34 (by kernel_rfl) rfl #[.agg #[.int .u8 me, .int .i64 e, .int .i64 2, .int .u8 src, .string c, .bool true]] (by rfl) rfl rfl (by simp only [List.map_toArray, List.map_cons, List.map_nil]; rfl) ?_
      refine (gives_ref me e 2 src c true _ he1 he2).mono ?_
      rintro r w5 ⟨rfl, hb⟩
      refine ⟨_, rfl, ?_⟩
      have hfr : ∀ o, w5.frozen? ⟨w.heap.size + 1 + 1, o, none⟩ = false := fun o => (hb.frozen (p := ⟨_, o, none⟩) n2).trans (qf o)
      have g0 := stay hb n2 q0
      have g1 := stay hb n2 q1
      have g2 := stay hb n2 q2
      have g3 := stay hb n2 q3
      have g4 := stay hb n2 q4
      have g5 := stay hb n2 q5
      have g6 := stay hb n2 q6
      have g7 := stay hb n2 q7
      have z5 : w.heap.size + 1 + 1 < w5.heap.size := Nat.lt_of_lt_of_le n2 hb.size
      refine hK.out _ _ ⟨(still_keep hHeld hb).1, (still_keep hHeld hb).2⟩ (fun hHeld => ?_)
      clear hK K
      refine norm_ (a' := ?_) ?_ ?_
      rotate_left
      · show Act.put _ (some 32) _ = _
        simp only [Act.put, List.setIfInBounds_toArray, List.set_cons_zero, List.set_cons_succ, i64_w, i32_w]
        rfl
      refine one_ (i := 3) (N := some 33) #[true, true, true, true, false, false] rfl rfl (by kernel_rfl) (by decide) (fun K hK => ?_)
      refine value_ (w1 := ?_) (v := ?_) (by rfl) rfl ?_ ?_
      rotate_left 2
      · go_simp
        constructor
        · rfl
        · rfl
      refine hK.out _ _ ⟨(still_keep hHeld ((Below.refl _ _).alloc (Nat.le_refl _) _)).1, (still_keep hHeld ((Below.refl _ _).alloc (Nat.le_refl _) _)).2⟩ (fun hHeld => ?_)
      clear hK K
      refine norm_ (a' := ?_) ?_ ?_
      rotate_left
      · show Act.put _ (some 33) _ = _
        simp only [Act.put, List.setIfInBounds_toArray, List.set_cons_zero, List.set_cons_succ, i64_w, i32_w]
        rfl
      refine pure_ (i := 4) (N := some 34) (v := ?_) (a' := ?_) #[true, true, true, true, true, false] rfl rfl (by kernel_rfl) (fun _ _ _ h => h) (Or.inl ⟨by rfl, ?_⟩) ?_ ?_
      rotate_left
      · intro w'
        go_simp
        with_reducible rfl
      rotate_left
      · simp only [Act.put, List.setIfInBounds_toArray, List.set_cons_zero, List.set_cons_succ, i64_w, i32_w]
        rfl
      refine last_ (i := 5) (N := none) #[true, true, true, true, true, true] rfl rfl (by kernel_rfl) (by decide) (fun K hK => ?_)
      refine skip_ (w1 := ?_) (by rfl) rfl ?_ ?_
      rotate_left
      · go_simp
        rfl
      refine hK.out _ _ ?_
      clear hK K
      refine done_ (by kernel_rfl) ?_

      go_wp2_with fail
      simp [bodyPost, results, Try.results29, go_sem, *]
      refine told_mk (y := ⟨me, e, 2, src, c, true⟩) ?_ ?_
      · repeat (first | (with_reducible exact Below.refl _ _) | (with_reducible assumption) | (with_reducible refine bw_alloc ?_) | (with_reducible refine bw_drew ?_) | (with_reducible refine bw_drewN ?_) | (with_reducible refine bw_set ?_ (by first | (simp; done) | (dsimp only; omega))) | (with_reducible refine bw_via (by assumption) ?_))
      · exact ⟨_, rfl, by first | omega | (simp only [World.size_setCell]; omega), by simp, by simp [go_sem]⟩
end Go.Proofs.Ytamlkmnkdcoebaa.Hand
