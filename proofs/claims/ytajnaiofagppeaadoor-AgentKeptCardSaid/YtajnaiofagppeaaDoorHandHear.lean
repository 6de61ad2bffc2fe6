/- What comes of a message, at a side. -/
import Derived.Test.YtajnaiofagppeaaDoorHandAns
import Derived.Test.YtajnaiofagppeaaDoorWLast
import Derived.Lib.Hide
namespace Go.Proofs.YtajnaiofagppeaaDoor.Hand
open Go.RowKit LeaseSpec Flat Lease HandSpec Go.Proofs.YtajnaiofagppeaaDoorW.PrintLast
set_option linter.unusedSimpArgs false
set_option linter.unusedVariables false

def goneB (k : Bool) (e s t src n : Int) : Bool := k && (e == n && (s == 2 && t == src))

theorem gone_any (n : Int) (gs gm : Nat) (k : Bool) (e s t src : Int) (w : World) (h1 : w.cell? ⟨gs, 1, none⟩ = some (.int .i64 e)) (h2 : w.cell? ⟨gs, 2, none⟩ = some (.int .i64 s)) (h3 : w.cell? ⟨gs, 3, none⟩ = some (.int .u8 t))
    (h5 : w.cell? ⟨gs, 5, none⟩ = some (.bool k)) (h6 : w.cell? ⟨gm, 1, none⟩ = some (.int .u8 src)) :
    Calls Tryd.prog 75 #[.int .i64 n, .pointer (some ⟨gs, 0, none⟩), .pointer (some ⟨gm, 0, none⟩)] w fun r w' => r = .returned (.bool (goneB k e s t src n)) ∧ w = w' := by
  go_enter Tryd.func75, Tryd.ntmps75
  go_wp2_with fail
  all_goals (go_ret; refine ⟨congrArg (fun b => Ending.returned (.bool b)) ?_, rfl⟩)
  all_goals simp_all [goneB]

def HearPost (x : S) (m : M) (w : World) (r : Ending) (w' : World) : Prop :=
  ∃ v y, r = .returned (.tuple #[.agg #[.int .u8 y.me, .int .i64 y.e, .int .i64 y.s, .int .u8 y.t, .string y.c, .bool y.k], v, .int .i64 (hearH x m).2.2]) ∧ Below w.heap.size w w' ∧ ((hearH x m).2.2 = 0 → y = (hearH x m).1 ∧ Said w' w.heap.size (hearH x m).2.1 v)

theorem may_facts {m : M} (h : mayM m = true) : (m.kind = 1 ∨ m.kind = 2 ∨ m.kind = 3 ∨ m.kind = 4) ∧ 1 ≤ m.ep ∧ m.ep ≤ 1048576 ∧ m.src < 8 ∧ m.dst < 8 ∧ m.src ≠ m.dst := by
  unfold mayM at h
  split at h
  · cases h
  · split at h
    · cases h
    · split at h
      · cases h
      · split at h
        · cases h
        · split at h
          · cases h
          · split at h
            · cases h
            · split at h
              · cases h
              · omega

theorem right_lease {x : S} (h : rightS x = true) : rightB x.e x.s x.t = true ∧ x.me < 8 ∧ (x.c.size : Int) ≤ 500 := by
  have hr : rightB x.e x.s x.t = true := by
    cases h' : rightB x.e x.s x.t
    · simp [rightS, h'] at h
    · rfl
  unfold rightS at h
  rw [hr] at h
  split at h
  · cases h
  · split at h
    · rename_i h2; cases h2
    · split at h
      · cases h
      · exact ⟨hr, by omega, by omega⟩

theorem said_set {w : World} {B o : Nat} {b : Nat} {u v : Value} {m : Option M} (h : Said w B m v) (hb : b < B) : Said (w.setCell ⟨b, o, none⟩ u) B m v := by
  cases m with
  | none => exact h
  | some m =>
    obtain ⟨g, hv, hB, hlt, h0, h1, h2, h3, h4⟩ := h
    have ne : ∀ i, (w.setCell ⟨b, o, none⟩ u).cell? ⟨g, i, none⟩ = w.cell? ⟨g, i, none⟩ := fun i => World.cell?_setCell_other _ _ _ _ (by intro e; injection e; omega)
    exact ⟨g, hv, hB, by simpa using hlt, by rw [ne, h0], by rw [ne, h1], by rw [ne, h2], by rw [ne, h3], by rw [ne, h4]⟩
theorem said_mono {w : World} {B B' : Nat} {v : Value} {m : Option M} (h : Said w B m v) (hb : B' ≤ B) : Said w B' m v := by
  cases m with
  | none => exact h
  | some m =>
    obtain ⟨g, hv, hB, hr⟩ := h
    exact ⟨g, hv, Nat.le_trans hb hB, hr⟩
theorem said_below {w w' : World} {B : Nat} {v : Value} {m : Option M} (h : Said w B m v) (hb : Below w.heap.size w w') : Said w' B m v := by
  cases m with
  | none => exact h
  | some m =>
    obtain ⟨g, hv, hB, hlt, h0, h1, h2, h3, h4⟩ := h
    exact ⟨g, hv, hB, Nat.lt_of_lt_of_le hlt hb.size, stay hb hlt h0, stay hb hlt h1, stay hb hlt h2, stay hb hlt h3, stay hb hlt h4⟩

theorem hp_ok {x y : S} {m : M} {w w' : World} {o : Option M} {v : Value} (hh : hearH x m = (y, o, 0)) (hB : Below w.heap.size w w') (hs : Said w' w.heap.size o v) :
    HearPost x m w (.returned (.tuple #[.agg #[.int .u8 y.me, .int .i64 y.e, .int .i64 y.s, .int .u8 y.t, .string y.c, .bool y.k], v, .int .i64 0])) w' := by
  unfold HearPost
  rw [hh]
  exact ⟨v, y, rfl, hB, fun _ => ⟨rfl, hs⟩⟩
theorem hp_err {x z y : S} {m : M} {w w' : World} {o : Option M} {v : Value} {n : Int} (hh : hearH x m = (z, o, n)) (hn : n ≠ 0) (hB : Below w.heap.size w w') :
    HearPost x m w (.returned (.tuple #[.agg #[.int .u8 y.me, .int .i64 y.e, .int .i64 y.s, .int .u8 y.t, .string y.c, .bool y.k], v, .int .i64 n])) w' := by
  unfold HearPost
  rw [hh]
  exact ⟨v, y, rfl, hB, fun h => absurd h hn⟩

set_option maxHeartbeats 4000000 in
set_option maxRecDepth 100000 in
theorem hear_offer (me e s t src ep : Int) (c mc : ByteArray) (k : Bool) (w : World) : Calls Tryd.prog 49 #[.agg #[.int .u8 me, .int .i64 e, .int .i64 s, .int .u8 t, .string c, .bool k], .agg #[.int .i64 1, .int .u8 src, .int .u8 me, .int .i64 ep, .string mc]] w (HearPost ⟨me, e, s, t, c, k⟩ ⟨1, src, me, ep, mc⟩ w) := by
  have hmf : ∀ (fn : Fn) (first cap : Array Value) (w : World), (Instr.makeFunc fn first cap).run Tryd.prog w = .ok (.func fn first cap) w := fun _ _ _ _ => rfl
  by_cases h2 : e < ep
  · have hh : hearH ⟨me, e, s, t, c, k⟩ ⟨1, src, me, ep, mc⟩ = (⟨me, e, s, t, c, k⟩, some ⟨2, me, src, ep, noC⟩, 0) := by simp [hearH, h2]
    have HH := Lib.hid hh
    clear hh
    go_enter Tryd.func49, Tryd.ntmps49
    go_wp2_with fail
    go_region
    all_goals go_wp2_with fail
    all_goals (simp [bodyPost, results, Tryd.results49, go_sem, *])
    all_goals refine hp_ok HH.out ?_ ?_
    · repeat (first | (with_reducible exact Below.refl _ _) | (with_reducible assumption) | (with_reducible refine bw_alloc ?_) | (with_reducible refine bw_drew ?_) | (with_reducible refine bw_drewN ?_) | (with_reducible refine bw_set ?_ (by first | (simp; done) | (dsimp only; omega))) | (with_reducible refine bw_via (by assumption) ?_))
    · exact ⟨_, rfl, by omega, by simp, by simp [go_sem, noC]⟩
  · have hh : hearH ⟨me, e, s, t, c, k⟩ ⟨1, src, me, ep, mc⟩ = (⟨me, e, s, t, c, k⟩, none, 10) := by simp [hearH, h2]
    have HH := Lib.hid hh
    clear hh
    go_enter Tryd.func49, Tryd.ntmps49
    go_wp2_with fail
    simp [bodyPost, results, Tryd.results49, go_sem, *]
    refine hp_err (y := ⟨me, e, s, t, c, k⟩) HH.out (by decide) ?_
    repeat (first | (with_reducible exact Below.refl _ _) | (with_reducible assumption) | (with_reducible refine bw_alloc ?_) | (with_reducible refine bw_drew ?_) | (with_reducible refine bw_drewN ?_) | (with_reducible refine bw_set ?_ (by first | (simp; done) | (dsimp only; omega))) | (with_reducible refine bw_via (by assumption) ?_))

set_option maxHeartbeats 4000000 in
set_option maxRecDepth 100000 in
theorem hear_got (me e s t src ep : Int) (c mc : ByteArray) (k : Bool) (w : World) (hep : 1 ≤ ep ∧ ep ≤ 1048576) : Calls Tryd.prog 49 #[.agg #[.int .u8 me, .int .i64 e, .int .i64 s, .int .u8 t, .string c, .bool k], .agg #[.int .i64 4, .int .u8 src, .int .u8 me, .int .i64 ep, .string mc]] w (HearPost ⟨me, e, s, t, c, k⟩ ⟨4, src, me, ep, mc⟩ w) := by
  have hmf : ∀ (fn : Fn) (first cap : Array Value) (w : World), (Instr.makeFunc fn first cap).run Tryd.prog w = .ok (.func fn first cap) w := fun _ _ _ _ => rfl
  obtain ⟨hp1, hp2⟩ := hep
  cases hg : goneB k e s t src (ep - 1) with
  | true =>
    have hh : hearH ⟨me, e, s, t, c, k⟩ ⟨4, src, me, ep, mc⟩ = (⟨me, e, s, t, noC, false⟩, none, 0) := by
      simp [goneB] at hg; simp [hearH, hg]
    have HH := Lib.hid hh
    clear hh
    go_enter Tryd.func49, Tryd.ntmps49
    go_wp2_with fail
    refine (gone_any (ep - 1) _ _ k e s t src _ (by simp [go_sem]) (by simp [go_sem]) (by simp [go_sem]) (by simp [go_sem]) (by simp [go_sem])).mono ?_
    rw [hg]
    rintro r w1 ⟨rfl, rfl⟩
    go_wp2_with fail
    simp [bodyPost, results, Tryd.results49, go_sem, *]
    refine hp_ok HH.out ?_ rfl
    repeat (first | (with_reducible exact Below.refl _ _) | (with_reducible assumption) | (with_reducible refine bw_alloc ?_) | (with_reducible refine bw_drew ?_) | (with_reducible refine bw_drewN ?_) | (with_reducible refine bw_set ?_ (by first | (simp; done) | (dsimp only; omega))) | (with_reducible refine bw_via (by assumption) ?_))
  | false =>
    have hh : hearH ⟨me, e, s, t, c, k⟩ ⟨4, src, me, ep, mc⟩ = (⟨me, e, s, t, c, k⟩, none, 10) := by
      simp [goneB] at hg; simp [hearH]; intro a b c d; exact absurd d (hg a b c)
    have HH := Lib.hid hh
    clear hh
    go_enter Tryd.func49, Tryd.ntmps49
    go_wp2_with fail
    refine (gone_any (ep - 1) _ _ k e s t src _ (by simp [go_sem]) (by simp [go_sem]) (by simp [go_sem]) (by simp [go_sem]) (by simp [go_sem])).mono ?_
    rw [hg]
    rintro r w1 ⟨rfl, rfl⟩
    go_wp2_with fail
    simp [bodyPost, results, Tryd.results49, go_sem, *]
    refine hp_err (y := ⟨me, e, s, t, c, k⟩) HH.out (by decide) ?_
    repeat (first | (with_reducible exact Below.refl _ _) | (with_reducible assumption) | (with_reducible refine bw_alloc ?_) | (with_reducible refine bw_drew ?_) | (with_reducible refine bw_drewN ?_) | (with_reducible refine bw_set ?_ (by first | (simp; done) | (dsimp only; omega))) | (with_reducible refine bw_via (by assumption) ?_))

set_option maxHeartbeats 4000000 in
set_option maxRecDepth 100000 in
theorem hear_give (me e s t src ep : Int) (c mc : ByteArray) (k : Bool) (w : World) (hr : rightB e s t = true) (hep : 1 ≤ ep ∧ ep ≤ 1048576) : Calls Tryd.prog 49 #[.agg #[.int .u8 me, .int .i64 e, .int .i64 s, .int .u8 t, .string c, .bool k], .agg #[.int .i64 3, .int .u8 src, .int .u8 me, .int .i64 ep, .string mc]] w (HearPost ⟨me, e, s, t, c, k⟩ ⟨3, src, me, ep, mc⟩ w) := by
  have hmf : ∀ (fn : Fn) (first cap : Array Value) (w : World), (Instr.makeFunc fn first cap).run Tryd.prog w = .ok (.func fn first cap) w := fun _ _ _ _ => rfl
  by_cases h2 : e < ep
  · have hh : hearH ⟨me, e, s, t, c, k⟩ ⟨3, src, me, ep, mc⟩ = (⟨me, ep, 1, 0, mc, false⟩, some ⟨4, me, src, ep, noC⟩, 0) := by simp [hearH, h2]
    have ht : take e s t ep = (⟨ep, 1, 0⟩, 0) := by
      have h3 : epochB ep = true := by simp [epochB]; omega
      have h4 : speaksB e s t ep = false := by simp [speaksB]; intros; omega
      have h5 : ¬ ep ≤ e := by omega
      simp [take, hr, h3, h4, h5]
    have HH := Lib.hid hh
    clear hh
    go_enter Tryd.func49, Tryd.ntmps49
    go_wp2_with fail
    refine (take_any e s t ep _).mono ?_
    rw [ht]
    rintro r w1 ⟨rfl, hb1⟩
    obtain ⟨c_hb1, f_hb1, z_hb1⟩ := bcell hb1; have z0_hb1 := z_hb1 (w.heap.size) (by first | omega | (simp only [World.size_alloc, World.size_setCell, World.size_drew, World.heap_drewN] <;> omega)); have z1_hb1 := z_hb1 (w.heap.size + 1) (by first | omega | (simp only [World.size_alloc, World.size_setCell, World.size_drew, World.heap_drewN] <;> omega)); have z2_hb1 := z_hb1 (w.heap.size + 2) (by first | omega | (simp only [World.size_alloc, World.size_setCell, World.size_drew, World.heap_drewN] <;> omega)); have z3_hb1 := z_hb1 (w.heap.size + 3) (by first | omega | (simp only [World.size_alloc, World.size_setCell, World.size_drew, World.heap_drewN] <;> omega)); clear z_hb1
    have u0 : w1.cell? ⟨w.heap.size, 0, none⟩ = some (.int .u8 me) := (by simp [go_sem, c_hb1]); have u1 : w1.cell? ⟨w.heap.size, 1, none⟩ = some (.int .i64 e) := (by simp [go_sem, c_hb1]); have u2 : w1.cell? ⟨w.heap.size, 2, none⟩ = some (.int .i64 s) := (by simp [go_sem, c_hb1]); have u3 : w1.cell? ⟨w.heap.size, 3, none⟩ = some (.int .u8 t) := (by simp [go_sem, c_hb1]); have u4 : w1.cell? ⟨w.heap.size, 4, none⟩ = some (.string c) := (by simp [go_sem, c_hb1]); have u5 : w1.cell? ⟨w.heap.size, 5, none⟩ = some (.bool k) := (by simp [go_sem, c_hb1])
    have v0 : w1.cell? ⟨w.heap.size + 1 + 1, 0, none⟩ = some (.int .u8 0) := (by simp [go_sem, c_hb1]); have v1 : w1.cell? ⟨w.heap.size + 1 + 1, 1, none⟩ = some (.int .i64 0) := (by simp [go_sem, c_hb1]); have v2 : w1.cell? ⟨w.heap.size + 1 + 1, 2, none⟩ = some (.int .i64 0) := (by simp [go_sem, c_hb1]); have v3 : w1.cell? ⟨w.heap.size + 1 + 1, 3, none⟩ = some (.int .u8 0) := (by simp [go_sem, c_hb1]); have v4 : w1.cell? ⟨w.heap.size + 1 + 1, 4, none⟩ = some (.string ⟨#[]⟩) := (by simp [go_sem, c_hb1]); have v5 : w1.cell? ⟨w.heap.size + 1 + 1, 5, none⟩ = some (.bool false) := (by simp [go_sem, c_hb1])
    have x0 : w1.cell? ⟨w.heap.size + 1 + 1 + 1, 0, none⟩ = some (.int .i64 4) := (by simp [go_sem, c_hb1]); have x1 : w1.cell? ⟨w.heap.size + 1 + 1 + 1, 1, none⟩ = some (.int .u8 me) := (by simp [go_sem, c_hb1]); have x2 : w1.cell? ⟨w.heap.size + 1 + 1 + 1, 2, none⟩ = some (.int .u8 src) := (by simp [go_sem, c_hb1]); have x3 : w1.cell? ⟨w.heap.size + 1 + 1 + 1, 3, none⟩ = some (.int .i64 ep) := (by simp [go_sem, c_hb1]); have x4 : w1.cell? ⟨w.heap.size + 1 + 1 + 1, 4, none⟩ = some (.string ⟨#[]⟩) := (by simp [go_sem, c_hb1])
    have gf : w1.frozen? ⟨w.heap.size, 0, none⟩ = false := by simp [go_sem, f_hb1]
    have f1 : ∀ o, w1.frozen? ⟨w.heap.size, o, none⟩ = false := by intro o; simp [go_sem, f_hb1]
    have f2 : ∀ o, w1.frozen? ⟨w.heap.size + 1 + 1, o, none⟩ = false := by intro o; simp [go_sem, f_hb1]
    go_wp2_with fail
    go_region
    all_goals go_wp2_with fail
    all_goals (simp [bodyPost, results, Tryd.results49, go_sem, *])
    all_goals refine hp_ok HH.out ?_ ?_
    · repeat (first | (with_reducible exact Below.refl _ _) | (with_reducible assumption) | (with_reducible refine bw_alloc ?_) | (with_reducible refine bw_drew ?_) | (with_reducible refine bw_drewN ?_) | (with_reducible refine bw_set ?_ (by first | (simp; done) | (dsimp only; omega))) | (with_reducible refine bw_via (by assumption) ?_))
    · exact ⟨_, rfl, by omega, by simp, by simp [go_sem, noC, *]⟩
  · have hh : hearH ⟨me, e, s, t, c, k⟩ ⟨3, src, me, ep, mc⟩ = (⟨me, e, s, t, c, k⟩, some ⟨4, me, src, ep, noC⟩, 0) := by simp [hearH, h2]
    have HH := Lib.hid hh
    clear hh
    go_enter Tryd.func49, Tryd.ntmps49
    go_wp2_with fail
    go_region
    all_goals go_wp2_with fail
    all_goals (simp [bodyPost, results, Tryd.results49, go_sem, *])
    all_goals refine hp_ok HH.out ?_ ?_
    · repeat (first | (with_reducible exact Below.refl _ _) | (with_reducible assumption) | (with_reducible refine bw_alloc ?_) | (with_reducible refine bw_drew ?_) | (with_reducible refine bw_drewN ?_) | (with_reducible refine bw_set ?_ (by first | (simp; done) | (dsimp only; omega))) | (with_reducible refine bw_via (by assumption) ?_))
    · exact ⟨_, rfl, by omega, by simp, by simp [go_sem, noC]⟩

set_option maxHeartbeats 4000000 in
set_option maxRecDepth 100000 in
theorem hear_want_kept (me e s t src ep : Int) (c mc : ByteArray) (k : Bool) (w : World) (hx : rightS ⟨me, e, s, t, c, k⟩ = true) (hc : c.size ≤ maxLen) (hg : goneB k e s t src ep = true) : Calls Tryd.prog 49 #[.agg #[.int .u8 me, .int .i64 e, .int .i64 s, .int .u8 t, .string c, .bool k], .agg #[.int .i64 2, .int .u8 src, .int .u8 me, .int .i64 ep, .string mc]] w (HearPost ⟨me, e, s, t, c, k⟩ ⟨2, src, me, ep, mc⟩ w) := by
    have hmf : ∀ (fn : Fn) (first cap : Array Value) (w : World), (Instr.makeFunc fn first cap).run Tryd.prog w = .ok (.func fn first cap) w := fun _ _ _ _ => rfl
    have hh : hearH ⟨me, e, s, t, c, k⟩ ⟨2, src, me, ep, mc⟩ = (⟨me, e, s, t, c, k⟩, againH ⟨me, e, s, t, c, k⟩, 0) := by
      simp [goneB] at hg; simp [hearH, hg]
    have HH := Lib.hid hh
    clear hh
    go_enter Tryd.func49, Tryd.ntmps49
    go_wp2_with fail
    refine (gone_any ep _ _ k e s t src _ (by simp [go_sem]) (by simp [go_sem]) (by simp [go_sem]) (by simp [go_sem]) (by simp [go_sem])).mono ?_
    rw [hg]
    rintro r w1 ⟨rfl, rfl⟩
    go_wp2_with fail
    generalize hW : World.alloc _ _ = W
    have s0 : W.cell? ⟨w.heap.size, 0, none⟩ = some (.int .u8 me) := by subst hW; simp [go_sem, *]
    have s1 : W.cell? ⟨w.heap.size, 1, none⟩ = some (.int .i64 e) := by subst hW; simp [go_sem, *]
    have s2 : W.cell? ⟨w.heap.size, 2, none⟩ = some (.int .i64 s) := by subst hW; simp [go_sem, *]
    have s3 : W.cell? ⟨w.heap.size, 3, none⟩ = some (.int .u8 t) := by subst hW; simp [go_sem, *]
    have s4 : W.cell? ⟨w.heap.size, 4, none⟩ = some (.string c) := by subst hW; simp [go_sem, *]
    have s5 : W.cell? ⟨w.heap.size, 5, none⟩ = some (.bool k) := by subst hW; simp [go_sem, *]
    have q0 : W.cell? ⟨w.heap.size + 1 + 1, 0, none⟩ = some (.int .u8 0) := by subst hW; simp [go_sem, *]
    have q1 : W.cell? ⟨w.heap.size + 1 + 1, 1, none⟩ = some (.int .i64 0) := by subst hW; simp [go_sem, *]
    have q2 : W.cell? ⟨w.heap.size + 1 + 1, 2, none⟩ = some (.int .i64 0) := by subst hW; simp [go_sem, *]
    have q3 : W.cell? ⟨w.heap.size + 1 + 1, 3, none⟩ = some (.int .u8 0) := by subst hW; simp [go_sem, *]
    have q4 : W.cell? ⟨w.heap.size + 1 + 1, 4, none⟩ = some (.string ⟨#[]⟩) := by subst hW; simp [go_sem, *]
    have q5 : W.cell? ⟨w.heap.size + 1 + 1, 5, none⟩ = some (.bool false) := by subst hW; simp [go_sem, *]
    have qf : ∀ o, W.frozen? ⟨w.heap.size + 1 + 1, o, none⟩ = false := by intro o; subst hW; simp [go_sem, *]
    have n0 : w.heap.size < W.heap.size := by subst hW; simp; try omega
    have n2 : w.heap.size + 1 + 1 < W.heap.size := by subst hW; simp; try omega
    have hBW : Below w.heap.size w W := by subst hW; repeat (first | (with_reducible exact Below.refl _ _) | (with_reducible assumption) | (with_reducible refine bw_alloc ?_) | (with_reducible refine bw_drew ?_) | (with_reducible refine bw_drewN ?_) | (with_reducible refine bw_set ?_ (by first | (simp; done) | (dsimp only; omega))) | (with_reducible refine bw_via (by assumption) ?_))
    clear hW
    refine start_ (n := 6) (S := fun w' => Below W.heap.size W w' ∧ ∀ b o, b < W.heap.size → w'.cell? ⟨b, o, none⟩ = W.cell? ⟨b, o, none⟩) (ds := [3]) #[false, false, false, false, false, false] (by kernel_rfl) rfl rfl ⟨(still_drew W).1, (still_drew W).2⟩ (fun hHeld => ?_)
    refine take_ (i := 0) (N := some 44) (v := ?_) (a' := ?_) #[true, false, false, false, false, false] rfl rfl (by kernel_rfl) (fun _ _ _ h => h) (Or.inl ⟨by rfl, ?_⟩) hHeld ?_ ?_
    rotate_left
    · rintro w' ⟨s0, s1⟩
      go_simp
      with_reducible rfl
    rotate_left
    · simp only [Act.put, List.setIfInBounds_toArray, List.set_cons_zero, List.set_cons_succ, i64_w, i32_w]
      rfl
    refine take_ (i := 1) (N := some 45) (v := ?_) (a' := ?_) #[true, true, false, false, false, false] rfl rfl (by kernel_rfl) (fun _ _ _ h => h) (Or.inl ⟨by rfl, ?_⟩) hHeld ?_ ?_
    rotate_left
    · rintro w' ⟨s0, s1⟩
      go_simp
      with_reducible rfl
    rotate_left
    · simp only [Act.put, List.setIfInBounds_toArray, List.set_cons_zero, List.set_cons_succ, i64_w, i32_w]
      rfl
    refine one_ (i := 2) (N := some 46) #[true, true, true, false, false, false] rfl rfl (by kernel_rfl) (by decide) (fun K hK => ?_)
    refine goes_ Tryd.func76 (by kernel_rfl) rfl #[.agg #[.int .u8 me, .int .i64 e, .int .i64 s, .int .u8 t, .string c, .bool k]] (by rfl) rfl rfl (by simp only [List.map_toArray, List.map_cons, List.map_nil]; rfl) ?_
    refine (again_any ⟨me, e, s, t, c, k⟩ _ hc).mono ?_
    rintro r w5 ⟨v, rfl, hsaid, hb⟩
    refine ⟨_, rfl, ?_⟩
    have hfr : ∀ o, w5.frozen? ⟨w.heap.size + 1 + 1, o, none⟩ = false := fun o => (hb.frozen (p := ⟨_, o, none⟩) n2).trans (qf o)
    have g0 := stay hb n2 q0
    have g1 := stay hb n2 q1
    have g2 := stay hb n2 q2
    have g3 := stay hb n2 q3
    have g4 := stay hb n2 q4
    have g5 := stay hb n2 q5
    have z5 : w.heap.size + 1 + 1 < w5.heap.size := Nat.lt_of_lt_of_le n2 hb.size
    refine hK.out _ _ ⟨(still_keep hHeld hb).1, (still_keep hHeld hb).2⟩ (fun hHeld => ?_)
    clear hK K
    refine norm_ (a' := ?_) ?_ ?_
    rotate_left
    · show Act.put _ (some 46) _ = _
      simp only [Act.put, List.setIfInBounds_toArray, List.set_cons_zero, List.set_cons_succ, i64_w, i32_w]
      rfl
    refine last_ (i := 3) (N := none) #[true, true, true, true, false, false] rfl rfl (by kernel_rfl) (by decide) (fun K hK => ?_)
    refine skip_ (w1 := ?_) (by rfl) rfl ?_ ?_
    rotate_left
    · go_simp
      rfl
    refine hK.out _ _ ?_
    clear hK K
    refine pure_ (i := 4) (N := some 5) (v := ?_) (a' := ?_) #[true, true, true, true, true, false] rfl rfl (by kernel_rfl) (fun _ _ _ h => h) (Or.inl ⟨by rfl, ?_⟩) ?_ ?_
    rotate_left
    · intro w'
      go_simp
      with_reducible rfl
    rotate_left
    · simp only [Act.put, List.setIfInBounds_toArray, List.set_cons_zero, List.set_cons_succ, i64_w, i32_w]
      rfl
    refine pure_ (i := 5) (N := some 6) (v := ?_) (a' := ?_) #[true, true, true, true, true, true] rfl rfl (by kernel_rfl) (fun _ _ _ h => h) (Or.inl ⟨by rfl, ?_⟩) ?_ ?_
    rotate_left
    · intro w'
      go_simp
      with_reducible rfl
    rotate_left
    · simp only [Act.put, List.setIfInBounds_toArray, List.set_cons_zero, List.set_cons_succ, i64_w, i32_w]
      rfl
    refine done_ (by kernel_rfl) ?_

    go_wp2_with fail
    simp [bodyPost, results, Tryd.results49, go_sem, *]
    refine hp_ok HH.out ?_ ?_
    · repeat (first | (with_reducible exact Below.refl _ _) | (with_reducible assumption) | (with_reducible refine bw_alloc ?_) | (with_reducible refine bw_drew ?_) | (with_reducible refine bw_drewN ?_) | (with_reducible refine bw_set ?_ (by first | (simp; done) | (dsimp only; omega))) | (with_reducible refine bw_via (by assumption) ?_))
    · exact said_mono (said_set (said_set (said_set (said_set (said_set (said_set hsaid n2) n2) n2) n2) n2) n2) hBW.size

set_option maxHeartbeats 4000000 in
set_option maxRecDepth 100000 in
theorem hear_want_old (me e s t src ep : Int) (c mc : ByteArray) (k : Bool) (w : World) (hg : goneB k e s t src ep = false) (hsp : speaksB e s t ep = false) : Calls Tryd.prog 49 #[.agg #[.int .u8 me, .int .i64 e, .int .i64 s, .int .u8 t, .string c, .bool k], .agg #[.int .i64 2, .int .u8 src, .int .u8 me, .int .i64 ep, .string mc]] w (HearPost ⟨me, e, s, t, c, k⟩ ⟨2, src, me, ep, mc⟩ w) := by
    have hmf : ∀ (fn : Fn) (first cap : Array Value) (w : World), (Instr.makeFunc fn first cap).run Tryd.prog w = .ok (.func fn first cap) w := fun _ _ _ _ => rfl
    have hh : hearH ⟨me, e, s, t, c, k⟩ ⟨2, src, me, ep, mc⟩ = (⟨me, e, s, t, c, k⟩, none, 10) := by
      simp [goneB] at hg; simp [hearH, hsp]; intro a b c d; exact absurd d (hg a b c)
    have HH := Lib.hid hh
    clear hh
    go_enter Tryd.func49, Tryd.ntmps49
    go_wp2_with fail
    refine (gone_any ep _ _ k e s t src _ (by simp [go_sem]) (by simp [go_sem]) (by simp [go_sem]) (by simp [go_sem]) (by simp [go_sem])).mono ?_
    rw [hg]
    rintro r w1 ⟨rfl, rfl⟩
    go_wp2_with fail
    refine (speaks_any _ _ _ _ _).mono ?_
    rw [hsp]
    rintro r w1 ⟨rfl, hb1⟩
    obtain ⟨c_hb1, f_hb1, z_hb1⟩ := bcell hb1; have z0_hb1 := z_hb1 (w.heap.size) (by first | omega | (simp only [World.size_alloc, World.size_setCell, World.size_drew, World.heap_drewN] <;> omega)); have z1_hb1 := z_hb1 (w.heap.size + 1) (by first | omega | (simp only [World.size_alloc, World.size_setCell, World.size_drew, World.heap_drewN] <;> omega)); have z2_hb1 := z_hb1 (w.heap.size + 2) (by first | omega | (simp only [World.size_alloc, World.size_setCell, World.size_drew, World.heap_drewN] <;> omega)); have z3_hb1 := z_hb1 (w.heap.size + 3) (by first | omega | (simp only [World.size_alloc, World.size_setCell, World.size_drew, World.heap_drewN] <;> omega)); clear z_hb1
    have u0 : w1.cell? ⟨w.heap.size, 0, none⟩ = some (.int .u8 me) := (by simp [go_sem, c_hb1]); have u1 : w1.cell? ⟨w.heap.size, 1, none⟩ = some (.int .i64 e) := (by simp [go_sem, c_hb1]); have u2 : w1.cell? ⟨w.heap.size, 2, none⟩ = some (.int .i64 s) := (by simp [go_sem, c_hb1]); have u3 : w1.cell? ⟨w.heap.size, 3, none⟩ = some (.int .u8 t) := (by simp [go_sem, c_hb1]); have u4 : w1.cell? ⟨w.heap.size, 4, none⟩ = some (.string c) := (by simp [go_sem, c_hb1]); have u5 : w1.cell? ⟨w.heap.size, 5, none⟩ = some (.bool k) := (by simp [go_sem, c_hb1])
    have v0 : w1.cell? ⟨w.heap.size + 1 + 1, 0, none⟩ = some (.int .u8 0) := (by simp [go_sem, c_hb1]); have v1 : w1.cell? ⟨w.heap.size + 1 + 1, 1, none⟩ = some (.int .i64 0) := (by simp [go_sem, c_hb1]); have v2 : w1.cell? ⟨w.heap.size + 1 + 1, 2, none⟩ = some (.int .i64 0) := (by simp [go_sem, c_hb1]); have v3 : w1.cell? ⟨w.heap.size + 1 + 1, 3, none⟩ = some (.int .u8 0) := (by simp [go_sem, c_hb1]); have v4 : w1.cell? ⟨w.heap.size + 1 + 1, 4, none⟩ = some (.string ⟨#[]⟩) := (by simp [go_sem, c_hb1]); have v5 : w1.cell? ⟨w.heap.size + 1 + 1, 5, none⟩ = some (.bool false) := (by simp [go_sem, c_hb1])
    have f2 : ∀ o, w1.frozen? ⟨w.heap.size + 1 + 1, o, none⟩ = false := by intro o; simp [go_sem, f_hb1]
    go_wp2_with fail
    simp [bodyPost, results, Tryd.results49, go_sem, *]
    refine hp_err (y := ⟨me, e, s, t, c, k⟩) HH.out (by decide) ?_
    repeat (first | (with_reducible exact Below.refl _ _) | (with_reducible assumption) | (with_reducible refine bw_alloc ?_) | (with_reducible refine bw_drew ?_) | (with_reducible refine bw_drewN ?_) | (with_reducible refine bw_set ?_ (by first | (simp; done) | (dsimp only; omega))) | (with_reducible refine bw_via (by assumption) ?_))

set_option maxHeartbeats 8000000 in
set_option maxRecDepth 100000 in
theorem hear_want_new (me e s t src ep : Int) (c mc : ByteArray) (k : Bool) (w : World) (hx : rightS ⟨me, e, s, t, c, k⟩ = true) (hc : c.size ≤ maxLen) (hsrc : src < 8) (hne : src ≠ me) (hg : goneB k e s t src ep = false) (hsp : speaksB e s t ep = true) : Calls Tryd.prog 49 #[.agg #[.int .u8 me, .int .i64 e, .int .i64 s, .int .u8 t, .string c, .bool k], .agg #[.int .i64 2, .int .u8 src, .int .u8 me, .int .i64 ep, .string mc]] w (HearPost ⟨me, e, s, t, c, k⟩ ⟨2, src, me, ep, mc⟩ w) := by
    have hmf : ∀ (fn : Fn) (first cap : Array Value) (w : World), (Instr.makeFunc fn first cap).run Tryd.prog w = .ok (.func fn first cap) w := fun _ _ _ _ => rfl
    have hsp2 := hsp
    simp [speaksB] at hsp2
    obtain ⟨⟨hr, rfl⟩, rfl⟩ := hsp2
    obtain ⟨hl1, hl2, hl3⟩ := right_lease hx
    obtain ⟨he1, he2⟩ := right_le hx
    dsimp only at hl2 hl3 he1 he2
    have hb : 1 ≤ e ∧ e ≤ 1048576 := by
      unfold rightB epochB at hr; simp at hr; omega
    by_cases hmax : e = 1048576
    · have hgv : give e 1 t src = (⟨e, 1, t⟩, 3) := by
        unfold give; rw [hr, if_neg (by simp), if_neg (by omega), if_pos rfl, if_pos hmax]
      have hh : hearH ⟨me, e, 1, t, c, k⟩ ⟨2, src, me, e, mc⟩ = (⟨me, e, 1, t, c, k⟩, none, 3) := by
        unfold hearH; simp [hsp, hmax]
        rw [hmax] at hsp; simp [hsp]
      have HH := Lib.hid hh
      have Hmax := Lib.hid hmax
      clear hh hmax
      go_enter Tryd.func49, Tryd.ntmps49
      go_wp2_with fail
      refine (gone_any e _ _ k e 1 t src _ (by simp [go_sem]) (by simp [go_sem]) (by simp [go_sem]) (by simp [go_sem]) (by simp [go_sem])).mono ?_
      rw [hg]
      rintro r w1 ⟨rfl, rfl⟩
      go_wp2_with fail
      refine (speaks_any _ _ _ _ _).mono ?_
      rw [hsp]
      rintro r w1 ⟨rfl, hb1⟩
      obtain ⟨c_hb1, f_hb1, z_hb1⟩ := bcell hb1; have z0_hb1 := z_hb1 (w.heap.size) (by first | omega | (simp only [World.size_alloc, World.size_setCell, World.size_drew, World.heap_drewN] <;> omega)); have z1_hb1 := z_hb1 (w.heap.size + 1) (by first | omega | (simp only [World.size_alloc, World.size_setCell, World.size_drew, World.heap_drewN] <;> omega)); have z2_hb1 := z_hb1 (w.heap.size + 2) (by first | omega | (simp only [World.size_alloc, World.size_setCell, World.size_drew, World.heap_drewN] <;> omega)); have z3_hb1 := z_hb1 (w.heap.size + 3) (by first | omega | (simp only [World.size_alloc, World.size_setCell, World.size_drew, World.heap_drewN] <;> omega)); clear z_hb1
      have u0 : w1.cell? ⟨w.heap.size, 0, none⟩ = some (.int .u8 me) := (by simp [go_sem, c_hb1]); have u1 : w1.cell? ⟨w.heap.size, 1, none⟩ = some (.int .i64 e) := (by simp [go_sem, c_hb1]); have u2 : w1.cell? ⟨w.heap.size, 2, none⟩ = some (.int .i64 1) := (by simp [go_sem, c_hb1]); have u3 : w1.cell? ⟨w.heap.size, 3, none⟩ = some (.int .u8 t) := (by simp [go_sem, c_hb1]); have u4 : w1.cell? ⟨w.heap.size, 4, none⟩ = some (.string c) := (by simp [go_sem, c_hb1]); have u5 : w1.cell? ⟨w.heap.size, 5, none⟩ = some (.bool k) := (by simp [go_sem, c_hb1])
      have m0 : w1.cell? ⟨w.heap.size + 1, 0, none⟩ = some (.int .i64 2) := (by simp [go_sem, c_hb1]); have m1 : w1.cell? ⟨w.heap.size + 1, 1, none⟩ = some (.int .u8 src) := (by simp [go_sem, c_hb1]); have m2 : w1.cell? ⟨w.heap.size + 1, 2, none⟩ = some (.int .u8 me) := (by simp [go_sem, c_hb1]); have m3 : w1.cell? ⟨w.heap.size + 1, 3, none⟩ = some (.int .i64 e) := (by simp [go_sem, c_hb1]); have m4 : w1.cell? ⟨w.heap.size + 1, 4, none⟩ = some (.string mc) := (by simp [go_sem, c_hb1])
      have v0 : w1.cell? ⟨w.heap.size + 1 + 1, 0, none⟩ = some (.int .u8 0) := (by simp [go_sem, c_hb1]); have v1 : w1.cell? ⟨w.heap.size + 1 + 1, 1, none⟩ = some (.int .i64 0) := (by simp [go_sem, c_hb1]); have v2 : w1.cell? ⟨w.heap.size + 1 + 1, 2, none⟩ = some (.int .i64 0) := (by simp [go_sem, c_hb1]); have v3 : w1.cell? ⟨w.heap.size + 1 + 1, 3, none⟩ = some (.int .u8 0) := (by simp [go_sem, c_hb1]); have v4 : w1.cell? ⟨w.heap.size + 1 + 1, 4, none⟩ = some (.string ⟨#[]⟩) := (by simp [go_sem, c_hb1]); have v5 : w1.cell? ⟨w.heap.size + 1 + 1, 5, none⟩ = some (.bool false) := (by simp [go_sem, c_hb1])
      have f1 : ∀ o, w1.frozen? ⟨w.heap.size, o, none⟩ = false := by intro o; simp [go_sem, f_hb1]
      have f2 : ∀ o, w1.frozen? ⟨w.heap.size + 1 + 1, o, none⟩ = false := by intro o; simp [go_sem, f_hb1]
      clear c_hb1 f_hb1
      go_wp2_with fail
      refine (give_any e 1 t src _).mono ?_
      rw [hgv]
      rintro r w2 ⟨rfl, hb2⟩
      have f3 : ∀ o, w2.frozen? ⟨w.heap.size, o, none⟩ = false := fun o => stayf hb2 z0_hb1 (f1 o)
      have f4 : ∀ o, w2.frozen? ⟨w.heap.size + 1 + 1, o, none⟩ = false := fun o => stayf hb2 z2_hb1 (f2 o)
      have u0 := stay hb2 z0_hb1 u0
      have u1 := stay hb2 z0_hb1 u1
      have u2 := stay hb2 z0_hb1 u2
      have u3 := stay hb2 z0_hb1 u3
      have u4 := stay hb2 z0_hb1 u4
      have u5 := stay hb2 z0_hb1 u5
      have v0 := stay hb2 z2_hb1 v0
      have v1 := stay hb2 z2_hb1 v1
      have v2 := stay hb2 z2_hb1 v2
      have v3 := stay hb2 z2_hb1 v3
      have v4 := stay hb2 z2_hb1 v4
      have v5 := stay hb2 z2_hb1 v5
      go_wp2_with fail
      generalize hW : World.setCell _ _ _ = W
      have s0 : W.cell? ⟨w.heap.size, 0, none⟩ = some (.int .u8 me) := (by subst hW; simp [go_sem, u0, u1, u2, u3, u4, u5]); have s1 : W.cell? ⟨w.heap.size, 1, none⟩ = some (.int .i64 e) := (by subst hW; simp [go_sem, u0, u1, u2, u3, u4, u5]); have s2 : W.cell? ⟨w.heap.size, 2, none⟩ = some (.int .i64 1) := (by subst hW; simp [go_sem, u0, u1, u2, u3, u4, u5]); have s3 : W.cell? ⟨w.heap.size, 3, none⟩ = some (.int .u8 t) := (by subst hW; simp [go_sem, u0, u1, u2, u3, u4, u5]); have s4 : W.cell? ⟨w.heap.size, 4, none⟩ = some (.string c) := (by subst hW; simp [go_sem, u0, u1, u2, u3, u4, u5]); have s5 : W.cell? ⟨w.heap.size, 5, none⟩ = some (.bool true) := (by subst hW; simp [go_sem, u0, u1, u2, u3, u4, u5])
      have q0 : W.cell? ⟨w.heap.size + 1 + 1, 0, none⟩ = some (.int .u8 0) := (by subst hW; simp [go_sem, v0, v1, v2, v3, v4, v5]); have q1 : W.cell? ⟨w.heap.size + 1 + 1, 1, none⟩ = some (.int .i64 0) := (by subst hW; simp [go_sem, v0, v1, v2, v3, v4, v5]); have q2 : W.cell? ⟨w.heap.size + 1 + 1, 2, none⟩ = some (.int .i64 0) := (by subst hW; simp [go_sem, v0, v1, v2, v3, v4, v5]); have q3 : W.cell? ⟨w.heap.size + 1 + 1, 3, none⟩ = some (.int .u8 0) := (by subst hW; simp [go_sem, v0, v1, v2, v3, v4, v5]); have q4 : W.cell? ⟨w.heap.size + 1 + 1, 4, none⟩ = some (.string ⟨#[]⟩) := (by subst hW; simp [go_sem, v0, v1, v2, v3, v4, v5]); have q5 : W.cell? ⟨w.heap.size + 1 + 1, 5, none⟩ = some (.bool false) := (by subst hW; simp [go_sem, v0, v1, v2, v3, v4, v5])
      have qf : ∀ o, W.frozen? ⟨w.heap.size + 1 + 1, o, none⟩ = false := by intro o; subst hW; simp [go_sem, f4]
      have n0 : w.heap.size < W.heap.size := by subst hW; simp only [World.size_setCell]; exact Nat.lt_of_lt_of_le z0_hb1 hb2.size
      have n2 : w.heap.size + 1 + 1 < W.heap.size := by subst hW; simp only [World.size_setCell]; exact Nat.lt_of_lt_of_le z2_hb1 hb2.size
      have hBW : Below w.heap.size w W := by subst hW; repeat (first | (with_reducible exact Below.refl _ _) | (with_reducible assumption) | (with_reducible refine bw_alloc ?_) | (with_reducible refine bw_drew ?_) | (with_reducible refine bw_drewN ?_) | (with_reducible refine bw_set ?_ (by first | (simp; done) | (dsimp only; omega))) | (with_reducible refine bw_via (by assumption) ?_))
      clear hW f1 f2 f3 f4
      refine start_ (n := 7) (S := fun w' => Below W.heap.size W w' ∧ ∀ b o, b < W.heap.size → w'.cell? ⟨b, o, none⟩ = W.cell? ⟨b, o, none⟩) (ds := [4]) #[false, false, false, false, false, false, false] (by kernel_rfl) rfl rfl ⟨(still_drew W).1, (still_drew W).2⟩ (fun hHeld => ?_)
      refine pure_ (i := 3) (N := some 71) (v := ?_) (a' := ?_) #[false, false, false, true, false, false, false] rfl rfl (by kernel_rfl) (fun _ _ _ h => h) (Or.inl ⟨by rfl, ?_⟩) ?_ ?_
      rotate_left
      · intro w'
        go_simp
        with_reducible rfl
      rotate_left
      · simp only [Act.put, List.setIfInBounds_toArray, List.set_cons_zero, List.set_cons_succ, i64_w, i32_w]
        rfl
      refine take_ (i := 0) (N := some 68) (v := ?_) (a' := ?_) #[true, false, false, true, false, false, false] rfl rfl (by kernel_rfl) (fun _ _ _ h => h) (Or.inl ⟨by rfl, ?_⟩) hHeld ?_ ?_
      rotate_left
      · rintro w' ⟨s0, s1⟩
        go_simp
        with_reducible rfl
      rotate_left
      · simp only [Act.put, List.setIfInBounds_toArray, List.set_cons_zero, List.set_cons_succ, i64_w, i32_w]
        rfl
      refine take_ (i := 1) (N := some 69) (v := ?_) (a' := ?_) #[true, true, false, true, false, false, false] rfl rfl (by kernel_rfl) (fun _ _ _ h => h) (Or.inl ⟨by rfl, ?_⟩) hHeld ?_ ?_
      rotate_left
      · rintro w' ⟨s0, s1⟩
        go_simp
        with_reducible rfl
      rotate_left
      · simp only [Act.put, List.setIfInBounds_toArray, List.set_cons_zero, List.set_cons_succ, i64_w, i32_w]
        rfl
      refine one_ (i := 2) (N := some 70) #[true, true, true, true, false, false, false] rfl rfl (by kernel_rfl) (by decide) (fun K hK => ?_)
      refine goes_ Tryd.func76 (by kernel_rfl) rfl #[.agg #[.int .u8 me, .int .i64 e, .int .i64 1, .int .u8 t, .string c, .bool true]] (by rfl) rfl rfl (by simp only [List.map_toArray, List.map_cons, List.map_nil]; rfl) ?_
      refine (again_any ⟨me, e, 1, t, c, true⟩ _ hc).mono ?_
      rintro r w5 ⟨v, rfl, hsaid, hb⟩
      refine ⟨_, rfl, ?_⟩
      have hfr : ∀ o, w5.frozen? ⟨w.heap.size + 1 + 1, o, none⟩ = false := fun o => (hb.frozen (p := ⟨_, o, none⟩) n2).trans (qf o)
      have g0 := stay hb n2 q0
      have g1 := stay hb n2 q1
      have g2 := stay hb n2 q2
      have g3 := stay hb n2 q3
      have g4 := stay hb n2 q4
      have g5 := stay hb n2 q5
      have z5 : w.heap.size + 1 + 1 < w5.heap.size := Nat.lt_of_lt_of_le n2 hb.size
      refine hK.out _ _ ⟨(still_keep hHeld hb).1, (still_keep hHeld hb).2⟩ (fun hHeld => ?_)
      clear hK K
      refine norm_ (a' := ?_) ?_ ?_
      rotate_left
      · show Act.put _ (some 70) _ = _
        simp only [Act.put, List.setIfInBounds_toArray, List.set_cons_zero, List.set_cons_succ, i64_w, i32_w]
        rfl
      refine last_ (i := 4) (N := none) #[true, true, true, true, true, false, false] rfl rfl (by kernel_rfl) (by decide) (fun K hK => ?_)
      refine skip_ (w1 := ?_) (by rfl) rfl ?_ ?_
      rotate_left
      · go_simp
        rfl
      refine hK.out _ _ ?_
      clear hK K
      refine pure_ (i := 5) (N := some 5) (v := ?_) (a' := ?_) #[true, true, true, true, true, true, false] rfl rfl (by kernel_rfl) (fun _ _ _ h => h) (Or.inl ⟨by rfl, ?_⟩) ?_ ?_
      rotate_left
      · intro w'
        go_simp
        with_reducible rfl
      rotate_left
      · simp only [Act.put, List.setIfInBounds_toArray, List.set_cons_zero, List.set_cons_succ, i64_w, i32_w]
        rfl
      refine pure_ (i := 6) (N := some 6) (v := ?_) (a' := ?_) #[true, true, true, true, true, true, true] rfl rfl (by kernel_rfl) (fun _ _ _ h => h) (Or.inl ⟨by rfl, ?_⟩) ?_ ?_
      rotate_left
      · intro w'
        go_simp
        with_reducible rfl
      rotate_left
      · simp only [Act.put, List.setIfInBounds_toArray, List.set_cons_zero, List.set_cons_succ, i64_w, i32_w]
        rfl
      refine done_ (by kernel_rfl) ?_

      go_wp2_with fail
      simp [bodyPost, results, Tryd.results49, go_sem, *]
      refine hp_err (y := ⟨me, e, 1, t, c, true⟩) HH.out (by decide) ?_
      repeat (first | (with_reducible exact Below.refl _ _) | (with_reducible assumption) | (with_reducible refine bw_alloc ?_) | (with_reducible refine bw_drew ?_) | (with_reducible refine bw_drewN ?_) | (with_reducible refine bw_set ?_ (by first | (simp; done) | (dsimp only; omega))) | (with_reducible refine bw_via (by assumption) ?_))
    · have hgv : give e 1 t src = (⟨e, 2, src⟩, 0) := by
        unfold give; rw [hr, if_neg (by simp), if_neg (by omega), if_pos rfl, if_neg hmax]
      have hr2 : rightB e 2 src = true := by simp [rightB, epochB]; omega
      have hx2 : rightS ⟨me, e, 2, src, c, true⟩ = true := by
        simp [rightS, hr2, none_]; omega
      have hh : hearH ⟨me, e, 1, t, c, k⟩ ⟨2, src, me, e, mc⟩ = (⟨me, e, 2, src, c, true⟩, againH ⟨me, e, 2, src, c, true⟩, 0) := by
        simp [hearH, hsp, hmax, againH, hx2, givesH]
      have HH := Lib.hid hh
      clear hh
      go_enter Tryd.func49, Tryd.ntmps49
      go_wp2_with fail
      refine (gone_any e _ _ k e 1 t src _ (by simp [go_sem]) (by simp [go_sem]) (by simp [go_sem]) (by simp [go_sem]) (by simp [go_sem])).mono ?_
      rw [hg]
      rintro r w1 ⟨rfl, rfl⟩
      go_wp2_with fail
      refine (speaks_any _ _ _ _ _).mono ?_
      rw [hsp]
      rintro r w1 ⟨rfl, hb1⟩
      obtain ⟨c_hb1, f_hb1, z_hb1⟩ := bcell hb1; have z0_hb1 := z_hb1 (w.heap.size) (by first | omega | (simp only [World.size_alloc, World.size_setCell, World.size_drew, World.heap_drewN] <;> omega)); have z1_hb1 := z_hb1 (w.heap.size + 1) (by first | omega | (simp only [World.size_alloc, World.size_setCell, World.size_drew, World.heap_drewN] <;> omega)); have z2_hb1 := z_hb1 (w.heap.size + 2) (by first | omega | (simp only [World.size_alloc, World.size_setCell, World.size_drew, World.heap_drewN] <;> omega)); have z3_hb1 := z_hb1 (w.heap.size + 3) (by first | omega | (simp only [World.size_alloc, World.size_setCell, World.size_drew, World.heap_drewN] <;> omega)); clear z_hb1
      have u0 : w1.cell? ⟨w.heap.size, 0, none⟩ = some (.int .u8 me) := (by simp [go_sem, c_hb1]); have u1 : w1.cell? ⟨w.heap.size, 1, none⟩ = some (.int .i64 e) := (by simp [go_sem, c_hb1]); have u2 : w1.cell? ⟨w.heap.size, 2, none⟩ = some (.int .i64 1) := (by simp [go_sem, c_hb1]); have u3 : w1.cell? ⟨w.heap.size, 3, none⟩ = some (.int .u8 t) := (by simp [go_sem, c_hb1]); have u4 : w1.cell? ⟨w.heap.size, 4, none⟩ = some (.string c) := (by simp [go_sem, c_hb1]); have u5 : w1.cell? ⟨w.heap.size, 5, none⟩ = some (.bool k) := (by simp [go_sem, c_hb1])
      have m0 : w1.cell? ⟨w.heap.size + 1, 0, none⟩ = some (.int .i64 2) := (by simp [go_sem, c_hb1]); have m1 : w1.cell? ⟨w.heap.size + 1, 1, none⟩ = some (.int .u8 src) := (by simp [go_sem, c_hb1]); have m2 : w1.cell? ⟨w.heap.size + 1, 2, none⟩ = some (.int .u8 me) := (by simp [go_sem, c_hb1]); have m3 : w1.cell? ⟨w.heap.size + 1, 3, none⟩ = some (.int .i64 e) := (by simp [go_sem, c_hb1]); have m4 : w1.cell? ⟨w.heap.size + 1, 4, none⟩ = some (.string mc) := (by simp [go_sem, c_hb1])
      have v0 : w1.cell? ⟨w.heap.size + 1 + 1, 0, none⟩ = some (.int .u8 0) := (by simp [go_sem, c_hb1]); have v1 : w1.cell? ⟨w.heap.size + 1 + 1, 1, none⟩ = some (.int .i64 0) := (by simp [go_sem, c_hb1]); have v2 : w1.cell? ⟨w.heap.size + 1 + 1, 2, none⟩ = some (.int .i64 0) := (by simp [go_sem, c_hb1]); have v3 : w1.cell? ⟨w.heap.size + 1 + 1, 3, none⟩ = some (.int .u8 0) := (by simp [go_sem, c_hb1]); have v4 : w1.cell? ⟨w.heap.size + 1 + 1, 4, none⟩ = some (.string ⟨#[]⟩) := (by simp [go_sem, c_hb1]); have v5 : w1.cell? ⟨w.heap.size + 1 + 1, 5, none⟩ = some (.bool false) := (by simp [go_sem, c_hb1])
      have f1 : ∀ o, w1.frozen? ⟨w.heap.size, o, none⟩ = false := by intro o; simp [go_sem, f_hb1]
      have f2 : ∀ o, w1.frozen? ⟨w.heap.size + 1 + 1, o, none⟩ = false := by intro o; simp [go_sem, f_hb1]
      clear c_hb1 f_hb1
      go_wp2_with fail
      refine (give_any e 1 t src _).mono ?_
      rw [hgv]
      rintro r w2 ⟨rfl, hb2⟩
      have f3 : ∀ o, w2.frozen? ⟨w.heap.size, o, none⟩ = false := fun o => stayf hb2 z0_hb1 (f1 o)
      have f4 : ∀ o, w2.frozen? ⟨w.heap.size + 1 + 1, o, none⟩ = false := fun o => stayf hb2 z2_hb1 (f2 o)
      have u0 := stay hb2 z0_hb1 u0
      have u1 := stay hb2 z0_hb1 u1
      have u2 := stay hb2 z0_hb1 u2
      have u3 := stay hb2 z0_hb1 u3
      have u4 := stay hb2 z0_hb1 u4
      have u5 := stay hb2 z0_hb1 u5
      have v0 := stay hb2 z2_hb1 v0
      have v1 := stay hb2 z2_hb1 v1
      have v2 := stay hb2 z2_hb1 v2
      have v3 := stay hb2 z2_hb1 v3
      have v4 := stay hb2 z2_hb1 v4
      have v5 := stay hb2 z2_hb1 v5
      go_wp2_with fail
      generalize hW : World.setCell _ _ _ = W
      have s0 : W.cell? ⟨w.heap.size, 0, none⟩ = some (.int .u8 me) := (by subst hW; simp [go_sem, u0, u1, u2, u3, u4, u5]); have s1 : W.cell? ⟨w.heap.size, 1, none⟩ = some (.int .i64 e) := (by subst hW; simp [go_sem, u0, u1, u2, u3, u4, u5]); have s2 : W.cell? ⟨w.heap.size, 2, none⟩ = some (.int .i64 2) := (by subst hW; simp [go_sem, u0, u1, u2, u3, u4, u5]); have s3 : W.cell? ⟨w.heap.size, 3, none⟩ = some (.int .u8 src) := (by subst hW; simp [go_sem, u0, u1, u2, u3, u4, u5]); have s4 : W.cell? ⟨w.heap.size, 4, none⟩ = some (.string c) := (by subst hW; simp [go_sem, u0, u1, u2, u3, u4, u5]); have s5 : W.cell? ⟨w.heap.size, 5, none⟩ = some (.bool true) := (by subst hW; simp [go_sem, u0, u1, u2, u3, u4, u5])
      have q0 : W.cell? ⟨w.heap.size + 1 + 1, 0, none⟩ = some (.int .u8 0) := (by subst hW; simp [go_sem, v0, v1, v2, v3, v4, v5]); have q1 : W.cell? ⟨w.heap.size + 1 + 1, 1, none⟩ = some (.int .i64 0) := (by subst hW; simp [go_sem, v0, v1, v2, v3, v4, v5]); have q2 : W.cell? ⟨w.heap.size + 1 + 1, 2, none⟩ = some (.int .i64 0) := (by subst hW; simp [go_sem, v0, v1, v2, v3, v4, v5]); have q3 : W.cell? ⟨w.heap.size + 1 + 1, 3, none⟩ = some (.int .u8 0) := (by subst hW; simp [go_sem, v0, v1, v2, v3, v4, v5]); have q4 : W.cell? ⟨w.heap.size + 1 + 1, 4, none⟩ = some (.string ⟨#[]⟩) := (by subst hW; simp [go_sem, v0, v1, v2, v3, v4, v5]); have q5 : W.cell? ⟨w.heap.size + 1 + 1, 5, none⟩ = some (.bool false) := (by subst hW; simp [go_sem, v0, v1, v2, v3, v4, v5])
      have qf : ∀ o, W.frozen? ⟨w.heap.size + 1 + 1, o, none⟩ = false := by intro o; subst hW; simp [go_sem, f4]
      have n0 : w.heap.size < W.heap.size := by subst hW; simp only [World.size_setCell]; exact Nat.lt_of_lt_of_le z0_hb1 hb2.size
      have n2 : w.heap.size + 1 + 1 < W.heap.size := by subst hW; simp only [World.size_setCell]; exact Nat.lt_of_lt_of_le z2_hb1 hb2.size
      have hBW : Below w.heap.size w W := by subst hW; repeat (first | (with_reducible exact Below.refl _ _) | (with_reducible assumption) | (with_reducible refine bw_alloc ?_) | (with_reducible refine bw_drew ?_) | (with_reducible refine bw_drewN ?_) | (with_reducible refine bw_set ?_ (by first | (simp; done) | (dsimp only; omega))) | (with_reducible refine bw_via (by assumption) ?_))
      clear hW f1 f2 f3 f4
      refine start_ (n := 7) (S := fun w' => Below W.heap.size W w' ∧ ∀ b o, b < W.heap.size → w'.cell? ⟨b, o, none⟩ = W.cell? ⟨b, o, none⟩) (ds := [4]) #[false, false, false, false, false, false, false] (by kernel_rfl) rfl rfl ⟨(still_drew W).1, (still_drew W).2⟩ (fun hHeld => ?_)
      refine pure_ (i := 3) (N := some 71) (v := ?_) (a' := ?_) #[false, false, false, true, false, false, false] rfl rfl (by kernel_rfl) (fun _ _ _ h => h) (Or.inl ⟨by rfl, ?_⟩) ?_ ?_
      rotate_left
      · intro w'
        go_simp
        with_reducible rfl
      rotate_left
      · simp only [Act.put, List.setIfInBounds_toArray, List.set_cons_zero, List.set_cons_succ, i64_w, i32_w]
        rfl
      refine take_ (i := 0) (N := some 68) (v := ?_) (a' := ?_) #[true, false, false, true, false, false, false] rfl rfl (by kernel_rfl) (fun _ _ _ h => h) (Or.inl ⟨by rfl, ?_⟩) hHeld ?_ ?_
      rotate_left
      · rintro w' ⟨s0, s1⟩
        go_simp
        with_reducible rfl
      rotate_left
      · simp only [Act.put, List.setIfInBounds_toArray, List.set_cons_zero, List.set_cons_succ, i64_w, i32_w]
        rfl
      refine take_ (i := 1) (N := some 69) (v := ?_) (a' := ?_) #[true, true, false, true, false, false, false] rfl rfl (by kernel_rfl) (fun _ _ _ h => h) (Or.inl ⟨by rfl, ?_⟩) hHeld ?_ ?_
      rotate_left
      · rintro w' ⟨s0, s1⟩
        go_simp
        with_reducible rfl
      rotate_left
      · simp only [Act.put, List.setIfInBounds_toArray, List.set_cons_zero, List.set_cons_succ, i64_w, i32_w]
        rfl
      refine one_ (i := 2) (N := some 70) #[true, true, true, true, false, false, false] rfl rfl (by kernel_rfl) (by decide) (fun K hK => ?_)
      refine goes_ Tryd.func76 (by kernel_rfl) rfl #[.agg #[.int .u8 me, .int .i64 e, .int .i64 2, .int .u8 src, .string c, .bool true]] (by rfl) rfl rfl (by simp only [List.map_toArray, List.map_cons, List.map_nil]; rfl) ?_
      refine (again_any ⟨me, e, 2, src, c, true⟩ _ hc).mono ?_
      rintro r w5 ⟨v, rfl, hsaid, hb⟩
      refine ⟨_, rfl, ?_⟩
      have hfr : ∀ o, w5.frozen? ⟨w.heap.size + 1 + 1, o, none⟩ = false := fun o => (hb.frozen (p := ⟨_, o, none⟩) n2).trans (qf o)
      have g0 := stay hb n2 q0
      have g1 := stay hb n2 q1
      have g2 := stay hb n2 q2
      have g3 := stay hb n2 q3
      have g4 := stay hb n2 q4
      have g5 := stay hb n2 q5
      have z5 : w.heap.size + 1 + 1 < w5.heap.size := Nat.lt_of_lt_of_le n2 hb.size
      refine hK.out _ _ ⟨(still_keep hHeld hb).1, (still_keep hHeld hb).2⟩ (fun hHeld => ?_)
      clear hK K
      refine norm_ (a' := ?_) ?_ ?_
      rotate_left
      · show Act.put _ (some 70) _ = _
        simp only [Act.put, List.setIfInBounds_toArray, List.set_cons_zero, List.set_cons_succ, i64_w, i32_w]
        rfl
      refine last_ (i := 4) (N := none) #[true, true, true, true, true, false, false] rfl rfl (by kernel_rfl) (by decide) (fun K hK => ?_)
      refine skip_ (w1 := ?_) (by rfl) rfl ?_ ?_
      rotate_left
      · go_simp
        rfl
      refine hK.out _ _ ?_
      clear hK K
      refine pure_ (i := 5) (N := some 5) (v := ?_) (a' := ?_) #[true, true, true, true, true, true, false] rfl rfl (by kernel_rfl) (fun _ _ _ h => h) (Or.inl ⟨by rfl, ?_⟩) ?_ ?_
      rotate_left
      · intro w'
        go_simp
        with_reducible rfl
      rotate_left
      · simp only [Act.put, List.setIfInBounds_toArray, List.set_cons_zero, List.set_cons_succ, i64_w, i32_w]
        rfl
      refine pure_ (i := 6) (N := some 6) (v := ?_) (a' := ?_) #[true, true, true, true, true, true, true] rfl rfl (by kernel_rfl) (fun _ _ _ h => h) (Or.inl ⟨by rfl, ?_⟩) ?_ ?_
      rotate_left
      · intro w'
        go_simp
        with_reducible rfl
      rotate_left
      · simp only [Act.put, List.setIfInBounds_toArray, List.set_cons_zero, List.set_cons_succ, i64_w, i32_w]
        rfl
      refine done_ (by kernel_rfl) ?_

      go_wp2_with fail
      simp [bodyPost, results, Tryd.results49, go_sem, *]
      refine hp_ok HH.out ?_ ?_
      · repeat (first | (with_reducible exact Below.refl _ _) | (with_reducible assumption) | (with_reducible refine bw_alloc ?_) | (with_reducible refine bw_drew ?_) | (with_reducible refine bw_drewN ?_) | (with_reducible refine bw_set ?_ (by first | (simp; done) | (dsimp only; omega))) | (with_reducible refine bw_via (by assumption) ?_))
      · exact said_mono (said_set (said_set (said_set (said_set (said_set (said_set hsaid n2) n2) n2) n2) n2) n2) hBW.size

theorem hear_any (x : S) (m : M) (w : World) (hx : rightS x = true) (hm : mayM m = true) (hd : m.dst = x.me) (hc : x.c.size ≤ maxLen) :
    Calls Tryd.prog 49 #[.agg #[.int .u8 x.me, .int .i64 x.e, .int .i64 x.s, .int .u8 x.t, .string x.c, .bool x.k], .agg #[.int .i64 m.kind, .int .u8 m.src, .int .u8 m.dst, .int .i64 m.ep, .string m.c]] w (HearPost x m w) := by
  obtain ⟨hk, h1, h2, h3, h4, h5⟩ := may_facts hm
  have hl := right_lease hx
  obtain ⟨me, e, s, t, c, k⟩ := x
  obtain ⟨kind, src, dst, ep, mc⟩ := m
  dsimp only at hc hd hk h1 h2 h3 h4 h5 hl ⊢
  subst hd
  rcases hk with rfl | rfl | rfl | rfl
  · exact hear_offer _ _ _ _ _ _ _ _ _ _
  · cases hg : goneB k e s t src ep
    · cases hsp : speaksB e s t ep
      · exact hear_want_old _ _ _ _ _ _ _ _ _ _ hg hsp
      · exact hear_want_new _ _ _ _ _ _ _ _ _ _ hx hc h3 h5 hg hsp
    · exact hear_want_kept _ _ _ _ _ _ _ _ _ _ hx hc hg
  · exact hear_give _ _ _ _ _ _ _ _ _ _ hl.1 ⟨h1, h2⟩
  · exact hear_got _ _ _ _ _ _ _ _ _ _ ⟨h1, h2⟩
end Go.Proofs.YtajnaiofagppeaaDoor.Hand
