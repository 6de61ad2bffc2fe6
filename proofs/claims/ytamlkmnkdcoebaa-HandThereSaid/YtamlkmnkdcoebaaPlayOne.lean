/- A play's beginning, and what 'one' answers. -/
import Derived.Test.YtamlkmnkdcoebaaPlayStep
import Derived.Test.YtamlkmnkdcoebaaMapV
import Derived.LoopTactic
import Derived.Deep.MidRow
import Derived.Deep.LoopGhost
namespace Go.Proofs.Ytamlkmnkdcoebaa.Play
open Go.RowKit LeaseSpec Flat Lease HandSpec HandLaws Hand HandPlay Go.Proofs.YtamlkmnkdcoebaaW.PrintLast
set_option linter.unusedSimpArgs false
set_option linter.unusedVariables false
set_option maxRecDepth 100000

/-- A store into a map, in a region that draws its order. -/
theorem mapUpdate_ {P : Program} {ops : Array Oper} {Q : Exit → Act → World → Prop} {oi : Oper} {N : Option Tmp} {a : Act} {w w' : World} {K : Act → World → Prop} (hw : Region.wanted oi (yielded ops a.tmps) = true) (hN : oi.dst = N)
    (m x v : Operand) (t : TypeId) (ho : oi.op = .mapUpdate t m x v) {mv key val : Value} (hm : a.eval m = mv) (hx : a.eval x = key) (hv : a.eval v = val) (hrun : (Instr.mapUpdate t mv key val).run P w = .ok () w')
    (h : K (a.put N undef) w') : if Region.wanted oi (yielded ops a.tmps) = true then Oper.wp P oi a w K Q else K (a.put N undef) w := by
  rw [if_pos hw]
  subst hN
  unfold Oper.wp
  simp [execOp, ho, hm, hx, hv, hrun, Result.andThen]
  exact h
abbrev HeldM (w : World) (b : Nat) (f : Int → Option Value) (c : Nat) : Prop := MapV.Own Try.prog .i64 3 w b f c
theorem keyed : Maps.Keyed Try.prog 3 := Maps.int_keyed Try.underlying3
theorem zero5 (w : World) : (zeroValue 5).run Try.prog w = .ok (.int .u8 0) w := by kernel_rfl
theorem key3 {k : Int} (h : (Lit.int .i64 k).wf = true) : keyOf Try.prog 3 (.int .i64 k) = some (.int .i64 k) := Maps.keyOf_int_mk Try.underlying3 h

/-- The beginning. -/
def begunP : PS := ⟨fun j => if j = 0 then ⟨0, 1, 1, 0, noC, false⟩ else ⟨j, 0, 0, 0, noC, false⟩, [], noC⟩
def heldB : Int → Option Value := MapV.set MapV.none_ 1 (.int .u8 0)

def BegunPost (w : World) (r : Ending) (w' : World) : Prop :=
  ∃ g bm, r = .returned (.pointer (some ⟨g, 0, none⟩)) ∧ w.heap.size ≤ g ∧ w.heap.size ≤ bm ∧ bm < g ∧ PlayAt w' g bm w'.heap.size begunP ∧ HeldM w' bm heldB 1 ∧ Below w.heap.size w w'
theorem four_cases {i : Nat} (h : i < 4) : i = 0 ∨ i = 1 ∨ i = 2 ∨ i = 3 := by omega
set_option maxHeartbeats 4000000 in
theorem begun_any (w : World) : Calls Try.prog 21 #[] w (BegunPost w) := by
  have hmm := @run_makeMap Try.prog
  obtain ⟨w1, hst, hown, htu⟩ := (MapV.own_made (P := Try.prog) (q := .i64) (kt := 3) w).store (t := 63) (et := 5) keyed Try.underlying63 (by unfold maxLen; decide) (key3 (k := 1) (by decide)) (.int .u8 0)
  have hsz : w1.heap.size = w.heap.size + 1 := by rw [MapV.turned_size htu]; simp
  go_enter Try.func21, Try.ntmps21
  go_wp2_with fail
  have HOWN := Lib.hid hown
  have hK : ∀ i, i < w.heap.size → w1.heap[i]? = w.heap[i]? := fun i hi => by
    rw [MapV.turned_block htu (by omega) (by simp; omega)]
    exact ((Below.refl w.heap.size w).alloc (Nat.le_refl _) _).block i hi
  have hBw : Below w.heap.size w w1 := by
    have hg := htu.grown
    exact ⟨hg.os, hg.tape, hg.output, by omega, hK⟩
  clear hmm hst htu hK hown
  refine wp_loop_rounds 5 ?_
  rw [rounds_succ]
  go_wp2_with fail
  rw [rounds_succ]
  go_wp2_with fail
  rw [rounds_succ]
  go_wp2_with fail
  rw [rounds_succ]
  go_wp2_with fail
  rw [rounds_succ]
  go_wp2_with fail
  go_ret
  refine ⟨w.heap.size + 1, w.heap.size, rfl, by omega, by omega, by omega, ⟨by simp [hsz], Nat.le_refl _, fun i hi => ?_, ?_, ?_, fun o => ?_, ?_⟩, ?_, ?_⟩
  · rcases four_cases hi with rfl | rfl | rfl | rfl <;> simp [Side, begunP, go_sem, hsz, noC]
  · simp [begunP, go_sem, hsz, noC]
  · simp [go_sem, hsz]
  · simp [go_sem, hsz]
  · exact ⟨.slice none 0 0, by simp [go_sem, hsz], ownm_nil _ _⟩
  · refine HOWN.out.below (B := w.heap.size + 1) ?_ (by omega)
    repeat (refine Below.setCell ?_ (by simp) _)
    exact (Below.refl _ _).alloc (by omega) _
  · refine hBw.trans ?_
    repeat (refine Below.setCell ?_ (by simp) _)
    exact (Below.refl _ _).alloc (by omega) _
/-- A store into the map leaves the play. -/
theorem PlayAt.turned {w w' : World} {g bm B : Nat} {p : PS} (h : PlayAt w g bm B p) (ht : w.mapTurned w' bm) (hne : g ≠ bm) (hbm : bm < B) : PlayAt w' g bm B p := by
  have c : ∀ o, w'.cell? ⟨g, o, none⟩ = w.cell? ⟨g, o, none⟩ := fun o => MapV.turned_cell ht hne h.lt
  refine ⟨h.lo, by rw [MapV.turned_size ht]; exact h.hi, fun i hi => ?_, by rw [c]; exact h.cargo, by rw [c]; exact h.map, fun o => (MapV.turned_frozen ht).trans (h.fz o), ?_⟩
  · unfold Side
    simp only [c]
    exact h.side i hi
  · obtain ⟨u, hu, ho⟩ := h.row
    refine ⟨u, by rw [c]; exact hu, World.ownsRow.kept ho (row := some bm) ht.grown ?_⟩
    have hlt := fun e => (ho.lt bm e).1
    generalize u.ownBlock = o at hlt ⊢
    cases o with
    | none => simp
    | some j => simp; intro e; subst e; have := hlt rfl; omega
/-! one -/
theorem infoS : (Try.prog.info? 31).map (fun i => (i.zero, i.size, i.bytes)) = some (some (.agg #[.int .u8 0, .int .i64 0, .int .i64 0, .int .u8 0, .string ⟨#[]⟩, .bool false]), 6, 56) := by kernel_rfl
theorem idx4 (p : PS) (i : Nat) (hi : i < 4) (w : World) : (Instr.index 62 (.agg #[.int .u8 (p.s 0).me, .int .i64 (p.s 0).e, .int .i64 (p.s 0).s, .int .u8 (p.s 0).t, .string (p.s 0).c, .bool (p.s 0).k, .int .u8 (p.s 1).me, .int .i64 (p.s 1).e, .int .i64 (p.s 1).s, .int .u8 (p.s 1).t, .string (p.s 1).c, .bool (p.s 1).k, .int .u8 (p.s 2).me, .int .i64 (p.s 2).e, .int .i64 (p.s 2).s, .int .u8 (p.s 2).t, .string (p.s 2).c, .bool (p.s 2).k, .int .u8 (p.s 3).me, .int .i64 (p.s 3).e, .int .i64 (p.s 3).s, .int .u8 (p.s 3).t, .string (p.s 3).c, .bool (p.s 3).k]) (.int .i64 (i : Int))).run Try.prog w = .ok (.agg #[.int .u8 (p.s i).me, .int .i64 (p.s i).e, .int .i64 (p.s i).s, .int .u8 (p.s i).t, .string (p.s i).c, .bool (p.s i).k]) w := by
  obtain ⟨i0, hi0, hz0, hz1, hz2⟩ := info_parts infoS
  rcases four_cases hi with rfl | rfl | rfl | rfl <;> simp [Instr.index, run_underlying Try.underlying62, Try.underlying31, asIntOf, go_sem, part, isAgg, sizeOf, typeInfo, hi0, hz1, run_underlying]
structure OneOk (p : PS) (h E : Int) (f : Int → Option Value) : Prop where
  right : ∀ i : Nat, i < 4 → rightS (p.s i) = true ∧ (p.s i).me = (i : Int) ∧ (p.s i).c.size ≤ maxLen
  hold : ∀ i : Nat, i < 4 → (p.s i).s = 1 → (i : Int) = h ∧ (p.s i).e = E ∧ (p.s i).c = p.cargo
  map : f E = none ∨ f E = some (.int .u8 h)
def OnePost (p : PS) (h E : Int) (f : Int → Option Value) (n g bm B B0 : Nat) (w : World) (r : Ending) (w' : World) : Prop :=
  r = .returned (.bool true) ∧ PlayAt w' g bm B p ∧ (∃ f' n', HeldM w' bm f' n' ∧ n' ≤ n + 4 ∧ (f' = f ∨ (f' = MapV.set f E (.int .u8 h) ∧ ∃ i : Nat, i < 4 ∧ (p.s i).s = 1))) ∧ Below B0 w w'
def OneRel (p : PS) (h E : Int) (f : Int → Option Value) (n g bm B B0 : Nat) (w : World) (s3 s12 : Value) (wr : World) : Prop :=
  ∃ i : Nat, i ≤ 4 ∧ s12 = .int .i64 (i : Int) ∧ ∃ (cnt : Nat) (f' : Int → Option Value) (n' : Nat), s3 = .int .i64 (cnt : Int) ∧ PlayAt wr g bm B p ∧ HeldM wr bm f' n' ∧ n' ≤ n + i ∧
    ((cnt = 0 ∧ f' = f ∧ ∀ j : Nat, j < i → (p.s j).s ≠ 1) ∨ (cnt = 1 ∧ f' = MapV.set f E (.int .u8 h) ∧ ∃ j : Nat, j < i ∧ (p.s j).s = 1)) ∧ Below B0 w wr
set_option maxHeartbeats 8000000 in
theorem one_any (p : PS) (hh E : Int) (f : Int → Option Value) (n : Nat) (w : World) (g bm B B0 : Nat) (h : PlayAt w g bm B p) (hm : HeldM w bm f n) (ho : OneOk p hh E f) (hn : n ≤ 100000) (hb0 : B0 ≤ g) (hb1 : B0 ≤ bm) (hbm : bm < B) :
    Calls Try.prog 23 #[.pointer (some ⟨g, 0, none⟩)] w (OnePost p hh E f n g bm B B0 w) := by
  have hc : w.rangeAt g 0 [.int .u8 (p.s 0).me, .int .i64 (p.s 0).e, .int .i64 (p.s 0).s, .int .u8 (p.s 0).t, .string (p.s 0).c, .bool (p.s 0).k, .int .u8 (p.s 1).me, .int .i64 (p.s 1).e, .int .i64 (p.s 1).s, .int .u8 (p.s 1).t, .string (p.s 1).c, .bool (p.s 1).k, .int .u8 (p.s 2).me, .int .i64 (p.s 2).e, .int .i64 (p.s 2).s, .int .u8 (p.s 2).t, .string (p.s 2).c, .bool (p.s 2).k, .int .u8 (p.s 3).me, .int .i64 (p.s 3).e, .int .i64 (p.s 3).s, .int .u8 (p.s 3).t, .string (p.s 3).c, .bool (p.s 3).k] := by
    have hs := h.side
    intro j v hv
    rw [Nat.zero_add]
    have hj : j < 24 := (List.getElem?_eq_some_iff.mp hv).1
    have key : ∀ i : Nat, i < 4 → ∀ k, j = i * 6 + k → k < 6 → w.cell? ⟨g, j, none⟩ = some v := by
      intro i hi k hj hk
      obtain ⟨a0, a1, a2, a3, a4, a5⟩ := hs i hi
      subst hj
      rcases four_cases hi with rfl | rfl | rfl | rfl <;> rcases (by omega : k = 0 ∨ k = 1 ∨ k = 2 ∨ k = 3 ∨ k = 4 ∨ k = 5) with rfl | rfl | rfl | rfl | rfl | rfl <;> (cases hv; assumption)
    exact key (j / 6) (by omega) (j % 6) (by omega) (by omega)
  have HC := Lib.hid hc
  have HIDX := Lib.hid (idx4 p)
  clear hc
  go_enter Try.func23, Try.ntmps23
  go_wp2_with (first | (with_reducible refine wpList_load_mid rfl 62 (.tmp 10) rfl g 0 rfl [.int .u8 (p.s 0).me, .int .i64 (p.s 0).e, .int .i64 (p.s 0).s, .int .u8 (p.s 0).t, .string (p.s 0).c, .bool (p.s 0).k, .int .u8 (p.s 1).me, .int .i64 (p.s 1).e, .int .i64 (p.s 1).s, .int .u8 (p.s 1).t, .string (p.s 1).c, .bool (p.s 1).k, .int .u8 (p.s 2).me, .int .i64 (p.s 2).e, .int .i64 (p.s 2).s, .int .u8 (p.s 2).t, .string (p.s 2).c, .bool (p.s 2).k, .int .u8 (p.s 3).me, .int .i64 (p.s 3).e, .int .i64 (p.s 3).s, .int .u8 (p.s 3).t, .string (p.s 3).c, .bool (p.s 3).k] _ HC.out Try.underlying62 rfl (by kernel_rfl) ?_))
  go_loopw [3, 12] (fun s3 s12 wr => OneRel p hh E f n g bm B B0 w s3 s12 wr) (fun _ s12 _ => 4 - (intOf s12).toNat)
  case atStart => exact ⟨0, by omega, rfl, 0, f, n, rfl, h, hm, by omega, .inl ⟨rfl, rfl, fun j hj => by omega⟩, Below.refl _ _⟩
  case round =>
    obtain ⟨wo, h_wo⟩ : ∃ v : World, v = wr := ⟨_, rfl⟩; subst h_wo
    obtain ⟨i, hi, rfl, cnt, f', n', rfl, hP, hM, hn', hcase, hB⟩ := hrel
    by_cases hi4 : i = 4
    · subst hi4
      have hcnt : (cnt : Int) ≤ 1 := by rcases hcase with ⟨h1, _⟩ | ⟨h1, _⟩ <;> omega
      clear HC HIDX
      go_wp2_with fail
      go_ret
      refine ⟨rfl, hP, ⟨f', n', hM, by omega, ?_⟩, hB⟩
      rcases hcase with ⟨_, h2, _⟩ | ⟨_, h2, j, hj, hs⟩
      · exact .inl h2
      · exact .inr ⟨h2, j, by omega, hs⟩
    · have hI : (i : Int) < 4 := by omega
      have hidx := HIDX.out i (by omega)
      obtain ⟨hr, hme, hsz⟩ := ho.right i (by omega)
      have hold := ho.hold i (by omega)
      generalize hx : p.s i = x at hidx hr hme hsz hold
      obtain ⟨me, e, s, t, c, k⟩ := x
      dsimp only at hidx hme hsz hold
      subst hme
      have hw8 : IntKind.u8.wrap (i : Int) = (i : Int) := by
        simp [IntKind.wrap, IntKind.bits, IntKind.signed]
        omega
      have HR := Lib.hid (fun W => right_hand ⟨i, e, s, t, c, k⟩ W hsz)
      rw [hr] at HR
      have he64 := right_le hr
      have HX := Lib.hid hx
      have HCASE := Lib.hid hcase
      clear hx hr HC HIDX hcase
      go_wp2_with fail
      refine (HR.out _).mono ?_
      rintro r v2 ⟨rfl, hb2⟩
      have hb02 : Below wo.heap.size wo v2 := by repeat (first | (with_reducible exact Below.refl _ _) | (with_reducible assumption) | (with_reducible refine bw_alloc ?_) | (with_reducible refine bw_drew ?_) | (with_reducible refine bw_drewN ?_) | (with_reducible refine bw_set ?_ (by first | (simp; done) | (dsimp only; omega))) | (with_reducible refine bw_via (by assumption) ?_))
      have k0 : v2.cell? ⟨wo.heap.size, 0, none⟩ = some (.int .u8 (i : Int)) := (by rw [hb2.cell (p := ⟨wo.heap.size, _, none⟩) (by simp)]; simp [go_sem]); have k1 : v2.cell? ⟨wo.heap.size, 1, none⟩ = some (.int .i64 e) := (by rw [hb2.cell (p := ⟨wo.heap.size, _, none⟩) (by simp)]; simp [go_sem]); have k2 : v2.cell? ⟨wo.heap.size, 2, none⟩ = some (.int .i64 s) := (by rw [hb2.cell (p := ⟨wo.heap.size, _, none⟩) (by simp)]; simp [go_sem]); have k3 : v2.cell? ⟨wo.heap.size, 3, none⟩ = some (.int .u8 t) := (by rw [hb2.cell (p := ⟨wo.heap.size, _, none⟩) (by simp)]; simp [go_sem]); have k4 : v2.cell? ⟨wo.heap.size, 4, none⟩ = some (.string c) := (by rw [hb2.cell (p := ⟨wo.heap.size, _, none⟩) (by simp)]; simp [go_sem]); have k5 : v2.cell? ⟨wo.heap.size, 5, none⟩ = some (.bool k) := (by rw [hb2.cell (p := ⟨wo.heap.size, _, none⟩) (by simp)]; simp [go_sem])
      have hP2 := hP.kept hb02
      have hM2 := hM.below hb02 hM.lt
      have hglt := hP.lt
      have hB2 : Below B0 w v2 := hB.trans (hb02.mono (by have := hP.hi; have := hP.lo; omega))
      have hgne : ¬ wo.heap.size = g := by omega
      clear hb2 hidx HR
      generalize wo.heap.size = b5 at *
      by_cases hs1 : s = 1
      · subst hs1
        obtain ⟨rfl, rfl, hcg⟩ := hold rfl
        subst hcg
        have hwf : (Lit.int .i64 e).wf = true := WalkArith.wf_i64 (by omega)
        obtain ⟨rfl, rfl, hno⟩ : cnt = 0 ∧ f' = f ∧ ∀ j : Nat, j < i → (p.s j).s ≠ 1 := by
          rcases HCASE.out with h1 | ⟨_, _, j, hj, hs⟩
          · exact h1
          · have := (ho.hold j (by omega) hs).1
            omega
        have hcar := hP2.cargo
        have hmap := hP2.map
        have hz2 := hP2.lt
        have hc2 : p.cargo.size ≤ maxLen := hsz
        have HNO := Lib.hid hno
        clear hno HCASE
        rcases ho.map with hfe | hfe
        · have hL : ∀ q, (Instr.lookup 63 (.map (some bm)) (.int .i64 e) true).run Try.prog (v2.drewN q) = .ok (.tuple #[.int .u8 0, .bool false]) (v2.drewN q) := fun q => by
            have := (hM2.heap (w' := v2.drewN q) rfl).look_ok (t := 63) (et := 5) keyed Try.underlying63 zero5 (key3 hwf)
            rw [this, hfe]
            rfl
          have HFE := Lib.hid hfe
          clear hfe
          go_wp2_with fail
          go_quiet (fail)
          go_wp2_with fail
          go_quiet (fail)
          go_wp2_with fail
          generalize hv4 : World.drewN _ _ = v4
          have hb24 : Below v2.heap.size v2 v4 := by rw [← hv4]; exact ⟨rfl, rfl, rfl, Nat.le_refl _, fun _ _ => rfl⟩
          have hP4 := hP2.kept hb24
          have hM4 := hM2.below hb24 hM2.lt
          have k0 := stay hb24 (Flat.cell_lt k0) k0
          have k1 := stay hb24 (Flat.cell_lt k1) k1
          have hmap4 := hP4.map
          have hz4 := hP4.lt
          have hB4 : Below B0 w v4 := hB2.trans (hb24.mono (by have := hP2.hi; have := hP2.lo; omega))
          clear hv4 hb24 k2 k3 k4 k5 hcar hmap hz2 hL hP2 hM2 hB2
          have hmlt := hM4.lt
          refine start_ (n := 10) (S := fun w' => Below v4.heap.size v4 w' ∧ w'.cell? ⟨b5, 0, none⟩ = some (.int .u8 (i : Int)) ∧ w'.cell? ⟨b5, 1, none⟩ = some (.int .i64 e) ∧ w'.cell? ⟨g, 26, none⟩ = some (.map (some bm))) (ds := [9]) #[false, false, false, false, false, false, false, false, false, false] (by kernel_rfl) rfl rfl ⟨(still_drew v4).1, k0, k1, hmap4⟩ (fun hHeld => ?_)
          refine pure_ (i := 0) (N := some 59) (v := ?_) (a' := ?_) #[true, false, false, false, false, false, false, false, false, false] rfl rfl (by kernel_rfl) (fun _ _ _ h => h) (Or.inl ⟨by rfl, ?_⟩) ?_ ?_
          rotate_left
          · intro w'
            go_simp
            with_reducible rfl
          rotate_left
          · simp only [Act.put, List.setIfInBounds_toArray, List.set_cons_zero, List.set_cons_succ, i64_w, i32_w]
            rfl
          refine pure_ (i := 1) (N := some 60) (v := ?_) (a' := ?_) #[true, true, false, false, false, false, false, false, false, false] rfl rfl (by kernel_rfl) (fun _ _ _ h => h) (Or.inl ⟨by rfl, ?_⟩) ?_ ?_
          rotate_left
          · intro w'
            go_simp
            with_reducible rfl
          rotate_left
          · simp only [Act.put, List.setIfInBounds_toArray, List.set_cons_zero, List.set_cons_succ, i64_w, i32_w]
            rfl
          refine pure_ (i := 2) (N := some 61) (v := ?_) (a' := ?_) #[true, true, true, false, false, false, false, false, false, false] rfl rfl (by kernel_rfl) (fun _ _ _ h => h) (Or.inl ⟨by rfl, ?_⟩) ?_ ?_
          rotate_left
          · intro w'
            go_simp
            with_reducible rfl
          rotate_left
          · simp only [Act.put, List.setIfInBounds_toArray, List.set_cons_zero, List.set_cons_succ, i64_w, i32_w]
            rfl
          refine pure_ (i := 4) (N := some 63) (v := ?_) (a' := ?_) #[true, true, true, false, true, false, false, false, false, false] rfl rfl (by kernel_rfl) (fun _ _ _ h => h) (Or.inl ⟨by rfl, ?_⟩) ?_ ?_
          rotate_left
          · intro w'
            go_simp
            with_reducible rfl
          rotate_left
          · simp only [Act.put, List.setIfInBounds_toArray, List.set_cons_zero, List.set_cons_succ, i64_w, i32_w]
            rfl
          refine pure_ (i := 5) (N := some 64) (v := ?_) (a' := ?_) #[true, true, true, false, true, true, false, false, false, false] rfl rfl (by kernel_rfl) (fun _ _ _ h => h) (Or.inl ⟨by rfl, ?_⟩) ?_ ?_
          rotate_left
          · intro w'
            go_simp
            with_reducible rfl
          rotate_left
          · simp only [Act.put, List.setIfInBounds_toArray, List.set_cons_zero, List.set_cons_succ, i64_w, i32_w]
            rfl
          refine pure_ (i := 7) (N := some 66) (v := ?_) (a' := ?_) #[true, true, true, false, true, true, false, true, false, false] rfl rfl (by kernel_rfl) (fun _ _ _ h => h) (Or.inl ⟨by rfl, ?_⟩) ?_ ?_
          rotate_left
          · intro w'
            go_simp
            with_reducible rfl
          rotate_left
          · simp only [Act.put, List.setIfInBounds_toArray, List.set_cons_zero, List.set_cons_succ, i64_w, i32_w]
            rfl
          refine take_ (i := 3) (N := some 62) (v := ?_) (a' := ?_) #[true, true, true, true, true, true, false, true, false, false] rfl rfl (by kernel_rfl) (fun _ _ _ h => h) (Or.inl ⟨by rfl, ?_⟩) hHeld ?_ ?_
          rotate_left
          · rintro w' ⟨s0, s1, s2, s3⟩
            go_simp
            with_reducible rfl
          rotate_left
          · simp only [Act.put, List.setIfInBounds_toArray, List.set_cons_zero, List.set_cons_succ, i64_w, i32_w]
            rfl
          refine take_ (i := 6) (N := some 65) (v := ?_) (a' := ?_) #[true, true, true, true, true, true, true, true, false, false] rfl rfl (by kernel_rfl) (fun _ _ _ h => h) (Or.inl ⟨by rfl, ?_⟩) hHeld ?_ ?_
          rotate_left
          · rintro w' ⟨s0, s1, s2, s3⟩
            go_simp
            with_reducible rfl
          rotate_left
          · simp only [Act.put, List.setIfInBounds_toArray, List.set_cons_zero, List.set_cons_succ, i64_w, i32_w]
            rfl
          refine take_ (i := 8) (N := some 67) (v := ?_) (a' := ?_) #[true, true, true, true, true, true, true, true, true, false] rfl rfl (by kernel_rfl) (fun _ _ _ h => h) (Or.inl ⟨by rfl, ?_⟩) hHeld ?_ ?_
          rotate_left
          · rintro w' ⟨s0, s1, s2, s3⟩
            go_simp
            with_reducible rfl
          rotate_left
          · simp only [Act.put, List.setIfInBounds_toArray, List.set_cons_zero, List.set_cons_succ, i64_w, i32_w]
            rfl
          refine last_ (i := 9) (N := none) #[true, true, true, true, true, true, true, true, true, true] rfl rfl (by kernel_rfl) (by decide) (fun K hK => ?_)
          obtain ⟨w9, hst, hM9, htu⟩ := (hM4.below hHeld.1 hM4.lt).store (t := 63) (et := 5) keyed Try.underlying63 (by unfold maxLen; omega) (key3 hwf) (.int .u8 (i : Int))
          refine mapUpdate_ (by rfl) rfl (.tmp 62) (.tmp 65) (.tmp 67) 63 rfl (by rfl) (by rfl) (by rfl) hst ?_
          refine hK.out _ _ ?_
          clear hK K
          refine done_ (by kernel_rfl) ?_

          have hP9 : PlayAt w9 g bm B p := (hP4.kept hHeld.1).turned htu (fun e => hm.ne_cells h.map e.symm) hbm
          have hB9 : Below B0 w w9 := (hB4.trans (hHeld.1.mono (by have := hP4.lo; have := hP4.hi; omega))).trans (MapV.turned_below htu hb1 (by have := hHeld.1.size; omega))
          clear hHeld hP4 hM4 hB4 htu
          go_wp2_with fail
          go_roundw
          case rel =>
            refine ⟨i + 1, by omega, by go_num, 1, _, _, by go_num, hP9, hM9, ?_, .inr ⟨rfl, ?_, i, by omega, by rw [HX.out]⟩, hB9⟩
            · split <;> omega
            · rfl
          case measure => simp [intOf]; omega
        · have hL : ∀ q, (Instr.lookup 63 (.map (some bm)) (.int .i64 e) true).run Try.prog (v2.drewN q) = .ok (.tuple #[.int .u8 (i : Int), .bool true]) (v2.drewN q) := fun q => by
            have := (hM2.heap (w' := v2.drewN q) rfl).look_ok (t := 63) (et := 5) keyed Try.underlying63 zero5 (key3 hwf)
            rw [this, hfe]
            rfl
          have HFE := Lib.hid hfe
          clear hfe
          go_wp2_with fail
          go_quiet (fail)
          go_wp2_with fail
          go_quiet (fail)
          go_wp2_with fail
          generalize hv4 : World.drewN _ _ = v4
          have hb24 : Below v2.heap.size v2 v4 := by rw [← hv4]; exact ⟨rfl, rfl, rfl, Nat.le_refl _, fun _ _ => rfl⟩
          have hP4 := hP2.kept hb24
          have hM4 := hM2.below hb24 hM2.lt
          have k0 := stay hb24 (Flat.cell_lt k0) k0
          have k1 := stay hb24 (Flat.cell_lt k1) k1
          have hmap4 := hP4.map
          have hz4 := hP4.lt
          have hB4 : Below B0 w v4 := hB2.trans (hb24.mono (by have := hP2.hi; have := hP2.lo; omega))
          clear hv4 hb24 k2 k3 k4 k5 hcar hmap hz2 hL hP2 hM2 hB2
          have hmlt := hM4.lt
          refine start_ (n := 10) (S := fun w' => Below v4.heap.size v4 w' ∧ w'.cell? ⟨b5, 0, none⟩ = some (.int .u8 (i : Int)) ∧ w'.cell? ⟨b5, 1, none⟩ = some (.int .i64 e) ∧ w'.cell? ⟨g, 26, none⟩ = some (.map (some bm))) (ds := [9]) #[false, false, false, false, false, false, false, false, false, false] (by kernel_rfl) rfl rfl ⟨(still_drew v4).1, k0, k1, hmap4⟩ (fun hHeld => ?_)
          refine pure_ (i := 0) (N := some 59) (v := ?_) (a' := ?_) #[true, false, false, false, false, false, false, false, false, false] rfl rfl (by kernel_rfl) (fun _ _ _ h => h) (Or.inl ⟨by rfl, ?_⟩) ?_ ?_
          rotate_left
          · intro w'
            go_simp
            with_reducible rfl
          rotate_left
          · simp only [Act.put, List.setIfInBounds_toArray, List.set_cons_zero, List.set_cons_succ, i64_w, i32_w]
            rfl
          refine pure_ (i := 1) (N := some 60) (v := ?_) (a' := ?_) #[true, true, false, false, false, false, false, false, false, false] rfl rfl (by kernel_rfl) (fun _ _ _ h => h) (Or.inl ⟨by rfl, ?_⟩) ?_ ?_
          rotate_left
          · intro w'
            go_simp
            with_reducible rfl
          rotate_left
          · simp only [Act.put, List.setIfInBounds_toArray, List.set_cons_zero, List.set_cons_succ, i64_w, i32_w]
            rfl
          refine pure_ (i := 2) (N := some 61) (v := ?_) (a' := ?_) #[true, true, true, false, false, false, false, false, false, false] rfl rfl (by kernel_rfl) (fun _ _ _ h => h) (Or.inl ⟨by rfl, ?_⟩) ?_ ?_
          rotate_left
          · intro w'
            go_simp
            with_reducible rfl
          rotate_left
          · simp only [Act.put, List.setIfInBounds_toArray, List.set_cons_zero, List.set_cons_succ, i64_w, i32_w]
            rfl
          refine pure_ (i := 4) (N := some 63) (v := ?_) (a' := ?_) #[true, true, true, false, true, false, false, false, false, false] rfl rfl (by kernel_rfl) (fun _ _ _ h => h) (Or.inl ⟨by rfl, ?_⟩) ?_ ?_
          rotate_left
          · intro w'
            go_simp
            with_reducible rfl
          rotate_left
          · simp only [Act.put, List.setIfInBounds_toArray, List.set_cons_zero, List.set_cons_succ, i64_w, i32_w]
            rfl
          refine pure_ (i := 5) (N := some 64) (v := ?_) (a' := ?_) #[true, true, true, false, true, true, false, false, false, false] rfl rfl (by kernel_rfl) (fun _ _ _ h => h) (Or.inl ⟨by rfl, ?_⟩) ?_ ?_
          rotate_left
          · intro w'
            go_simp
            with_reducible rfl
          rotate_left
          · simp only [Act.put, List.setIfInBounds_toArray, List.set_cons_zero, List.set_cons_succ, i64_w, i32_w]
            rfl
          refine pure_ (i := 7) (N := some 66) (v := ?_) (a' := ?_) #[true, true, true, false, true, true, false, true, false, false] rfl rfl (by kernel_rfl) (fun _ _ _ h => h) (Or.inl ⟨by rfl, ?_⟩) ?_ ?_
          rotate_left
          · intro w'
            go_simp
            with_reducible rfl
          rotate_left
          · simp only [Act.put, List.setIfInBounds_toArray, List.set_cons_zero, List.set_cons_succ, i64_w, i32_w]
            rfl
          refine take_ (i := 3) (N := some 62) (v := ?_) (a' := ?_) #[true, true, true, true, true, true, false, true, false, false] rfl rfl (by kernel_rfl) (fun _ _ _ h => h) (Or.inl ⟨by rfl, ?_⟩) hHeld ?_ ?_
          rotate_left
          · rintro w' ⟨s0, s1, s2, s3⟩
            go_simp
            with_reducible rfl
          rotate_left
          · simp only [Act.put, List.setIfInBounds_toArray, List.set_cons_zero, List.set_cons_succ, i64_w, i32_w]
            rfl
          refine take_ (i := 6) (N := some 65) (v := ?_) (a' := ?_) #[true, true, true, true, true, true, true, true, false, false] rfl rfl (by kernel_rfl) (fun _ _ _ h => h) (Or.inl ⟨by rfl, ?_⟩) hHeld ?_ ?_
          rotate_left
          · rintro w' ⟨s0, s1, s2, s3⟩
            go_simp
            with_reducible rfl
          rotate_left
          · simp only [Act.put, List.setIfInBounds_toArray, List.set_cons_zero, List.set_cons_succ, i64_w, i32_w]
            rfl
          refine take_ (i := 8) (N := some 67) (v := ?_) (a' := ?_) #[true, true, true, true, true, true, true, true, true, false] rfl rfl (by kernel_rfl) (fun _ _ _ h => h) (Or.inl ⟨by rfl, ?_⟩) hHeld ?_ ?_
          rotate_left
          · rintro w' ⟨s0, s1, s2, s3⟩
            go_simp
            with_reducible rfl
          rotate_left
          · simp only [Act.put, List.setIfInBounds_toArray, List.set_cons_zero, List.set_cons_succ, i64_w, i32_w]
            rfl
          refine last_ (i := 9) (N := none) #[true, true, true, true, true, true, true, true, true, true] rfl rfl (by kernel_rfl) (by decide) (fun K hK => ?_)
          obtain ⟨w9, hst, hM9, htu⟩ := (hM4.below hHeld.1 hM4.lt).store (t := 63) (et := 5) keyed Try.underlying63 (by unfold maxLen; omega) (key3 hwf) (.int .u8 (i : Int))
          refine mapUpdate_ (by rfl) rfl (.tmp 62) (.tmp 65) (.tmp 67) 63 rfl (by rfl) (by rfl) (by rfl) hst ?_
          refine hK.out _ _ ?_
          clear hK K
          refine done_ (by kernel_rfl) ?_

          have hP9 : PlayAt w9 g bm B p := (hP4.kept hHeld.1).turned htu (fun e => hm.ne_cells h.map e.symm) hbm
          have hB9 : Below B0 w w9 := (hB4.trans (hHeld.1.mono (by have := hP4.lo; have := hP4.hi; omega))).trans (MapV.turned_below htu hb1 (by have := hHeld.1.size; omega))
          clear hHeld hP4 hM4 hB4 htu
          go_wp2_with fail
          go_roundw
          case rel =>
            refine ⟨i + 1, by omega, by go_num, 1, _, _, by go_num, hP9, hM9, ?_, .inr ⟨rfl, ?_, i, by omega, by rw [HX.out]⟩, hB9⟩
            · split <;> omega
            · rfl
          case measure => simp [intOf]; omega
      · have hs1b : (s == 1) = false := by simp [hs1]
        have hs1c : (s != 1) = true := by simp [hs1]
        clear hold
        go_wp2_with fail
        go_roundw
        case rel =>
          refine ⟨i + 1, by omega, by go_num, cnt, f', n', rfl, hP2, hM2, by omega, ?_, hB2⟩
          rcases HCASE.out with ⟨h1, h2, h3⟩ | ⟨h1, h2, j, hj, hs⟩
          · refine .inl ⟨h1, h2, fun j hj => ?_⟩
            by_cases hji : j = i
            · subst hji; rw [HX.out]; exact hs1
            · exact h3 j (by omega)
          · exact .inr ⟨h1, h2, j, by omega, hs⟩
        case measure => simp [intOf]; omega
end Go.Proofs.Ytamlkmnkdcoebaa.Play
