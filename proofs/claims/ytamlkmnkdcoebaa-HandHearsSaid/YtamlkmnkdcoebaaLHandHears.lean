/- What any message makes of any side, and what is said to it, is the document's, or refused: for every side and every message the statement's call returns true. -/
import Derived.Test.YtamlkmnkdcoebaaHandAlive
import Derived.Test.YtamlkmnkdcoebaaHandRefTop
import Derived.Test.YtamlkmnkdcoebaaZero
import Derived.Deep.DeepCutAuto
import Derived.Deep.RegionWith
namespace Go.Proofs.Ytamlkmnkdcoebaa.LHandHears
open Go.RowKit LeaseSpec Flat Lease HandSpec Hand Go.Proofs.YtamlkmnkdcoebaaW.PrintLast
set_option linter.unusedSimpArgs false
set_option linter.unusedVariables false

/-- What is said lies elsewhere. -/
def Apart (v : Value) (g : Nat) : Prop := ∀ gm l n, v = .slice (some ⟨gm, 0, none⟩) l n → gm ≠ g
theorem apart_old {w : World} {B g : Nat} {o : Option M} {v : Value} (h : Said w B o v) (hg : g < B) : Apart v g := by
  intro gm l n hv
  cases o with
  | none => have h' : v = .slice none 0 0 := h; rw [h'] at hv; cases hv
  | some m => obtain ⟨g', hv', hB, _⟩ := h; rw [hv'] at hv; cases hv; omega
theorem apart_new {w : World} {B : Nat} {o : Option M} {v : Value} (h : Said w B o v) : Apart v w.heap.size := by
  intro gm l n hv
  cases o with
  | none => have h' : v = .slice none 0 0 := h; rw [h'] at hv; cases hv
  | some m => obtain ⟨g', hv', hB, hl, _⟩ := h; rw [hv'] at hv; cases hv; omega
theorem said_set_apart {w : World} {B g o' : Nat} {u v : Value} {o : Option M} (h : Said w B o v) (ha : Apart v g) : Said (w.setCell ⟨g, o', none⟩ u) B o v := by
  cases o with
  | none => exact h
  | some m =>
    obtain ⟨g', hv, hB, hlt, h0, h1, h2, h3, h4⟩ := h
    have hne := ha _ _ _ hv
    have ne : ∀ i, (w.setCell ⟨g, o', none⟩ u).cell? ⟨g', i, none⟩ = w.cell? ⟨g', i, none⟩ := fun i => World.cell?_setCell_other _ _ _ _ (by intro e; injection e with e1; exact hne e1.symm)
    exact ⟨g', hv, hB, by simpa using hlt, by rw [ne, h0], by rw [ne, h1], by rw [ne, h2], by rw [ne, h3], by rw [ne, h4]⟩

def HearT (T : S × Option M × Int) (w : World) (r : Ending) (w' : World) : Prop :=
  ∃ v, r = .returned (.tuple #[.agg #[.int .u8 T.1.me, .int .i64 T.1.e, .int .i64 T.1.s, .int .u8 T.1.t, .string T.1.c, .bool T.1.k], v, .int .i64 T.2.2]) ∧ Below w.heap.size w w' ∧ Said w' w.heap.size T.2.1 v
theorem hear_told (x : S) (m : M) (w : World) (hc : x.c.size ≤ maxLen) (hcm : m.c.size ≤ maxLen) :
    Calls Try.prog 10 #[.agg #[.int .u8 x.me, .int .i64 x.e, .int .i64 x.s, .int .u8 x.t, .string x.c, .bool x.k], .agg #[.int .i64 m.kind, .int .u8 m.src, .int .u8 m.dst, .int .i64 m.ep, .string m.c]] w (HearT (hearA x m) w) :=
  (hear_top x m w hc hcm).mono fun _ _ h => h

set_option maxHeartbeats 8000000 in
set_option maxRecDepth 100000 in
theorem walk (c0 : List Value) (c1 : List Value) (w : World) (w0 : Fits [.int .u8, .int .i64, .int .i64, .int .u8, .str, .bool] c0) (w1 : Fits [.int .i64, .int .u8, .int .u8, .int .i64, .str] c1) :
    Calls Try.prog 3 #[.agg c0.toArray, .agg c1.toArray] w fun e w' => e = .returned (.bool true) ∧ Below w.heap.size w w' := by
  obtain ⟨me, _, rfl, _, x1⟩ := w0.int
  obtain ⟨e, _, rfl, _, x2⟩ := x1.int
  obtain ⟨s, _, rfl, _, x3⟩ := x2.int
  obtain ⟨t, _, rfl, _, x4⟩ := x3.int
  obtain ⟨c, _, rfl, hc, x5⟩ := x4.str
  obtain ⟨k, _, rfl, x6⟩ := x5.bool
  obtain rfl := x6.done
  obtain ⟨kind, _, rfl, _, y1⟩ := w1.int
  obtain ⟨src, _, rfl, _, y2⟩ := y1.int
  obtain ⟨dst, _, rfl, _, y3⟩ := y2.int
  obtain ⟨ep, _, rfl, _, y4⟩ := y3.int
  obtain ⟨mc, _, rfl, hcm, y5⟩ := y4.str
  obtain rfl := y5.done
  clear w0 x1 x2 x3 x4 x5 x6 w1 y1 y2 y3 y4 y5
  have h1 := hc
  have h2 := hcm
  unfold maxLen at h1 h2
  by_cases hbig : 600 < c.size ∨ 600 < mc.size
  · by_cases hb : 600 < c.size
    · have hs1 : (600 : Int) < (c.size : Int) := by omega
      go_enter Try.func3, Try.ntmps3
      go_wp2_with fail
      refine (HandAlive.alive_any _).mono ?_
      rintro r v1 ⟨rfl, hb1⟩
      obtain ⟨c_hb1, f_hb1, z_hb1⟩ := bcell hb1; have z0_hb1 := z_hb1 (w.heap.size) (by first | omega | (simp only [World.size_alloc, World.size_setCell, World.size_drew, World.heap_drewN] <;> omega)); have z1_hb1 := z_hb1 (w.heap.size + 1) (by first | omega | (simp only [World.size_alloc, World.size_setCell, World.size_drew, World.heap_drewN] <;> omega)); clear z_hb1
      go_wp2_with fail
      go_ret
      refine ⟨by first | rfl | (simp [*]; done), ?_⟩
      repeat (first | (with_reducible exact Below.refl _ _) | (with_reducible assumption) | (with_reducible refine bw_alloc ?_) | (with_reducible refine bw_drew ?_) | (with_reducible refine bw_drewN ?_) | (with_reducible refine bw_set ?_ (by first | (simp; done) | (dsimp only; omega))) | (with_reducible refine bw_via (by assumption) ?_))
    · have hs1 : ¬ (600 : Int) < (c.size : Int) := by omega
      have hs2 : (600 : Int) < (mc.size : Int) := by omega
      go_enter Try.func3, Try.ntmps3
      go_wp2_with fail
      refine (HandAlive.alive_any _).mono ?_
      rintro r v1 ⟨rfl, hb1⟩
      obtain ⟨c_hb1, f_hb1, z_hb1⟩ := bcell hb1; have z0_hb1 := z_hb1 (w.heap.size) (by first | omega | (simp only [World.size_alloc, World.size_setCell, World.size_drew, World.heap_drewN] <;> omega)); have z1_hb1 := z_hb1 (w.heap.size + 1) (by first | omega | (simp only [World.size_alloc, World.size_setCell, World.size_drew, World.heap_drewN] <;> omega)); clear z_hb1
      go_wp2_with fail
      go_ret
      refine ⟨by first | rfl | (simp [*]; done), ?_⟩
      repeat (first | (with_reducible exact Below.refl _ _) | (with_reducible assumption) | (with_reducible refine bw_alloc ?_) | (with_reducible refine bw_drew ?_) | (with_reducible refine bw_drewN ?_) | (with_reducible refine bw_set ?_ (by first | (simp; done) | (dsimp only; omega))) | (with_reducible refine bw_via (by assumption) ?_))
  · have hs1 : ¬ (600 : Int) < (c.size : Int) := by omega
    have hs2 : ¬ (600 : Int) < (mc.size : Int) := by omega
    have HT := Lib.hid (fun W => hear_told ⟨me, e, s, t, c, k⟩ ⟨kind, src, dst, ep, mc⟩ W hc hcm)
    have HR := Lib.hid (fun W => hear_ref ⟨me, e, s, t, c, k⟩ ⟨kind, src, dst, ep, mc⟩ W hc hcm)
    clear hbig
    go_enter Try.func3, Try.ntmps3
    go_wp2_with fail
    refine (HandAlive.alive_any _).mono ?_
    rintro r v1 ⟨rfl, hb1⟩
    obtain ⟨c_hb1, f_hb1, z_hb1⟩ := bcell hb1; have z0_hb1 := z_hb1 (w.heap.size) (by first | omega | (simp only [World.size_alloc, World.size_setCell, World.size_drew, World.heap_drewN] <;> omega)); have z1_hb1 := z_hb1 (w.heap.size + 1) (by first | omega | (simp only [World.size_alloc, World.size_setCell, World.size_drew, World.heap_drewN] <;> omega)); clear z_hb1
    have a0 : v1.cell? ⟨w.heap.size, 0, none⟩ = some (.int .u8 me) := (by simp [go_sem, c_hb1]); have a1 : v1.cell? ⟨w.heap.size, 1, none⟩ = some (.int .i64 e) := (by simp [go_sem, c_hb1]); have a2 : v1.cell? ⟨w.heap.size, 2, none⟩ = some (.int .i64 s) := (by simp [go_sem, c_hb1]); have a3 : v1.cell? ⟨w.heap.size, 3, none⟩ = some (.int .u8 t) := (by simp [go_sem, c_hb1]); have a4 : v1.cell? ⟨w.heap.size, 4, none⟩ = some (.string c) := (by simp [go_sem, c_hb1]); have a5 : v1.cell? ⟨w.heap.size, 5, none⟩ = some (.bool k) := (by simp [go_sem, c_hb1])
    have b0 : v1.cell? ⟨w.heap.size + 1, 0, none⟩ = some (.int .i64 kind) := (by simp [go_sem, c_hb1]); have b1 : v1.cell? ⟨w.heap.size + 1, 1, none⟩ = some (.int .u8 src) := (by simp [go_sem, c_hb1]); have b2 : v1.cell? ⟨w.heap.size + 1, 2, none⟩ = some (.int .u8 dst) := (by simp [go_sem, c_hb1]); have b3 : v1.cell? ⟨w.heap.size + 1, 3, none⟩ = some (.int .i64 ep) := (by simp [go_sem, c_hb1]); have b4 : v1.cell? ⟨w.heap.size + 1, 4, none⟩ = some (.string mc) := (by simp [go_sem, c_hb1])
    clear c_hb1 f_hb1
    go_upto_region 5 with (fail)
    generalize hT : hearA ⟨me, e, s, t, c, k⟩ ⟨kind, src, dst, ep, mc⟩ = T at HT HR
    clear hT
    refine start_ (n := 12) (S := fun w' => Below v1.heap.size v1 w' ∧ ∀ b o, b < v1.heap.size → w'.cell? ⟨b, o, none⟩ = v1.cell? ⟨b, o, none⟩) (ds := [9]) #[false, false, false, false, false, false, false, false, false, false, false, false] (by kernel_rfl) rfl rfl ⟨(still_drew v1).1, (still_drew v1).2⟩ (fun hHeld => ?_)
    generalize v1.drew = wD at hHeld ⊢
    refine take_ (i := 0) (N := some 22) (v := ?_) (a' := ?_) #[true, false, false, false, false, false, false, false, false, false, false, false] rfl rfl (by kernel_rfl) (fun _ _ _ h => h) (Or.inl ⟨by rfl, ?_⟩) hHeld ?_ ?_
    rotate_left
    · rintro w' ⟨s0, s1⟩
      go_simp
      with_reducible rfl
    rotate_left
    · simp only [Act.put, List.setIfInBounds_toArray, List.set_cons_zero, List.set_cons_succ, i64_w, i32_w]
      rfl
    refine take_ (i := 2) (N := some 24) (v := ?_) (a' := ?_) #[true, false, true, false, false, false, false, false, false, false, false, false] rfl rfl (by kernel_rfl) (fun _ _ _ h => h) (Or.inl ⟨by rfl, ?_⟩) hHeld ?_ ?_
    rotate_left
    · rintro w' ⟨s0, s1⟩
      go_simp
      with_reducible rfl
    rotate_left
    · simp only [Act.put, List.setIfInBounds_toArray, List.set_cons_zero, List.set_cons_succ, i64_w, i32_w]
      rfl
    refine join_ (σ := Value × Nat) 3 #[true, true, true, true, true, true, true, true, true, false, false, false] (fun q => [(23, .agg #[.int .u8 me, .int .i64 e, .int .i64 s, .int .u8 t, .string c, .bool k]), (25, .tuple #[.agg #[.int .u8 T.1.me, .int .i64 T.1.e, .int .i64 T.1.s, .int .u8 T.1.t, .string T.1.c, .bool T.1.k], q.1, .int .i64 T.2.2]), (21, .tuple #[.agg #[.int .u8 T.1.me, .int .i64 T.1.e, .int .i64 T.1.s, .int .u8 T.1.t, .string T.1.c, .bool T.1.k], q.1, .int .i64 T.2.2]), (26, .agg #[.int .u8 T.1.me, .int .i64 T.1.e, .int .i64 T.1.s, .int .u8 T.1.t, .string T.1.c, .bool T.1.k]), (27, q.1), (28, .int .i64 T.2.2), (5, .pointer (some ⟨q.2, 0, none⟩))]) (fun q w' => (Below v1.heap.size v1 w' ∧ ∀ b o, b < v1.heap.size → w'.cell? ⟨b, o, none⟩ = v1.cell? ⟨b, o, none⟩) ∧ Said w' v1.heap.size T.2.1 q.1 ∧ Apart q.1 q.2 ∧ Zero w' v1.heap.size q.2 [.int .u8 0, .int .i64 0, .int .i64 0, .int .u8 0, .string ⟨#[]⟩, .bool false]) ?_ ?_
    rotate_left
    · intro hCont
      refine two_ (i := 1) (j := 8) (Ni := some 23) (Nj := some 5) #[true, true, true, false, false, false, false, false, false, false, false, false] #[true, false, true, false, false, false, false, false, true, false, false, false] rfl rfl rfl rfl (by kernel_rfl) (by decide) (by decide) (fun K hK => ?_) (fun K hK => ?_)
      · skip
        refine goes_ Try.func11 (by kernel_rfl) rfl #[.agg #[.int .u8 me, .int .i64 e, .int .i64 s, .int .u8 t, .string c, .bool k]] (by rfl) rfl rfl (by simp only [List.map_toArray, List.map_cons, List.map_nil]; rfl) ?_
        refine (theirs_any ⟨me, e, s, t, c, k⟩ _).mono ?_
        rintro r w3 ⟨rfl, hb⟩
        refine ⟨_, rfl, ?_⟩
        refine hK.out _ _ ⟨(still_keep hHeld hb).1, (still_keep hHeld hb).2⟩ (fun hHeld => ?_)
        clear hK K
        refine norm_ (a' := ?_) ?_ ?_
        rotate_left
        · show Act.put _ (some 23) _ = _
          simp only [Act.put, List.setIfInBounds_toArray, List.set_cons_zero, List.set_cons_succ, i64_w, i32_w]
          rfl
        refine two_ (i := 3) (j := 8) (Ni := some 25) (Nj := some 5) #[true, true, true, true, false, false, false, false, false, false, false, false] #[true, true, true, false, false, false, false, false, true, false, false, false] rfl rfl rfl rfl (by kernel_rfl) (by decide) (by decide) (fun K hK => ?_) (fun K hK => ?_)
        · skip
          refine goes_ Try.func10 (by kernel_rfl) rfl #[.agg #[.int .u8 me, .int .i64 e, .int .i64 s, .int .u8 t, .string c, .bool k], .agg #[.int .i64 kind, .int .u8 src, .int .u8 dst, .int .i64 ep, .string mc]] (by rfl) rfl rfl (by simp only [List.map_toArray, List.map_cons, List.map_nil]; rfl) ?_
          refine (HT.out _).mono ?_
          rintro r w4 ⟨v, rfl, hb, hsd⟩
          refine ⟨_, rfl, ?_⟩
          have hsd0 := hsd
          have hsd := said_mono hsd hHeld.1.size
          refine hK.out _ _ ⟨(still_keep hHeld hb).1, (still_keep hHeld hb).2⟩ (fun hHeld => ?_)
          clear hK K
          refine norm_ (a' := ?_) ?_ ?_
          rotate_left
          · show Act.put _ (some 25) _ = _
            simp only [Act.put, List.setIfInBounds_toArray, List.set_cons_zero, List.set_cons_succ, i64_w, i32_w]
            rfl
          refine pure_ (i := 4) (N := some 21) (v := ?_) (a' := ?_) #[true, true, true, true, true, false, false, false, false, false, false, false] rfl rfl (by kernel_rfl) (fun _ _ _ h => h) (Or.inl ⟨by rfl, ?_⟩) ?_ ?_
          rotate_left
          · intro w'
            go_simp
            with_reducible rfl
          rotate_left
          · simp only [Act.put, List.setIfInBounds_toArray, List.set_cons_zero, List.set_cons_succ, i64_w, i32_w]
            rfl
          refine pure_ (i := 5) (N := some 26) (v := ?_) (a' := ?_) #[true, true, true, true, true, true, false, false, false, false, false, false] rfl rfl (by kernel_rfl) (fun _ _ _ h => h) (Or.inl ⟨by rfl, ?_⟩) ?_ ?_
          rotate_left
          · intro w'
            go_simp
            with_reducible rfl
          rotate_left
          · simp only [Act.put, List.setIfInBounds_toArray, List.set_cons_zero, List.set_cons_succ, i64_w, i32_w]
            rfl
          refine pure_ (i := 6) (N := some 27) (v := ?_) (a' := ?_) #[true, true, true, true, true, true, true, false, false, false, false, false] rfl rfl (by kernel_rfl) (fun _ _ _ h => h) (Or.inl ⟨by rfl, ?_⟩) ?_ ?_
          rotate_left
          · intro w'
            go_simp
            with_reducible rfl
          rotate_left
          · simp only [Act.put, List.setIfInBounds_toArray, List.set_cons_zero, List.set_cons_succ, i64_w, i32_w]
            rfl
          refine pure_ (i := 7) (N := some 28) (v := ?_) (a' := ?_) #[true, true, true, true, true, true, true, true, false, false, false, false] rfl rfl (by kernel_rfl) (fun _ _ _ h => h) (Or.inl ⟨by rfl, ?_⟩) ?_ ?_
          rotate_left
          · intro w'
            go_simp
            with_reducible rfl
          rotate_left
          · simp only [Act.put, List.setIfInBounds_toArray, List.set_cons_zero, List.set_cons_succ, i64_w, i32_w]
            rfl
          refine one_ (i := 8) (N := some 5) #[true, true, true, true, true, true, true, true, true, false, false, false] rfl rfl (by kernel_rfl) (by decide) (fun K hK => ?_)
          refine value_ (w1 := ?_) (v := ?_) (by rfl) rfl ?_ ?_
          rotate_left 2
          · go_simp
            constructor
            · rfl
            · rfl
          generalize hga : World.alloc _ _ = wA
          have hbA := (alloc_facts hga).1
          have hZ := zero_alloc (B := v1.heap.size) hga hHeld.1.size
          clear hga
          have hap := apart_new hsd
          have hsd := said_below hsd hbA
          refine hK.out _ _ ⟨(still_keep hHeld hbA).1, (still_keep hHeld hbA).2⟩ (fun hHeld => ?_)
          clear hK K
          refine norm_ (a' := ?_) ?_ ?_
          rotate_left
          · show Act.put _ (some 5) _ = _
            simp only [Act.put, List.setIfInBounds_toArray, List.set_cons_zero, List.set_cons_succ, i64_w, i32_w]
            rfl
          exact norm_ (by simp only [putAll, Act.put, List.setIfInBounds_toArray, List.set_cons_zero, List.set_cons_succ]) (hCont (v, (World.heap _).size) _ ⟨hHeld, hsd, hap, hZ⟩)
        · skip
          refine value_ (w1 := ?_) (v := ?_) (by rfl) rfl ?_ ?_
          rotate_left 2
          · go_simp
            constructor
            · rfl
            · rfl
          generalize hga : World.alloc _ _ = wA
          have hbA := (alloc_facts hga).1
          have hZ := zero_alloc (B := v1.heap.size) hga hHeld.1.size
          clear hga
          refine hK.out _ _ ⟨(still_keep hHeld hbA).1, (still_keep hHeld hbA).2⟩ (fun hHeld => ?_)
          clear hK K
          refine norm_ (a' := ?_) ?_ ?_
          rotate_left
          · show Act.put _ (some 5) _ = _
            simp only [Act.put, List.setIfInBounds_toArray, List.set_cons_zero, List.set_cons_succ, i64_w, i32_w]
            rfl
          refine one_ (i := 3) (N := some 25) #[true, true, true, true, false, false, false, false, true, false, false, false] rfl rfl (by kernel_rfl) (by decide) (fun K hK => ?_)
          refine goes_ Try.func10 (by kernel_rfl) rfl #[.agg #[.int .u8 me, .int .i64 e, .int .i64 s, .int .u8 t, .string c, .bool k], .agg #[.int .i64 kind, .int .u8 src, .int .u8 dst, .int .i64 ep, .string mc]] (by rfl) rfl rfl (by simp only [List.map_toArray, List.map_cons, List.map_nil]; rfl) ?_
          refine (HT.out _).mono ?_
          rintro r w4 ⟨v, rfl, hb, hsd⟩
          refine ⟨_, rfl, ?_⟩
          have hsd0 := hsd
          have hsd := said_mono hsd hHeld.1.size
          have hap := apart_old hsd0 hZ.2.1
          have hZ := zero_stay hb hZ
          refine hK.out _ _ ⟨(still_keep hHeld hb).1, (still_keep hHeld hb).2⟩ (fun hHeld => ?_)
          clear hK K
          refine norm_ (a' := ?_) ?_ ?_
          rotate_left
          · show Act.put _ (some 25) _ = _
            simp only [Act.put, List.setIfInBounds_toArray, List.set_cons_zero, List.set_cons_succ, i64_w, i32_w]
            rfl
          refine pure_ (i := 4) (N := some 21) (v := ?_) (a' := ?_) #[true, true, true, true, true, false, false, false, true, false, false, false] rfl rfl (by kernel_rfl) (fun _ _ _ h => h) (Or.inl ⟨by rfl, ?_⟩) ?_ ?_
          rotate_left
          · intro w'
            go_simp
            with_reducible rfl
          rotate_left
          · simp only [Act.put, List.setIfInBounds_toArray, List.set_cons_zero, List.set_cons_succ, i64_w, i32_w]
            rfl
          refine pure_ (i := 5) (N := some 26) (v := ?_) (a' := ?_) #[true, true, true, true, true, true, false, false, true, false, false, false] rfl rfl (by kernel_rfl) (fun _ _ _ h => h) (Or.inl ⟨by rfl, ?_⟩) ?_ ?_
          rotate_left
          · intro w'
            go_simp
            with_reducible rfl
          rotate_left
          · simp only [Act.put, List.setIfInBounds_toArray, List.set_cons_zero, List.set_cons_succ, i64_w, i32_w]
            rfl
          refine pure_ (i := 6) (N := some 27) (v := ?_) (a' := ?_) #[true, true, true, true, true, true, true, false, true, false, false, false] rfl rfl (by kernel_rfl) (fun _ _ _ h => h) (Or.inl ⟨by rfl, ?_⟩) ?_ ?_
          rotate_left
          · intro w'
            go_simp
            with_reducible rfl
          rotate_left
          · simp only [Act.put, List.setIfInBounds_toArray, List.set_cons_zero, List.set_cons_succ, i64_w, i32_w]
            rfl
          refine pure_ (i := 7) (N := some 28) (v := ?_) (a' := ?_) #[true, true, true, true, true, true, true, true, true, false, false, false] rfl rfl (by kernel_rfl) (fun _ _ _ h => h) (Or.inl ⟨by rfl, ?_⟩) ?_ ?_
          rotate_left
          · intro w'
            go_simp
            with_reducible rfl
          rotate_left
          · simp only [Act.put, List.setIfInBounds_toArray, List.set_cons_zero, List.set_cons_succ, i64_w, i32_w]
            rfl
          exact norm_ (by simp only [putAll, Act.put, List.setIfInBounds_toArray, List.set_cons_zero, List.set_cons_succ]) (hCont (v, (World.heap _).size) _ ⟨hHeld, hsd, hap, hZ⟩)
      · skip
        refine value_ (w1 := ?_) (v := ?_) (by rfl) rfl ?_ ?_
        rotate_left 2
        · go_simp
          constructor
          · rfl
          · rfl
        generalize hga : World.alloc _ _ = wA
        have hbA := (alloc_facts hga).1
        have hZ := zero_alloc (B := v1.heap.size) hga hHeld.1.size
        clear hga
        refine hK.out _ _ ⟨(still_keep hHeld hbA).1, (still_keep hHeld hbA).2⟩ (fun hHeld => ?_)
        clear hK K
        refine norm_ (a' := ?_) ?_ ?_
        rotate_left
        · show Act.put _ (some 5) _ = _
          simp only [Act.put, List.setIfInBounds_toArray, List.set_cons_zero, List.set_cons_succ, i64_w, i32_w]
          rfl
        refine one_ (i := 1) (N := some 23) #[true, true, true, false, false, false, false, false, true, false, false, false] rfl rfl (by kernel_rfl) (by decide) (fun K hK => ?_)
        refine goes_ Try.func11 (by kernel_rfl) rfl #[.agg #[.int .u8 me, .int .i64 e, .int .i64 s, .int .u8 t, .string c, .bool k]] (by rfl) rfl rfl (by simp only [List.map_toArray, List.map_cons, List.map_nil]; rfl) ?_
        refine (theirs_any ⟨me, e, s, t, c, k⟩ _).mono ?_
        rintro r w3 ⟨rfl, hb⟩
        refine ⟨_, rfl, ?_⟩
        have hZ := zero_stay hb hZ
        refine hK.out _ _ ⟨(still_keep hHeld hb).1, (still_keep hHeld hb).2⟩ (fun hHeld => ?_)
        clear hK K
        refine norm_ (a' := ?_) ?_ ?_
        rotate_left
        · show Act.put _ (some 23) _ = _
          simp only [Act.put, List.setIfInBounds_toArray, List.set_cons_zero, List.set_cons_succ, i64_w, i32_w]
          rfl
        refine one_ (i := 3) (N := some 25) #[true, true, true, true, false, false, false, false, true, false, false, false] rfl rfl (by kernel_rfl) (by decide) (fun K hK => ?_)
        refine goes_ Try.func10 (by kernel_rfl) rfl #[.agg #[.int .u8 me, .int .i64 e, .int .i64 s, .int .u8 t, .string c, .bool k], .agg #[.int .i64 kind, .int .u8 src, .int .u8 dst, .int .i64 ep, .string mc]] (by rfl) rfl rfl (by simp only [List.map_toArray, List.map_cons, List.map_nil]; rfl) ?_
        refine (HT.out _).mono ?_
        rintro r w4 ⟨v, rfl, hb, hsd⟩
        refine ⟨_, rfl, ?_⟩
        have hsd0 := hsd
        have hsd := said_mono hsd hHeld.1.size
        have hap := apart_old hsd0 hZ.2.1
        have hZ := zero_stay hb hZ
        refine hK.out _ _ ⟨(still_keep hHeld hb).1, (still_keep hHeld hb).2⟩ (fun hHeld => ?_)
        clear hK K
        refine norm_ (a' := ?_) ?_ ?_
        rotate_left
        · show Act.put _ (some 25) _ = _
          simp only [Act.put, List.setIfInBounds_toArray, List.set_cons_zero, List.set_cons_succ, i64_w, i32_w]
          rfl
        refine pure_ (i := 4) (N := some 21) (v := ?_) (a' := ?_) #[true, true, true, true, true, false, false, false, true, false, false, false] rfl rfl (by kernel_rfl) (fun _ _ _ h => h) (Or.inl ⟨by rfl, ?_⟩) ?_ ?_
        rotate_left
        · intro w'
          go_simp
          with_reducible rfl
        rotate_left
        · simp only [Act.put, List.setIfInBounds_toArray, List.set_cons_zero, List.set_cons_succ, i64_w, i32_w]
          rfl
        refine pure_ (i := 5) (N := some 26) (v := ?_) (a' := ?_) #[true, true, true, true, true, true, false, false, true, false, false, false] rfl rfl (by kernel_rfl) (fun _ _ _ h => h) (Or.inl ⟨by rfl, ?_⟩) ?_ ?_
        rotate_left
        · intro w'
          go_simp
          with_reducible rfl
        rotate_left
        · simp only [Act.put, List.setIfInBounds_toArray, List.set_cons_zero, List.set_cons_succ, i64_w, i32_w]
          rfl
        refine pure_ (i := 6) (N := some 27) (v := ?_) (a' := ?_) #[true, true, true, true, true, true, true, false, true, false, false, false] rfl rfl (by kernel_rfl) (fun _ _ _ h => h) (Or.inl ⟨by rfl, ?_⟩) ?_ ?_
        rotate_left
        · intro w'
          go_simp
          with_reducible rfl
        rotate_left
        · simp only [Act.put, List.setIfInBounds_toArray, List.set_cons_zero, List.set_cons_succ, i64_w, i32_w]
          rfl
        refine pure_ (i := 7) (N := some 28) (v := ?_) (a' := ?_) #[true, true, true, true, true, true, true, true, true, false, false, false] rfl rfl (by kernel_rfl) (fun _ _ _ h => h) (Or.inl ⟨by rfl, ?_⟩) ?_ ?_
        rotate_left
        · intro w'
          go_simp
          with_reducible rfl
        rotate_left
        · simp only [Act.put, List.setIfInBounds_toArray, List.set_cons_zero, List.set_cons_succ, i64_w, i32_w]
          rfl
        exact norm_ (by simp only [putAll, Act.put, List.setIfInBounds_toArray, List.set_cons_zero, List.set_cons_succ]) (hCont (v, (World.heap _).size) _ ⟨hHeld, hsd, hap, hZ⟩)
    rintro ⟨v, g⟩ w5 ⟨hHeld, hsd, hap, hg, hgl, hgc, hgf⟩
    refine norm_ (a' := ?_) ?_ ?_
    rotate_left
    · simp only [putAll, Act.put, List.setIfInBounds_toArray, List.set_cons_zero, List.set_cons_succ]
      rfl
    refine last_ (i := 9) (N := none) #[true, true, true, true, true, true, true, true, true, true, false, false] rfl rfl (by kernel_rfl) (by decide) (fun K hK => ?_)
    refine skip_ (w1 := ?_) (by rfl) rfl ?_ ?_
    rotate_left
    · go_simp
      rfl
    refine hK.out _ _ ?_
    clear hK K
    refine pure_ (i := 10) (N := some 6) (v := ?_) (a' := ?_) #[true, true, true, true, true, true, true, true, true, true, true, false] rfl rfl (by kernel_rfl) (fun _ _ _ h => h) (Or.inl ⟨by rfl, ?_⟩) ?_ ?_
    rotate_left
    · intro w'
      go_simp
      with_reducible rfl
    rotate_left
    · simp only [Act.put, List.setIfInBounds_toArray, List.set_cons_zero, List.set_cons_succ, i64_w, i32_w]
      rfl
    refine pure_ (i := 11) (N := some 7) (v := ?_) (a' := ?_) #[true, true, true, true, true, true, true, true, true, true, true, true] rfl rfl (by kernel_rfl) (fun _ _ _ h => h) (Or.inl ⟨by rfl, ?_⟩) ?_ ?_
    rotate_left
    · intro w'
      go_simp
      with_reducible rfl
    rotate_left
    · simp only [Act.put, List.setIfInBounds_toArray, List.set_cons_zero, List.set_cons_succ, i64_w, i32_w]
      rfl
    refine done_ (by kernel_rfl) ?_

    have q0 := hgc 0
    have q1 := hgc 1
    have q2 := hgc 2
    have q3 := hgc 3
    have q4 := hgc 4
    have q5 := hgc 5
    generalize hW : World.setCell _ _ _ = W
    have t0 : W.cell? ⟨g, 0, none⟩ = some (.int .u8 T.1.me) := (by subst hW; simp [go_sem, q0, q1, q2, q3, q4, q5]); have t1 : W.cell? ⟨g, 1, none⟩ = some (.int .i64 T.1.e) := (by subst hW; simp [go_sem, q0, q1, q2, q3, q4, q5]); have t2 : W.cell? ⟨g, 2, none⟩ = some (.int .i64 T.1.s) := (by subst hW; simp [go_sem, q0, q1, q2, q3, q4, q5]); have t3 : W.cell? ⟨g, 3, none⟩ = some (.int .u8 T.1.t) := (by subst hW; simp [go_sem, q0, q1, q2, q3, q4, q5]); have t4 : W.cell? ⟨g, 4, none⟩ = some (.string T.1.c) := (by subst hW; simp [go_sem, q0, q1, q2, q3, q4, q5]); have t5 : W.cell? ⟨g, 5, none⟩ = some (.bool T.1.k) := (by subst hW; simp [go_sem, q0, q1, q2, q3, q4, q5])
    have hB5 : Below v1.heap.size v1 W := by subst hW; have := hHeld.1; repeat (first | (with_reducible exact Below.refl _ _) | (with_reducible assumption) | (with_reducible refine bw_alloc ?_) | (with_reducible refine bw_drew ?_) | (with_reducible refine bw_drewN ?_) | (with_reducible refine bw_set ?_ (by first | (simp; done) | (dsimp only; omega))) | (with_reducible refine bw_via (by assumption) ?_))
    have hsd5 : Said W v1.heap.size T.2.1 v := by subst hW; exact said_set_apart (said_set_apart (said_set_apart (said_set_apart (said_set_apart (said_set_apart hsd hap) hap) hap) hap) hap) hap
    have hgW : g < W.heap.size := by subst hW; simp only [World.size_setCell]; exact hgl
    clear hW hHeld hsd hap hgc hgf q0 q1 q2 q3 q4 q5
    have a0 := stay hB5 z0_hb1 a0
    have a1 := stay hB5 z0_hb1 a1
    have a2 := stay hB5 z0_hb1 a2
    have a3 := stay hB5 z0_hb1 a3
    have a4 := stay hB5 z0_hb1 a4
    have a5 := stay hB5 z0_hb1 a5
    have b0 := stay hB5 z1_hb1 b0
    have b1 := stay hB5 z1_hb1 b1
    have b2 := stay hB5 z1_hb1 b2
    have b3 := stay hB5 z1_hb1 b3
    have b4 := stay hB5 z1_hb1 b4
    go_wp2_with fail
    refine (HR.out _).mono ?_
    rintro r w6 ⟨v6, rfl, hb6, hsd6⟩
    obtain ⟨ra, rl, rn, rfl⟩ := said_slice hsd6
    have t0 := stay hb6 hgW t0
    have t1 := stay hb6 hgW t1
    have t2 := stay hb6 hgW t2
    have t3 := stay hb6 hgW t3
    have t4 := stay hb6 hgW t4
    have t5 := stay hb6 hgW t5
    have hgW := Nat.lt_of_lt_of_le hgW hb6.size
    have hsd5 := said_below hsd5 hb6
    go_wp2_with fail
    generalize h8 : World.alloc w6 _ = v8
    obtain ⟨hb8, n8, k8⟩ := alloc_facts h8
    clear h8
    have t0 := stay hb8 hgW t0
    have t1 := stay hb8 hgW t1
    have t2 := stay hb8 hgW t2
    have t3 := stay hb8 hgW t3
    have t4 := stay hb8 hgW t4
    have t5 := stay hb8 hgW t5
    have hgW := Nat.lt_of_lt_of_le hgW hb8.size
    have hsd5 := said_below hsd5 hb8
    have hsd6 := said_below hsd6 hb8
    have r0 := k8 0
    have r1 := k8 1
    have r2 := k8 2
    have r3 := k8 3
    have r4 := k8 4
    have r5 := k8 5
    have r6 := k8 6
    have r7 := k8 7
    have Hs5 := Lib.hid hsd5
    have Hs6 := Lib.hid hsd6
    have hB8 : Below w.heap.size w v8 := by repeat (first | (with_reducible exact Below.refl _ _) | (with_reducible assumption) | (with_reducible refine bw_alloc ?_) | (with_reducible refine bw_drew ?_) | (with_reducible refine bw_drewN ?_) | (with_reducible refine bw_set ?_ (by first | (simp; done) | (dsimp only; omega))) | (with_reducible refine bw_via (by assumption) ?_))
    clear k8 hsd5 hsd6 HT HR
    refine start_ (n := 18) (S := fun w' => Below v8.heap.size v8 w' ∧ ∀ b o, b < v8.heap.size → w'.cell? ⟨b, o, none⟩ = v8.cell? ⟨b, o, none⟩) (ds := []) #[false, false, false, false, false, false, false, false, false, false, false, false, false, false, false, false, false, false] (by kernel_rfl) rfl rfl ⟨(still_drew v8).1, (still_drew v8).2⟩ (fun hHeld => ?_)
    refine pure_ (i := 2) (N := some 34) (v := ?_) (a' := ?_) #[false, false, true, false, false, false, false, false, false, false, false, false, false, false, false, false, false, false] rfl rfl (by kernel_rfl) (fun _ _ _ h => h) (Or.inl ⟨by rfl, ?_⟩) ?_ ?_
    rotate_left
    · intro w'
      go_simp
      with_reducible rfl
    rotate_left
    · simp only [Act.put, List.setIfInBounds_toArray, List.set_cons_zero, List.set_cons_succ, i64_w, i32_w]
      rfl
    refine take_ (i := 0) (N := some 32) (v := ?_) (a' := ?_) #[true, false, true, false, false, false, false, false, false, false, false, false, false, false, false, false, false, false] rfl rfl (by kernel_rfl) (fun _ _ _ h => h) (Or.inl ⟨by rfl, ?_⟩) hHeld ?_ ?_
    rotate_left
    · rintro w' ⟨s0, s1⟩
      go_simp
      with_reducible rfl
    rotate_left
    · simp only [Act.put, List.setIfInBounds_toArray, List.set_cons_zero, List.set_cons_succ, i64_w, i32_w]
      rfl
    refine take_ (i := 3) (N := some 35) (v := ?_) (a' := ?_) #[true, false, true, true, false, false, false, false, false, false, false, false, false, false, false, false, false, false] rfl rfl (by kernel_rfl) (fun _ _ _ h => h) (Or.inl ⟨by rfl, ?_⟩) hHeld ?_ ?_
    rotate_left
    · rintro w' ⟨s0, s1⟩
      go_simp
      with_reducible rfl
    rotate_left
    · simp only [Act.put, List.setIfInBounds_toArray, List.set_cons_zero, List.set_cons_succ, i64_w, i32_w]
      rfl
    refine one_ (i := 1) (N := some 33) #[true, true, true, true, false, false, false, false, false, false, false, false, false, false, false, false, false, false] rfl rfl (by kernel_rfl) (by decide) (fun K hK => ?_)
    refine goes_ Try.func13 (by kernel_rfl) rfl #[.agg #[.int .u8 T.1.me, .int .i64 T.1.e, .int .i64 T.1.s, .int .u8 T.1.t, .string T.1.c, .bool T.1.k]] (by rfl) rfl rfl (by simp only [List.map_toArray, List.map_cons, List.map_nil]; rfl) ?_
    refine (ours_any T.1 _).mono ?_
    rintro e w3 ⟨rfl, hb⟩
    refine ⟨_, rfl, ?_⟩
    refine hK.out _ _ ⟨(still_keep hHeld hb).1, (still_keep hHeld hb).2⟩ (fun hHeld => ?_)
    clear hK K
    refine norm_ (a' := ?_) ?_ ?_
    rotate_left
    · show Act.put _ (some 33) _ = _
      simp only [Act.put, List.setIfInBounds_toArray, List.set_cons_zero, List.set_cons_succ, i64_w, i32_w]
      rfl
    refine pure_ (i := 4) (N := some 36) (v := ?_) (a' := ?_) #[true, true, true, true, true, false, false, false, false, false, false, false, false, false, false, false, false, false] rfl rfl (by kernel_rfl) (fun _ _ _ h => h) (Or.inl ⟨by rfl, ?_⟩) ?_ ?_
    rotate_left
    · intro w'
      go_simp
      with_reducible rfl
    rotate_left
    · simp only [Act.put, List.setIfInBounds_toArray, List.set_cons_zero, List.set_cons_succ, i64_w, i32_w]
      rfl
    refine pure_ (i := 5) (N := some 37) (v := ?_) (a' := ?_) #[true, true, true, true, true, true, false, false, false, false, false, false, false, false, false, false, false, false] rfl rfl (by kernel_rfl) (fun _ _ _ h => h) (Or.inl ⟨by rfl, ?_⟩) ?_ ?_
    rotate_left
    · intro w'
      go_simp
      with_reducible rfl
    rotate_left
    · simp only [Act.put, List.setIfInBounds_toArray, List.set_cons_zero, List.set_cons_succ, i64_w, i32_w]
      rfl
    refine pure_ (i := 6) (N := some 38) (v := ?_) (a' := ?_) #[true, true, true, true, true, true, true, false, false, false, false, false, false, false, false, false, false, false] rfl rfl (by kernel_rfl) (fun _ _ _ h => h) (Or.inl ⟨by rfl, ?_⟩) ?_ ?_
    rotate_left
    · intro w'
      go_simp
      with_reducible rfl
    rotate_left
    · simp only [Act.put, List.setIfInBounds_toArray, List.set_cons_zero, List.set_cons_succ, i64_w, i32_w]
      rfl
    refine pure_ (i := 7) (N := some 39) (v := ?_) (a' := ?_) #[true, true, true, true, true, true, true, true, false, false, false, false, false, false, false, false, false, false] rfl rfl (by kernel_rfl) (fun _ _ _ h => h) (Or.inl ⟨by rfl, ?_⟩) ?_ ?_
    rotate_left
    · intro w'
      go_simp
      with_reducible rfl
    rotate_left
    · simp only [Act.put, List.setIfInBounds_toArray, List.set_cons_zero, List.set_cons_succ, i64_w, i32_w]
      rfl
    refine take_ (i := 8) (N := some 40) (v := ?_) (a' := ?_) #[true, true, true, true, true, true, true, true, true, false, false, false, false, false, false, false, false, false] rfl rfl (by kernel_rfl) (fun _ _ _ h => h) (Or.inl ⟨by rfl, ?_⟩) hHeld ?_ ?_
    rotate_left
    · rintro w' ⟨s0, s1⟩
      go_simp
      with_reducible rfl
    rotate_left
    · simp only [Act.put, List.setIfInBounds_toArray, List.set_cons_zero, List.set_cons_succ, i64_w, i32_w]
      rfl
    refine one_ (i := 9) (N := some 41) #[true, true, true, true, true, true, true, true, true, true, false, false, false, false, false, false, false, false] rfl rfl (by kernel_rfl) (by decide) (fun K hK => ?_)
    refine goes_ Try.func14 (by kernel_rfl) rfl #[v, .slice ra rl rn] (by rfl) rfl rfl (by simp only [List.map_toArray, List.map_cons, List.map_nil]; rfl) ?_
    refine (same_any T.2.1 v (.slice ra rl rn) _ _ _ (said_below Hs5.out hHeld.1) (said_below Hs6.out hHeld.1)).mono ?_
    rintro e w3 ⟨rfl, hb⟩
    refine ⟨_, rfl, ?_⟩
    refine hK.out _ _ ⟨(still_keep hHeld hb).1, (still_keep hHeld hb).2⟩ (fun hHeld => ?_)
    clear hK K
    refine norm_ (a' := ?_) ?_ ?_
    rotate_left
    · show Act.put _ (some 41) _ = _
      simp only [Act.put, List.setIfInBounds_toArray, List.set_cons_zero, List.set_cons_succ, i64_w, i32_w]
      rfl
    refine pure_ (i := 10) (N := some 42) (v := ?_) (a' := ?_) #[true, true, true, true, true, true, true, true, true, true, true, false, false, false, false, false, false, false] rfl rfl (by kernel_rfl) (fun _ _ _ h => h) (Or.inl ⟨by rfl, ?_⟩) ?_ ?_
    rotate_left
    · intro w'
      go_simp
      with_reducible rfl
    rotate_left
    · simp only [Act.put, List.setIfInBounds_toArray, List.set_cons_zero, List.set_cons_succ, i64_w, i32_w]
      rfl
    refine pure_ (i := 11) (N := some 43) (v := ?_) (a' := ?_) #[true, true, true, true, true, true, true, true, true, true, true, true, false, false, false, false, false, false] rfl rfl (by kernel_rfl) (fun _ _ _ h => h) (Or.inl ⟨by rfl, ?_⟩) ?_ ?_
    rotate_left
    · intro w'
      go_simp
      with_reducible rfl
    rotate_left
    · simp only [Act.put, List.setIfInBounds_toArray, List.set_cons_zero, List.set_cons_succ, i64_w, i32_w]
      rfl
    refine pure_ (i := 12) (N := some 44) (v := ?_) (a' := ?_) #[true, true, true, true, true, true, true, true, true, true, true, true, true, false, false, false, false, false] rfl rfl (by kernel_rfl) (fun _ _ _ h => h) (Or.inl ⟨by rfl, ?_⟩) ?_ ?_
    rotate_left
    · intro w'
      go_simp
      with_reducible rfl
    rotate_left
    · simp only [Act.put, List.setIfInBounds_toArray, List.set_cons_zero, List.set_cons_succ, i64_w, i32_w]
      rfl
    refine pure_ (i := 13) (N := some 45) (v := ?_) (a' := ?_) #[true, true, true, true, true, true, true, true, true, true, true, true, true, true, false, false, false, false] rfl rfl (by kernel_rfl) (fun _ _ _ h => h) (Or.inl ⟨by rfl, ?_⟩) ?_ ?_
    rotate_left
    · intro w'
      go_simp
      with_reducible rfl
    rotate_left
    · simp only [Act.put, List.setIfInBounds_toArray, List.set_cons_zero, List.set_cons_succ, i64_w, i32_w]
      rfl
    refine take_ (i := 14) (N := some 46) (v := ?_) (a' := ?_) #[true, true, true, true, true, true, true, true, true, true, true, true, true, true, true, false, false, false] rfl rfl (by kernel_rfl) (fun _ _ _ h => h) (Or.inl ⟨by rfl, ?_⟩) hHeld ?_ ?_
    rotate_left
    · rintro w' ⟨s0, s1⟩
      go_simp
      with_reducible rfl
    rotate_left
    · simp only [Act.put, List.setIfInBounds_toArray, List.set_cons_zero, List.set_cons_succ, i64_w, i32_w]
      rfl
    refine pure_ (i := 15) (N := some 47) (v := ?_) (a' := ?_) #[true, true, true, true, true, true, true, true, true, true, true, true, true, true, true, true, false, false] rfl rfl (by kernel_rfl) (fun _ _ _ h => h) (Or.inl ⟨by rfl, ?_⟩) ?_ ?_
    rotate_left
    · intro w'
      go_simp
      with_reducible rfl
    rotate_left
    · simp only [Act.put, List.setIfInBounds_toArray, List.set_cons_zero, List.set_cons_succ, i64_w, i32_w]
      rfl
    refine pure_ (i := 16) (N := some 48) (v := ?_) (a' := ?_) #[true, true, true, true, true, true, true, true, true, true, true, true, true, true, true, true, true, false] rfl rfl (by kernel_rfl) (fun _ _ _ h => h) (Or.inl ⟨by rfl, ?_⟩) ?_ ?_
    rotate_left
    · intro w'
      go_simp
      with_reducible rfl
    rotate_left
    · simp only [Act.put, List.setIfInBounds_toArray, List.set_cons_zero, List.set_cons_succ, i64_w, i32_w]
      rfl
    refine pure_ (i := 17) (N := some 4) (v := ?_) (a' := ?_) #[true, true, true, true, true, true, true, true, true, true, true, true, true, true, true, true, true, true] rfl rfl (by kernel_rfl) (fun _ _ _ h => h) (Or.inl ⟨by rfl, ?_⟩) ?_ ?_
    rotate_left
    · intro w'
      go_simp
      with_reducible rfl
    rotate_left
    · simp only [Act.put, List.setIfInBounds_toArray, List.set_cons_zero, List.set_cons_succ, i64_w, i32_w]
      rfl
    refine done_ (by kernel_rfl) ?_

    go_wp2
    go_ret
    refine ⟨by simp, ?_⟩
    repeat (first | (with_reducible exact Below.refl _ _) | (with_reducible assumption) | (with_reducible refine bw_alloc ?_) | (with_reducible refine bw_drew ?_) | (with_reducible refine bw_drewN ?_) | (with_reducible refine bw_set ?_ (by first | (simp; done) | (dsimp only; omega))) | (with_reducible refine bw_via (by assumption) ?_))
end Go.Proofs.Ytamlkmnkdcoebaa.LHandHears
