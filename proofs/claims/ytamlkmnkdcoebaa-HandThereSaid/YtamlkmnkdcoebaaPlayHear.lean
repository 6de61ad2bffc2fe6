/- What a message that comes makes of a play. -/
import Derived.Test.YtamlkmnkdcoebaaPlay
import Derived.Laws.AppendOwnNone
namespace Go.Proofs.Ytamlkmnkdcoebaa.Play
open Go.RowKit LeaseSpec Flat Lease HandSpec HandLaws Hand HandPlay Go.Proofs.YtamlkmnkdcoebaaW.PrintLast
set_option linter.unusedSimpArgs false
set_option linter.unusedVariables false
set_option maxRecDepth 100000

def hearP (p : PS) (m : M) : PS :=
  ⟨upd p.s m.dst (hearA (p.s m.dst) m).1, if p.said.length < 500 then p.said ++ (hearA (p.s m.dst) m).2.1.toList else p.said, p.cargo⟩

theorem row_slice {w : World} {B n k : Nat} {e : TypeId} {v : Value} {l : List Value} (h : w.ownsRow B e k v n l) : ∃ a cap, v = .slice a n cap := by
  rcases h.2 with ⟨h1, h2⟩ | ⟨g, cap, cur, h1, _⟩
  · exact ⟨none, 0, by rw [h1, h2]⟩
  · exact ⟨_, cap, h1⟩
theorem ownm_slice {w : World} {B : Nat} {v : Value} {l : List M} (h : OwnM w B v l) : ∃ a cap, v = .slice a l.length cap := by
  rcases h.2 with ⟨h1, h2⟩ | ⟨g, cap, cur, h1, _⟩
  · exact ⟨none, 0, by rw [h1, h2]⟩
  · exact ⟨_, cap, h1⟩
theorem PlayAt.drew {w : World} {g bm B : Nat} {p : PS} (h : PlayAt w g bm B p) : PlayAt w.drew g bm B p := h.kept (Below.refl _ _).drew
theorem Kb.drew {B g : Nat} {w w' : World} (h : Kb B g w w') : Kb B g w w'.drew := ⟨h.os, h.tape, h.output, h.size, h.block⟩
/-- What was said as one row, in another world. -/
theorem said_news {w : World} {B : Nat} {m : M} {v : Value} (h : Said w B (some m) v) : ∃ gm, v = .slice (some ⟨gm, 0, none⟩) 1 1 ∧ B ≤ gm ∧ gm < w.heap.size ∧ ∀ j u, (mcell m)[j]? = some u → w.cell? ((⟨gm, 0, none⟩ : Addr).add j) = some u := by
  obtain ⟨gm, hv, hB, hlt, h0, h1, h2, h3, h4⟩ := h
  refine ⟨gm, hv, hB, hlt, fun j u hu => ?_⟩
  have e : ((⟨gm, 0, none⟩ : Addr).add j) = ⟨gm, j, none⟩ := by unfold Addr.add; split <;> simp_all
  rw [e]
  match j, hu with
  | 0, hu => cases hu; exact h0
  | 1, hu => cases hu; exact h1
  | 2, hu => cases hu; exact h2
  | 3, hu => cases hu; exact h3
  | 4, hu => cases hu; exact h4
theorem mcell_one (m : M) : ∀ u ∈ mcell m, u.oneCell' = true := by
  intro u hu
  simp only [mcell, List.mem_cons, List.not_mem_nil, or_false] at hu
  rcases hu with rfl | rfl | rfl | rfl | rfl <;> rfl

set_option maxHeartbeats 4000000 in
theorem play_hear (p : PS) (kind src : Int) (d : Nat) (ep : Int) (mc : ByteArray) (w : World) (g bm B : Nat) (h : PlayAt w g bm B p) (hd : d < 4) (hc : (p.s d).c.size ≤ maxLen) (hcm : mc.size ≤ maxLen) :
    Calls Try.prog 35 #[.pointer (some ⟨g, 0, none⟩), .agg #[.int .i64 kind, .int .u8 src, .int .u8 (d : Int), .int .i64 ep, .string mc]] w fun r w' => r = .returned (.tuple #[]) ∧ PlayAt w' g bm B (hearP p ⟨kind, src, d, ep, mc⟩) ∧ Kb B g w w' := by
  have HT := Lib.hid (fun W => hear_told (p.s d) ⟨kind, src, d, ep, mc⟩ W hc hcm)
  have hpost : hearP p ⟨kind, src, d, ep, mc⟩ = ⟨upd p.s d (hearA (p.s d) ⟨kind, src, d, ep, mc⟩).1, if p.said.length < 500 then p.said ++ (hearA (p.s d) ⟨kind, src, d, ep, mc⟩).2.1.toList else p.said, p.cargo⟩ := rfl
  have hside := h.side d hd
  generalize hx : p.s d = x at *
  generalize hearA x ⟨kind, src, d, ep, mc⟩ = T at HT hpost
  obtain ⟨me, e, s, t, c, k⟩ := x
  have HP := Lib.hid hpost
  have hglt := h.lt
  have hB0 := h.hi
  have hd0 : (0 : Int) ≤ (d : Int) := by omega
  have hd4 : (d : Int) < 4 := by omega
  have hd3 : ¬ (3 : Int) < (d : Int) := by omega
  clear hpost hx
  go_enter Try.func35, Try.ntmps35
  go_wp2_with fail
  generalize hv1 : World.alloc w _ = v1
  obtain ⟨hb1, hz1, hc1⟩ := alloc_facts hv1
  have h1 := h.kept hb1
  obtain ⟨a0, a1, a2, a3, a4, a5⟩ := hside
  have a0 := stay hb1 hglt a0
  have a1 := stay hb1 hglt a1
  have a2 := stay hb1 hglt a2
  have a3 := stay hb1 hglt a3
  have a4 := stay hb1 hglt a4
  have a5 := stay hb1 hglt a5
  have m0 := hc1 0
  have m1 := hc1 1
  have m2 := hc1 2
  have m3 := hc1 3
  have m4 := hc1 4
  have z1 : g < v1.heap.size := h1.lt
  have hwg : ¬ w.heap.size = g := by omega
  have hB1 : Below w.heap.size w v1 := hb1
  clear hv1 hc1 hb1 h hglt
  generalize w.heap.size = b0 at *
  refine start_ (n := 17) (S := fun w' => Below v1.heap.size v1 w' ∧ ∀ b o, b < v1.heap.size → w'.cell? ⟨b, o, none⟩ = v1.cell? ⟨b, o, none⟩) (ds := [14]) #[false, false, false, false, false, false, false, false, false, false, false, false, false, false, false, false, false] (by kernel_rfl) rfl rfl ⟨(still_drew v1).1, (still_drew v1).2⟩ (fun hHeld => ?_)
  generalize v1.drew = wD at hHeld ⊢
  refine pure_ (i := 0) (N := some 11) (v := ?_) (a' := ?_) #[true, false, false, false, false, false, false, false, false, false, false, false, false, false, false, false, false] rfl rfl (by kernel_rfl) (fun _ _ _ h => h) (Or.inl ⟨by rfl, ?_⟩) ?_ ?_
  rotate_left
  · intro w'
    go_simp
    with_reducible rfl
  rotate_left
  · simp only [Act.put, List.setIfInBounds_toArray, List.set_cons_zero, List.set_cons_succ, i64_w, i32_w]
    rfl
  refine pure_ (i := 1) (N := some 12) (v := ?_) (a' := ?_) #[true, true, false, false, false, false, false, false, false, false, false, false, false, false, false, false, false] rfl rfl (by kernel_rfl) (fun _ _ _ h => h) (Or.inl ⟨by rfl, ?_⟩) ?_ ?_
  rotate_left
  · intro w'
    go_simp
    with_reducible rfl
  rotate_left
  · simp only [Act.put, List.setIfInBounds_toArray, List.set_cons_zero, List.set_cons_succ, i64_w, i32_w]
    rfl
  refine pure_ (i := 3) (N := some 14) (v := ?_) (a' := ?_) #[true, true, false, true, false, false, false, false, false, false, false, false, false, false, false, false, false] rfl rfl (by kernel_rfl) (fun _ _ _ h => h) (Or.inl ⟨by rfl, ?_⟩) ?_ ?_
  rotate_left
  · intro w'
    go_simp
    with_reducible rfl
  rotate_left
  · simp only [Act.put, List.setIfInBounds_toArray, List.set_cons_zero, List.set_cons_succ, i64_w, i32_w]
    rfl
  refine pure_ (i := 4) (N := some 15) (v := ?_) (a' := ?_) #[true, true, false, true, true, false, false, false, false, false, false, false, false, false, false, false, false] rfl rfl (by kernel_rfl) (fun _ _ _ h => h) (Or.inl ⟨by rfl, ?_⟩) ?_ ?_
  rotate_left
  · intro w'
    go_simp
    with_reducible rfl
  rotate_left
  · simp only [Act.put, List.setIfInBounds_toArray, List.set_cons_zero, List.set_cons_succ, i64_w, i32_w]
    rfl
  refine take_ (i := 2) (N := some 13) (v := ?_) (a' := ?_) #[true, true, true, true, true, false, false, false, false, false, false, false, false, false, false, false, false] rfl rfl (by kernel_rfl) (fun _ _ _ h => h) (Or.inl ⟨by rfl, ?_⟩) hHeld ?_ ?_
  rotate_left
  · rintro w' ⟨s0, s1⟩
    go_simp
    with_reducible rfl
  rotate_left
  · simp only [Act.put, List.setIfInBounds_toArray, List.set_cons_zero, List.set_cons_succ, i64_w, i32_w]
    rfl
  refine pure_ (i := 5) (N := some 16) (v := ?_) (a' := ?_) #[true, true, true, true, true, true, false, false, false, false, false, false, false, false, false, false, false] rfl rfl (by kernel_rfl) (fun _ _ _ h => h) (Or.inl ⟨by rfl, ?_⟩) ?_ ?_
  rotate_left
  · intro w'
    go_simp
    with_reducible rfl
  rotate_left
  · simp only [Act.put, List.setIfInBounds_toArray, List.set_cons_zero, List.set_cons_succ, i64_w, i32_w]
    rfl
  refine take_ (i := 6) (N := some 17) (v := ?_) (a' := ?_) #[true, true, true, true, true, true, true, false, false, false, false, false, false, false, false, false, false] rfl rfl (by kernel_rfl) (fun _ _ _ h => h) (Or.inl ⟨by rfl, ?_⟩) hHeld ?_ ?_
  rotate_left
  · rintro w' ⟨s0, s1⟩
    go_simp
    with_reducible rfl
  rotate_left
  · simp only [Act.put, List.setIfInBounds_toArray, List.set_cons_zero, List.set_cons_succ, i64_w, i32_w]
    rfl
  refine take_ (i := 7) (N := some 18) (v := ?_) (a' := ?_) #[true, true, true, true, true, true, true, true, false, false, false, false, false, false, false, false, false] rfl rfl (by kernel_rfl) (fun _ _ _ h => h) (Or.inl ⟨by rfl, ?_⟩) hHeld ?_ ?_
  rotate_left
  · rintro w' ⟨s0, s1⟩
    go_simp
    with_reducible rfl
  rotate_left
  · simp only [Act.put, List.setIfInBounds_toArray, List.set_cons_zero, List.set_cons_succ, i64_w, i32_w]
    rfl
  refine join_ (σ := Value × Nat) 3 #[true, true, true, true, true, true, true, true, true, true, true, true, true, true, false, false, false] (fun q => [(19, .tuple #[.agg #[.int .u8 T.1.me, .int .i64 T.1.e, .int .i64 T.1.s, .int .u8 T.1.t, .string T.1.c, .bool T.1.k], q.1, .int .i64 T.2.2]), (10, .tuple #[.agg #[.int .u8 T.1.me, .int .i64 T.1.e, .int .i64 T.1.s, .int .u8 T.1.t, .string T.1.c, .bool T.1.k], q.1, .int .i64 T.2.2]), (20, .agg #[.int .u8 T.1.me, .int .i64 T.1.e, .int .i64 T.1.s, .int .u8 T.1.t, .string T.1.c, .bool T.1.k]), (21, q.1), (22, .int .i64 T.2.2), (4, .pointer (some ⟨q.2, 0, none⟩))]) (fun q w' => (Below v1.heap.size v1 w' ∧ ∀ b o, b < v1.heap.size → w'.cell? ⟨b, o, none⟩ = v1.cell? ⟨b, o, none⟩) ∧ Said w' v1.heap.size T.2.1 q.1 ∧ Apart q.1 q.2 ∧ Zero w' v1.heap.size q.2 [.int .u8 0, .int .i64 0, .int .i64 0, .int .u8 0, .string ⟨#[]⟩, .bool false]) ?_ ?_
  rotate_left
  · intro hCont
    refine two_ (i := 8) (j := 13) (Ni := some 19) (Nj := some 4) #[true, true, true, true, true, true, true, true, true, false, false, false, false, false, false, false, false] #[true, true, true, true, true, true, true, true, false, false, false, false, false, true, false, false, false] rfl rfl rfl rfl (by kernel_rfl) (by decide) (by decide) (fun K hK => ?_) (fun K hK => ?_)
    · skip
      refine goes_ Try.func10 (by kernel_rfl) rfl #[.agg #[.int .u8 me, .int .i64 e, .int .i64 s, .int .u8 t, .string c, .bool k], .agg #[.int .i64 kind, .int .u8 src, .int .u8 (d : Int), .int .i64 ep, .string mc]] (by rfl) rfl rfl (by simp only [List.map_toArray, List.map_cons, List.map_nil]; rfl) ?_
      refine (HT.out _).mono ?_
      rintro r w4 ⟨v, rfl, hb, hsd⟩
      refine ⟨_, rfl, ?_⟩
      have hsd0 := hsd
      have hsd := said_mono hsd hHeld.1.size
      refine hK.out _ _ ⟨(still_keep hHeld hb).1, (still_keep hHeld hb).2⟩ (fun hHeld => ?_)
      clear hK K
      refine norm_ (a' := ?_) ?_ ?_
      rotate_left
      · show Act.put _ (some 19) _ = _
        simp only [Act.put, List.setIfInBounds_toArray, List.set_cons_zero, List.set_cons_succ, i64_w, i32_w]
        rfl
      refine pure_ (i := 9) (N := some 10) (v := ?_) (a' := ?_) #[true, true, true, true, true, true, true, true, true, true, false, false, false, false, false, false, false] rfl rfl (by kernel_rfl) (fun _ _ _ h => h) (Or.inl ⟨by rfl, ?_⟩) ?_ ?_
      rotate_left
      · intro w'
        go_simp
        with_reducible rfl
      rotate_left
      · simp only [Act.put, List.setIfInBounds_toArray, List.set_cons_zero, List.set_cons_succ, i64_w, i32_w]
        rfl
      refine pure_ (i := 10) (N := some 20) (v := ?_) (a' := ?_) #[true, true, true, true, true, true, true, true, true, true, true, false, false, false, false, false, false] rfl rfl (by kernel_rfl) (fun _ _ _ h => h) (Or.inl ⟨by rfl, ?_⟩) ?_ ?_
      rotate_left
      · intro w'
        go_simp
        with_reducible rfl
      rotate_left
      · simp only [Act.put, List.setIfInBounds_toArray, List.set_cons_zero, List.set_cons_succ, i64_w, i32_w]
        rfl
      refine pure_ (i := 11) (N := some 21) (v := ?_) (a' := ?_) #[true, true, true, true, true, true, true, true, true, true, true, true, false, false, false, false, false] rfl rfl (by kernel_rfl) (fun _ _ _ h => h) (Or.inl ⟨by rfl, ?_⟩) ?_ ?_
      rotate_left
      · intro w'
        go_simp
        with_reducible rfl
      rotate_left
      · simp only [Act.put, List.setIfInBounds_toArray, List.set_cons_zero, List.set_cons_succ, i64_w, i32_w]
        rfl
      refine pure_ (i := 12) (N := some 22) (v := ?_) (a' := ?_) #[true, true, true, true, true, true, true, true, true, true, true, true, true, false, false, false, false] rfl rfl (by kernel_rfl) (fun _ _ _ h => h) (Or.inl ⟨by rfl, ?_⟩) ?_ ?_
      rotate_left
      · intro w'
        go_simp
        with_reducible rfl
      rotate_left
      · simp only [Act.put, List.setIfInBounds_toArray, List.set_cons_zero, List.set_cons_succ, i64_w, i32_w]
        rfl
      refine one_ (i := 13) (N := some 4) #[true, true, true, true, true, true, true, true, true, true, true, true, true, true, false, false, false] rfl rfl (by kernel_rfl) (by decide) (fun K hK => ?_)
      refine value_ (w1 := ?_) (v := ?_) (by rfl) rfl ?_ ?_
      rotate_left 2
      · go_simp
        constructor
        · rfl
        · rfl
      generalize hga : World.alloc _ _ = wA
      have hbA := (alloc_facts hga).1
      have hZ := zero_alloc (B := v1.heap.size) hga hHeld.1.size
      clear hga
      have hap := apart_new hsd
      have hsd := said_below hsd hbA
      refine hK.out _ _ ⟨(still_keep hHeld hbA).1, (still_keep hHeld hbA).2⟩ (fun hHeld => ?_)
      clear hK K
      refine norm_ (a' := ?_) ?_ ?_
      rotate_left
      · show Act.put _ (some 4) _ = _
        simp only [Act.put, List.setIfInBounds_toArray, List.set_cons_zero, List.set_cons_succ, i64_w, i32_w]
        rfl
      exact norm_ (by simp only [putAll, Act.put, List.setIfInBounds_toArray, List.set_cons_zero, List.set_cons_succ]) (hCont (v, (World.heap _).size) _ ⟨hHeld, hsd, hap, hZ⟩)
    · skip
      refine value_ (w1 := ?_) (v := ?_) (by rfl) rfl ?_ ?_
      rotate_left 2
      · go_simp
        constructor
        · rfl
        · rfl
      generalize hga : World.alloc _ _ = wA
      have hbA := (alloc_facts hga).1
      have hZ := zero_alloc (B := v1.heap.size) hga hHeld.1.size
      clear hga
      refine hK.out _ _ ⟨(still_keep hHeld hbA).1, (still_keep hHeld hbA).2⟩ (fun hHeld => ?_)
      clear hK K
      refine norm_ (a' := ?_) ?_ ?_
      rotate_left
      · show Act.put _ (some 4) _ = _
        simp only [Act.put, List.setIfInBounds_toArray, List.set_cons_zero, List.set_cons_succ, i64_w, i32_w]
        rfl
      refine one_ (i := 8) (N := some 19) #[true, true, true, true, true, true, true, true, true, false, false, false, false, true, false, false, false] rfl rfl (by kernel_rfl) (by decide) (fun K hK => ?_)
      refine goes_ Try.func10 (by kernel_rfl) rfl #[.agg #[.int .u8 me, .int .i64 e, .int .i64 s, .int .u8 t, .string c, .bool k], .agg #[.int .i64 kind, .int .u8 src, .int .u8 (d : Int), .int .i64 ep, .string mc]] (by rfl) rfl rfl (by simp only [List.map_toArray, List.map_cons, List.map_nil]; rfl) ?_
      refine (HT.out _).mono ?_
      rintro r w4 ⟨v, rfl, hb, hsd⟩
      refine ⟨_, rfl, ?_⟩
      have hsd0 := hsd
      have hsd := said_mono hsd hHeld.1.size
      have hap := apart_old hsd0 hZ.2.1
      have hZ := zero_stay hb hZ
      refine hK.out _ _ ⟨(still_keep hHeld hb).1, (still_keep hHeld hb).2⟩ (fun hHeld => ?_)
      clear hK K
      refine norm_ (a' := ?_) ?_ ?_
      rotate_left
      · show Act.put _ (some 19) _ = _
        simp only [Act.put, List.setIfInBounds_toArray, List.set_cons_zero, List.set_cons_succ, i64_w, i32_w]
        rfl
      refine pure_ (i := 9) (N := some 10) (v := ?_) (a' := ?_) #[true, true, true, true, true, true, true, true, true, true, false, false, false, true, false, false, false] rfl rfl (by kernel_rfl) (fun _ _ _ h => h) (Or.inl ⟨by rfl, ?_⟩) ?_ ?_
      rotate_left
      · intro w'
        go_simp
        with_reducible rfl
      rotate_left
      · simp only [Act.put, List.setIfInBounds_toArray, List.set_cons_zero, List.set_cons_succ, i64_w, i32_w]
        rfl
      refine pure_ (i := 10) (N := some 20) (v := ?_) (a' := ?_) #[true, true, true, true, true, true, true, true, true, true, true, false, false, true, false, false, false] rfl rfl (by kernel_rfl) (fun _ _ _ h => h) (Or.inl ⟨by rfl, ?_⟩) ?_ ?_
      rotate_left
      · intro w'
        go_simp
        with_reducible rfl
      rotate_left
      · simp only [Act.put, List.setIfInBounds_toArray, List.set_cons_zero, List.set_cons_succ, i64_w, i32_w]
        rfl
      refine pure_ (i := 11) (N := some 21) (v := ?_) (a' := ?_) #[true, true, true, true, true, true, true, true, true, true, true, true, false, true, false, false, false] rfl rfl (by kernel_rfl) (fun _ _ _ h => h) (Or.inl ⟨by rfl, ?_⟩) ?_ ?_
      rotate_left
      · intro w'
        go_simp
        with_reducible rfl
      rotate_left
      · simp only [Act.put, List.setIfInBounds_toArray, List.set_cons_zero, List.set_cons_succ, i64_w, i32_w]
        rfl
      refine pure_ (i := 12) (N := some 22) (v := ?_) (a' := ?_) #[true, true, true, true, true, true, true, true, true, true, true, true, true, true, false, false, false] rfl rfl (by kernel_rfl) (fun _ _ _ h => h) (Or.inl ⟨by rfl, ?_⟩) ?_ ?_
      rotate_left
      · intro w'
        go_simp
        with_reducible rfl
      rotate_left
      · simp only [Act.put, List.setIfInBounds_toArray, List.set_cons_zero, List.set_cons_succ, i64_w, i32_w]
        rfl
      exact norm_ (by simp only [putAll, Act.put, List.setIfInBounds_toArray, List.set_cons_zero, List.set_cons_succ]) (hCont (v, (World.heap _).size) _ ⟨hHeld, hsd, hap, hZ⟩)
  rintro ⟨v, g4⟩ w5 ⟨hHeld, hsd, hap, hg, hgl, hgc, hgf⟩
  refine norm_ (a' := ?_) ?_ ?_
  rotate_left
  · simp only [putAll, Act.put, List.setIfInBounds_toArray, List.set_cons_zero, List.set_cons_succ]
    rfl
  refine last_ (i := 14) (N := none) #[true, true, true, true, true, true, true, true, true, true, true, true, true, true, true, false, false] rfl rfl (by kernel_rfl) (by decide) (fun K hK => ?_)
  refine skip_ (w1 := ?_) (by rfl) rfl ?_ ?_
  rotate_left
  · go_simp
    rfl
  refine hK.out _ _ ?_
  clear hK K
  refine pure_ (i := 15) (N := some 5) (v := ?_) (a' := ?_) #[true, true, true, true, true, true, true, true, true, true, true, true, true, true, true, true, false] rfl rfl (by kernel_rfl) (fun _ _ _ h => h) (Or.inl ⟨by rfl, ?_⟩) ?_ ?_
  rotate_left
  · intro w'
    go_simp
    with_reducible rfl
  rotate_left
  · simp only [Act.put, List.setIfInBounds_toArray, List.set_cons_zero, List.set_cons_succ, i64_w, i32_w]
    rfl
  refine pure_ (i := 16) (N := some 6) (v := ?_) (a' := ?_) #[true, true, true, true, true, true, true, true, true, true, true, true, true, true, true, true, true] rfl rfl (by kernel_rfl) (fun _ _ _ h => h) (Or.inl ⟨by rfl, ?_⟩) ?_ ?_
  rotate_left
  · intro w'
    go_simp
    with_reducible rfl
  rotate_left
  · simp only [Act.put, List.setIfInBounds_toArray, List.set_cons_zero, List.set_cons_succ, i64_w, i32_w]
    rfl
  refine done_ (by kernel_rfl) ?_

  generalize hw6 : World.setCell (World.setCell _ _ _) _ _ = w6
  have hb6 : Below v1.heap.size v1 w6 := by
    rw [← hw6]
    repeat (refine Below.setCell ?_ (by exact hg) _)
    exact hHeld.1
  have hs6 : Said w6 v1.heap.size T.2.1 v := by
    rw [← hw6]
    exact said_set_apart (said_set_apart (said_set_apart (said_set_apart (said_set_apart (said_set_apart hsd hap) hap) hap) hap) hap) hap
  have u0 : w6.cell? ⟨g4, 0, none⟩ = some (.int .u8 T.1.me) := by rw [← hw6]; simp [go_sem, hgc]
  have u1 : w6.cell? ⟨g4, 1, none⟩ = some (.int .i64 T.1.e) := by rw [← hw6]; simp [go_sem, hgc]
  have u2 : w6.cell? ⟨g4, 2, none⟩ = some (.int .i64 T.1.s) := by rw [← hw6]; simp [go_sem, hgc]
  have u3 : w6.cell? ⟨g4, 3, none⟩ = some (.int .u8 T.1.t) := by rw [← hw6]; simp [go_sem, hgc]
  have u4 : w6.cell? ⟨g4, 4, none⟩ = some (.string T.1.c) := by rw [← hw6]; simp [go_sem, hgc]
  have u5 : w6.cell? ⟨g4, 5, none⟩ = some (.bool T.1.k) := by rw [← hw6]; simp [go_sem, hgc]
  have m2 := stay hb6 hz1 m2
  have h6 := h1.kept hb6
  have z6 : g < w6.heap.size := h6.lt
  have zg4 : g4 < w6.heap.size := Flat.cell_lt u0
  have zb0 : b0 < w6.heap.size := Flat.cell_lt m2
  have hB6 : Below b0 w w6 := hB1.trans (hb6.mono (by omega))
  have hfz := h6.fz
  obtain ⟨e0, e1, e2, e3, e4, e5⟩ := h6.side d hd
  clear hw6 hb6 a0 a1 a2 a3 a4 a5 m0 m1 m3 m4 hHeld hsd hap hg hgl hgc hgf HT h1 hB1
  go_wp2_with fail
  refine start_ (n := 8) (S := fun w' => Below w6.heap.size w6 w' ∧ ∀ b o, b < w6.heap.size → w'.cell? ⟨b, o, none⟩ = w6.cell? ⟨b, o, none⟩) (ds := [7]) #[false, false, false, false, false, false, false, false] (by kernel_rfl) rfl rfl ⟨(still_drew w6).1, (still_drew w6).2⟩ (fun hHeld => ?_)
  refine pure_ (i := 0) (N := some 23) (v := ?_) (a' := ?_) #[true, false, false, false, false, false, false, false] rfl rfl (by kernel_rfl) (fun _ _ _ h => h) (Or.inl ⟨by rfl, ?_⟩) ?_ ?_
  rotate_left
  · intro w'
    go_simp
    with_reducible rfl
  rotate_left
  · simp only [Act.put, List.setIfInBounds_toArray, List.set_cons_zero, List.set_cons_succ, i64_w, i32_w]
    rfl
  refine pure_ (i := 1) (N := some 24) (v := ?_) (a' := ?_) #[true, true, false, false, false, false, false, false] rfl rfl (by kernel_rfl) (fun _ _ _ h => h) (Or.inl ⟨by rfl, ?_⟩) ?_ ?_
  rotate_left
  · intro w'
    go_simp
    with_reducible rfl
  rotate_left
  · simp only [Act.put, List.setIfInBounds_toArray, List.set_cons_zero, List.set_cons_succ, i64_w, i32_w]
    rfl
  refine pure_ (i := 4) (N := some 27) (v := ?_) (a' := ?_) #[true, true, false, false, true, false, false, false] rfl rfl (by kernel_rfl) (fun _ _ _ h => h) (Or.inl ⟨by rfl, ?_⟩) ?_ ?_
  rotate_left
  · intro w'
    go_simp
    with_reducible rfl
  rotate_left
  · simp only [Act.put, List.setIfInBounds_toArray, List.set_cons_zero, List.set_cons_succ, i64_w, i32_w]
    rfl
  refine pure_ (i := 5) (N := some 28) (v := ?_) (a' := ?_) #[true, true, false, false, true, true, false, false] rfl rfl (by kernel_rfl) (fun _ _ _ h => h) (Or.inl ⟨by rfl, ?_⟩) ?_ ?_
  rotate_left
  · intro w'
    go_simp
    with_reducible rfl
  rotate_left
  · simp only [Act.put, List.setIfInBounds_toArray, List.set_cons_zero, List.set_cons_succ, i64_w, i32_w]
    rfl
  refine take_ (i := 2) (N := some 25) (v := ?_) (a' := ?_) #[true, true, true, false, true, true, false, false] rfl rfl (by kernel_rfl) (fun _ _ _ h => h) (Or.inl ⟨by rfl, ?_⟩) hHeld ?_ ?_
  rotate_left
  · rintro w' ⟨s0, s1⟩
    go_simp
    with_reducible rfl
  rotate_left
  · simp only [Act.put, List.setIfInBounds_toArray, List.set_cons_zero, List.set_cons_succ, i64_w, i32_w]
    rfl
  refine take_ (i := 3) (N := some 26) (v := ?_) (a' := ?_) #[true, true, true, true, true, true, false, false] rfl rfl (by kernel_rfl) (fun _ _ _ h => h) (Or.inl ⟨by rfl, ?_⟩) hHeld ?_ ?_
  rotate_left
  · rintro w' ⟨s0, s1⟩
    go_simp
    with_reducible rfl
  rotate_left
  · simp only [Act.put, List.setIfInBounds_toArray, List.set_cons_zero, List.set_cons_succ, i64_w, i32_w]
    rfl
  refine pure_ (i := 6) (N := some 29) (v := ?_) (a' := ?_) #[true, true, true, true, true, true, true, false] rfl rfl (by kernel_rfl) (fun _ _ _ h => h) (Or.inl ⟨by rfl, ?_⟩) ?_ ?_
  rotate_left
  · intro w'
    go_simp
    with_reducible rfl
  rotate_left
  · simp only [Act.put, List.setIfInBounds_toArray, List.set_cons_zero, List.set_cons_succ, i64_w, i32_w]
    rfl
  refine last_ (i := 7) (N := none) #[true, true, true, true, true, true, true, true] rfl rfl (by kernel_rfl) (by decide) (fun K hK => ?_)
  refine skip_ (w1 := ?_) (by rfl) rfl ?_ ?_
  rotate_left
  · go_simp
    rfl
  refine hK.out _ _ ?_
  clear hK K
  refine done_ (by kernel_rfl) ?_

  generalize hw7 : World.drew _ = w7
  have h7 : PlayAt w7 g bm B ⟨upd p.s d T.1, p.said, p.cargo⟩ := by rw [← hw7]; exact (h6.setSide hd T.1).drew
  have hK7 : Kb B g w w7 := by
    rw [← hw7]
    exact ((((((Kb.of_below (hB6.mono hB0)).set _).set _).set _).set _).set _).set _ |>.drew
  have hap : Apart v g := apart_old hs6 z1
  have hs7 : Said w7 v1.heap.size T.2.1 v := by
    rw [← hw7]
    exact said_drew (said_set_apart (said_set_apart (said_set_apart (said_set_apart (said_set_apart (said_set_apart hs6 hap) hap) hap) hap) hap) hap)
  clear hw7 h6 hs6 hap u0 u1 u2 u3 u4 u5 m2 e0 e1 e2 e3 e4 e5 z6 zg4 zb0 hB6 hfz
  obtain ⟨u, hu, hown⟩ := h7.row
  obtain ⟨au, cu, rfl⟩ := ownm_slice hown
  have z7 : g < w7.heap.size := h7.lt
  have hfz := h7.fz 24
  dsimp only at hu hown
  obtain ⟨T1, To, Tn⟩ := T
  dsimp only at *
  obtain ⟨i0, hi, hz0, hz1, hz2⟩ := info_parts infoM
  by_cases h5 : p.said.length < 500
  · have hI : (p.said.length : Int) < 500 := by omega
    have HPP := HP.out
    rw [if_pos h5] at HPP
    have HP2 := Lib.hid HPP
    have HOWN := Lib.hid hown
    clear HP HPP hown
    have hnone : To = none → v = .slice none 0 0 := fun e => by subst e; exact hs7
    have hsome := fun m' (e : To = some m') => said_news (w := w7) (B := v1.heap.size) (m := m') (v := v) (by rw [← e]; exact hs7)
    clear hs7
    cases To with
    | none =>
      obtain rfl := hnone rfl
      clear hsome
      have HS : hearP p ⟨kind, src, d, ep, mc⟩ = ⟨upd p.s d T1, p.said, p.cargo⟩ := by rw [HP2.out]; simp
      have HSH := Lib.hid HS
      clear HS HP2 h5 hnone
      go_wp2_with (first | (at_builtin; refine wpList_append_own_none rfl _ _ 32 rfl B 37 i0 5 Try.underlying32 hi _ p.said.length _ rfl HOWN.out rfl ?_))
      go_end0
      refine ⟨rfl, ?_, hK7.set _⟩
      rw [HSH.out]
      exact h7.setSaid (Below.refl _ _) HOWN.out
    | some m' =>
      obtain ⟨gm, rfl, hgB, hgl, hnews⟩ := hsome m' rfl
      have HS : hearP p ⟨kind, src, d, ep, mc⟩ = ⟨upd p.s d T1, p.said ++ [m'], p.cargo⟩ := HP2.out
      have HSH := Lib.hid HS
      have HNEW := Lib.hid hnews
      have hl5 := h5
      clear HS HP2 hnews hnone hsome
      go_wp2_with (first | (at_builtin; refine wpList_append_own_at _ rfl _ _ 32 rfl B 37 i0 _ 5 40 Try.underlying32 hi hz0 hz1 hz2 rfl (by decide) _ p.said.length _ rfl HOWN.out ⟨gm, 0, none⟩ 1 1 (mcell m') rfl rfl HNEW.out (mcell_one m') (by unfold maxLen; omega) (by omega) h7.hi ?_; intro v8 w8 hob8 hg8 hnil8 hloc8; have hB8 : Below B w7 w8 := (Below.refl B w7).grown hg8 h7.hi (fun j hj => (HOWN.out.lt j hj).1); have hu8 := (hB8.cell (p := ⟨g, 24, none⟩) h7.lo).trans hu; have hf8 := (hB8.frozen (p := ⟨g, 24, none⟩) h7.lo).trans hfz; obtain ⟨a8, c8, rfl⟩ := row_slice hob8; have HOB8 := Lib.hid hob8; clear hob8 hg8 hnil8 hloc8))
      go_end0
      refine ⟨rfl, ?_, (hK7.trans (Kb.of_below hB8)).set _⟩
      rw [HSH.out]
      refine h7.setSaid hB8 ?_
      rw [OwnM, List.length_append, mcells_append]
      exact HOB8.out
  · have hI : ¬ (p.said.length : Int) < 500 := by omega
    have HPP := HP.out
    rw [if_neg h5] at HPP
    have HP2 := Lib.hid HPP
    clear HP HPP h5 hown
    go_wp2_with fail
    go_end0
    refine ⟨rfl, ?_, hK7⟩
    rw [HP2.out]
    exact h7
end Go.Proofs.Ytamlkmnkdcoebaa.Play
