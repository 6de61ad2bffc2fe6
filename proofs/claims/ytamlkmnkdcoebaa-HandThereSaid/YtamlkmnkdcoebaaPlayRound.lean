/- A message comes to a play, and what is said to it, and so on. -/
import Derived.Test.YtamlkmnkdcoebaaPlayRows
import Derived.Laws.OwnMore
import Derived.LoopTactic
import Derived.Deep.LoopGhost
namespace Go.Proofs.Ytamlkmnkdcoebaa.Play
open Go.RowKit LeaseSpec Flat Lease HandSpec HandLaws Hand HandPlay Go.Proofs.YtamlkmnkdcoebaaW.PrintLast
set_option linter.unusedSimpArgs false
set_option linter.unusedVariables false
set_option maxRecDepth 100000

/-- What goes on behind a message: at each step one comes, and what is said to it is laid behind the others. -/
structure Chain (N : Nat) (st : Nat → Int → S) (L : Nat → List M) (mg : Nat → M) (d : Nat → Nat) : Prop where
  n : N ≤ 19
  start : L 0 = [mg 0]
  len : ∀ k, k < N → k < (L k).length ∧ (L k).length ≤ 20
  last : (L N).length = N
  get : ∀ k, k < N → (L k)[k]? = some (mg k)
  dst : ∀ k, k < N → d k < 4 ∧ (mg k).dst = (d k : Int)
  sz : ∀ k, k < N → (mg k).c.size ≤ maxLen ∧ (st k (d k)).c.size ≤ maxLen
  sides : ∀ k, k < N → st (k + 1) = upd (st k) (d k) (hearA (st k (d k)) (mg k)).1
  rows : ∀ k, k < N → L (k + 1) = L k ++ (hearA (st k (d k)) (mg k)).2.1.toList

theorem PlayAt.far {w w' : World} {g bm B b0 : Nat} {p : PS} {u : Value} (h : PlayAt w g bm B p) (hb : Below b0 w w') (hB : B ≤ b0) (hs : B ≤ w'.heap.size) (hu : w.cell? ⟨g, 24, none⟩ = some u) (hl : ∀ j, u.ownBlock = some j → j < b0) : PlayAt w' g bm B p := by
  have c : ∀ o, w'.cell? ⟨g, o, none⟩ = w.cell? ⟨g, o, none⟩ := fun o => hb.cell (p := ⟨g, o, none⟩) (Nat.lt_of_lt_of_le h.lo hB)
  refine ⟨h.lo, hs, fun i hi => ?_, by rw [c]; exact h.cargo, by rw [c]; exact h.map, fun o => (hb.frozen (p := ⟨g, o, none⟩) (Nat.lt_of_lt_of_le h.lo hB)).trans (h.fz o), ?_⟩
  · unfold Side
    simp only [c]
    exact h.side i hi
  · obtain ⟨u', hu', ho⟩ := h.row
    obtain rfl : u' = u := by rw [hu] at hu'; exact (Option.some.inj hu').symm
    refine ⟨u', by rw [c]; exact hu, ho.1, ?_⟩
    rcases ho.2 with ⟨h1, h2⟩ | ⟨g', cap, cur, h1, hB', hg', h2⟩
    · exact .inl ⟨h1, h2⟩
    · refine .inr ⟨g', cap, cur, h1, hB', ?_, h2⟩
      subst h1
      rw [hb.block g' (hl g' rfl)]
      exact hg'
theorem said6 {w : World} {g d : Nat} {v0 v1 v2 v3 v4 v5 u : Value} (hd : d < 4) (h : w.cell? ⟨g, 24, none⟩ = some u) :
    ((((((w.setCell ⟨g, d * 6, none⟩ v0).setCell ⟨g, d * 6 + 1, none⟩ v1).setCell ⟨g, d * 6 + 2, none⟩ v2).setCell ⟨g, d * 6 + 3, none⟩ v3).setCell ⟨g, d * 6 + 4, none⟩ v4).setCell ⟨g, d * 6 + 5, none⟩ v5).drew.cell? ⟨g, 24, none⟩ = some u := by
  rw [show ∀ x : World, x.drew.cell? ⟨g, 24, none⟩ = x.cell? ⟨g, 24, none⟩ from fun _ => rfl, set_other (by omega), set_other (by omega), set_other (by omega), set_other (by omega), set_other (by omega), set_other (by omega)]
  exact h
theorem size_drew (x : World) : x.drew.heap.size = x.heap.size := rfl
theorem size6 {w : World} {p0 p1 p2 p3 p4 p5 : Addr} {v0 v1 v2 v3 v4 v5 : Value} {b0 : Nat} (h : b0 ≤ w.heap.size) :
    b0 ≤ ((((((w.setCell p0 v0).setCell p1 v1).setCell p2 v2).setCell p3 v3).setCell p4 v4).setCell p5 v5).drew.heap.size := by
  rw [size_drew]
  simp only [World.size_setCell]
  exact h
def RelR (p : PS) (st : Nat → Int → S) (L : Nat → List M) (N g bm B b0 : Nat) (u : Value) (w : World) (s4 s5 : Value) (wr : World) : Prop :=
  ∃ k : Nat, k ≤ N ∧ s5 = .int .i64 (k : Int) ∧ PlayAt wr g bm B ⟨st k, p.said, p.cargo⟩ ∧ wr.cell? ⟨g, 24, none⟩ = some u ∧ OwnM wr b0 s4 (L k) ∧ Kb B g w wr ∧ b0 ≤ wr.heap.size
set_option maxHeartbeats 4000000 in
theorem round_any (p : PS) {N : Nat} {st : Nat → Int → S} {L : Nat → List M} {mg : Nat → M} {dd : Nat → Nat} (H : Chain N st L mg dd) (kind src : Int) (d : Nat) (ep : Int) (mc : ByteArray) (hm0 : mg 0 = ⟨kind, src, d, ep, mc⟩) (hs0 : st 0 = p.s) (w : World) (g bm B : Nat) (h : PlayAt w g bm B p) :
    Calls Try.prog 24 #[.pointer (some ⟨g, 0, none⟩), .agg #[.int .i64 kind, .int .u8 src, .int .u8 (d : Int), .int .i64 ep, .string mc]] w fun r w' => r = .returned (.tuple #[]) ∧ PlayAt w' g bm B ⟨st N, p.said, p.cargo⟩ ∧ Kb B g w w' := by
  obtain ⟨u, hu, hown⟩ := h.row
  have hlu := fun j e => (hown.lt j e).2
  have hBw := h.hi
  have hgB := h.lo
  clear hown
  go_enter Try.func24, Try.ntmps24
  go_wp2_with fail
  generalize hv1 : World.alloc (World.alloc w _) _ = v1
  have hb1 : Below w.heap.size w v1 := by rw [← hv1]; exact ((Below.refl _ _).alloc (Nat.le_refl _) _).alloc (by simp) _
  have hz1 : v1.heap.size = w.heap.size + 1 + 1 := by rw [← hv1]; simp
  have hO1 : OwnM v1 w.heap.size (.slice (some ⟨w.heap.size + 1, 0, none⟩) 1 1) (L 0) := by
    rw [H.start, hm0, ← hv1]
    have := World.ownsRow_lit (base := w.heap.size) (e := 37) (size := 5) (w.alloc (.cells #[.int .i64 kind, .int .u8 src, .int .u8 (d : Int), .int .i64 ep, .string mc] 37)) #[.int .i64 kind, .int .u8 src, .int .u8 (d : Int), .int .i64 ep, .string mc] 1 (by simp) (by unfold maxLen; decide) (by simp)
    simp only [World.size_alloc] at this
    exact this
  have hIN : RelR p st L N g bm B w.heap.size u w (.slice (some ⟨w.heap.size + 1, 0, none⟩) 1 1) (.int .i64 0) v1 :=
    ⟨0, Nat.zero_le _, rfl, by rw [hs0]; exact h.kept hb1, (hb1.cell (p := ⟨g, 24, none⟩) h.lt).trans hu, hO1, Kb.of_below (hb1.mono hBw), hb1.size⟩
  clear hv1 hb1 hO1 hs0 hm0
  generalize hb0 : w.heap.size = b0 at *
  go_loopw [4, 5] (fun s4 s5 wr => RelR p st L N g bm B b0 u w s4 s5 wr) (fun _ s5 _ => 20 - (intOf s5).toNat)
  case atStart => exact hIN
  case round =>
    obtain ⟨wo, h_wo⟩ : ∃ v : World, v = wr := ⟨_, rfl⟩; subst h_wo
    clear hIN h hu
    obtain ⟨k, hk, rfl, hP, hu, hO, hK, hsz⟩ := hrel
    obtain ⟨av, cv, rfl⟩ := ownm_slice hO
    have hn := H.n
    by_cases hkN : k = N
    · subst hkN
      have hlast := H.last
      have hI : ¬ (k : Int) < ((L k).length : Int) := by omega
      clear hlast hO hu
      go_wp2_with fail
      go_end0
      exact ⟨rfl, hP, hK⟩
    · have hkl : k < N := by omega
      obtain ⟨hlen, hl20⟩ := H.len k hkl
      obtain ⟨hd, hmd⟩ := H.dst k hkl
      obtain ⟨hcm, hcs⟩ := H.sz k hkl
      have hst := H.sides k hkl
      have hls := H.rows k hkl
      have hget := H.get k hkl
      obtain ⟨gt, cap, hav, hcap, hcapm, hgt, hgtl, hread⟩ := ownm_read hO (by omega)
      obtain ⟨rfl, rfl⟩ : av = some ⟨gt, 0, none⟩ ∧ cv = cap := by simpa using hav
      obtain ⟨q0, q1, q2, q3, q4⟩ := hread k hlen
      have hgk : (L k)[k] = mg k := by rw [List.getElem?_eq_getElem hlen] at hget; exact Option.some.inj hget
      rw [hgk] at q0 q1 q2 q3 q4
      clear hread hav hget hgk
      generalize hmm : mg k = m at *
      obtain ⟨kind, src, md, ep, mc⟩ := m
      dsimp only at hmd q0 q1 q2 q3 q4 hcm
      subst hmd
      generalize hdk : dd k = d at *
      have HT := Lib.hid (fun W => hear_told (st k d) ⟨kind, src, d, ep, mc⟩ W hcs hcm)
      have hside := hP.side d hd
      dsimp only at hside
      generalize hx : st k d = x at *
      generalize hearA x ⟨kind, src, d, ep, mc⟩ = T at HT hst hls
      obtain ⟨me, e, s, t, c, kk⟩ := x
      have HST := Lib.hid hst
      have HLS := Lib.hid hls
      have HH := Lib.hid H
      have hglt := hP.lt
      have hgb : g < b0 := by omega
      have hd0 : (0 : Int) ≤ (d : Int) := by omega
      have hd4 : (d : Int) < 4 := by omega
      have hd3 : ¬ (3 : Int) < (d : Int) := by omega
      have hkI : (k : Int) < ((L k).length : Int) := by omega
      have hk20 : (k : Int) < 20 := by omega
      have hfzO : ∀ o, wo.frozen? ⟨g, o, none⟩ = false := hP.fz
      clear hst hls hx hmm hdk H
      go_wp2_with fail
      generalize hv1 : World.alloc wo _ = v1
      obtain ⟨hb1, hz1, hc1⟩ := alloc_facts hv1
      have h1 := hP.kept hb1
      obtain ⟨a0, a1, a2, a3, a4, a5⟩ := hside
      dsimp only at a0 a1 a2 a3 a4 a5
      have a0 := stay hb1 hglt a0
      have a1 := stay hb1 hglt a1
      have a2 := stay hb1 hglt a2
      have a3 := stay hb1 hglt a3
      have a4 := stay hb1 hglt a4
      have a5 := stay hb1 hglt a5
      have m0 := hc1 0
      have m1 := hc1 1
      have m2 := hc1 2
      have m3 := hc1 3
      have m4 := hc1 4
      have z1 : g < v1.heap.size := h1.lt
      have hwg : ¬ wo.heap.size = g := by omega
      have hu1 := stay hb1 hglt hu
      have hO1 : OwnM v1 b0 (.slice (some ⟨gt, 0, none⟩) (L k).length cv) (L k) := ownm_below hO hb1
      have hB1 : Below wo.heap.size wo v1 := hb1
      have HO1 := Lib.hid hO1
      clear hv1 hc1 hb1 hP hu hO hO1 hfzO q0 q1 q2 q3 q4
      generalize wo.heap.size = b9 at *
      refine start_ (n := 17) (S := fun w' => Below v1.heap.size v1 w' ∧ ∀ b o, b < v1.heap.size → w'.cell? ⟨b, o, none⟩ = v1.cell? ⟨b, o, none⟩) (ds := [14]) #[false, false, false, false, false, false, false, false, false, false, false, false, false, false, false, false, false] (by kernel_rfl) rfl rfl ⟨(still_drew v1).1, (still_drew v1).2⟩ (fun hHeld => ?_)
      generalize v1.drew = wD at hHeld ⊢
      refine pure_ (i := 0) (N := some 30) (v := ?_) (a' := ?_) #[true, false, false, false, false, false, false, false, false, false, false, false, false, false, false, false, false] rfl rfl (by kernel_rfl) (fun _ _ _ h => h) (Or.inl ⟨by rfl, ?_⟩) ?_ ?_
      rotate_left
      · intro w'
        go_simp
        with_reducible rfl
      rotate_left
      · simp only [Act.put, List.setIfInBounds_toArray, List.set_cons_zero, List.set_cons_succ, i64_w, i32_w]
        rfl
      refine pure_ (i := 1) (N := some 31) (v := ?_) (a' := ?_) #[true, true, false, false, false, false, false, false, false, false, false, false, false, false, false, false, false] rfl rfl (by kernel_rfl) (fun _ _ _ h => h) (Or.inl ⟨by rfl, ?_⟩) ?_ ?_
      rotate_left
      · intro w'
        go_simp
        with_reducible rfl
      rotate_left
      · simp only [Act.put, List.setIfInBounds_toArray, List.set_cons_zero, List.set_cons_succ, i64_w, i32_w]
        rfl
      refine pure_ (i := 3) (N := some 33) (v := ?_) (a' := ?_) #[true, true, false, true, false, false, false, false, false, false, false, false, false, false, false, false, false] rfl rfl (by kernel_rfl) (fun _ _ _ h => h) (Or.inl ⟨by rfl, ?_⟩) ?_ ?_
      rotate_left
      · intro w'
        go_simp
        with_reducible rfl
      rotate_left
      · simp only [Act.put, List.setIfInBounds_toArray, List.set_cons_zero, List.set_cons_succ, i64_w, i32_w]
        rfl
      refine pure_ (i := 4) (N := some 34) (v := ?_) (a' := ?_) #[true, true, false, true, true, false, false, false, false, false, false, false, false, false, false, false, false] rfl rfl (by kernel_rfl) (fun _ _ _ h => h) (Or.inl ⟨by rfl, ?_⟩) ?_ ?_
      rotate_left
      · intro w'
        go_simp
        with_reducible rfl
      rotate_left
      · simp only [Act.put, List.setIfInBounds_toArray, List.set_cons_zero, List.set_cons_succ, i64_w, i32_w]
        rfl
      refine take_ (i := 2) (N := some 32) (v := ?_) (a' := ?_) #[true, true, true, true, true, false, false, false, false, false, false, false, false, false, false, false, false] rfl rfl (by kernel_rfl) (fun _ _ _ h => h) (Or.inl ⟨by rfl, ?_⟩) hHeld ?_ ?_
      rotate_left
      · rintro w' ⟨s0, s1⟩
        go_simp
        with_reducible rfl
      rotate_left
      · simp only [Act.put, List.setIfInBounds_toArray, List.set_cons_zero, List.set_cons_succ, i64_w, i32_w]
        rfl
      refine pure_ (i := 5) (N := some 35) (v := ?_) (a' := ?_) #[true, true, true, true, true, true, false, false, false, false, false, false, false, false, false, false, false] rfl rfl (by kernel_rfl) (fun _ _ _ h => h) (Or.inl ⟨by rfl, ?_⟩) ?_ ?_
      rotate_left
      · intro w'
        go_simp
        with_reducible rfl
      rotate_left
      · simp only [Act.put, List.setIfInBounds_toArray, List.set_cons_zero, List.set_cons_succ, i64_w, i32_w]
        rfl
      refine take_ (i := 6) (N := some 36) (v := ?_) (a' := ?_) #[true, true, true, true, true, true, true, false, false, false, false, false, false, false, false, false, false] rfl rfl (by kernel_rfl) (fun _ _ _ h => h) (Or.inl ⟨by rfl, ?_⟩) hHeld ?_ ?_
      rotate_left
      · rintro w' ⟨s0, s1⟩
        go_simp
        with_reducible rfl
      rotate_left
      · simp only [Act.put, List.setIfInBounds_toArray, List.set_cons_zero, List.set_cons_succ, i64_w, i32_w]
        rfl
      refine take_ (i := 7) (N := some 37) (v := ?_) (a' := ?_) #[true, true, true, true, true, true, true, true, false, false, false, false, false, false, false, false, false] rfl rfl (by kernel_rfl) (fun _ _ _ h => h) (Or.inl ⟨by rfl, ?_⟩) hHeld ?_ ?_
      rotate_left
      · rintro w' ⟨s0, s1⟩
        go_simp
        with_reducible rfl
      rotate_left
      · simp only [Act.put, List.setIfInBounds_toArray, List.set_cons_zero, List.set_cons_succ, i64_w, i32_w]
        rfl
      refine join_ (σ := Value × Nat) 3 #[true, true, true, true, true, true, true, true, true, true, true, true, true, true, false, false, false] (fun q => [(38, .tuple #[.agg #[.int .u8 T.1.me, .int .i64 T.1.e, .int .i64 T.1.s, .int .u8 T.1.t, .string T.1.c, .bool T.1.k], q.1, .int .i64 T.2.2]), (29, .tuple #[.agg #[.int .u8 T.1.me, .int .i64 T.1.e, .int .i64 T.1.s, .int .u8 T.1.t, .string T.1.c, .bool T.1.k], q.1, .int .i64 T.2.2]), (39, .agg #[.int .u8 T.1.me, .int .i64 T.1.e, .int .i64 T.1.s, .int .u8 T.1.t, .string T.1.c, .bool T.1.k]), (40, q.1), (41, .int .i64 T.2.2), (7, .pointer (some ⟨q.2, 0, none⟩))]) (fun q w' => (Below v1.heap.size v1 w' ∧ ∀ b o, b < v1.heap.size → w'.cell? ⟨b, o, none⟩ = v1.cell? ⟨b, o, none⟩) ∧ Said w' v1.heap.size T.2.1 q.1 ∧ Apart q.1 q.2 ∧ Zero w' v1.heap.size q.2 [.int .u8 0, .int .i64 0, .int .i64 0, .int .u8 0, .string ⟨#[]⟩, .bool false]) ?_ ?_
      rotate_left
      · intro hCont
        refine two_ (i := 8) (j := 13) (Ni := some 38) (Nj := some 7) #[true, true, true, true, true, true, true, true, true, false, false, false, false, false, false, false, false] #[true, true, true, true, true, true, true, true, false, false, false, false, false, true, false, false, false] rfl rfl rfl rfl (by kernel_rfl) (by decide) (by decide) (fun K hK => ?_) (fun K hK => ?_)
        · skip
          refine goes_ Try.func10 (by kernel_rfl) rfl #[.agg #[.int .u8 me, .int .i64 e, .int .i64 s, .int .u8 t, .string c, .bool kk], .agg #[.int .i64 kind, .int .u8 src, .int .u8 (d : Int), .int .i64 ep, .string mc]] (by rfl) rfl rfl (by simp only [List.map_toArray, List.map_cons, List.map_nil]; rfl) ?_
          refine (HT.out _).mono ?_
          rintro r w4 ⟨v, rfl, hb, hsd⟩
          refine ⟨_, rfl, ?_⟩
          have hsd0 := hsd
          have hsd := said_mono hsd hHeld.1.size
          refine hK.out _ _ ⟨(still_keep hHeld hb).1, (still_keep hHeld hb).2⟩ (fun hHeld => ?_)
          clear hK K
          refine norm_ (a' := ?_) ?_ ?_
          rotate_left
          · show Act.put _ (some 38) _ = _
            simp only [Act.put, List.setIfInBounds_toArray, List.set_cons_zero, List.set_cons_succ, i64_w, i32_w]
            rfl
          refine pure_ (i := 9) (N := some 29) (v := ?_) (a' := ?_) #[true, true, true, true, true, true, true, true, true, true, false, false, false, false, false, false, false] rfl rfl (by kernel_rfl) (fun _ _ _ h => h) (Or.inl ⟨by rfl, ?_⟩) ?_ ?_
          rotate_left
          · intro w'
            go_simp
            with_reducible rfl
          rotate_left
          · simp only [Act.put, List.setIfInBounds_toArray, List.set_cons_zero, List.set_cons_succ, i64_w, i32_w]
            rfl
          refine pure_ (i := 10) (N := some 39) (v := ?_) (a' := ?_) #[true, true, true, true, true, true, true, true, true, true, true, false, false, false, false, false, false] rfl rfl (by kernel_rfl) (fun _ _ _ h => h) (Or.inl ⟨by rfl, ?_⟩) ?_ ?_
          rotate_left
          · intro w'
            go_simp
            with_reducible rfl
          rotate_left
          · simp only [Act.put, List.setIfInBounds_toArray, List.set_cons_zero, List.set_cons_succ, i64_w, i32_w]
            rfl
          refine pure_ (i := 11) (N := some 40) (v := ?_) (a' := ?_) #[true, true, true, true, true, true, true, true, true, true, true, true, false, false, false, false, false] rfl rfl (by kernel_rfl) (fun _ _ _ h => h) (Or.inl ⟨by rfl, ?_⟩) ?_ ?_
          rotate_left
          · intro w'
            go_simp
            with_reducible rfl
          rotate_left
          · simp only [Act.put, List.setIfInBounds_toArray, List.set_cons_zero, List.set_cons_succ, i64_w, i32_w]
            rfl
          refine pure_ (i := 12) (N := some 41) (v := ?_) (a' := ?_) #[true, true, true, true, true, true, true, true, true, true, true, true, true, false, false, false, false] rfl rfl (by kernel_rfl) (fun _ _ _ h => h) (Or.inl ⟨by rfl, ?_⟩) ?_ ?_
          rotate_left
          · intro w'
            go_simp
            with_reducible rfl
          rotate_left
          · simp only [Act.put, List.setIfInBounds_toArray, List.set_cons_zero, List.set_cons_succ, i64_w, i32_w]
            rfl
          refine one_ (i := 13) (N := some 7) #[true, true, true, true, true, true, true, true, true, true, true, true, true, true, false, false, false] rfl rfl (by kernel_rfl) (by decide) (fun K hK => ?_)
          refine value_ (w1 := ?_) (v := ?_) (by rfl) rfl ?_ ?_
          rotate_left 2
          · go_simp
            constructor
            · rfl
            · rfl
          generalize hga : World.alloc _ _ = wA
          have hbA := (alloc_facts hga).1
          have hZ := zero_alloc (B := v1.heap.size) hga hHeld.1.size
          clear hga
          have hap := apart_new hsd
          have hsd := said_below hsd hbA
          refine hK.out _ _ ⟨(still_keep hHeld hbA).1, (still_keep hHeld hbA).2⟩ (fun hHeld => ?_)
          clear hK K
          refine norm_ (a' := ?_) ?_ ?_
          rotate_left
          · show Act.put _ (some 7) _ = _
            simp only [Act.put, List.setIfInBounds_toArray, List.set_cons_zero, List.set_cons_succ, i64_w, i32_w]
            rfl
          exact norm_ (by simp only [putAll, Act.put, List.setIfInBounds_toArray, List.set_cons_zero, List.set_cons_succ]) (hCont (v, (World.heap _).size) _ ⟨hHeld, hsd, hap, hZ⟩)
        · skip
          refine value_ (w1 := ?_) (v := ?_) (by rfl) rfl ?_ ?_
          rotate_left 2
          · go_simp
            constructor
            · rfl
            · rfl
          generalize hga : World.alloc _ _ = wA
          have hbA := (alloc_facts hga).1
          have hZ := zero_alloc (B := v1.heap.size) hga hHeld.1.size
          clear hga
          refine hK.out _ _ ⟨(still_keep hHeld hbA).1, (still_keep hHeld hbA).2⟩ (fun hHeld => ?_)
          clear hK K
          refine norm_ (a' := ?_) ?_ ?_
          rotate_left
          · show Act.put _ (some 7) _ = _
            simp only [Act.put, List.setIfInBounds_toArray, List.set_cons_zero, List.set_cons_succ, i64_w, i32_w]
            rfl
          refine one_ (i := 8) (N := some 38) #[true, true, true, true, true, true, true, true, true, false, false, false, false, true, false, false, false] rfl rfl (by kernel_rfl) (by decide) (fun K hK => ?_)
          refine goes_ Try.func10 (by kernel_rfl) rfl #[.agg #[.int .u8 me, .int .i64 e, .int .i64 s, .int .u8 t, .string c, .bool kk], .agg #[.int .i64 kind, .int .u8 src, .int .u8 (d : Int), .int .i64 ep, .string mc]] (by rfl) rfl rfl (by simp only [List.map_toArray, List.map_cons, List.map_nil]; rfl) ?_
          refine (HT.out _).mono ?_
          rintro r w4 ⟨v, rfl, hb, hsd⟩
          refine ⟨_, rfl, ?_⟩
          have hsd0 := hsd
          have hsd := said_mono hsd hHeld.1.size
          have hap := apart_old hsd0 hZ.2.1
          have hZ := zero_stay hb hZ
          refine hK.out _ _ ⟨(still_keep hHeld hb).1, (still_keep hHeld hb).2⟩ (fun hHeld => ?_)
          clear hK K
          refine norm_ (a' := ?_) ?_ ?_
          rotate_left
          · show Act.put _ (some 38) _ = _
            simp only [Act.put, List.setIfInBounds_toArray, List.set_cons_zero, List.set_cons_succ, i64_w, i32_w]
            rfl
          refine pure_ (i := 9) (N := some 29) (v := ?_) (a' := ?_) #[true, true, true, true, true, true, true, true, true, true, false, false, false, true, false, false, false] rfl rfl (by kernel_rfl) (fun _ _ _ h => h) (Or.inl ⟨by rfl, ?_⟩) ?_ ?_
          rotate_left
          · intro w'
            go_simp
            with_reducible rfl
          rotate_left
          · simp only [Act.put, List.setIfInBounds_toArray, List.set_cons_zero, List.set_cons_succ, i64_w, i32_w]
            rfl
          refine pure_ (i := 10) (N := some 39) (v := ?_) (a' := ?_) #[true, true, true, true, true, true, true, true, true, true, true, false, false, true, false, false, false] rfl rfl (by kernel_rfl) (fun _ _ _ h => h) (Or.inl ⟨by rfl, ?_⟩) ?_ ?_
          rotate_left
          · intro w'
            go_simp
            with_reducible rfl
          rotate_left
          · simp only [Act.put, List.setIfInBounds_toArray, List.set_cons_zero, List.set_cons_succ, i64_w, i32_w]
            rfl
          refine pure_ (i := 11) (N := some 40) (v := ?_) (a' := ?_) #[true, true, true, true, true, true, true, true, true, true, true, true, false, true, false, false, false] rfl rfl (by kernel_rfl) (fun _ _ _ h => h) (Or.inl ⟨by rfl, ?_⟩) ?_ ?_
          rotate_left
          · intro w'
            go_simp
            with_reducible rfl
          rotate_left
          · simp only [Act.put, List.setIfInBounds_toArray, List.set_cons_zero, List.set_cons_succ, i64_w, i32_w]
            rfl
          refine pure_ (i := 12) (N := some 41) (v := ?_) (a' := ?_) #[true, true, true, true, true, true, true, true, true, true, true, true, true, true, false, false, false] rfl rfl (by kernel_rfl) (fun _ _ _ h => h) (Or.inl ⟨by rfl, ?_⟩) ?_ ?_
          rotate_left
          · intro w'
            go_simp
            with_reducible rfl
          rotate_left
          · simp only [Act.put, List.setIfInBounds_toArray, List.set_cons_zero, List.set_cons_succ, i64_w, i32_w]
            rfl
          exact norm_ (by simp only [putAll, Act.put, List.setIfInBounds_toArray, List.set_cons_zero, List.set_cons_succ]) (hCont (v, (World.heap _).size) _ ⟨hHeld, hsd, hap, hZ⟩)
      rintro ⟨v, g4⟩ w5 ⟨hHeld, hsd, hap, hg, hgl, hgc, hgf⟩
      refine norm_ (a' := ?_) ?_ ?_
      rotate_left
      · simp only [putAll, Act.put, List.setIfInBounds_toArray, List.set_cons_zero, List.set_cons_succ]
        rfl
      refine last_ (i := 14) (N := none) #[true, true, true, true, true, true, true, true, true, true, true, true, true, true, true, false, false] rfl rfl (by kernel_rfl) (by decide) (fun K hK => ?_)
      refine skip_ (w1 := ?_) (by rfl) rfl ?_ ?_
      rotate_left
      · go_simp
        rfl
      refine hK.out _ _ ?_
      clear hK K
      refine pure_ (i := 15) (N := some 8) (v := ?_) (a' := ?_) #[true, true, true, true, true, true, true, true, true, true, true, true, true, true, true, true, false] rfl rfl (by kernel_rfl) (fun _ _ _ h => h) (Or.inl ⟨by rfl, ?_⟩) ?_ ?_
      rotate_left
      · intro w'
        go_simp
        with_reducible rfl
      rotate_left
      · simp only [Act.put, List.setIfInBounds_toArray, List.set_cons_zero, List.set_cons_succ, i64_w, i32_w]
        rfl
      refine pure_ (i := 16) (N := some 9) (v := ?_) (a' := ?_) #[true, true, true, true, true, true, true, true, true, true, true, true, true, true, true, true, true] rfl rfl (by kernel_rfl) (fun _ _ _ h => h) (Or.inl ⟨by rfl, ?_⟩) ?_ ?_
      rotate_left
      · intro w'
        go_simp
        with_reducible rfl
      rotate_left
      · simp only [Act.put, List.setIfInBounds_toArray, List.set_cons_zero, List.set_cons_succ, i64_w, i32_w]
        rfl
      refine done_ (by kernel_rfl) ?_

      generalize hw6 : World.setCell (World.setCell _ _ _) _ _ = w6
      have hb6 : Below v1.heap.size v1 w6 := by
        rw [← hw6]
        repeat (refine Below.setCell ?_ (by exact hg) _)
        exact hHeld.1
      have hs6 : Said w6 v1.heap.size T.2.1 v := by
        rw [← hw6]
        exact said_set_apart (said_set_apart (said_set_apart (said_set_apart (said_set_apart (said_set_apart hsd hap) hap) hap) hap) hap) hap
      have u0 : w6.cell? ⟨g4, 0, none⟩ = some (.int .u8 T.1.me) := by rw [← hw6]; simp [go_sem, hgc]
      have u1 : w6.cell? ⟨g4, 1, none⟩ = some (.int .i64 T.1.e) := by rw [← hw6]; simp [go_sem, hgc]
      have u2 : w6.cell? ⟨g4, 2, none⟩ = some (.int .i64 T.1.s) := by rw [← hw6]; simp [go_sem, hgc]
      have u3 : w6.cell? ⟨g4, 3, none⟩ = some (.int .u8 T.1.t) := by rw [← hw6]; simp [go_sem, hgc]
      have u4 : w6.cell? ⟨g4, 4, none⟩ = some (.string T.1.c) := by rw [← hw6]; simp [go_sem, hgc]
      have u5 : w6.cell? ⟨g4, 5, none⟩ = some (.bool T.1.k) := by rw [← hw6]; simp [go_sem, hgc]
      have m2 := stay hb6 hz1 m2
      have h6 := h1.kept hb6
      have z6 : g < w6.heap.size := h6.lt
      have zg4 : g4 < w6.heap.size := Flat.cell_lt u0
      have zb9 : b9 < w6.heap.size := Flat.cell_lt m2
      have hB6 : Below b9 wo w6 := hB1.trans (hb6.mono (by omega))
      have hfz := h6.fz
      have hu6 := stay hb6 z1 hu1
      have hO6 : OwnM w6 b0 (.slice (some ⟨gt, 0, none⟩) (L k).length cv) (L k) := ownm_below HO1.out hb6
      have HO6 := Lib.hid hO6
      obtain ⟨e0, e1, e2, e3, e4, e5⟩ := h6.side d hd
      dsimp only at e0 e1 e2 e3 e4 e5
      have hside6 : ∀ j, (upd (st k) (d : Int) T.1) j = (upd (st k) (d : Int) T.1) j := fun _ => rfl
      clear hw6 hb6 a0 a1 a2 a3 a4 a5 m0 m1 m3 m4 hHeld hsd hap hg hgl hgc hgf HT h1 hB1 hu1 HO1 hO6 hside6
      go_wp2_with fail
      refine start_ (n := 8) (S := fun w' => Below w6.heap.size w6 w' ∧ ∀ b o, b < w6.heap.size → w'.cell? ⟨b, o, none⟩ = w6.cell? ⟨b, o, none⟩) (ds := [7]) #[false, false, false, false, false, false, false, false] (by kernel_rfl) rfl rfl ⟨(still_drew w6).1, (still_drew w6).2⟩ (fun hHeld => ?_)
      refine pure_ (i := 0) (N := some 42) (v := ?_) (a' := ?_) #[true, false, false, false, false, false, false, false] rfl rfl (by kernel_rfl) (fun _ _ _ h => h) (Or.inl ⟨by rfl, ?_⟩) ?_ ?_
      rotate_left
      · intro w'
        go_simp
        with_reducible rfl
      rotate_left
      · simp only [Act.put, List.setIfInBounds_toArray, List.set_cons_zero, List.set_cons_succ, i64_w, i32_w]
        rfl
      refine pure_ (i := 1) (N := some 43) (v := ?_) (a' := ?_) #[true, true, false, false, false, false, false, false] rfl rfl (by kernel_rfl) (fun _ _ _ h => h) (Or.inl ⟨by rfl, ?_⟩) ?_ ?_
      rotate_left
      · intro w'
        go_simp
        with_reducible rfl
      rotate_left
      · simp only [Act.put, List.setIfInBounds_toArray, List.set_cons_zero, List.set_cons_succ, i64_w, i32_w]
        rfl
      refine pure_ (i := 4) (N := some 46) (v := ?_) (a' := ?_) #[true, true, false, false, true, false, false, false] rfl rfl (by kernel_rfl) (fun _ _ _ h => h) (Or.inl ⟨by rfl, ?_⟩) ?_ ?_
      rotate_left
      · intro w'
        go_simp
        with_reducible rfl
      rotate_left
      · simp only [Act.put, List.setIfInBounds_toArray, List.set_cons_zero, List.set_cons_succ, i64_w, i32_w]
        rfl
      refine pure_ (i := 5) (N := some 47) (v := ?_) (a' := ?_) #[true, true, false, false, true, true, false, false] rfl rfl (by kernel_rfl) (fun _ _ _ h => h) (Or.inl ⟨by rfl, ?_⟩) ?_ ?_
      rotate_left
      · intro w'
        go_simp
        with_reducible rfl
      rotate_left
      · simp only [Act.put, List.setIfInBounds_toArray, List.set_cons_zero, List.set_cons_succ, i64_w, i32_w]
        rfl
      refine take_ (i := 2) (N := some 44) (v := ?_) (a' := ?_) #[true, true, true, false, true, true, false, false] rfl rfl (by kernel_rfl) (fun _ _ _ h => h) (Or.inl ⟨by rfl, ?_⟩) hHeld ?_ ?_
      rotate_left
      · rintro w' ⟨s0, s1⟩
        go_simp
        with_reducible rfl
      rotate_left
      · simp only [Act.put, List.setIfInBounds_toArray, List.set_cons_zero, List.set_cons_succ, i64_w, i32_w]
        rfl
      refine take_ (i := 3) (N := some 45) (v := ?_) (a' := ?_) #[true, true, true, true, true, true, false, false] rfl rfl (by kernel_rfl) (fun _ _ _ h => h) (Or.inl ⟨by rfl, ?_⟩) hHeld ?_ ?_
      rotate_left
      · rintro w' ⟨s0, s1⟩
        go_simp
        with_reducible rfl
      rotate_left
      · simp only [Act.put, List.setIfInBounds_toArray, List.set_cons_zero, List.set_cons_succ, i64_w, i32_w]
        rfl
      refine pure_ (i := 6) (N := some 48) (v := ?_) (a' := ?_) #[true, true, true, true, true, true, true, false] rfl rfl (by kernel_rfl) (fun _ _ _ h => h) (Or.inl ⟨by rfl, ?_⟩) ?_ ?_
      rotate_left
      · intro w'
        go_simp
        with_reducible rfl
      rotate_left
      · simp only [Act.put, List.setIfInBounds_toArray, List.set_cons_zero, List.set_cons_succ, i64_w, i32_w]
        rfl
      refine last_ (i := 7) (N := none) #[true, true, true, true, true, true, true, true] rfl rfl (by kernel_rfl) (by decide) (fun K hK => ?_)
      refine skip_ (w1 := ?_) (by rfl) rfl ?_ ?_
      rotate_left
      · go_simp
        rfl
      refine hK.out _ _ ?_
      clear hK K
      refine done_ (by kernel_rfl) ?_

      generalize hw7 : World.drew _ = w7
      have h7 : PlayAt w7 g bm B ⟨upd (st k) d T.1, p.said, p.cargo⟩ := by rw [← hw7]; exact (h6.setSide hd T.1).drew
      have hK7 : Kb B g wo w7 := by
        rw [← hw7]
        exact ((((((Kb.of_below (hB6.mono (by omega))).set _).set _).set _).set _).set _).set _ |>.drew
      have hap : Apart v g := apart_old hs6 z1
      have hs7 : Said w7 v1.heap.size T.2.1 v := by
        rw [← hw7]
        exact said_drew (said_set_apart (said_set_apart (said_set_apart (said_set_apart (said_set_apart (said_set_apart hs6 hap) hap) hap) hap) hap) hap)
      have hu7 : w7.cell? ⟨g, 24, none⟩ = some u := by
        rw [← hw7]
        exact said6 hd hu6
      have hO7 : OwnM w7 b0 (.slice (some ⟨gt, 0, none⟩) (L k).length cv) (L k) := by
        rw [← hw7]
        exact ownm_below (ownm_set (ownm_set (ownm_set (ownm_set (ownm_set (ownm_set HO6.out hgb) hgb) hgb) hgb) hgb) hgb) (Below.refl _ _).drew
      have hsz7 : b0 ≤ w7.heap.size := by
        rw [← hw7]
        exact size6 (by omega)
      have hKw : Kb B g w w7 := hK.trans hK7
      clear hw7 h6 hs6 hap u0 u1 u2 u3 u4 u5 m2 e0 e1 e2 e3 e4 e5 z6 zg4 zb9 hB6 hfz hu6 HO6 hK hK7
      obtain ⟨T1, To, Tn⟩ := T
      dsimp only at *
      obtain ⟨i0, hi, hz0, hz1, hz2⟩ := info_parts infoM
      have hnone : To = none → v = .slice none 0 0 := fun e => by subst e; exact hs7
      have hsome := fun m' (e : To = some m') => said_news (w := w7) (B := v1.heap.size) (m := m') (v := v) (by rw [← e]; exact hs7)
      have HOWN := Lib.hid hO7
      clear hs7 hO7
      cases To with
      | none =>
        obtain rfl := hnone rfl
        clear hsome
        have HROW : L (k + 1) = L k := by rw [HLS.out]; simp
        have HRW := Lib.hid HROW
        clear HROW HLS hnone
        go_wp2_with (first | (at_builtin; refine wpList_append_own_none rfl _ _ 32 rfl b0 37 i0 5 Try.underlying32 hi _ (L k).length _ rfl HOWN.out rfl ?_))
        go_roundw
        case rel => exact ⟨k + 1, by omega, by go_num, by rw [HST.out]; exact h7, hu7, by rw [HRW.out]; exact HOWN.out, hKw, hsz7⟩
        case measure => simp [intOf]; omega
      | some m' =>
        obtain ⟨gm, rfl, hgB', hgl, hnews⟩ := hsome m' rfl
        have HROW : L (k + 1) = L k ++ [m'] := HLS.out
        have HRW := Lib.hid HROW
        have HNEW := Lib.hid hnews
        clear HROW HLS hnews hnone hsome
        go_wp2_with (first | (at_builtin; refine wpList_append_own_at _ rfl _ _ 32 rfl b0 37 i0 _ 5 40 Try.underlying32 hi hz0 hz1 hz2 rfl (by decide) _ (L k).length _ rfl HOWN.out ⟨gm, 0, none⟩ 1 1 (mcell m') rfl rfl HNEW.out (mcell_one m') (by unfold maxLen; omega) (by omega) hsz7 ?_; intro v8 w8 hob8 hg8 hnil8 hloc8; have hB8 : Below b0 w7 w8 := (Below.refl b0 w7).grown hg8 hsz7 (fun j hj => (HOWN.out.lt j hj).1); obtain ⟨a8, c8, rfl⟩ := row_slice hob8; have HOB8 := Lib.hid hob8; clear hob8 hg8 hnil8 hloc8))
        go_roundw
        case rel =>
          refine ⟨k + 1, by omega, by go_num, ?_, (hB8.cell (p := ⟨g, 24, none⟩) hgb).trans hu7, ?_, hKw.trans (Kb.of_below (hB8.mono hBw)), Nat.le_trans hsz7 hB8.size⟩
          · rw [HST.out]
            exact h7.far hB8 hBw (Nat.le_trans hBw (Nat.le_trans hsz7 hB8.size)) hu7 hlu
          · rw [HRW.out, OwnM, List.length_append, mcells_append]
            exact HOB8.out
        case measure => simp [intOf]; omega
end Go.Proofs.Ytamlkmnkdcoebaa.Play
