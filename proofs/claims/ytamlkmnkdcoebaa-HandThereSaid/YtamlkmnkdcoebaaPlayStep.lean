/- What a step makes of a play. -/
import Derived.Test.YtamlkmnkdcoebaaPlayHear
import Derived.Deep.QuietTactic
import Derived.BigQuiet
namespace Go.Proofs.Ytamlkmnkdcoebaa.Play
open Go.RowKit LeaseSpec Flat Lease HandSpec HandLaws Hand HandPlay Go.Proofs.YtamlkmnkdcoebaaW.PrintLast
set_option linter.unusedSimpArgs false
set_option linter.unusedVariables false
set_option maxRecDepth 100000

/-- The box of a step. -/
def BoxS (w : World) (b : Nat) (kn at_ an bn : Nat) (c : ByteArray) : Prop :=
  w.cell? ⟨b, 0, none⟩ = some (.int .u8 (kn : Int)) ∧ w.cell? ⟨b, 1, none⟩ = some (.int .u16 (at_ : Int)) ∧ w.cell? ⟨b, 2, none⟩ = some (.int .u8 (an : Int)) ∧ w.cell? ⟨b, 3, none⟩ = some (.int .u8 (bn : Int)) ∧ w.cell? ⟨b, 4, none⟩ = some (.string c)
theorem box_start {w v : World} {g bm B kn at_ an bn : Nat} {c : ByteArray} {p : PS} {t : TypeId} {q : Nat} (h : PlayAt w g bm B p) (hv : (w.alloc (.cells #[.int .u8 (kn : Int), .int .u16 (at_ : Int), .int .u8 (an : Int), .int .u8 (bn : Int), .string c] t)).drewN q = v) :
    PlayAt v g bm B p ∧ BoxS v w.heap.size kn at_ an bn c ∧ Below w.heap.size w v ∧ w.heap.size < v.heap.size := by
  have hb : Below w.heap.size w v := by rw [← hv]; exact bw_drewN ((Below.refl _ _).alloc (Nat.le_refl _) _)
  refine ⟨h.kept hb, ?_, hb, by rw [← hv]; simp⟩
  rw [← hv]
  refine ⟨?_, ?_, ?_, ?_, ?_⟩ <;> simp [go_sem]

theorem new_msg {w : World} {m : M} {t : TypeId} {j : Nat} {u : Value} (h : (mcell m)[j]? = some u) :
    (w.drew.alloc (.cells #[.int .i64 m.kind, .int .u8 m.src, .int .u8 m.dst, .int .i64 m.ep, .string m.c] t)).cell? ((⟨w.heap.size, 0, none⟩ : Addr).add j) = some u := by
  have e : ((⟨w.heap.size, 0, none⟩ : Addr).add j) = ⟨w.heap.size, j, none⟩ := by unfold Addr.add; split <;> simp_all
  rw [e]
  have k := World.cell?_alloc_new (w := w.drew) #[.int .i64 m.kind, .int .u8 m.src, .int .u8 m.dst, .int .i64 m.ep, .string m.c] t j
  rw [show w.drew.heap.size = w.heap.size from rfl] at k
  rw [k]
  simpa [mcell] using h

def askP (p : PS) (a b : Int) : PS := if (askH (p.s a) b).2 = 0 then ⟨p.s, p.said ++ [(askH (p.s a) b).1], p.cargo⟩ else p
set_option maxHeartbeats 4000000 in
theorem step_ask (p : PS) (kn at_ an bn a b : Nat) (c : ByteArray) (w : World) (g bm B : Nat) (h : PlayAt w g bm B p) (hk : (kn : Int) % 6 = 3) (ha : (an : Int) % 4 = (a : Int)) (hb : (bn : Int) % 4 = (b : Int)) (ha4 : a < 4) (hb4 : b < 4) (hc : (p.s a).c.size ≤ maxLen) (hl : p.said.length ≤ 1000) :
    Calls Try.prog 22 #[.pointer (some ⟨g, 0, none⟩), .agg #[.int .u8 (kn : Int), .int .u16 (at_ : Int), .int .u8 (an : Int), .int .u8 (bn : Int), .string c]] w fun r w' => r = .returned (.tuple #[]) ∧
      PlayAt w' g bm B (askP p a b) ∧ Kb B g w w' := by
  have HA := Lib.hid (fun W => ask_any (p.s a) b W hc)
  generalize hT : askH (p.s a) b = T at HA
  obtain ⟨m, n⟩ := T
  have HT := Lib.hid hT
  have hd0 : (0 : Int) ≤ (a : Int) := by omega
  have hd4 : (a : Int) < 4 := by omega
  have h0 := h.hi
  clear hT
  go_enter Try.func22, Try.ntmps22
  go_wp2_with fail
  go_quiet (fail)
  generalize hv1 : World.drewN _ nq = v1
  obtain ⟨h1, ⟨k0, k1, k2, k3, k4⟩, hB1, hz1⟩ := box_start h hv1
  obtain ⟨a0, a1, a2, a3, a4, a5⟩ := h1.side a ha4
  have hg1 := h1.lt
  clear hv1
  generalize w.heap.size = b0 at *
  go_wp2_with fail
  refine (HA.out _).mono ?_
  rintro r v2 ⟨rfl, hb2⟩
  have h2 := h1.kept hb2
  have hB2 : Below b0 w v2 := hB1.trans (hb2.mono (by omega))
  have k0 := stay hb2 hz1 k0
  clear a0 a1 a2 a3 a4 a5 k1 k2 k3 k4 hb2 h1 hg1 HA
  dsimp only
  obtain ⟨u, hu, hown⟩ := h2.row
  obtain ⟨au, cu, rfl⟩ := ownm_slice hown
  obtain ⟨i0, hi, hz0, hz1, hz2⟩ := info_parts infoM
  by_cases hn : n = 0
  · subst hn
    have HS : askP p a b = ⟨p.s, p.said ++ [m], p.cargo⟩ := by rw [askP, HT.out]; rfl
    have HSH := Lib.hid HS
    clear HS HT
    go_wp2_with fail
    generalize hv3 : World.alloc v2 _ = v3
    obtain ⟨hb3, hz3, hc3⟩ := alloc_facts hv3
    have h3 := h2.kept hb3
    have hB3 : Below b0 w v3 := hB2.trans (hb3.mono (Nat.le_of_lt (Flat.cell_lt k0)))
    have hu3 := stay hb3 h2.lt hu
    have hown3 := ownm_below hown hb3
    have m0 := hc3 0
    have m1 := hc3 1
    have m2 := hc3 2
    have m3 := hc3 3
    have m4 := hc3 4
    have hfz := h3.fz 24
    have hg3 := h3.lt
    have hlo := h3.lo
    have HOWN := Lib.hid hown3
    clear hv3 hc3 hb3 hu hown hown3 hB2 h2
    generalize hb6 : v2.heap.size = b6 at *
    clear hb6
    refine start_ (n := 11) (S := fun w' => Below v3.heap.size v3 w' ∧ w'.cell? ⟨g, 24, none⟩ = some (.slice au p.said.length cu) ∧ w'.cell? ⟨b6, 0, none⟩ = some (.int .i64 m.kind) ∧ w'.cell? ⟨b6, 1, none⟩ = some (.int .u8 m.src) ∧ w'.cell? ⟨b6, 2, none⟩ = some (.int .u8 m.dst) ∧ w'.cell? ⟨b6, 3, none⟩ = some (.int .i64 m.ep) ∧ w'.cell? ⟨b6, 4, none⟩ = some (.string m.c)) (ds := [7, 10]) #[false, false, false, false, false, false, false, false, false, false, false] (by kernel_rfl) rfl rfl ⟨(still_drew v3).1, hu3, m0, m1, m2, m3, m4⟩ (fun hHeld => ?_)
    refine pure_ (i := 0) (N := some 55) (v := ?_) (a' := ?_) #[true, false, false, false, false, false, false, false, false, false, false] rfl rfl (by kernel_rfl) (fun _ _ _ h => h) (Or.inl ⟨by rfl, ?_⟩) ?_ ?_
    rotate_left
    · intro w'
      go_simp
      with_reducible rfl
    rotate_left
    · simp only [Act.put, List.setIfInBounds_toArray, List.set_cons_zero, List.set_cons_succ, i64_w, i32_w]
      rfl
    refine pure_ (i := 1) (N := some 56) (v := ?_) (a' := ?_) #[true, true, false, false, false, false, false, false, false, false, false] rfl rfl (by kernel_rfl) (fun _ _ _ h => h) (Or.inl ⟨by rfl, ?_⟩) ?_ ?_
    rotate_left
    · intro w'
      go_simp
      with_reducible rfl
    rotate_left
    · simp only [Act.put, List.setIfInBounds_toArray, List.set_cons_zero, List.set_cons_succ, i64_w, i32_w]
      rfl
    refine pure_ (i := 2) (N := some 57) (v := ?_) (a' := ?_) #[true, true, true, false, false, false, false, false, false, false, false] rfl rfl (by kernel_rfl) (fun _ _ _ h => h) (Or.inl ⟨by rfl, ?_⟩) ?_ ?_
    rotate_left
    · intro w'
      go_simp
      with_reducible rfl
    rotate_left
    · simp only [Act.put, List.setIfInBounds_toArray, List.set_cons_zero, List.set_cons_succ, i64_w, i32_w]
      rfl
    refine pure_ (i := 3) (N := some 58) (v := ?_) (a' := ?_) #[true, true, true, true, false, false, false, false, false, false, false] rfl rfl (by kernel_rfl) (fun _ _ _ h => h) (Or.inl ⟨by rfl, ?_⟩) ?_ ?_
    rotate_left
    · intro w'
      go_simp
      with_reducible rfl
    rotate_left
    · simp only [Act.put, List.setIfInBounds_toArray, List.set_cons_zero, List.set_cons_succ, i64_w, i32_w]
      rfl
    refine take_ (i := 4) (N := some 59) (v := ?_) (a' := ?_) #[true, true, true, true, true, false, false, false, false, false, false] rfl rfl (by kernel_rfl) (fun _ _ _ h => h) (Or.inl ⟨by rfl, ?_⟩) hHeld ?_ ?_
    rotate_left
    · rintro w' ⟨s0, s1, s2, s3, s4, s5, s6⟩
      go_simp
      with_reducible rfl
    rotate_left
    · simp only [Act.put, List.setIfInBounds_toArray, List.set_cons_zero, List.set_cons_succ, i64_w, i32_w]
      rfl
    refine take_ (i := 5) (N := some 60) (v := ?_) (a' := ?_) #[true, true, true, true, true, true, false, false, false, false, false] rfl rfl (by kernel_rfl) (fun _ _ _ h => h) (Or.inl ⟨by rfl, ?_⟩) hHeld ?_ ?_
    rotate_left
    · rintro w' ⟨s0, s1, s2, s3, s4, s5, s6⟩
      go_simp
      with_reducible rfl
    rotate_left
    · simp only [Act.put, List.setIfInBounds_toArray, List.set_cons_zero, List.set_cons_succ, i64_w, i32_w]
      rfl
    refine one_ (i := 6) (N := some 61) #[true, true, true, true, true, true, true, false, false, false, false] rfl rfl (by kernel_rfl) (by decide) (fun K hK => ?_)
    refine value_ (w1 := ?_) (v := ?_) (by rfl) rfl ?_ ?_
    rotate_left 2
    · go_simp
      constructor
      · rfl
      · rfl
    refine hK.out _ _ ⟨bw_alloc hHeld.1, ((bw_alloc hHeld.1).cell (p := ⟨g, 24, none⟩) hg3).trans hu3, ((bw_alloc hHeld.1).cell (p := ⟨b6, 0, none⟩) hz3).trans m0, ((bw_alloc hHeld.1).cell (p := ⟨b6, 1, none⟩) hz3).trans m1, ((bw_alloc hHeld.1).cell (p := ⟨b6, 2, none⟩) hz3).trans m2, ((bw_alloc hHeld.1).cell (p := ⟨b6, 3, none⟩) hz3).trans m3, ((bw_alloc hHeld.1).cell (p := ⟨b6, 4, none⟩) hz3).trans m4⟩ (fun hHeld => ?_)
    clear hK K
    refine norm_ (a' := ?_) ?_ ?_
    rotate_left
    · show Act.put _ (some 61) _ = _
      simp only [Act.put, List.setIfInBounds_toArray, List.set_cons_zero, List.set_cons_succ, i64_w, i32_w]
      rfl
    refine last_ (i := 7) (N := some 62) #[true, true, true, true, true, true, true, true, false, false, false] rfl rfl (by kernel_rfl) (by decide) (fun K hK => ?_)
    refine append_row_ (by rfl) rfl (.tmp 59) (.tmp 61) 32 rfl B 37 i0 _ 5 40 Try.underlying32 hi hz0 hz1 hz2 rfl (by decide) (.slice au p.said.length cu) p.said.length _ (by rfl) (ownm_below HOWN.out hHeld.1) ⟨v3.heap.size, 0, none⟩ 1 1 (mcell m) (by rfl) rfl (fun j u hu => new_msg hu) (mcell_one m) (by unfold maxLen; omega) (by omega) (Nat.le_trans h3.hi hHeld.1.size) ?_
    intro v8 w8 hob8 hg8
    have hB8 : Below B v3 w8 := ((hHeld.1.mono h3.hi)).grown hg8 (Nat.le_trans h3.hi hHeld.1.size) (fun j hj => (HOWN.out.lt j hj).1)
    have hu8 := (hB8.cell (p := ⟨g, 24, none⟩) hlo).trans hu3
    have hf8 := (hB8.frozen (p := ⟨g, 24, none⟩) hlo).trans hfz
    obtain ⟨a8, c8, rfl⟩ := row_slice hob8
    have HOB8 := Lib.hid hob8
    clear hob8 hg8
    refine hK.out _ _ ?_
    clear hK K
    refine norm_ (a' := ?_) ?_ ?_
    rotate_left
    · show Act.put _ (some 62) _ = _
      simp only [Act.put, List.setIfInBounds_toArray, List.set_cons_zero, List.set_cons_succ, i64_w, i32_w]
      rfl
    refine pure_ (i := 8) (N := some 63) (v := ?_) (a' := ?_) #[true, true, true, true, true, true, true, true, true, false, false] rfl rfl (by kernel_rfl) (fun _ _ _ h => h) (Or.inl ⟨by rfl, ?_⟩) ?_ ?_
    rotate_left
    · intro w'
      go_simp
      with_reducible rfl
    rotate_left
    · simp only [Act.put, List.setIfInBounds_toArray, List.set_cons_zero, List.set_cons_succ, i64_w, i32_w]
      rfl
    refine pure_ (i := 9) (N := some 64) (v := ?_) (a' := ?_) #[true, true, true, true, true, true, true, true, true, true, false] rfl rfl (by kernel_rfl) (fun _ _ _ h => h) (Or.inl ⟨by rfl, ?_⟩) ?_ ?_
    rotate_left
    · intro w'
      go_simp
      with_reducible rfl
    rotate_left
    · simp only [Act.put, List.setIfInBounds_toArray, List.set_cons_zero, List.set_cons_succ, i64_w, i32_w]
      rfl
    refine last_ (i := 10) (N := none) #[true, true, true, true, true, true, true, true, true, true, true] rfl rfl (by kernel_rfl) (by decide) (fun K hK => ?_)
    refine skip_ (w1 := ?_) (by rfl) rfl ?_ ?_
    rotate_left
    · go_simp
      rfl
    refine hK.out _ _ ?_
    clear hK K
    refine done_ (by kernel_rfl) ?_

    go_wp2_with fail
    go_end0
    refine ⟨rfl, ?_, ((Kb.of_below (hB3.mono h0)).trans (Kb.of_below hB8)).set _⟩
    rw [HSH.out]
    refine h3.setSaid hB8 ?_
    rw [OwnM, List.length_append, mcells_append]
    exact HOB8.out
  · have hne : (n == 0) = false := by simp [hn]
    have HS : askP p a b = p := by rw [askP, HT.out]; exact if_neg hn
    have HSH := Lib.hid HS
    clear HS HT hn hown
    go_wp2_with fail
    go_end0
    refine ⟨rfl, ?_, Kb.of_below ((hB2.alloc (Nat.le_of_lt (Flat.cell_lt k0)) _).mono h0)⟩
    rw [HSH.out]
    exact h2.kept ((Below.refl _ _).alloc (Nat.le_refl _) _)

def againP (p : PS) (a : Int) : PS := ⟨p.s, p.said ++ (againH (p.s a)).toList, p.cargo⟩
set_option maxHeartbeats 4000000 in
theorem step_again (p : PS) (kn at_ an bn a b : Nat) (c : ByteArray) (w : World) (g bm B : Nat) (h : PlayAt w g bm B p) (hk : (kn : Int) % 6 = 4) (ha : (an : Int) % 4 = (a : Int)) (hb : (bn : Int) % 4 = (b : Int)) (ha4 : a < 4) (hb4 : b < 4) (hc : (p.s a).c.size ≤ maxLen) (hl : p.said.length ≤ 1000) :
    Calls Try.prog 22 #[.pointer (some ⟨g, 0, none⟩), .agg #[.int .u8 (kn : Int), .int .u16 (at_ : Int), .int .u8 (an : Int), .int .u8 (bn : Int), .string c]] w fun r w' => r = .returned (.tuple #[]) ∧ PlayAt w' g bm B (againP p a) ∧ Kb B g w w' := by
  have HA := Lib.hid (fun W => again_any (p.s a) W hc)
  have hT : againP p a = ⟨p.s, p.said ++ (againH (p.s a)).toList, p.cargo⟩ := rfl
  unfold AgainPost at HA
  generalize againH (p.s a) = o at HA hT
  have HT := Lib.hid hT
  have hd0 : (0 : Int) ≤ (a : Int) := by omega
  have hd4 : (a : Int) < 4 := by omega
  have h0 := h.hi
  obtain ⟨i0, hi, hz0, hz1, hz2⟩ := info_parts infoM
  clear hT
  go_enter Try.func22, Try.ntmps22
  go_wp2_with fail
  go_quiet (fail)
  generalize hv1 : World.drewN _ nq = v1
  obtain ⟨h1, ⟨k0, k1, k2, k3, k4⟩, hB1, hz1'⟩ := box_start h hv1
  obtain ⟨a0, a1, a2, a3, a4, a5⟩ := h1.side a ha4
  have hg1 := h1.lt
  have hlo := h1.lo
  obtain ⟨u, hu, hown⟩ := h1.row
  obtain ⟨au, cu, rfl⟩ := ownm_slice hown
  have hfz := h1.fz 24
  have HOWN := Lib.hid hown
  clear hv1 hown
  generalize w.heap.size = b0 at *
  go_wp2_with fail
  cases o with
  | none =>
    have HS : againP p a = ⟨p.s, p.said, p.cargo⟩ := by rw [HT.out]; simp
    have HSH := Lib.hid HS
    clear HS HT
    refine start_ (n := 16) (S := fun w' => Below v1.heap.size v1 w' ∧ (∀ b oo, b < v1.heap.size → w'.cell? ⟨b, oo, none⟩ = v1.cell? ⟨b, oo, none⟩)) (ds := [15]) #[false, false, false, false, false, false, false, false, false, false, false, false, false, false, false, false] (by kernel_rfl) rfl rfl ⟨(still_drew v1).1, (still_drew v1).2⟩ (fun hHeld => ?_)
    refine pure_ (i := 0) (N := some 67) (v := ?_) (a' := ?_) #[true, false, false, false, false, false, false, false, false, false, false, false, false, false, false, false] rfl rfl (by kernel_rfl) (fun _ _ _ h => h) (Or.inl ⟨by rfl, ?_⟩) ?_ ?_
    rotate_left
    · intro w'
      go_simp
      with_reducible rfl
    rotate_left
    · simp only [Act.put, List.setIfInBounds_toArray, List.set_cons_zero, List.set_cons_succ, i64_w, i32_w]
      rfl
    refine pure_ (i := 1) (N := some 68) (v := ?_) (a' := ?_) #[true, true, false, false, false, false, false, false, false, false, false, false, false, false, false, false] rfl rfl (by kernel_rfl) (fun _ _ _ h => h) (Or.inl ⟨by rfl, ?_⟩) ?_ ?_
    rotate_left
    · intro w'
      go_simp
      with_reducible rfl
    rotate_left
    · simp only [Act.put, List.setIfInBounds_toArray, List.set_cons_zero, List.set_cons_succ, i64_w, i32_w]
      rfl
    refine pure_ (i := 2) (N := some 69) (v := ?_) (a' := ?_) #[true, true, true, false, false, false, false, false, false, false, false, false, false, false, false, false] rfl rfl (by kernel_rfl) (fun _ _ _ h => h) (Or.inl ⟨by rfl, ?_⟩) ?_ ?_
    rotate_left
    · intro w'
      go_simp
      with_reducible rfl
    rotate_left
    · simp only [Act.put, List.setIfInBounds_toArray, List.set_cons_zero, List.set_cons_succ, i64_w, i32_w]
      rfl
    refine pure_ (i := 3) (N := some 70) (v := ?_) (a' := ?_) #[true, true, true, true, false, false, false, false, false, false, false, false, false, false, false, false] rfl rfl (by kernel_rfl) (fun _ _ _ h => h) (Or.inl ⟨by rfl, ?_⟩) ?_ ?_
    rotate_left
    · intro w'
      go_simp
      with_reducible rfl
    rotate_left
    · simp only [Act.put, List.setIfInBounds_toArray, List.set_cons_zero, List.set_cons_succ, i64_w, i32_w]
      rfl
    refine pure_ (i := 5) (N := some 72) (v := ?_) (a' := ?_) #[true, true, true, true, false, true, false, false, false, false, false, false, false, false, false, false] rfl rfl (by kernel_rfl) (fun _ _ _ h => h) (Or.inl ⟨by rfl, ?_⟩) ?_ ?_
    rotate_left
    · intro w'
      go_simp
      with_reducible rfl
    rotate_left
    · simp only [Act.put, List.setIfInBounds_toArray, List.set_cons_zero, List.set_cons_succ, i64_w, i32_w]
      rfl
    refine pure_ (i := 6) (N := some 73) (v := ?_) (a' := ?_) #[true, true, true, true, false, true, true, false, false, false, false, false, false, false, false, false] rfl rfl (by kernel_rfl) (fun _ _ _ h => h) (Or.inl ⟨by rfl, ?_⟩) ?_ ?_
    rotate_left
    · intro w'
      go_simp
      with_reducible rfl
    rotate_left
    · simp only [Act.put, List.setIfInBounds_toArray, List.set_cons_zero, List.set_cons_succ, i64_w, i32_w]
      rfl
    refine pure_ (i := 7) (N := some 74) (v := ?_) (a' := ?_) #[true, true, true, true, false, true, true, true, false, false, false, false, false, false, false, false] rfl rfl (by kernel_rfl) (fun _ _ _ h => h) (Or.inl ⟨by rfl, ?_⟩) ?_ ?_
    rotate_left
    · intro w'
      go_simp
      with_reducible rfl
    rotate_left
    · simp only [Act.put, List.setIfInBounds_toArray, List.set_cons_zero, List.set_cons_succ, i64_w, i32_w]
      rfl
    refine pure_ (i := 8) (N := some 75) (v := ?_) (a' := ?_) #[true, true, true, true, false, true, true, true, true, false, false, false, false, false, false, false] rfl rfl (by kernel_rfl) (fun _ _ _ h => h) (Or.inl ⟨by rfl, ?_⟩) ?_ ?_
    rotate_left
    · intro w'
      go_simp
      with_reducible rfl
    rotate_left
    · simp only [Act.put, List.setIfInBounds_toArray, List.set_cons_zero, List.set_cons_succ, i64_w, i32_w]
      rfl
    refine pure_ (i := 9) (N := some 76) (v := ?_) (a' := ?_) #[true, true, true, true, false, true, true, true, true, true, false, false, false, false, false, false] rfl rfl (by kernel_rfl) (fun _ _ _ h => h) (Or.inl ⟨by rfl, ?_⟩) ?_ ?_
    rotate_left
    · intro w'
      go_simp
      with_reducible rfl
    rotate_left
    · simp only [Act.put, List.setIfInBounds_toArray, List.set_cons_zero, List.set_cons_succ, i64_w, i32_w]
      rfl
    refine take_ (i := 4) (N := some 71) (v := ?_) (a' := ?_) #[true, true, true, true, true, true, true, true, true, true, false, false, false, false, false, false] rfl rfl (by kernel_rfl) (fun _ _ _ h => h) (Or.inl ⟨by rfl, ?_⟩) hHeld ?_ ?_
    rotate_left
    · rintro w' ⟨s0, s1⟩
      go_simp
      with_reducible rfl
    rotate_left
    · simp only [Act.put, List.setIfInBounds_toArray, List.set_cons_zero, List.set_cons_succ, i64_w, i32_w]
      rfl
    refine take_ (i := 10) (N := some 77) (v := ?_) (a' := ?_) #[true, true, true, true, true, true, true, true, true, true, true, false, false, false, false, false] rfl rfl (by kernel_rfl) (fun _ _ _ h => h) (Or.inl ⟨by rfl, ?_⟩) hHeld ?_ ?_
    rotate_left
    · rintro w' ⟨s0, s1⟩
      go_simp
      with_reducible rfl
    rotate_left
    · simp only [Act.put, List.setIfInBounds_toArray, List.set_cons_zero, List.set_cons_succ, i64_w, i32_w]
      rfl
    refine one_ (i := 11) (N := some 78) #[true, true, true, true, true, true, true, true, true, true, true, true, false, false, false, false] rfl rfl (by kernel_rfl) (by decide) (fun K hK => ?_)
    refine goes_ Try.func19 (by kernel_rfl) rfl #[.agg #[.int .u8 (p.s a).me, .int .i64 (p.s a).e, .int .i64 (p.s a).s, .int .u8 (p.s a).t, .string (p.s a).c, .bool (p.s a).k]] (by rfl) rfl rfl (by simp only [List.map_toArray, List.map_cons, List.map_nil]; rfl) ?_
    refine (HA.out _).mono ?_
    rintro r w3 ⟨v, rfl, hsd, hb⟩
    refine ⟨_, rfl, ?_⟩
    obtain rfl : v = .slice none 0 0 := hsd
    refine hK.out _ _ ⟨(still_keep hHeld hb).1, (still_keep hHeld hb).2⟩ (fun hHeld => ?_)
    clear hK K
    refine norm_ (a' := ?_) ?_ ?_
    rotate_left
    · show Act.put _ (some 78) _ = _
      simp only [Act.put, List.setIfInBounds_toArray, List.set_cons_zero, List.set_cons_succ, i64_w, i32_w]
      rfl
    refine one_ (i := 12) (N := some 79) #[true, true, true, true, true, true, true, true, true, true, true, true, true, false, false, false] rfl rfl (by kernel_rfl) (by decide) (fun K hK => ?_)
    refine append_none_ (by rfl) rfl (.tmp 71) (.tmp 78) 32 rfl B 37 i0 5 Try.underlying32 hi (.slice au p.said.length cu) p.said.length _ (by rfl) (ownm_below HOWN.out hHeld.1) (by rfl) ?_
    have hf8 := (hHeld.1.frozen (p := ⟨g, 24, none⟩) hg1).trans hfz
    refine hK.out _ _ ⟨hHeld.1, hHeld.2⟩ (fun hHeld => ?_)
    clear hK K
    refine norm_ (a' := ?_) ?_ ?_
    rotate_left
    · show Act.put _ (some 79) _ = _
      simp only [Act.put, List.setIfInBounds_toArray, List.set_cons_zero, List.set_cons_succ, i64_w, i32_w]
      rfl
    refine pure_ (i := 13) (N := some 80) (v := ?_) (a' := ?_) #[true, true, true, true, true, true, true, true, true, true, true, true, true, true, false, false] rfl rfl (by kernel_rfl) (fun _ _ _ h => h) (Or.inl ⟨by rfl, ?_⟩) ?_ ?_
    rotate_left
    · intro w'
      go_simp
      with_reducible rfl
    rotate_left
    · simp only [Act.put, List.setIfInBounds_toArray, List.set_cons_zero, List.set_cons_succ, i64_w, i32_w]
      rfl
    refine pure_ (i := 14) (N := some 81) (v := ?_) (a' := ?_) #[true, true, true, true, true, true, true, true, true, true, true, true, true, true, true, false] rfl rfl (by kernel_rfl) (fun _ _ _ h => h) (Or.inl ⟨by rfl, ?_⟩) ?_ ?_
    rotate_left
    · intro w'
      go_simp
      with_reducible rfl
    rotate_left
    · simp only [Act.put, List.setIfInBounds_toArray, List.set_cons_zero, List.set_cons_succ, i64_w, i32_w]
      rfl
    refine last_ (i := 15) (N := none) #[true, true, true, true, true, true, true, true, true, true, true, true, true, true, true, true] rfl rfl (by kernel_rfl) (by decide) (fun K hK => ?_)
    refine skip_ (w1 := ?_) (by rfl) rfl ?_ ?_
    rotate_left
    · go_simp
      rfl
    refine hK.out _ _ ?_
    clear hK K
    refine done_ (by kernel_rfl) ?_

    go_wp2_with fail
    go_end0
    refine ⟨rfl, ?_, ((Kb.of_below (hB1.mono h0)).trans (Kb.of_below (hHeld.1.mono h1.hi))).set _⟩
    rw [HSH.out]
    exact h1.setSaid (hHeld.1.mono h1.hi) (ownm_below HOWN.out hHeld.1)
  | some m =>
    have HS : againP p a = ⟨p.s, p.said ++ [m], p.cargo⟩ := HT.out
    have HSH := Lib.hid HS
    clear HS HT
    refine start_ (n := 16) (S := fun w' => Below v1.heap.size v1 w' ∧ (∀ b oo, b < v1.heap.size → w'.cell? ⟨b, oo, none⟩ = v1.cell? ⟨b, oo, none⟩)) (ds := [12, 15]) #[false, false, false, false, false, false, false, false, false, false, false, false, false, false, false, false] (by kernel_rfl) rfl rfl ⟨(still_drew v1).1, (still_drew v1).2⟩ (fun hHeld => ?_)
    refine pure_ (i := 0) (N := some 67) (v := ?_) (a' := ?_) #[true, false, false, false, false, false, false, false, false, false, false, false, false, false, false, false] rfl rfl (by kernel_rfl) (fun _ _ _ h => h) (Or.inl ⟨by rfl, ?_⟩) ?_ ?_
    rotate_left
    · intro w'
      go_simp
      with_reducible rfl
    rotate_left
    · simp only [Act.put, List.setIfInBounds_toArray, List.set_cons_zero, List.set_cons_succ, i64_w, i32_w]
      rfl
    refine pure_ (i := 1) (N := some 68) (v := ?_) (a' := ?_) #[true, true, false, false, false, false, false, false, false, false, false, false, false, false, false, false] rfl rfl (by kernel_rfl) (fun _ _ _ h => h) (Or.inl ⟨by rfl, ?_⟩) ?_ ?_
    rotate_left
    · intro w'
      go_simp
      with_reducible rfl
    rotate_left
    · simp only [Act.put, List.setIfInBounds_toArray, List.set_cons_zero, List.set_cons_succ, i64_w, i32_w]
      rfl
    refine pure_ (i := 2) (N := some 69) (v := ?_) (a' := ?_) #[true, true, true, false, false, false, false, false, false, false, false, false, false, false, false, false] rfl rfl (by kernel_rfl) (fun _ _ _ h => h) (Or.inl ⟨by rfl, ?_⟩) ?_ ?_
    rotate_left
    · intro w'
      go_simp
      with_reducible rfl
    rotate_left
    · simp only [Act.put, List.setIfInBounds_toArray, List.set_cons_zero, List.set_cons_succ, i64_w, i32_w]
      rfl
    refine pure_ (i := 3) (N := some 70) (v := ?_) (a' := ?_) #[true, true, true, true, false, false, false, false, false, false, false, false, false, false, false, false] rfl rfl (by kernel_rfl) (fun _ _ _ h => h) (Or.inl ⟨by rfl, ?_⟩) ?_ ?_
    rotate_left
    · intro w'
      go_simp
      with_reducible rfl
    rotate_left
    · simp only [Act.put, List.setIfInBounds_toArray, List.set_cons_zero, List.set_cons_succ, i64_w, i32_w]
      rfl
    refine pure_ (i := 5) (N := some 72) (v := ?_) (a' := ?_) #[true, true, true, true, false, true, false, false, false, false, false, false, false, false, false, false] rfl rfl (by kernel_rfl) (fun _ _ _ h => h) (Or.inl ⟨by rfl, ?_⟩) ?_ ?_
    rotate_left
    · intro w'
      go_simp
      with_reducible rfl
    rotate_left
    · simp only [Act.put, List.setIfInBounds_toArray, List.set_cons_zero, List.set_cons_succ, i64_w, i32_w]
      rfl
    refine pure_ (i := 6) (N := some 73) (v := ?_) (a' := ?_) #[true, true, true, true, false, true, true, false, false, false, false, false, false, false, false, false] rfl rfl (by kernel_rfl) (fun _ _ _ h => h) (Or.inl ⟨by rfl, ?_⟩) ?_ ?_
    rotate_left
    · intro w'
      go_simp
      with_reducible rfl
    rotate_left
    · simp only [Act.put, List.setIfInBounds_toArray, List.set_cons_zero, List.set_cons_succ, i64_w, i32_w]
      rfl
    refine pure_ (i := 7) (N := some 74) (v := ?_) (a' := ?_) #[true, true, true, true, false, true, true, true, false, false, false, false, false, false, false, false] rfl rfl (by kernel_rfl) (fun _ _ _ h => h) (Or.inl ⟨by rfl, ?_⟩) ?_ ?_
    rotate_left
    · intro w'
      go_simp
      with_reducible rfl
    rotate_left
    · simp only [Act.put, List.setIfInBounds_toArray, List.set_cons_zero, List.set_cons_succ, i64_w, i32_w]
      rfl
    refine pure_ (i := 8) (N := some 75) (v := ?_) (a' := ?_) #[true, true, true, true, false, true, true, true, true, false, false, false, false, false, false, false] rfl rfl (by kernel_rfl) (fun _ _ _ h => h) (Or.inl ⟨by rfl, ?_⟩) ?_ ?_
    rotate_left
    · intro w'
      go_simp
      with_reducible rfl
    rotate_left
    · simp only [Act.put, List.setIfInBounds_toArray, List.set_cons_zero, List.set_cons_succ, i64_w, i32_w]
      rfl
    refine pure_ (i := 9) (N := some 76) (v := ?_) (a' := ?_) #[true, true, true, true, false, true, true, true, true, true, false, false, false, false, false, false] rfl rfl (by kernel_rfl) (fun _ _ _ h => h) (Or.inl ⟨by rfl, ?_⟩) ?_ ?_
    rotate_left
    · intro w'
      go_simp
      with_reducible rfl
    rotate_left
    · simp only [Act.put, List.setIfInBounds_toArray, List.set_cons_zero, List.set_cons_succ, i64_w, i32_w]
      rfl
    refine take_ (i := 4) (N := some 71) (v := ?_) (a' := ?_) #[true, true, true, true, true, true, true, true, true, true, false, false, false, false, false, false] rfl rfl (by kernel_rfl) (fun _ _ _ h => h) (Or.inl ⟨by rfl, ?_⟩) hHeld ?_ ?_
    rotate_left
    · rintro w' ⟨s0, s1⟩
      go_simp
      with_reducible rfl
    rotate_left
    · simp only [Act.put, List.setIfInBounds_toArray, List.set_cons_zero, List.set_cons_succ, i64_w, i32_w]
      rfl
    refine take_ (i := 10) (N := some 77) (v := ?_) (a' := ?_) #[true, true, true, true, true, true, true, true, true, true, true, false, false, false, false, false] rfl rfl (by kernel_rfl) (fun _ _ _ h => h) (Or.inl ⟨by rfl, ?_⟩) hHeld ?_ ?_
    rotate_left
    · rintro w' ⟨s0, s1⟩
      go_simp
      with_reducible rfl
    rotate_left
    · simp only [Act.put, List.setIfInBounds_toArray, List.set_cons_zero, List.set_cons_succ, i64_w, i32_w]
      rfl
    refine one_ (i := 11) (N := some 78) #[true, true, true, true, true, true, true, true, true, true, true, true, false, false, false, false] rfl rfl (by kernel_rfl) (by decide) (fun K hK => ?_)
    refine goes_ Try.func19 (by kernel_rfl) rfl #[.agg #[.int .u8 (p.s a).me, .int .i64 (p.s a).e, .int .i64 (p.s a).s, .int .u8 (p.s a).t, .string (p.s a).c, .bool (p.s a).k]] (by rfl) rfl rfl (by simp only [List.map_toArray, List.map_cons, List.map_nil]; rfl) ?_
    refine (HA.out _).mono ?_
    rintro r w3 ⟨v, rfl, hsd, hb⟩
    refine ⟨_, rfl, ?_⟩
    obtain ⟨gm, rfl, hgB, hgl, hnews⟩ := said_news hsd
    have HNEW := Lib.hid hnews
    clear hnews hsd
    refine hK.out _ _ ⟨(still_keep hHeld hb).1, (still_keep hHeld hb).2⟩ (fun hHeld => ?_)
    clear hK K
    refine norm_ (a' := ?_) ?_ ?_
    rotate_left
    · show Act.put _ (some 78) _ = _
      simp only [Act.put, List.setIfInBounds_toArray, List.set_cons_zero, List.set_cons_succ, i64_w, i32_w]
      rfl
    refine last_ (i := 12) (N := some 79) #[true, true, true, true, true, true, true, true, true, true, true, true, true, false, false, false] rfl rfl (by kernel_rfl) (by decide) (fun K hK => ?_)
    refine append_row_ (by rfl) rfl (.tmp 71) (.tmp 78) 32 rfl B 37 i0 _ 5 40 Try.underlying32 hi hz0 hz1 hz2 rfl (by decide) (.slice au p.said.length cu) p.said.length _ (by rfl) (ownm_below HOWN.out hHeld.1) ⟨gm, 0, none⟩ 1 1 (mcell m) (by rfl) rfl HNEW.out (mcell_one m) (by unfold maxLen; omega) (by omega) (Nat.le_trans h1.hi hHeld.1.size) ?_
    intro v8 w8 hob8 hg8
    have hB8 : Below B v1 w8 := ((hHeld.1.mono h1.hi)).grown hg8 (Nat.le_trans h1.hi hHeld.1.size) (fun j hj => (HOWN.out.lt j hj).1)
    have hu8 := (hB8.cell (p := ⟨g, 24, none⟩) hlo).trans hu
    have hf8 := (hB8.frozen (p := ⟨g, 24, none⟩) hlo).trans hfz
    obtain ⟨a8, c8, rfl⟩ := row_slice hob8
    have HOB8 := Lib.hid hob8
    clear hob8 hg8
    refine hK.out _ _ ?_
    clear hK K
    refine norm_ (a' := ?_) ?_ ?_
    rotate_left
    · show Act.put _ (some 79) _ = _
      simp only [Act.put, List.setIfInBounds_toArray, List.set_cons_zero, List.set_cons_succ, i64_w, i32_w]
      rfl
    refine pure_ (i := 13) (N := some 80) (v := ?_) (a' := ?_) #[true, true, true, true, true, true, true, true, true, true, true, true, true, true, false, false] rfl rfl (by kernel_rfl) (fun _ _ _ h => h) (Or.inl ⟨by rfl, ?_⟩) ?_ ?_
    rotate_left
    · intro w'
      go_simp
      with_reducible rfl
    rotate_left
    · simp only [Act.put, List.setIfInBounds_toArray, List.set_cons_zero, List.set_cons_succ, i64_w, i32_w]
      rfl
    refine pure_ (i := 14) (N := some 81) (v := ?_) (a' := ?_) #[true, true, true, true, true, true, true, true, true, true, true, true, true, true, true, false] rfl rfl (by kernel_rfl) (fun _ _ _ h => h) (Or.inl ⟨by rfl, ?_⟩) ?_ ?_
    rotate_left
    · intro w'
      go_simp
      with_reducible rfl
    rotate_left
    · simp only [Act.put, List.setIfInBounds_toArray, List.set_cons_zero, List.set_cons_succ, i64_w, i32_w]
      rfl
    refine last_ (i := 15) (N := none) #[true, true, true, true, true, true, true, true, true, true, true, true, true, true, true, true] rfl rfl (by kernel_rfl) (by decide) (fun K hK => ?_)
    refine skip_ (w1 := ?_) (by rfl) rfl ?_ ?_
    rotate_left
    · go_simp
      rfl
    refine hK.out _ _ ?_
    clear hK K
    refine done_ (by kernel_rfl) ?_

    go_wp2_with fail
    go_end0
    refine ⟨rfl, ?_, ((Kb.of_below (hB1.mono h0)).trans (Kb.of_below hB8)).set _⟩
    rw [HSH.out]
    refine h1.setSaid hB8 ?_
    rw [OwnM, List.length_append, mcells_append]
    exact HOB8.out

/-- The cargo of side a, and of the play, anew. -/
theorem PlayAt.setCargo {w : World} {g bm B : Nat} {p : PS} (h : PlayAt w g bm B p) {a : Nat} (ha : a < 4) (c : ByteArray) {x : S} (hx : p.s a = x) :
    PlayAt ((w.setCell ⟨g, a * 6 + 4, none⟩ (.string c)).setCell ⟨g, 25, none⟩ (.string c)) g bm B ⟨upd p.s a ⟨x.me, x.e, x.s, x.t, c, x.k⟩, p.said, c⟩ := by
  refine ⟨h.lo, by simpa using h.hi, fun i hi => ?_, ?_, ?_, fun o => ?_, ?_⟩
  · obtain ⟨a0, a1, a2, a3, a4, a5⟩ := h.side i hi
    by_cases e : i = a
    · subst e
      show Side _ g i (upd p.s i _ i)
      rw [upd_same]
      rw [hx] at a0 a1 a2 a3 a4 a5
      refine ⟨?_, ?_, ?_, ?_, ?_, ?_⟩
      · rw [set_other (by omega), set_other (by omega)]; exact a0
      · rw [set_other (by omega), set_other (by omega)]; exact a1
      · rw [set_other (by omega), set_other (by omega)]; exact a2
      · rw [set_other (by omega), set_other (by omega)]; exact a3
      · rw [set_other (by omega)]; exact set_same a4
      · rw [set_other (by omega), set_other (by omega)]; exact a5
    · show Side _ g i (upd p.s a _ i)
      rw [upd_other _ _ (by omega)]
      refine ⟨?_, ?_, ?_, ?_, ?_, ?_⟩
      all_goals (rw [set_other (by omega), set_other (by omega)]; assumption)
  · exact set_same (by rw [set_other (by omega)]; exact h.cargo)
  · rw [set_other (by omega), set_other (by omega)]; exact h.map
  · simp only [World.frozen?_setCell]; exact h.fz o
  · obtain ⟨u, hu, ho⟩ := h.row
    refine ⟨u, ?_, ownm_set (ownm_set ho h.lo) h.lo⟩
    rw [set_other (by omega), set_other (by omega)]; exact hu
def cargoP (p : PS) (a : Int) (c : ByteArray) : PS :=
  if (p.s a).s = 1 ∧ c.size ≤ 20 then ⟨upd p.s a ⟨(p.s a).me, (p.s a).e, (p.s a).s, (p.s a).t, c, (p.s a).k⟩, p.said, c⟩ else p
set_option maxHeartbeats 4000000 in
theorem step_cargo (p : PS) (kn at_ an bn a b : Nat) (c : ByteArray) (w : World) (g bm B : Nat) (h : PlayAt w g bm B p) (hk : (kn : Int) % 6 = 5) (ha : (an : Int) % 4 = (a : Int)) (hb : (bn : Int) % 4 = (b : Int)) (ha4 : a < 4) (hb4 : b < 4) (hcm : c.size ≤ maxLen) :
    Calls Try.prog 22 #[.pointer (some ⟨g, 0, none⟩), .agg #[.int .u8 (kn : Int), .int .u16 (at_ : Int), .int .u8 (an : Int), .int .u8 (bn : Int), .string c]] w fun r w' => r = .returned (.tuple #[]) ∧ PlayAt w' g bm B (cargoP p a c) ∧ Kb B g w w' := by
  have hd0 : (0 : Int) ≤ (a : Int) := by omega
  have hd4 : (a : Int) < 4 := by omega
  have h0 := h.hi
  unfold maxLen at hcm
  have hT : cargoP p a c = if (p.s a).s = 1 ∧ c.size ≤ 20 then ⟨upd p.s a ⟨(p.s a).me, (p.s a).e, (p.s a).s, (p.s a).t, c, (p.s a).k⟩, p.said, c⟩ else p := rfl
  generalize hx : p.s a = x at hT
  have HX := Lib.hid hx
  clear hx
  by_cases h1s : x.s = 1
  · by_cases h20 : c.size ≤ 20
    · rw [if_pos ⟨h1s, h20⟩] at hT
      have HT := Lib.hid hT
      have hI : decide ((c.size : Int) ≤ 20) = true := by simp; omega
      clear hT
      go_enter Try.func22, Try.ntmps22
      go_wp2_with fail
      go_quiet (fail)
      generalize hv1 : World.drewN _ nq = v1
      obtain ⟨h1, ⟨k0, k1, k2, k3, k4⟩, hB1, hz1'⟩ := box_start h hv1
      obtain ⟨a0, a1, a2, a3, a4, a5⟩ := h1.side a ha4
      rw [HX.out, h1s] at a2
      have a2 : v1.cell? ⟨g, a * 6 + 1 + 1, none⟩ = some (.int .i64 1) := a2
      have hg1 := h1.lt
      have hlo := h1.lo
      have hbg : ¬ w.heap.size = g := by omega
      have hcg := h1.cargo
      have hfz := h1.fz
      clear hv1
      generalize w.heap.size = b0 at *
      go_wp2_with fail
      refine start_ (n := 15) (S := fun w' => w'.cell? ⟨b0, 4, none⟩ = some (.string c)) (ds := [14]) #[false, false, false, false, false, false, false, false, false, false, false, false, false, false, false] (by kernel_rfl) rfl rfl (k4) (fun hHeld => ?_)
      refine pure_ (i := 0) (N := some 99) (v := ?_) (a' := ?_) #[true, false, false, false, false, false, false, false, false, false, false, false, false, false, false] rfl rfl (by kernel_rfl) (fun _ _ _ h => h) (Or.inl ⟨by rfl, ?_⟩) ?_ ?_
      rotate_left
      · intro w'
        go_simp
        with_reducible rfl
      rotate_left
      · simp only [Act.put, List.setIfInBounds_toArray, List.set_cons_zero, List.set_cons_succ, i64_w, i32_w]
        rfl
      refine pure_ (i := 1) (N := some 100) (v := ?_) (a' := ?_) #[true, true, false, false, false, false, false, false, false, false, false, false, false, false, false] rfl rfl (by kernel_rfl) (fun _ _ _ h => h) (Or.inl ⟨by rfl, ?_⟩) ?_ ?_
      rotate_left
      · intro w'
        go_simp
        with_reducible rfl
      rotate_left
      · simp only [Act.put, List.setIfInBounds_toArray, List.set_cons_zero, List.set_cons_succ, i64_w, i32_w]
        rfl
      refine pure_ (i := 2) (N := some 101) (v := ?_) (a' := ?_) #[true, true, true, false, false, false, false, false, false, false, false, false, false, false, false] rfl rfl (by kernel_rfl) (fun _ _ _ h => h) (Or.inl ⟨by rfl, ?_⟩) ?_ ?_
      rotate_left
      · intro w'
        go_simp
        with_reducible rfl
      rotate_left
      · simp only [Act.put, List.setIfInBounds_toArray, List.set_cons_zero, List.set_cons_succ, i64_w, i32_w]
        rfl
      refine pure_ (i := 3) (N := some 102) (v := ?_) (a' := ?_) #[true, true, true, true, false, false, false, false, false, false, false, false, false, false, false] rfl rfl (by kernel_rfl) (fun _ _ _ h => h) (Or.inl ⟨by rfl, ?_⟩) ?_ ?_
      rotate_left
      · intro w'
        go_simp
        with_reducible rfl
      rotate_left
      · simp only [Act.put, List.setIfInBounds_toArray, List.set_cons_zero, List.set_cons_succ, i64_w, i32_w]
        rfl
      refine pure_ (i := 5) (N := some 104) (v := ?_) (a' := ?_) #[true, true, true, true, false, true, false, false, false, false, false, false, false, false, false] rfl rfl (by kernel_rfl) (fun _ _ _ h => h) (Or.inl ⟨by rfl, ?_⟩) ?_ ?_
      rotate_left
      · intro w'
        go_simp
        with_reducible rfl
      rotate_left
      · simp only [Act.put, List.setIfInBounds_toArray, List.set_cons_zero, List.set_cons_succ, i64_w, i32_w]
        rfl
      refine pure_ (i := 7) (N := some 106) (v := ?_) (a' := ?_) #[true, true, true, true, false, true, false, true, false, false, false, false, false, false, false] rfl rfl (by kernel_rfl) (fun _ _ _ h => h) (Or.inl ⟨by rfl, ?_⟩) ?_ ?_
      rotate_left
      · intro w'
        go_simp
        with_reducible rfl
      rotate_left
      · simp only [Act.put, List.setIfInBounds_toArray, List.set_cons_zero, List.set_cons_succ, i64_w, i32_w]
        rfl
      refine pure_ (i := 8) (N := some 107) (v := ?_) (a' := ?_) #[true, true, true, true, false, true, false, true, true, false, false, false, false, false, false] rfl rfl (by kernel_rfl) (fun _ _ _ h => h) (Or.inl ⟨by rfl, ?_⟩) ?_ ?_
      rotate_left
      · intro w'
        go_simp
        with_reducible rfl
      rotate_left
      · simp only [Act.put, List.setIfInBounds_toArray, List.set_cons_zero, List.set_cons_succ, i64_w, i32_w]
        rfl
      refine take_ (i := 4) (N := some 103) (v := ?_) (a' := ?_) #[true, true, true, true, true, true, false, true, true, false, false, false, false, false, false] rfl rfl (by kernel_rfl) (fun _ _ _ h => h) (Or.inl ⟨by rfl, ?_⟩) hHeld ?_ ?_
      rotate_left
      · intro w' s0
        go_simp
        with_reducible rfl
      rotate_left
      · simp only [Act.put, List.setIfInBounds_toArray, List.set_cons_zero, List.set_cons_succ, i64_w, i32_w]
        rfl
      refine pure_ (i := 9) (N := some 108) (v := ?_) (a' := ?_) #[true, true, true, true, true, true, false, true, true, true, false, false, false, false, false] rfl rfl (by kernel_rfl) (fun _ _ _ h => h) (Or.inl ⟨by rfl, ?_⟩) ?_ ?_
      rotate_left
      · intro w'
        go_simp
        with_reducible rfl
      rotate_left
      · simp only [Act.put, List.setIfInBounds_toArray, List.set_cons_zero, List.set_cons_succ, i64_w, i32_w]
        rfl
      refine pure_ (i := 10) (N := some 109) (v := ?_) (a' := ?_) #[true, true, true, true, true, true, false, true, true, true, true, false, false, false, false] rfl rfl (by kernel_rfl) (fun _ _ _ h => h) (Or.inl ⟨by rfl, ?_⟩) ?_ ?_
      rotate_left
      · intro w'
        go_simp
        with_reducible rfl
      rotate_left
      · simp only [Act.put, List.setIfInBounds_toArray, List.set_cons_zero, List.set_cons_succ, i64_w, i32_w]
        rfl
      refine take_ (i := 6) (N := some 105) (v := ?_) (a' := ?_) #[true, true, true, true, true, true, true, true, true, true, true, false, false, false, false] rfl rfl (by kernel_rfl) (fun _ _ _ h => h) (Or.inl ⟨by rfl, ?_⟩) hHeld ?_ ?_
      rotate_left
      · intro w' s0
        go_simp
        with_reducible rfl
      rotate_left
      · simp only [Act.put, List.setIfInBounds_toArray, List.set_cons_zero, List.set_cons_succ, i64_w, i32_w]
        rfl
      refine one_ (i := 11) (N := none) #[true, true, true, true, true, true, true, true, true, true, true, true, false, false, false] rfl rfl (by kernel_rfl) (by decide) (fun K hK => ?_)
      refine skip_ (w1 := ?_) (by rfl) rfl ?_ ?_
      rotate_left
      · go_simp
        rfl
      refine hK.out _ _ ((World.cell?_setCell_far _ _ _ _ (by show g ≠ b0; omega)).trans k4) (fun hHeld => ?_)
      clear hK K
      refine pure_ (i := 12) (N := some 110) (v := ?_) (a' := ?_) #[true, true, true, true, true, true, true, true, true, true, true, true, true, false, false] rfl rfl (by kernel_rfl) (fun _ _ _ h => h) (Or.inl ⟨by rfl, ?_⟩) ?_ ?_
      rotate_left
      · intro w'
        go_simp
        with_reducible rfl
      rotate_left
      · simp only [Act.put, List.setIfInBounds_toArray, List.set_cons_zero, List.set_cons_succ, i64_w, i32_w]
        rfl
      refine pure_ (i := 13) (N := some 111) (v := ?_) (a' := ?_) #[true, true, true, true, true, true, true, true, true, true, true, true, true, true, false] rfl rfl (by kernel_rfl) (fun _ _ _ h => h) (Or.inl ⟨by rfl, ?_⟩) ?_ ?_
      rotate_left
      · intro w'
        go_simp
        with_reducible rfl
      rotate_left
      · simp only [Act.put, List.setIfInBounds_toArray, List.set_cons_zero, List.set_cons_succ, i64_w, i32_w]
        rfl
      refine last_ (i := 14) (N := none) #[true, true, true, true, true, true, true, true, true, true, true, true, true, true, true] rfl rfl (by kernel_rfl) (by decide) (fun K hK => ?_)
      refine skip_ (w1 := ?_) (by rfl) rfl ?_ ?_
      rotate_left
      · go_simp
        rfl
      refine hK.out _ _ ?_
      clear hK K
      refine done_ (by kernel_rfl) ?_

      go_wp2_with fail
      go_end0
      refine ⟨rfl, ?_, (((Kb.of_below (hB1.mono h0)).set _).set _).drew⟩
      rw [HT.out]
      exact (h1.setCargo ha4 c HX.out).drew
    · rw [if_neg (fun e => h20 e.2)] at hT
      have HT := Lib.hid hT
      have hI : decide ((c.size : Int) ≤ 20) = false := by simp; omega
      clear hT
      go_enter Try.func22, Try.ntmps22
      go_wp2_with fail
      go_quiet (fail)
      generalize hv1 : World.drewN _ nq = v1
      obtain ⟨h1, ⟨k0, k1, k2, k3, k4⟩, hB1, hz1'⟩ := box_start h hv1
      obtain ⟨a0, a1, a2, a3, a4, a5⟩ := h1.side a ha4
      rw [HX.out, h1s] at a2
      have a2 : v1.cell? ⟨g, a * 6 + 1 + 1, none⟩ = some (.int .i64 1) := a2
      have hg1 := h1.lt
      clear hv1
      generalize w.heap.size = b0 at *
      go_wp2_with fail
      go_end0
      exact ⟨rfl, by rw [HT.out]; exact h1, Kb.of_below (hB1.mono h0)⟩
  · rw [if_neg (fun e => h1s e.1)] at hT
    have HT := Lib.hid hT
    have hne : (x.s == 1) = false := by simp [h1s]
    clear hT h1s
    go_enter Try.func22, Try.ntmps22
    go_wp2_with fail
    go_quiet (fail)
    generalize hv1 : World.drewN _ nq = v1
    obtain ⟨h1, ⟨k0, k1, k2, k3, k4⟩, hB1, hz1'⟩ := box_start h hv1
    obtain ⟨a0, a1, a2, a3, a4, a5⟩ := h1.side a ha4
    rw [HX.out] at a2
    have a2 : v1.cell? ⟨g, a * 6 + 1 + 1, none⟩ = some (.int .i64 x.s) := a2
    have hg1 := h1.lt
    clear hv1
    generalize w.heap.size = b0 at *
    go_wp2_with fail
    go_end0
    exact ⟨rfl, by rw [HT.out]; exact h1, Kb.of_below (hB1.mono h0)⟩

def comesP (p : PS) (at_ : Nat) : PS := if h : 0 < p.said.length then hearP p (p.said[at_ % p.said.length]'(Nat.mod_lt _ h)) else p
set_option maxHeartbeats 4000000 in
theorem step_hear (p : PS) (kn at_ an bn a b kd : Nat) (c : ByteArray) (w : World) (g bm B : Nat) (h : PlayAt w g bm B p) (hk : (kn : Int) % 6 = (kd : Int)) (hkd : kd < 3) (ha : (an : Int) % 4 = (a : Int)) (hb : (bn : Int) % 4 = (b : Int))
    (hm : ∀ m ∈ p.said, ∃ d : Nat, d < 4 ∧ m.dst = (d : Int) ∧ (p.s d).c.size ≤ maxLen ∧ m.c.size ≤ maxLen) (hl : p.said.length ≤ 1000) (h16 : at_ < 65536) :
    Calls Try.prog 22 #[.pointer (some ⟨g, 0, none⟩), .agg #[.int .u8 (kn : Int), .int .u16 (at_ : Int), .int .u8 (an : Int), .int .u8 (bn : Int), .string c]] w fun r w' => r = .returned (.tuple #[]) ∧ PlayAt w' g bm B (comesP p at_) ∧ Kb B g w w' := by
  have h0 := h.hi
  by_cases hp : 0 < p.said.length
  · obtain ⟨r, hr⟩ : ∃ r, r = at_ % p.said.length := ⟨_, rfl⟩
    have hrl : r < p.said.length := by rw [hr]; exact Nat.mod_lt _ hp
    have hT : comesP p at_ = hearP p (p.said[r]'hrl) := by
      unfold comesP
      rw [dif_pos hp]
      simp only [hr]
    obtain ⟨d, hd4, hmd, hcs, hcm⟩ := hm _ (List.getElem_mem hrl)
    obtain ⟨m, hmm⟩ : ∃ m, m = p.said[r]'hrl := ⟨_, rfl⟩
    rw [← hmm] at hT hmd hcm
    have hrI : (at_ : Int) % (p.said.length : Int) = (r : Int) := by rw [hr]; simp
    have hrT : (at_ : Int).tmod (p.said.length : Int) = (r : Int) := by rw [Int.tmod_eq_emod_of_nonneg (by omega), hrI]
    have hnil : ¬ p.said = [] := fun e => by rw [e] at hp; exact absurd hp (by simp)
    have hwr : wrap64 (at_ : Int) = (at_ : Int) := by unfold wrap64; omega
    have hr0 : (0 : Int) ≤ (r : Int) := by omega
    have hrL : (r : Int) < (p.said.length : Int) := by omega
    have hpI : (0 : Int) < (p.said.length : Int) := by omega
    have HT := Lib.hid hT
    have HM := Lib.hid hmm
    clear hT hmm hr hm
    obtain ⟨kind, src, dst, ep, mc⟩ := m
    dsimp only at hmd hcm
    subst hmd
    have HH := Lib.hid (fun W (hW : PlayAt W g bm B p) => play_hear p kind src d ep mc W g bm B hW hd4 hcs hcm)
    have hk3 : ¬ kd = 3 := by omega
    have hk4 : ¬ kd = 4 := by omega
    have hk5 : ¬ kd = 5 := by omega
    have hq3 : ((kd : Int) == 3) = false := by simp; omega
    have hq4 : ((kd : Int) == 4) = false := by simp; omega
    have hq5 : ((kd : Int) == 5) = false := by simp; omega
    go_enter Try.func22, Try.ntmps22
    go_wp2_with fail
    go_quiet (fail)
    generalize hv1 : World.drewN _ nq = v1
    obtain ⟨h1, ⟨k0, k1, k2, k3, k4⟩, hB1, hz1'⟩ := box_start h hv1
    have hg1 := h1.lt
    have hlo := h1.lo
    obtain ⟨u, hu, hown⟩ := h1.row
    obtain ⟨gr, cu, rfl, x1, x2, x3, x4, x5⟩ := ownm_read hown hp
    obtain ⟨y0, y1, y2, y3, y4⟩ := x5 r hrl
    rw [← HM.out] at y0 y1 y2 y3 y4
    clear hv1 hown x5
    generalize w.heap.size = b0 at *
    go_wp2_with fail
    refine start_ (n := 17) (S := fun w' => Below v1.heap.size v1 w' ∧ (∀ b oo, b < v1.heap.size → w'.cell? ⟨b, oo, none⟩ = v1.cell? ⟨b, oo, none⟩)) (ds := [16]) #[false, false, false, false, false, false, false, false, false, false, false, false, false, false, false, false, false] (by kernel_rfl) rfl rfl ⟨(still_drew v1).1, (still_drew v1).2⟩ (fun hHeld => ?_)
    refine pure_ (i := 0) (N := some 23) (v := ?_) (a' := ?_) #[true, false, false, false, false, false, false, false, false, false, false, false, false, false, false, false, false] rfl rfl (by kernel_rfl) (fun _ _ _ h => h) (Or.inl ⟨by rfl, ?_⟩) ?_ ?_
    rotate_left
    · intro w'
      go_simp
      with_reducible rfl
    rotate_left
    · simp only [Act.put, List.setIfInBounds_toArray, List.set_cons_zero, List.set_cons_succ, i64_w, i32_w]
      rfl
    refine pure_ (i := 1) (N := some 24) (v := ?_) (a' := ?_) #[true, true, false, false, false, false, false, false, false, false, false, false, false, false, false, false, false] rfl rfl (by kernel_rfl) (fun _ _ _ h => h) (Or.inl ⟨by rfl, ?_⟩) ?_ ?_
    rotate_left
    · intro w'
      go_simp
      with_reducible rfl
    rotate_left
    · simp only [Act.put, List.setIfInBounds_toArray, List.set_cons_zero, List.set_cons_succ, i64_w, i32_w]
      rfl
    refine pure_ (i := 2) (N := some 25) (v := ?_) (a' := ?_) #[true, true, true, false, false, false, false, false, false, false, false, false, false, false, false, false, false] rfl rfl (by kernel_rfl) (fun _ _ _ h => h) (Or.inl ⟨by rfl, ?_⟩) ?_ ?_
    rotate_left
    · intro w'
      go_simp
      with_reducible rfl
    rotate_left
    · simp only [Act.put, List.setIfInBounds_toArray, List.set_cons_zero, List.set_cons_succ, i64_w, i32_w]
      rfl
    refine pure_ (i := 3) (N := some 26) (v := ?_) (a' := ?_) #[true, true, true, true, false, false, false, false, false, false, false, false, false, false, false, false, false] rfl rfl (by kernel_rfl) (fun _ _ _ h => h) (Or.inl ⟨by rfl, ?_⟩) ?_ ?_
    rotate_left
    · intro w'
      go_simp
      with_reducible rfl
    rotate_left
    · simp only [Act.put, List.setIfInBounds_toArray, List.set_cons_zero, List.set_cons_succ, i64_w, i32_w]
      rfl
    refine pure_ (i := 5) (N := some 28) (v := ?_) (a' := ?_) #[true, true, true, true, false, true, false, false, false, false, false, false, false, false, false, false, false] rfl rfl (by kernel_rfl) (fun _ _ _ h => h) (Or.inl ⟨by rfl, ?_⟩) ?_ ?_
    rotate_left
    · intro w'
      go_simp
      with_reducible rfl
    rotate_left
    · simp only [Act.put, List.setIfInBounds_toArray, List.set_cons_zero, List.set_cons_succ, i64_w, i32_w]
      rfl
    refine pure_ (i := 8) (N := some 31) (v := ?_) (a' := ?_) #[true, true, true, true, false, true, false, false, true, false, false, false, false, false, false, false, false] rfl rfl (by kernel_rfl) (fun _ _ _ h => h) (Or.inl ⟨by rfl, ?_⟩) ?_ ?_
    rotate_left
    · intro w'
      go_simp
      with_reducible rfl
    rotate_left
    · simp only [Act.put, List.setIfInBounds_toArray, List.set_cons_zero, List.set_cons_succ, i64_w, i32_w]
      rfl
    refine pure_ (i := 9) (N := some 32) (v := ?_) (a' := ?_) #[true, true, true, true, false, true, false, false, true, true, false, false, false, false, false, false, false] rfl rfl (by kernel_rfl) (fun _ _ _ h => h) (Or.inl ⟨by rfl, ?_⟩) ?_ ?_
    rotate_left
    · intro w'
      go_simp
      with_reducible rfl
    rotate_left
    · simp only [Act.put, List.setIfInBounds_toArray, List.set_cons_zero, List.set_cons_succ, i64_w, i32_w]
      rfl
    refine pure_ (i := 10) (N := some 33) (v := ?_) (a' := ?_) #[true, true, true, true, false, true, false, false, true, true, true, false, false, false, false, false, false] rfl rfl (by kernel_rfl) (fun _ _ _ h => h) (Or.inl ⟨by rfl, ?_⟩) ?_ ?_
    rotate_left
    · intro w'
      go_simp
      with_reducible rfl
    rotate_left
    · simp only [Act.put, List.setIfInBounds_toArray, List.set_cons_zero, List.set_cons_succ, i64_w, i32_w]
      rfl
    refine take_ (i := 4) (N := some 27) (v := ?_) (a' := ?_) #[true, true, true, true, true, true, false, false, true, true, true, false, false, false, false, false, false] rfl rfl (by kernel_rfl) (fun _ _ _ h => h) (Or.inl ⟨by rfl, ?_⟩) hHeld ?_ ?_
    rotate_left
    · rintro w' ⟨s0, s1⟩
      go_simp
      with_reducible rfl
    rotate_left
    · simp only [Act.put, List.setIfInBounds_toArray, List.set_cons_zero, List.set_cons_succ, i64_w, i32_w]
      rfl
    refine take_ (i := 6) (N := some 29) (v := ?_) (a' := ?_) #[true, true, true, true, true, true, true, false, true, true, true, false, false, false, false, false, false] rfl rfl (by kernel_rfl) (fun _ _ _ h => h) (Or.inl ⟨by rfl, ?_⟩) hHeld ?_ ?_
    rotate_left
    · rintro w' ⟨s0, s1⟩
      go_simp
      with_reducible rfl
    rotate_left
    · simp only [Act.put, List.setIfInBounds_toArray, List.set_cons_zero, List.set_cons_succ, i64_w, i32_w]
      rfl
    refine pure_ (i := 7) (N := some 30) (v := ?_) (a' := ?_) #[true, true, true, true, true, true, true, true, true, true, true, false, false, false, false, false, false] rfl rfl (by kernel_rfl) (fun _ _ _ h => h) (Or.inl ⟨by rfl, ?_⟩) ?_ ?_
    rotate_left
    · intro w'
      go_simp
      with_reducible rfl
    rotate_left
    · simp only [Act.put, List.setIfInBounds_toArray, List.set_cons_zero, List.set_cons_succ, i64_w, i32_w]
      rfl
    refine take_ (i := 11) (N := some 34) (v := ?_) (a' := ?_) #[true, true, true, true, true, true, true, true, true, true, true, true, false, false, false, false, false] rfl rfl (by kernel_rfl) (fun _ _ _ h => h) (Or.inl ⟨by rfl, ?_⟩) hHeld ?_ ?_
    rotate_left
    · rintro w' ⟨s0, s1⟩
      go_simp
      with_reducible rfl
    rotate_left
    · simp only [Act.put, List.setIfInBounds_toArray, List.set_cons_zero, List.set_cons_succ, i64_w, i32_w]
      rfl
    refine pure_ (i := 12) (N := some 35) (v := ?_) (a' := ?_) #[true, true, true, true, true, true, true, true, true, true, true, true, true, false, false, false, false] rfl rfl (by kernel_rfl) (fun _ _ _ h => h) (Or.inl ⟨by rfl, ?_⟩) ?_ ?_
    rotate_left
    · intro w'
      go_simp
      with_reducible rfl
    rotate_left
    · simp only [Act.put, List.setIfInBounds_toArray, List.set_cons_zero, List.set_cons_succ, i64_w, i32_w]
      rfl
    refine pure_ (i := 13) (N := some 36) (v := ?_) (a' := ?_) #[true, true, true, true, true, true, true, true, true, true, true, true, true, true, false, false, false] rfl rfl (by kernel_rfl) (fun _ _ _ h => h) (Or.inl ⟨by rfl, ?_⟩) ?_ ?_
    rotate_left
    · intro w'
      go_simp
      with_reducible rfl
    rotate_left
    · simp only [Act.put, List.setIfInBounds_toArray, List.set_cons_zero, List.set_cons_succ, i64_w, i32_w]
      rfl
    refine pure_ (i := 14) (N := some 37) (v := ?_) (a' := ?_) #[true, true, true, true, true, true, true, true, true, true, true, true, true, true, true, false, false] rfl rfl (by kernel_rfl) (fun _ _ _ h => h) (Or.inl ⟨by rfl, ?_⟩) ?_ ?_
    rotate_left
    · intro w'
      go_simp
      with_reducible rfl
    rotate_left
    · simp only [Act.put, List.setIfInBounds_toArray, List.set_cons_zero, List.set_cons_succ, i64_w, i32_w]
      rfl
    refine take_ (i := 15) (N := some 38) (v := ?_) (a' := ?_) #[true, true, true, true, true, true, true, true, true, true, true, true, true, true, true, true, false] rfl rfl (by kernel_rfl) (fun _ _ _ h => h) (Or.inl ⟨by rfl, ?_⟩) hHeld ?_ ?_
    rotate_left
    · rintro w' ⟨s0, s1⟩
      go_simp
      with_reducible rfl
    rotate_left
    · simp only [Act.put, List.setIfInBounds_toArray, List.set_cons_zero, List.set_cons_succ, i64_w, i32_w]
      rfl
    refine last_ (i := 16) (N := some 39) #[true, true, true, true, true, true, true, true, true, true, true, true, true, true, true, true, true] rfl rfl (by kernel_rfl) (by decide) (fun K hK => ?_)
    refine goes_ Try.func35 (by kernel_rfl) rfl #[.pointer (some ⟨g, 0, none⟩), .agg #[.int .i64 kind, .int .u8 src, .int .u8 (d : Int), .int .i64 ep, .string mc]] (by rfl) rfl rfl (by simp only [List.map_toArray, List.map_cons, List.map_nil]; rfl) ?_
    refine (HH.out _ (h1.kept hHeld.1)).mono ?_
    rintro r w3 ⟨rfl, hP3, hK3⟩
    refine ⟨_, rfl, ?_⟩
    refine hK.out _ _ ?_
    clear hK K
    refine norm_ (a' := ?_) ?_ ?_
    rotate_left
    · show Act.put _ (some 39) _ = _
      simp only [Act.put, List.setIfInBounds_toArray, List.set_cons_zero, List.set_cons_succ, i64_w, i32_w]
      rfl
    refine done_ (by kernel_rfl) ?_

    go_wp2_with fail
    go_end0
    refine ⟨rfl, by rw [HT.out]; exact hP3, (Kb.of_below (hB1.mono h0)).trans ((Kb.of_below (hHeld.1.mono h1.hi)).trans hK3)⟩
  · have hT : comesP p at_ = p := by
      unfold comesP
      rw [dif_neg hp]
    have HT := Lib.hid hT
    have hpI : ¬ (0 : Int) < (p.said.length : Int) := by omega
    have hk3 : ¬ kd = 3 := by omega
    have hk4 : ¬ kd = 4 := by omega
    have hk5 : ¬ kd = 5 := by omega
    have hq3 : ((kd : Int) == 3) = false := by simp; omega
    have hq4 : ((kd : Int) == 4) = false := by simp; omega
    have hq5 : ((kd : Int) == 5) = false := by simp; omega
    clear hT hp hm
    go_enter Try.func22, Try.ntmps22
    go_wp2_with fail
    go_quiet (fail)
    generalize hv1 : World.drewN _ nq = v1
    obtain ⟨h1, ⟨k0, k1, k2, k3, k4⟩, hB1, hz1'⟩ := box_start h hv1
    have hg1 := h1.lt
    obtain ⟨u, hu, hown⟩ := h1.row
    obtain ⟨au, cu, rfl⟩ := ownm_slice hown
    clear hv1 hown
    generalize w.heap.size = b0 at *
    go_wp2_with fail
    go_end0
    exact ⟨rfl, by rw [HT.out]; exact h1, Kb.of_below (hB1.mono h0)⟩
end Go.Proofs.Ytamlkmnkdcoebaa.Play
