/- Plain laws of the handoff: what comes of a message that may be heard leaves a side that may be; with an error nothing turns. -/
import Derived.Test.YtamlkmnkdcoebaaHandSpec
import Derived.Test.YtamlkmnkdcoebaaLeaseFwd
import Derived.Lib.Strings
namespace Go.Proofs.Ytamlkmnkdcoebaa.HandLaws
open LeaseSpec LeaseFwd HandSpec

theorem right_iff (x : S) : rightS x = true ↔ x.me < 8 ∧ rightB x.e x.s x.t = true ∧ (x.c.size : Int) ≤ 500 ∧ ¬ (x.s = 2 ∧ x.t = x.me) ∧ ¬ (x.k = true ∧ x.s ≠ 2) ∧ (none_ x.c = true ∨ x.k = true ∨ x.s = 1) := by
  unfold rightS
  constructor
  · intro h
    split at h
    · cases h
    · split at h
      · cases h
      · rename_i h2
        have h2' : rightB x.e x.s x.t = true := by cases hb : rightB x.e x.s x.t <;> simp_all
        split at h
        · cases h
        · split at h
          · cases h
          · split at h
            · cases h
            · rename_i h1 h3 h4 h5
              simp at h
              refine ⟨by omega, h2', by omega, h4, h5, ?_⟩
              rcases h with (h | h) | h
              · exact .inl h
              · exact .inr (.inl h)
              · exact .inr (.inr h)
  · rintro ⟨h1, h2, h3, h4, h5, h6⟩
    rw [if_neg (by omega), h2, if_neg (by simp), if_neg (by omega), if_neg h4, if_neg h5]
    rcases h6 with h | h | h <;> simp [h]

theorem may_iff (m : M) (h : mayM m = true) : (m.kind = 1 ∨ m.kind = 2 ∨ m.kind = 3 ∨ m.kind = 4) ∧ 1 ≤ m.ep ∧ m.ep ≤ 1048576 ∧ m.src < 8 ∧ m.dst < 8 ∧ m.src ≠ m.dst ∧ (none_ m.c = true ∨ (m.kind = 3 ∧ (m.c.size : Int) ≤ 500)) := by
  unfold mayM at h
  split at h
  · cases h
  · split at h
    · cases h
    · split at h
      · cases h
      · split at h
        · cases h
        · split at h
          · cases h
          · split at h
            · cases h
            · split at h
              · cases h
              · simp at h
                exact ⟨by omega, by omega, by omega, by omega, by omega, by assumption, h⟩

theorem none_size {c : ByteArray} (h : none_ c = true) : c.size = 0 := by
  unfold none_ at h
  rw [Go.Lib.toList_data] at h
  have : c.data.toList = [] := by simpa using h
  have h2 : c.data.size = 0 := by rw [← Array.length_toList, this]; rfl
  exact h2

theorem none_noC : none_ noC = true := by unfold none_ noC; rw [Go.Lib.toList_data]; rfl

/-- What is known of the side, and of what is said, behind a message that was heard. -/
def Fine (x : S) (m : M) (T : S × Option M × Int) : Prop :=
  (T.2.2 ≠ 0 → T = (x, none, T.2.2)) ∧ (T.2.2 = 0 → rightS T.1 = true ∧ T.1.me = x.me ∧ x.e ≤ T.1.e ∧ ∀ y, T.2.1 = some y → y.src = x.me ∧ y.dst = m.src)

theorem fine_err {x : S} {m : M} {n : Int} (h : n ≠ 0) : Fine x m (x, none, n) := ⟨fun _ => rfl, fun h' => absurd h' h⟩
theorem fine_ok {x y : S} {m : M} {o : Option M} (h1 : rightS y = true) (h2 : y.me = x.me) (h3 : x.e ≤ y.e) (h4 : ∀ z, o = some z → z.src = x.me ∧ z.dst = m.src) : Fine x m (y, o, 0) := ⟨fun h => absurd rfl h, fun _ => ⟨h1, h2, h3, h4⟩⟩

theorem fine_hear (x : S) (m : M) (hx : rightS x = true) (hm : mayM m = true) (hd : m.dst = x.me) : Fine x m (hearH x m) := by
  obtain ⟨r1, r2, r3, r4, r5, r6⟩ := (right_iff x).mp hx
  obtain ⟨m1, m2, m3, m4, m5, m6, m7⟩ := may_iff m hm
  unfold hearH
  split
  · split
    · exact fine_ok hx rfl (Int.le_refl _) (by intro z hz; cases hz; exact ⟨rfl, rfl⟩)
    · exact fine_err (by decide)
  · split
    · split
      · rename_i hg
        refine fine_ok hx rfl (Int.le_refl _) ?_
        intro z hz
        simp [againH, hx, hg.1] at hz
        subst hz
        exact ⟨rfl, hg.2.2.2⟩
      · split
        · rename_i hsp
          have hs : x.s = 1 ∧ x.e = m.ep := by simp [speaksB] at hsp; exact ⟨hsp.1.2, hsp.2⟩
          split
          · exact fine_err (by decide)
          · refine fine_ok ?_ rfl (Int.le_refl _) (by intro z hz; cases hz; exact ⟨rfl, rfl⟩)
            rw [right_iff]
            refine ⟨r1, right_gone (by dsimp only; omega) (by dsimp only; omega), r3, ?_, by simp, .inr (.inl rfl)⟩
            simp; omega
        · exact fine_err (by decide)
    · split
      · split
        · refine fine_ok ?_ rfl (by simp; omega) (by intro z hz; cases hz; exact ⟨rfl, rfl⟩)
          rw [right_iff]
          refine ⟨r1, right_held (by dsimp only; omega), ?_, by simp, by simp, .inr (.inr rfl)⟩
          rcases m7 with h | h
          · have := none_size h; simp; omega
          · exact h.2
        · exact fine_ok hx rfl (Int.le_refl _) (by intro z hz; cases hz; exact ⟨rfl, rfl⟩)
      · split
        · rename_i hg
          refine fine_ok ?_ rfl (Int.le_refl _) (by intro z hz; cases hz)
          rw [right_iff]
          exact ⟨r1, r2, by show ((noC.size : Nat) : Int) ≤ 500; decide, r4, by simp, .inl none_noC⟩
        · exact fine_err (by decide)

theorem fine_all (x : S) (m : M) (hx : rightS x = true) : Fine x m (hearA x m) := by
  unfold hearA
  rw [if_neg (by simp [hx])]
  split
  · exact fine_err (by decide)
  · split
    · exact fine_err (by decide)
    · rename_i h1 h2
      exact fine_hear x m hx (by cases h : mayM m <;> simp_all) (by apply Classical.byContradiction; intro h; exact h2 h)
end Go.Proofs.Ytamlkmnkdcoebaa.HandLaws
