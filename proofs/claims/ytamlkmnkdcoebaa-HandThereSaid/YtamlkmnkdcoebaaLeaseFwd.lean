/- Plain facts of Take and Give: epochs never fall, and who gave agency away speaks no more in that epoch. -/
import Derived.Test.YtamlkmnkdcoebaaLeaseSpec
namespace Go.Proofs.Ytamlkmnkdcoebaa.LeaseFwd
open LeaseSpec

def Inv (x : L) (g : Int) : Prop := rightB x.e x.s x.t = true ∧ 0 ≤ g ∧ g ≤ x.e ∧ (x.s = 1 → g < x.e) ∧ x.e ≤ 1048576

theorem right_cases {e s t : Int} (h : rightB e s t = true) : (s = 0 ∧ e = 0 ∧ t = 0) ∨ (s = 1 ∧ 1 ≤ e ∧ e ≤ 1048576 ∧ t = 0) ∨ (s = 2 ∧ 1 ≤ e ∧ e ≤ 1048576 ∧ t < 8) := by
  unfold rightB epochB at h
  split at h
  · simp at h; omega
  · split at h
    · simp at h; omega
    · split at h
      · simp at h; omega
      · simp at h

theorem right_held {e : Int} (h : 1 ≤ e ∧ e ≤ 1048576) : rightB e 1 0 = true := by
  simp [rightB, epochB]; omega
theorem right_gone {e t : Int} (h : 1 ≤ e ∧ e ≤ 1048576) (ht : t < 8) : rightB e 2 t = true := by
  simp [rightB, epochB]; omega

theorem inv_start {e s t : Int} (h : rightB e s t = true) : Inv ⟨e, s, t⟩ (if s = 2 then e else 0) := by
  refine ⟨h, ?_⟩
  rcases right_cases h with ⟨rfl, rfl, rfl⟩ | ⟨rfl, _⟩ | ⟨rfl, _⟩ <;> simp <;> omega

/-- What a call makes of a lease. -/
def lnext (x : L) (g : Bool) (n to : Int) : L × Int := if g = true then give x.e x.s x.t to else take x.e x.s x.t n

def goneOf (x : L) (g : Int) : Int := if x.s = 2 then x.e else g

theorem give_shape (x : L) (to : Int) : ((give x.e x.s x.t to).1 = x ∧ (give x.e x.s x.t to).2 ≠ 0) ∨ (x.s = 1 ∧ rightB x.e x.s x.t = true ∧ to < 8 ∧ x.e ≠ 1048576 ∧ give x.e x.s x.t to = (⟨x.e, 2, to⟩, 0)) := by
  unfold give
  split
  · exact .inl ⟨rfl, by simp⟩
  · split
    · exact .inl ⟨rfl, by simp⟩
    · split
      · split
        · exact .inl ⟨rfl, by simp⟩
        · refine .inr ⟨by assumption, ?_, by omega, by assumption, rfl⟩
          cases h : rightB x.e x.s x.t <;> simp_all
      · exact .inl ⟨rfl, by simp⟩

theorem take_shape (x : L) (n : Int) : ((take x.e x.s x.t n).1 = x ∧ (take x.e x.s x.t n).2 ≠ 0) ∨ (rightB x.e x.s x.t = true ∧ 1 ≤ n ∧ n ≤ 1048576 ∧ x.e < n ∧ take x.e x.s x.t n = (⟨n, 1, 0⟩, 0)) := by
  unfold take
  split
  · exact .inl ⟨rfl, by simp⟩
  · split
    · exact .inl ⟨rfl, by simp⟩
    · split
      · exact .inl ⟨rfl, by simp⟩
      · split
        · exact .inl ⟨rfl, by simp⟩
        · rename_i hn _ _
          have : 1 ≤ n ∧ n ≤ 1048576 := by simp [epochB] at hn; omega
          refine .inr ⟨?_, this.1, this.2, by omega, rfl⟩
          cases h : rightB x.e x.s x.t <;> simp_all

theorem lstep {x : L} {g : Int} (h : Inv x g) (b : Bool) (n to : Int) :
    rightB (lnext x b n to).1.e (lnext x b n to).1.s (lnext x b n to).1.t = true ∧ x.e ≤ (lnext x b n to).1.e ∧ ((lnext x b n to).2 ≠ 0 → (lnext x b n to).1 = x) ∧
    Inv (lnext x b n to).1 (goneOf (lnext x b n to).1 g) := by
  obtain ⟨hr, h0, hg, hs, hm⟩ := h
  have key : (lnext x b n to).1 = x ∧ (lnext x b n to).2 ≠ 0 ∨ (x.s = 1 ∧ to < 8 ∧ lnext x b n to = (⟨x.e, 2, to⟩, 0)) ∨ (1 ≤ n ∧ n ≤ 1048576 ∧ x.e < n ∧ lnext x b n to = (⟨n, 1, 0⟩, 0)) := by
    cases b
    · rcases take_shape x n with h | h
      · exact .inl (by simpa [lnext] using h)
      · exact .inr (.inr ⟨h.2.1, h.2.2.1, h.2.2.2.1, by simpa [lnext] using h.2.2.2.2⟩)
    · rcases give_shape x to with h | h
      · exact .inl (by simpa [lnext] using h)
      · exact .inr (.inl ⟨h.1, h.2.2.1, by simpa [lnext] using h.2.2.2.2⟩)
  rcases key with ⟨h1, h2⟩ | ⟨h1, h2, h3⟩ | ⟨h1, h2, h3, h4⟩
  · rw [h1]
    refine ⟨hr, Int.le_refl _, fun _ => rfl, hr, ?_⟩
    unfold goneOf
    split
    · rename_i h; rcases right_cases hr with ⟨a, _⟩ | ⟨a, _⟩ | ⟨_, a, _⟩ <;> omega
    · omega
  · rw [h3]
    have hb : 1 ≤ x.e ∧ x.e ≤ 1048576 := by rcases right_cases hr with ⟨a, _⟩ | ⟨a, b, c, _⟩ | ⟨_, a, b, _⟩ <;> omega
    refine ⟨right_gone hb h2, Int.le_refl _, fun h => absurd rfl h, right_gone hb h2, ?_⟩
    simp [goneOf]; omega
  · rw [h4]
    refine ⟨right_held ⟨h1, h2⟩, by simp; omega, fun h => absurd rfl h, right_held ⟨h1, h2⟩, ?_⟩
    simp [goneOf]; omega

theorem silent {x : L} {g k : Int} (h : Inv x g) (hk : k ≤ g) : speaksB x.e x.s x.t k = false := by
  obtain ⟨_, _, hg, hs, _⟩ := h
  cases hb : speaksB x.e x.s x.t k
  · rfl
  · simp [speaksB] at hb
    have := hs hb.1.2
    omega
end Go.Proofs.Ytamlkmnkdcoebaa.LeaseFwd
