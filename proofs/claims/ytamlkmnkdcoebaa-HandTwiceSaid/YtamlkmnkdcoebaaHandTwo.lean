/- What comes twice: the plain law. -/
import Derived.Test.YtamlkmnkdcoebaaHandLaws
namespace Go.Proofs.Ytamlkmnkdcoebaa.HandTwo
open LeaseSpec LeaseFwd HandSpec HandLaws

theorem two_hear (x : S) (m : M) (hx : rightS x = true) (hm : mayM m = true) (hd : m.dst = x.me) :
    (hearH (hearH x m).1 m).1 = (hearH x m).1 ∧ ((hearH (hearH x m).1 m).2.2 = 0 → (hearH (hearH x m).1 m).2.1 = (hearH x m).2.1) := by
  by_cases hs : (hearH x m).1 = x
  · rw [hs]; exact ⟨hs, fun _ => rfl⟩
  obtain ⟨r1, r2, r3, r4, r5, r6⟩ := (right_iff x).mp hx
  obtain ⟨m1, m2, m3, m4, m5, m6, m7⟩ := may_iff m hm
  by_cases k1 : m.kind = 1
  · exfalso; apply hs; unfold hearH; rw [if_pos k1]; split <;> rfl
  by_cases k2 : m.kind = 2
  · by_cases hg : x.k = true ∧ x.e = m.ep ∧ x.s = 2 ∧ x.t = m.src
    · exfalso; apply hs; unfold hearH; rw [if_neg k1, if_pos k2, if_pos hg]
    by_cases hsp : speaksB x.e x.s x.t m.ep = true
    · by_cases hmx : x.e = 1048576
      · exfalso; apply hs; unfold hearH; rw [if_neg k1, if_pos k2, if_neg hg, if_pos hsp, if_pos hmx]
      · have hse : x.s = 1 ∧ x.e = m.ep := by simp [speaksB] at hsp; exact ⟨hsp.1.2, hsp.2⟩
        have e : hearH x m = (⟨x.me, x.e, 2, m.src, x.c, true⟩, some ⟨3, x.me, m.src, x.e + 1, x.c⟩, 0) := by
          unfold hearH; rw [if_neg k1, if_pos k2, if_neg hg, if_pos hsp, if_neg hmx]
        have hr : rightS ⟨x.me, x.e, 2, m.src, x.c, true⟩ = true := by
          rw [right_iff]
          refine ⟨r1, right_gone (by dsimp only; omega) (by dsimp only; omega), r3, ?_, by simp, .inr (.inl rfl)⟩
          simp
          omega
        have e2 : hearH ⟨x.me, x.e, 2, m.src, x.c, true⟩ m = (⟨x.me, x.e, 2, m.src, x.c, true⟩, some ⟨3, x.me, m.src, x.e + 1, x.c⟩, 0) := by
          unfold hearH; rw [if_neg k1, if_pos k2, if_pos ⟨rfl, hse.2, rfl, rfl⟩]
          simp [againH, hr, givesH]
        rw [e]; simp only [e2]; exact ⟨trivial, fun _ => trivial⟩
    · exfalso; apply hs; unfold hearH; rw [if_neg k1, if_pos k2, if_neg hg, if_neg hsp]
  by_cases k3 : m.kind = 3
  · by_cases hl : x.e < m.ep
    · have e : hearH x m = (⟨x.me, m.ep, 1, 0, m.c, false⟩, some ⟨4, x.me, m.src, m.ep, noC⟩, 0) := by
        unfold hearH; rw [if_neg k1, if_neg k2, if_pos k3, if_pos hl]
      have e2 : hearH ⟨x.me, m.ep, 1, 0, m.c, false⟩ m = (⟨x.me, m.ep, 1, 0, m.c, false⟩, some ⟨4, x.me, m.src, m.ep, noC⟩, 0) := by
        unfold hearH; rw [if_neg k1, if_neg k2, if_pos k3, if_neg (Int.lt_irrefl _)]
      rw [e]; simp only [e2]; exact ⟨trivial, fun _ => trivial⟩
    · exfalso; apply hs; unfold hearH; rw [if_neg k1, if_neg k2, if_pos k3, if_neg hl]
  by_cases hg : x.k = true ∧ x.e = m.ep - 1 ∧ x.s = 2 ∧ x.t = m.src
  · have e : hearH x m = (⟨x.me, x.e, x.s, x.t, noC, false⟩, none, 0) := by
      unfold hearH; rw [if_neg k1, if_neg k2, if_neg k3, if_pos hg]
    have e2 : hearH ⟨x.me, x.e, x.s, x.t, noC, false⟩ m = (⟨x.me, x.e, x.s, x.t, noC, false⟩, none, 10) := by
      unfold hearH; rw [if_neg k1, if_neg k2, if_neg k3, if_neg (by simp)]
    rw [e]; simp only [e2]; exact ⟨trivial, fun _ => trivial⟩
  · exfalso; apply hs; unfold hearH; rw [if_neg k1, if_neg k2, if_neg k3, if_neg hg]

/-- What the second hearing tells beside the first. -/
def Twice (T U : S × Option M × Int) : Prop :=
  U.1 = T.1 ∧ ((T.2.2 ≠ 0 ∧ U.2.2 = T.2.2 ∧ U.2.1 = none) ∨ (T.2.2 = 0 ∧ U.2.2 ≠ 0 ∧ U.2.1 = none) ∨ (T.2.2 = 0 ∧ U.2.2 = 0 ∧ U.2.1 = T.2.1))

theorem cargo_all (x : S) (m : M) (hx : rightS x = true) : ((hearA x m).1.c.size : Int) ≤ 500 := by
  have hF := fine_all x m hx
  by_cases h0 : (hearA x m).2.2 = 0
  · exact ((right_iff _).mp (hF.2 h0).1).2.2.1
  · rw [hF.1 h0]; exact ((right_iff _).mp hx).2.2.1

theorem two_all (x : S) (m : M) (hx : rightS x = true) : Twice (hearA x m) (hearA (hearA x m).1 m) := by
  have hF := fine_all x m hx
  by_cases h0 : (hearA x m).2.2 = 0
  · obtain ⟨h1, h2, h3, h4⟩ := hF.2 h0
    have hF2 := fine_all (hearA x m).1 m h1
    have hm : mayM m = true := by
      cases hm : mayM m with
      | true => rfl
      | false => unfold hearA at h0; rw [if_neg (by simp [hx]), if_pos hm] at h0; cases h0
    have hd : m.dst = x.me := by
      apply Classical.byContradiction; intro hd
      unfold hearA at h0; rw [if_neg (by simp [hx]), if_neg (by simp [hm]), if_pos hd] at h0; cases h0
    have e : hearA x m = hearH x m := by unfold hearA; rw [if_neg (by simp [hx]), if_neg (by simp [hm]), if_neg (by simp [hd])]
    rw [e] at h0 h1 h2 hF2 ⊢
    have e2 : hearA (hearH x m).1 m = hearH (hearH x m).1 m := by unfold hearA; rw [if_neg (by simp [h1]), if_neg (by simp [hm]), if_neg (by rw [h2]; simp [hd])]
    rw [e2] at hF2 ⊢
    obtain ⟨g1, g2⟩ := two_hear x m hx hm hd
    refine ⟨g1, ?_⟩
    by_cases u0 : (hearH (hearH x m).1 m).2.2 = 0
    · exact .inr (.inr ⟨h0, u0, g2 u0⟩)
    · refine .inr (.inl ⟨h0, u0, ?_⟩)
      have := hF2.1 u0
      rw [this]
  · have e := hF.1 h0
    have e1 : (hearA x m).1 = x := by rw [e]
    rw [e1]
    refine ⟨rfl, .inl ⟨h0, rfl, ?_⟩⟩
    rw [e]
end Go.Proofs.Ytamlkmnkdcoebaa.HandTwo
