/- Behind all: who keeps a cargo says it again, its mate answers, and it keeps it no more. -/
import Derived.Test.YtamlkmnkdcoebaaPlayLaw
import Derived.Test.YtamlkmnkdcoebaaPlayRound
namespace Go.Proofs.Ytamlkmnkdcoebaa.Play
open Go.RowKit LeaseSpec LeaseFwd Flat Lease HandSpec HandLaws Hand HandPlay Go.Proofs.YtamlkmnkdcoebaaW.PrintLast
set_option linter.unusedSimpArgs false
set_option linter.unusedVariables false

/-- A message that may be. -/
theorem may_of {m : M} (h1 : 1 ≤ m.kind) (h2 : m.kind ≤ 4) (h3 : 1 ≤ m.ep) (h4 : m.ep ≤ 1048576) (h5 : m.src < 8) (h6 : m.dst < 8) (h7 : m.src ≠ m.dst) (h8 : none_ m.c = true ∨ (m.kind = 3 ∧ (m.c.size : Int) ≤ 500)) : mayM m = true := by
  unfold mayM
  rw [if_neg (by omega), if_neg (by omega), if_neg (by omega), if_neg (by omega), if_neg (by omega), if_neg (by omega), if_neg h7]
  rcases h8 with h | ⟨h, h'⟩
  · simp [h]
  · simp [h, h']
theorem hear_of {x : S} {m : M} (hr : rightS x = true) (hm : mayM m = true) (hd : m.dst = x.me) : hearA x m = hearH x m := by
  unfold hearA
  rw [if_neg (by simp [hr]), if_neg (by simp [hm]), if_neg (by simp [hd])]

/-- A keeper's word, its mate's answer, and what these make. -/
theorem keeper_round {s : Int → S} {l : List M} {cargo : ByteArray} {E : Int} {fl : Bool} {h g y : Int} (I : Inv s l cargo E fl h g y) {a : Int} (ha : four a) (hk : (s a).k = true) :
    ∃ (T1 U1 : S) (r : M) (n1 n2 : Int), hearA (s (s a).t) (givesH (s a)) = (T1, some r, n1) ∧ r.dst = a ∧ r.c.size ≤ 500 ∧ four (s a).t ∧ a ≠ (s a).t ∧ hearA (upd s (s a).t T1 a) r = (U1, none, n2) ∧
      (∃ E' fl' h' g' y', Inv (upd (upd s (s a).t T1) a U1) l cargo E' fl' h' g' y' ∧ ∀ f : Int → Option Value, (∀ e v, f e = some v → e ≤ E ∧ (fl = true → e < E) ∧ (fl = false → e = E → v = Value.int .u8 h)) → ∀ e v, f e = some v → e ≤ E' ∧ (fl' = true → e < E') ∧ (fl' = false → e = E' → v = Value.int .u8 h')) ∧
      ∀ i, four i → (upd (upd s (s a).t T1) a U1 i).k = true → (s i).k = true ∧ i ≠ a := by
  obtain ⟨ht, hkp⟩ := I.keeps a ha hk
  obtain ⟨hr, hme⟩ := I.right a ha
  obtain ⟨hrt, hmet⟩ := I.right _ ht
  obtain ⟨r1, r2, r3, r4, r5, r6⟩ := (right_iff (s a)).mp hr
  have hs2 : (s a).s = 2 := Classical.byContradiction (fun h => r5 ⟨hk, h⟩)
  have hta : (s a).t ≠ a := fun e => r4 ⟨hs2, by rw [hme]; exact e⟩
  have hep := right_le hr
  have he1 : 1 ≤ (s a).e := by
    unfold rightB at r2
    rw [hs2] at r2
    simp [epochB] at r2
    omega
  obtain ⟨a1, a2, a4, a3⟩ := again_ok I ha hk
  have hEle := le_E I ht
  have hepE : (s a).e + 1 ≤ 1048576 := by
    rcases hkp with ⟨hf, rfl⟩ | h1
    · have := (I.fly hf).2.2.2.2.1
      have := I.hi
      omega
    · have := I.hi
      omega
  have hmay : mayM (givesH (s a)) = true := by
    refine may_of (by show (1:Int) ≤ 3; decide) (by show (3:Int) ≤ 4; decide) (by show 1 ≤ (s a).e + 1; omega) hepE (by unfold four at a1; omega) (by unfold four at a2; omega) ?_ (.inr ⟨rfl, r3⟩)
    show (s a).me ≠ (s a).t
    rw [hme]
    exact fun e => hta e.symm
  have h1 : hearA (s (s a).t) (givesH (s a)) = hearH (s (s a).t) (givesH (s a)) := hear_of hrt hmay hmet.symm
  have hH : hearH (s (s a).t) (givesH (s a)) = (if (s (s a).t).e < (s a).e + 1 then (⟨(s (s a).t).me, (s a).e + 1, 1, 0, (s a).c, false⟩, some ⟨4, (s (s a).t).me, (s a).me, (s a).e + 1, noC⟩, 0) else (s (s a).t, some ⟨4, (s (s a).t).me, (s a).me, (s a).e + 1, noC⟩, 0)) := by
    unfold hearH
    rw [if_neg (by show ¬ (3:Int) = 1; decide), if_neg (by show ¬ (3:Int) = 2; decide), if_pos (by show (3:Int) = 3; rfl)]
    rfl
  rw [hH] at h1
  obtain ⟨T1, hT1, hTk⟩ : ∃ T1, hearA (s (s a).t) (givesH (s a)) = (T1, some ⟨4, (s (s a).t).me, (s a).me, (s a).e + 1, noC⟩, 0) ∧ (T1.k = true → (s (s a).t).k = true) := by
    rw [h1]
    split
    · exact ⟨_, rfl, fun h => by cases h⟩
    · exact ⟨_, rfl, fun h => h⟩
  clear h1 hH
  have hua : upd s (s a).t T1 a = s a := upd_other _ _ (fun e => hta e.symm)
  have hmay2 : mayM ⟨4, (s (s a).t).me, (s a).me, (s a).e + 1, noC⟩ = true := by
    refine may_of (by show (1:Int) ≤ 4; decide) (by show (4:Int) ≤ 4; decide) (by show 1 ≤ (s a).e + 1; omega) hepE ?_ ?_ ?_ (.inl none_noC)
    · show (s (s a).t).me < 8
      rw [hmet]; unfold four at ht; omega
    · show (s a).me < 8
      rw [hme]; unfold four at ha; omega
    · show (s (s a).t).me ≠ (s a).me
      rw [hmet, hme]; exact hta
  have h2 : hearA (upd s (s a).t T1 a) ⟨4, (s (s a).t).me, (s a).me, (s a).e + 1, noC⟩ = (⟨(s a).me, (s a).e, (s a).s, (s a).t, noC, false⟩, none, 0) := by
    rw [hua, hear_of hr hmay2 rfl]
    unfold hearH
    rw [if_neg (by show ¬ (4:Int) = 1; decide), if_neg (by show ¬ (4:Int) = 2; decide), if_neg (by show ¬ (4:Int) = 3; decide), if_pos ⟨hk, by show (s a).e = (s a).e + 1 - 1; omega, hs2, by show (s a).t = (s (s a).t).me; rw [hmet]⟩]
  refine ⟨T1, _, _, _, _, hT1, hme, by show noC.size ≤ 500; decide, ht, fun e => hta e.symm, h2, ?_, ?_⟩
  · have I1 := inv_say I (givesH (s a)) a1 a2 a4 (fun _ => a3) (fun h => by cases h)
    obtain ⟨E1, fl1, h1', g1, y1, I2, c2⟩ := inv_hear I1 (givesH (s a)) (by simp)
    have hd : (givesH (s a)).dst = (s a).t := rfl
    rw [hd, hT1] at I2
    dsimp only at I2
    obtain ⟨E2, fl2, h2', g2, y2, I3, c3⟩ := inv_hear I2 ⟨4, (s (s a).t).me, (s a).me, (s a).e + 1, noC⟩ (by simp)
    dsimp only at I3
    rw [show upd s (s a).t T1 (s a).me = upd s (s a).t T1 a from congrArg _ hme, h2] at I3
    dsimp only at I3
    rw [congrArg (fun i => upd (upd s (s a).t T1) i ⟨(s a).me, (s a).e, (s a).s, (s a).t, noC, false⟩) hme] at I3
    exact ⟨E2, fl2, h2', g2, y2, inv_less I3 (fun m hm => by simp [hm]), fun f hf => map_on (map_on hf c2) c3⟩
  · intro i hi hik
    by_cases e : i = a
    · subst e
      rw [upd_same] at hik
      cases hik
    · rw [upd_other _ _ e] at hik
      refine ⟨?_, e⟩
      by_cases e2 : i = (s a).t
      · rw [e2, upd_same] at hik
        rw [e2]
        exact hTk hik
      · rw [upd_other _ _ e2] at hik
        exact hik
end Go.Proofs.Ytamlkmnkdcoebaa.Play
