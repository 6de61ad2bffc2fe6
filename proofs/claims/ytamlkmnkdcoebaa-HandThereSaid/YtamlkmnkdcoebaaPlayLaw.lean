/- What a step makes of a play, and that each step keeps the play in order. -/
import Derived.Test.YtamlkmnkdcoebaaPlayOne
namespace Go.Proofs.Ytamlkmnkdcoebaa.Play
open Go.RowKit LeaseSpec LeaseFwd Flat Lease HandSpec HandLaws Hand HandPlay Go.Proofs.YtamlkmnkdcoebaaW.PrintLast
set_option linter.unusedSimpArgs false
set_option linter.unusedVariables false

def stepP (p : PS) (kd at_ a b : Nat) (c : ByteArray) : PS :=
  if kd < 3 then comesP p at_ else if kd = 3 then askP p a b else if kd = 4 then againP p a else cargoP p a c

structure Good (p : PS) (f : Int → Option Value) (E : Int) (fl : Bool) (h g y : Int) : Prop where
  inv : Inv p.s p.said p.cargo E fl h g y
  map : ∀ e v, f e = some v → e ≤ E ∧ (fl = true → e < E) ∧ (fl = false → e = E → v = .int .u8 h)

theorem inv_less {s : Int → S} {l l' : List M} {c : ByteArray} {E : Int} {fl : Bool} {h g y : Int} (I : Inv s l' c E fl h g y) (hs : ∀ m ∈ l, m ∈ l') : Inv s l c E fl h g y :=
  ⟨I.lo, I.hi, I.right, fun m hm => I.ends m (hs m hm), I.held, I.free, I.fly, fun m hm => I.gives m (hs m hm), I.keeps, fun m hm => I.gots m (hs m hm), I.sizes⟩
theorem holder {s : Int → S} {l : List M} {c : ByteArray} {E : Int} {fl : Bool} {h g y : Int} (I : Inv s l c E fl h g y) {i : Int} (hi : four i) (h1 : (s i).s = 1) : fl = false ∧ i = h := by
  have hf : fl = false := by
    cases hf : fl with
    | false => rfl
    | true => exact absurd h1 (I.free i hi (.inl hf)).1
  refine ⟨hf, ?_⟩
  apply Classical.byContradiction
  intro hc
  exact (I.free i hi (.inr hc)).1 h1
theorem four_nat {i : Nat} (h : i < 4) : four (i : Int) := by unfold four; omega
theorem four_of {i : Int} (h : four i) : ∃ d : Nat, d < 4 ∧ i = (d : Int) := by unfold four at h; exact ⟨i.toNat, by omega, by omega⟩

/-- The map told of the new state as it told of the old one. -/
theorem map_on {f : Int → Option Value} {E E' : Int} {fl fl' : Bool} {h h' : Int} (hm : ∀ e v, f e = some v → e ≤ E ∧ (fl = true → e < E) ∧ (fl = false → e = E → v = .int .u8 h))
    (hc : (E' = E ∧ fl' = fl ∧ h' = h) ∨ (fl = false ∧ fl' = true ∧ E' = E + 1) ∨ (fl = true ∧ fl' = false ∧ E' = E)) : ∀ e v, f e = some v → e ≤ E' ∧ (fl' = true → e < E') ∧ (fl' = false → e = E' → v = .int .u8 h') := by
  intro e v hv
  obtain ⟨h1, h2, h3⟩ := hm e v hv
  rcases hc with ⟨rfl, rfl, rfl⟩ | ⟨h4, h5, rfl⟩ | ⟨h4, h5, rfl⟩
  · exact ⟨h1, h2, h3⟩
  · exact ⟨by omega, fun _ => by omega, fun h => by rw [h5] at h; cases h⟩
  · exact ⟨h1, (fun h => by rw [h5] at h; cases h), fun _ h => by have := h2 h4; omega⟩

theorem good_hear {p : PS} {f : Int → Option Value} {E : Int} {fl : Bool} {h g y : Int} (G : Good p f E fl h g y) {m : M} (hm : m ∈ p.said) : ∃ E' fl' h' g' y', Good (hearP p m) f E' fl' h' g' y' := by
  obtain ⟨E', fl', h', g', y', I, hc⟩ := inv_hear G.inv m hm
  refine ⟨E', fl', h', g', y', ?_, map_on G.map hc⟩
  unfold hearP
  dsimp only
  split
  · exact I
  · exact inv_less I (fun m h => List.mem_append_left _ h)
theorem good_comes {p : PS} {f : Int → Option Value} {E : Int} {fl : Bool} {h g y : Int} (G : Good p f E fl h g y) (at_ : Nat) : ∃ E' fl' h' g' y', Good (comesP p at_) f E' fl' h' g' y' := by
  unfold comesP
  split
  · exact good_hear G (List.getElem_mem _)
  · exact ⟨_, _, _, _, _, G⟩
theorem good_ask {p : PS} {f : Int → Option Value} {E : Int} {fl : Bool} {h g y : Int} (G : Good p f E fl h g y) {a b : Int} (ha : four a) (hb : four b) : ∃ E' fl' h' g' y', Good (askP p a b) f E' fl' h' g' y' := by
  unfold askP
  split
  · rename_i h0
    refine ⟨E, fl, h, g, y, ?_, G.map⟩
    have e : (askH (p.s a) b).1 = ⟨1, (p.s a).me, b, (p.s a).e, noC⟩ := by
      unfold askH at h0 ⊢
      split
      · rw [if_pos (by assumption)] at h0; cases h0
      · rw [if_neg (by assumption)] at h0
        split
        · rw [if_pos (by assumption)] at h0; cases h0
        · rw [if_neg (by assumption)] at h0
          split
          · rename_i hne; rw [if_pos hne] at h0; exact absurd h0 hne
          · rfl
    rw [e]
    exact inv_say G.inv _ (by show four (p.s a).me; rw [(G.inv.right a ha).2]; exact ha) hb (by show noC.size ≤ 500; decide) (fun h => by cases h) (fun h => by cases h)
  · exact ⟨_, _, _, _, _, G⟩
theorem again_eq {x : S} (h : rightS x = true) : againH x = if x.k = true then some (givesH x) else none := by unfold againH; rw [if_neg (by simp [h])]
theorem good_again {p : PS} {f : Int → Option Value} {E : Int} {fl : Bool} {h g y : Int} (G : Good p f E fl h g y) {a : Int} (ha : four a) : ∃ E' fl' h' g' y', Good (againP p a) f E' fl' h' g' y' := by
  refine ⟨E, fl, h, g, y, ?_, G.map⟩
  show Inv p.s (p.said ++ (againH (p.s a)).toList) p.cargo E fl h g y
  rw [again_eq (G.inv.right a ha).1]
  split
  · rename_i hk
    obtain ⟨a1, a2, a4, a3⟩ := again_ok G.inv ha hk
    exact inv_say G.inv _ a1 a2 a4 (fun _ => a3) (fun h => by cases h)
  · simpa using G.inv
theorem good_cargo {p : PS} {f : Int → Option Value} {E : Int} {fl : Bool} {h g y : Int} (G : Good p f E fl h g y) {a : Int} (ha : four a) (c : ByteArray) : ∃ E' fl' h' g' y', Good (cargoP p a c) f E' fl' h' g' y' := by
  unfold cargoP
  split
  · rename_i hs
    obtain ⟨hs, hcs⟩ := hs
    have I := G.inv
    obtain ⟨hfl, hah⟩ := holder I ha hs
    refine ⟨E, fl, h, g, y, ?_, G.map⟩
    dsimp only
    have key : ∀ i, (upd p.s a ⟨(p.s a).me, (p.s a).e, (p.s a).s, (p.s a).t, c, (p.s a).k⟩ i).e = (p.s i).e ∧ (upd p.s a ⟨(p.s a).me, (p.s a).e, (p.s a).s, (p.s a).t, c, (p.s a).k⟩ i).s = (p.s i).s ∧
        (upd p.s a ⟨(p.s a).me, (p.s a).e, (p.s a).s, (p.s a).t, c, (p.s a).k⟩ i).k = (p.s i).k ∧ (upd p.s a ⟨(p.s a).me, (p.s a).e, (p.s a).s, (p.s a).t, c, (p.s a).k⟩ i).t = (p.s i).t ∧ (upd p.s a ⟨(p.s a).me, (p.s a).e, (p.s a).s, (p.s a).t, c, (p.s a).k⟩ i).me = (p.s i).me := by
      intro i
      unfold upd
      split
      · rename_i e; subst e; exact ⟨rfl, rfl, rfl, rfl, rfl⟩
      · exact ⟨rfl, rfl, rfl, rfl, rfl⟩
    refine ⟨I.lo, I.hi, fun i hi => ?_, I.ends, fun _ => ?_, fun i hi hin => ?_, (fun hf => by rw [hfl] at hf; cases hf), fun m hm hk => ?_, fun i hi hk => ?_, fun m hm hk => ?_, by omega⟩
    · refine ⟨?_, by rw [(key i).2.2.2.2]; exact (I.right i hi).2⟩
      by_cases e : i = a
      · subst e
        rw [upd_same]
        obtain ⟨r1, r2, r3, r4, r5, r6⟩ := (right_iff (p.s i)).mp (I.right i hi).1
        rw [right_iff]
        exact ⟨r1, r2, by dsimp only; omega, r4, r5, .inr (.inr hs)⟩
      · rw [upd_other _ _ e]; exact (I.right i hi).1
    · obtain ⟨i1, i2, i3, i4⟩ := I.held hfl
      refine ⟨i1, ?_⟩
      rw [← hah, upd_same]
      rw [← hah] at i2 i3
      exact ⟨i2, i3, rfl⟩
    · rw [(key i).1, (key i).2.1]; exact I.free i hi hin
    · rw [(key _).1]
      rcases I.gives m hm hk with h1 | ⟨h1, _⟩
      · exact .inl h1
      · rw [hfl] at h1; cases h1
    · rw [(key i).2.2.1] at hk
      rw [(key i).2.2.2.1, (key i).1, (key _).1]
      exact I.keeps i hi hk
    · rw [(key _).1]; exact I.gots m hm hk
  · exact ⟨_, _, _, _, _, G⟩
theorem good_step {p : PS} {f : Int → Option Value} {E : Int} {fl : Bool} {h g y : Int} (G : Good p f E fl h g y) (kd at_ a b : Nat) (c : ByteArray) (ha : a < 4) (hb : b < 4) : ∃ E' fl' h' g' y', Good (stepP p kd at_ a b c) f E' fl' h' g' y' := by
  unfold stepP
  split
  · exact good_comes G at_
  · split
    · exact good_ask G (four_nat ha) (four_nat hb)
    · split
      · exact good_again G (four_nat ha)
      · exact good_cargo G (four_nat ha) c
theorem good_begun : Good begunP heldB 1 false 0 0 0 := by
  have side : ∀ i, four i → i = 0 ∨ i = 1 ∨ i = 2 ∨ i = 3 := fun i hi => by unfold four at hi; omega
  refine ⟨⟨by decide, by decide, fun i hi => ?_, (fun m hm => by cases hm), fun _ => ⟨by unfold four; decide, rfl, rfl, rfl⟩, fun i hi hin => ?_, (fun h => by cases h), (fun m hm => by cases hm), fun i hi hk => ?_, (fun m hm => by cases hm), by decide⟩, ?_⟩
  · rcases side i hi with rfl | rfl | rfl | rfl <;> exact ⟨(right_iff _).mpr ⟨by decide, by decide, by decide, by decide, by decide, .inl none_noC⟩, rfl⟩
  · rcases side i hi with rfl | rfl | rfl | rfl
    · rcases hin with h | h
      · cases h
      · exact absurd rfl h
    all_goals decide
  · rcases side i hi with rfl | rfl | rfl | rfl <;> exact absurd hk (by decide)
  · intro e v hv
    unfold heldB MapV.set at hv
    split at hv
    · rename_i he
      subst he
      exact ⟨by decide, (fun h => by cases h), fun _ _ => by cases hv; rfl⟩
    · cases hv
theorem good_one {p : PS} {f : Int → Option Value} {E : Int} {fl : Bool} {h g y : Int} (G : Good p f E fl h g y) : OneOk p h E f := by
  refine ⟨fun i hi => ?_, fun i hi hs => ?_, ?_⟩
  · obtain ⟨h1, h2⟩ := G.inv.right i (four_nat hi)
    have := ((right_iff _).mp h1).2.2.1
    exact ⟨h1, h2, by unfold maxLen; omega⟩
  · obtain ⟨hf, rfl⟩ := holder G.inv (four_nat hi) hs
    obtain ⟨_, _, h3, h4⟩ := G.inv.held hf
    exact ⟨rfl, h3, h4⟩
  · cases hv : f E with
    | none => exact .inl rfl
    | some v =>
      obtain ⟨_, h2, h3⟩ := G.map E v hv
      cases hf : fl with
      | true => have := h2 hf; omega
      | false => rw [h3 hf rfl]; exact .inr rfl
theorem good_more {p : PS} {f f' : Int → Option Value} {E : Int} {fl : Bool} {h g y : Int} (G : Good p f E fl h g y) (hf : f' = f ∨ (f' = MapV.set f E (.int .u8 h) ∧ ∃ i : Nat, i < 4 ∧ (p.s i).s = 1)) : Good p f' E fl h g y := by
  rcases hf with rfl | ⟨rfl, i, hi, hs⟩
  · exact G
  · obtain ⟨hfl, _⟩ := holder G.inv (four_nat hi) hs
    refine ⟨G.inv, fun e v hv => ?_⟩
    unfold MapV.set at hv
    split at hv
    · rename_i he
      subst he
      exact ⟨Int.le_refl _, (fun h => by rw [hfl] at h; cases h), fun _ _ => by cases hv; rfl⟩
    · exact G.map e v hv
/-- A step says one message more at most. -/
theorem step_said (p : PS) (kd at_ a b : Nat) (c : ByteArray) : (stepP p kd at_ a b c).said.length ≤ p.said.length + 1 := by
  have o1 : ∀ o : Option M, o.toList.length ≤ 1 := fun o => by cases o <;> simp
  unfold stepP
  split
  · unfold comesP
    split
    · unfold hearP
      dsimp only
      split
      · rw [List.length_append]; have := o1 (hearA (p.s (p.said[at_ % p.said.length]'(Nat.mod_lt _ (by assumption))).dst) (p.said[at_ % p.said.length]'(Nat.mod_lt _ (by assumption)))).2.1; omega
      · omega
    · omega
  · split
    · unfold askP; split <;> simp
    · split
      · show (p.said ++ _).length ≤ _
        rw [List.length_append]; have := o1 (againH (p.s a)); omega
      · unfold cargoP; split <;> simp
/-- What the step's contracts ask. -/
theorem good_sizes {p : PS} {f : Int → Option Value} {E : Int} {fl : Bool} {h g y : Int} (G : Good p f E fl h g y) : (∀ a : Nat, a < 4 → (p.s a).c.size ≤ maxLen) ∧ ∀ m ∈ p.said, ∃ d : Nat, d < 4 ∧ m.dst = (d : Int) ∧ (p.s d).c.size ≤ maxLen ∧ m.c.size ≤ maxLen := by
  have h1 : ∀ a : Nat, a < 4 → (p.s a).c.size ≤ maxLen := fun a ha => ((good_one G).right a ha).2.2
  refine ⟨h1, fun m hm => ?_⟩
  obtain ⟨_, h2, h3⟩ := G.inv.ends m hm
  obtain ⟨d, hd, e⟩ := four_of h2
  exact ⟨d, hd, e, h1 d hd, by unfold maxLen; omega⟩
end Go.Proofs.Ytamlkmnkdcoebaa.Play
