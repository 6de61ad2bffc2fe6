/- A play of four stations in plain Lean: at every moment one at most holds the agency, whatever messages come. -/
import Derived.Test.YtamlkmnkdcoebaaHandLaws
namespace Go.Proofs.Ytamlkmnkdcoebaa.HandPlay
open LeaseSpec LeaseFwd HandSpec HandLaws

def four (i : Int) : Prop := 0 ≤ i ∧ i < 4
def upd (s : Int → S) (i : Int) (x : S) : Int → S := fun j => if j = i then x else s j
theorem upd_same (s : Int → S) (i : Int) (x : S) : upd s i x i = x := if_pos rfl
theorem upd_other (s : Int → S) {i j : Int} (x : S) (h : j ≠ i) : upd s i x j = s j := if_neg h

/-- What is said of an agency that goes on: 'fl' it is on its way from g to y; else h holds it; E is its epoch. -/
structure Inv (s : Int → S) (said : List M) (cargo : ByteArray) (E : Int) (fl : Bool) (h g y : Int) : Prop where
  lo : 1 ≤ E
  hi : E ≤ 1048576
  right : ∀ i, four i → rightS (s i) = true ∧ (s i).me = i
  ends : ∀ m ∈ said, four m.src ∧ four m.dst ∧ m.c.size ≤ 500
  held : fl = false → four h ∧ (s h).s = 1 ∧ (s h).e = E ∧ (s h).c = cargo
  free : ∀ i, four i → (fl = true ∨ i ≠ h) → (s i).s ≠ 1 ∧ (s i).e < E
  fly : fl = true → four g ∧ four y ∧ y ≠ g ∧ (s g).s = 2 ∧ (s g).e = E - 1 ∧ (s g).k = true ∧ (s g).t = y ∧ (s g).c = cargo
  gives : ∀ m ∈ said, m.kind = 3 → (m.ep ≤ (s m.dst).e) ∨ (fl = true ∧ m = ⟨3, g, y, E, cargo⟩)
  keeps : ∀ i, four i → (s i).k = true → four (s i).t ∧ ((fl = true ∧ i = g) ∨ (s i).e + 1 ≤ (s (s i).t).e)
  gots : ∀ m ∈ said, m.kind = 4 → m.ep ≤ (s m.src).e
  sizes : cargo.size ≤ 500

theorem le_E {s : Int → S} {said : List M} {cargo : ByteArray} {E : Int} {fl : Bool} {h g y : Int} (I : Inv s said cargo E fl h g y) {i : Int} (hi : four i) : (s i).e ≤ E ∧ (fl = true → (s i).e < E) := by
  cases hf : fl with
  | true => have := (I.free i hi (.inl hf)).2; exact ⟨by omega, fun _ => this⟩
  | false =>
    refine ⟨?_, fun h => by cases h⟩
    by_cases e : i = h
    · rw [e, (I.held hf).2.2.1]; exact Int.le_refl _
    · have := (I.free i hi (.inr e)).2; omega

/-- One message more, that tells nothing new. -/
theorem inv_say {s : Int → S} {said : List M} {cargo : ByteArray} {E : Int} {fl : Bool} {h g y : Int} (I : Inv s said cargo E fl h g y) (m : M) (h1 : four m.src) (h2 : four m.dst) (h5 : m.c.size ≤ 500)
    (h3 : m.kind = 3 → (m.ep ≤ (s m.dst).e) ∨ (fl = true ∧ m = ⟨3, g, y, E, cargo⟩)) (h4 : m.kind = 4 → m.ep ≤ (s m.src).e) : Inv s (said ++ [m]) cargo E fl h g y := by
  have key : ∀ x ∈ said ++ [m], x ∈ said ∨ x = m := fun x hx => by
    rcases List.mem_append.mp hx with h | h
    · exact .inl h
    · exact .inr (by simpa using h)
  refine ⟨I.lo, I.hi, I.right, fun x hx => ?_, I.held, I.free, I.fly, fun x hx hk => ?_, I.keeps, fun x hx hk => ?_, I.sizes⟩
  · rcases key x hx with h | rfl
    · exact I.ends x h
    · exact ⟨h1, h2, h5⟩
  · rcases key x hx with h | rfl
    · exact I.gives x h hk
    · exact h3 hk
  · rcases key x hx with h | rfl
    · exact I.gots x h hk
    · exact h4 hk

theorem again_ok {s : Int → S} {said : List M} {cargo : ByteArray} {E : Int} {fl : Bool} {h g y : Int} (I : Inv s said cargo E fl h g y) {i : Int} (hi : four i) (hk : (s i).k = true) :
    four (givesH (s i)).src ∧ four (givesH (s i)).dst ∧ (givesH (s i)).c.size ≤ 500 ∧ (((givesH (s i)).ep ≤ (s (givesH (s i)).dst).e) ∨ (fl = true ∧ givesH (s i) = ⟨3, g, y, E, cargo⟩)) := by
  obtain ⟨ht, hkp⟩ := I.keeps i hi hk
  have hme := (I.right i hi).2
  have hc := ((right_iff (s i)).mp (I.right i hi).1).2.2.1
  refine ⟨by show four (s i).me; rw [hme]; exact hi, ht, by show (s i).c.size ≤ 500; omega, ?_⟩
  rcases hkp with ⟨hf, rfl⟩ | hkp
  · right
    obtain ⟨_, _, _, _, he, _, hty, hcg⟩ := I.fly hf
    refine ⟨hf, ?_⟩
    show (⟨3, (s i).me, (s i).t, (s i).e + 1, (s i).c⟩ : M) = _
    rw [hme, hty, hcg, he]
    congr 1
    omega
  · exact .inl hkp

theorem upd_id (s : Int → S) (i : Int) : upd s i (s i) = s := by funext j; unfold upd; split <;> simp_all

/-- A message that was said comes. -/
theorem inv_hear {s : Int → S} {said : List M} {cargo : ByteArray} {E : Int} {fl : Bool} {h g y : Int} (I : Inv s said cargo E fl h g y) (m : M) (hm : m ∈ said) :
    ∃ E' fl' h' g' y', Inv (upd s m.dst (hearA (s m.dst) m).1) (said ++ (hearA (s m.dst) m).2.1.toList) cargo E' fl' h' g' y' ∧
      ((E' = E ∧ fl' = fl ∧ h' = h) ∨ (fl = false ∧ fl' = true ∧ E' = E + 1) ∨ (fl = true ∧ fl' = false ∧ E' = E)) := by
  have same : ∃ E' fl' h' g' y', Inv (upd s m.dst (s m.dst)) (said ++ (none : Option M).toList) cargo E' fl' h' g' y' ∧ ((E' = E ∧ fl' = fl ∧ h' = h) ∨ (fl = false ∧ fl' = true ∧ E' = E + 1) ∨ (fl = true ∧ fl' = false ∧ E' = E)) :=
    ⟨E, fl, h, g, y, by rw [upd_id]; simpa using I, .inl ⟨rfl, rfl, rfl⟩⟩
  have say : ∀ r : M, four r.src → four r.dst → r.c.size ≤ 500 → (r.kind = 3 → (r.ep ≤ (s r.dst).e) ∨ (fl = true ∧ r = ⟨3, g, y, E, cargo⟩)) → (r.kind = 4 → r.ep ≤ (s r.src).e) →
      ∃ E' fl' h' g' y', Inv (upd s m.dst (s m.dst)) (said ++ (some r : Option M).toList) cargo E' fl' h' g' y' ∧ ((E' = E ∧ fl' = fl ∧ h' = h) ∨ (fl = false ∧ fl' = true ∧ E' = E + 1) ∨ (fl = true ∧ fl' = false ∧ E' = E)) :=
    fun r h1 h2 h5 h3 h4 => ⟨E, fl, h, g, y, by rw [upd_id]; exact inv_say I r h1 h2 h5 h3 h4, .inl ⟨rfl, rfl, rfl⟩⟩
  obtain ⟨hsrc, hdst, hcm⟩ := I.ends m hm
  obtain ⟨hr, hme⟩ := I.right _ hdst
  have hgive := I.gives m hm
  have hgot := I.gots m hm
  have hkeep := I.keeps _ hdst
  have hag := fun hk => again_ok I hdst hk
  have hsz0 : noC.size ≤ 500 := by decide
  unfold hearA
  rw [if_neg (by simp [hr])]
  split
  · exact same
  split
  · exact same
  rename_i hmay hd
  have hmay' : mayM m = true := by cases hb : mayM m <;> simp_all
  obtain ⟨hkinds, hep1, hep2, _, _, hne, hcc⟩ := may_iff m hmay'
  obtain ⟨r1, r2, r3, r4, r5, r6⟩ := (right_iff (s m.dst)).mp hr
  generalize hx : s m.dst = x at *
  unfold hearH
  split
  · -- an offer
    split
    · exact say ⟨2, x.me, m.src, m.ep, noC⟩ (by show four x.me; rw [hme]; exact hdst) hsrc hsz0 (fun h => by cases h) (fun h => by cases h)
    · exact same
  · rename_i hk1
    split
    · rename_i hk2
      split
      · -- a want, once more
        rename_i hkeepm
        have hA : againH x = some (givesH x) := by unfold againH; rw [if_neg (by simp [hr]), if_pos hkeepm.1]
        rw [hA]
        obtain ⟨a1, a2, a4, a3⟩ := hag hkeepm.1
        exact say (givesH x) a1 a2 a4 (fun _ => a3) (fun h => by cases h)
      · split
        · -- a want, of the holder
          rename_i hsp
          have hs1 : x.s = 1 ∧ x.e = m.ep := by simp [speaksB] at hsp; exact ⟨hsp.1.2, hsp.2⟩
          have hfl : fl = false := by
            cases hf : fl with
            | false => rfl
            | true => have := (I.free _ hdst (.inl hf)).1; rw [hx] at this; exact absurd hs1.1 this
          have hh : m.dst = h := by
            apply Classical.byContradiction
            intro hc
            have := (I.free _ hdst (.inr hc)).1
            rw [hx] at this
            exact this hs1.1
          obtain ⟨_, _, hE, hcg⟩ := I.held hfl
          rw [← hh, hx] at hE hcg
          split
          · exact same
          · rename_i hbig
            refine ⟨E + 1, true, h, h, m.src, ?_, .inr (.inl ⟨hfl, rfl, rfl⟩)⟩
            have hEd : E ≤ 1048576 := I.hi
            have e1 : (⟨3, x.me, m.src, x.e + 1, x.c⟩ : M) = ⟨3, h, m.src, E + 1, cargo⟩ := by rw [hme, hh, hE, hcg]
            have hy : m.src ≠ h := by rw [← hh]; exact hne
            have he' : ∀ j, (upd s m.dst ⟨x.me, x.e, 2, m.src, x.c, true⟩ j).e = (s j).e := by
              intro j
              unfold upd
              split
              · rename_i e; rw [e, hx]
              · rfl
            rw [hh] at hdst hx ⊢
            rw [hh] at he'
            refine ⟨by have := I.lo; omega, by omega, fun i hi => ?_, fun z hz => ?_, (fun hf => by cases hf), fun i hi _ => ?_, fun _ => ?_, fun z hz hk => ?_, fun i hi hk => ?_, fun z hz hk => ?_, I.sizes⟩
            · by_cases e : i = h
              · subst e
                rw [upd_same]
                refine ⟨?_, by rw [hme, hh]⟩
                rw [right_iff]
                refine ⟨r1, right_gone (by dsimp only; omega) (by unfold four at hsrc; dsimp only; omega), r3, ?_, by simp, .inr (.inl rfl)⟩
                simp only [true_and]
                rw [hme, hh]
                exact hy
              · rw [upd_other _ _ e]; exact I.right i hi
            · rw [Option.toList_some] at hz
              rcases List.mem_append.mp hz with hz | hz
              · exact I.ends z hz
              · have : z = ⟨3, x.me, m.src, x.e + 1, x.c⟩ := by simpa using hz
                subst this
                exact ⟨by show four x.me; rw [hme, hh]; exact hdst, hsrc, by show x.c.size ≤ 500; omega⟩
            · by_cases e : i = h
              · subst e; rw [upd_same]; exact ⟨by simp, by dsimp only; omega⟩
              · rw [upd_other _ _ e]; have := I.free i hi (.inr e); exact ⟨this.1, by omega⟩
            · refine ⟨hdst, hsrc, hy, ?_⟩
              rw [upd_same]
              exact ⟨rfl, by dsimp only; omega, rfl, rfl, hcg⟩
            · rw [Option.toList_some] at hz
              rcases List.mem_append.mp hz with hz | hz
              · rcases I.gives z hz hk with h1 | ⟨h1, _⟩
                · left; rw [he']; exact h1
                · rw [hfl] at h1; cases h1
              · right
                have : z = ⟨3, x.me, m.src, x.e + 1, x.c⟩ := by simpa using hz
                exact ⟨rfl, by rw [this, e1]⟩
            · by_cases e : i = h
              · subst e; rw [upd_same]; exact ⟨hsrc, .inl ⟨rfl, rfl⟩⟩
              · rw [upd_other _ _ e] at hk ⊢
                obtain ⟨k1, k2⟩ := I.keeps i hi hk
                refine ⟨k1, .inr ?_⟩
                rw [he']
                rcases k2 with ⟨k2, _⟩ | k2
                · rw [hfl] at k2; cases k2
                · exact k2
            · rw [Option.toList_some] at hz
              rw [he']
              rcases List.mem_append.mp hz with hz | hz
              · exact I.gots z hz hk
              · have : z = ⟨3, x.me, m.src, x.e + 1, x.c⟩ := by simpa using hz
                rw [this] at hk; cases hk
        · exact same
    · rename_i hk2
      split
      · -- a give
        rename_i hk3
        split
        · -- it is taken
          rename_i hlt
          obtain ⟨hf, hmm⟩ : fl = true ∧ m = ⟨3, g, y, E, cargo⟩ := by
            rcases hgive hk3 with h1 | h1
            · omega
            · exact h1
          obtain ⟨hg4, hy4, hyg, hgs, hge, hgk, hgt, hgc⟩ := I.fly hf
          have hdy : m.dst = y := by rw [hmm]
          have hmE : m.ep = E := by rw [hmm]
          have hmc : m.c = cargo := by rw [hmm]
          have hms : m.src = g := by rw [hmm]
          rw [hmE] at hlt
          rw [hmE, hmc, hms, hdy]
          rw [hdy] at hx hme
          refine ⟨E, false, y, g, y, ?_, .inr (.inr ⟨hf, rfl, rfl⟩)⟩
          have he1 : ∀ j, four j → (s j).e ≤ (upd s y ⟨x.me, E, 1, 0, cargo, false⟩ j).e := by
            intro j hj
            unfold upd
            split
            · rename_i e; rw [e, hx]; exact Int.le_of_lt hlt
            · exact Int.le_refl _
          have hye : (upd s y ⟨x.me, E, 1, 0, cargo, false⟩ y).e = E := by rw [upd_same]
          refine ⟨I.lo, I.hi, fun i hi => ?_, fun z hz => ?_, fun _ => ?_, fun i hi hin => ?_, (fun h => by cases h), fun z hz hk => ?_, fun i hi hk => ?_, fun z hz hk => ?_, I.sizes⟩
          · by_cases e : i = y
            · subst e
              rw [upd_same]
              refine ⟨?_, hme⟩
              rw [right_iff]
              refine ⟨r1, right_held (by have := I.lo; have := I.hi; dsimp only; omega), by have := I.sizes; show (cargo.size : Int) ≤ 500; omega, by simp, by simp, .inr (.inr rfl)⟩
            · rw [upd_other _ _ e]; exact I.right i hi
          · rw [Option.toList_some] at hz
            rcases List.mem_append.mp hz with hz | hz
            · exact I.ends z hz
            · have : z = ⟨4, x.me, g, E, noC⟩ := by simpa using hz
              subst this
              exact ⟨by show four x.me; rw [hme]; exact hy4, hg4, hsz0⟩
          · refine ⟨hy4, ?_⟩
            rw [upd_same]
            exact ⟨rfl, rfl, rfl⟩
          · have hne' : i ≠ y := by rcases hin with h | h; · cases h
                                    · exact h
            rw [upd_other _ _ hne']
            exact I.free i hi (.inl hf)
          · left
            rw [Option.toList_some] at hz
            rcases List.mem_append.mp hz with hz | hz
            · rcases I.gives z hz hk with h1 | ⟨_, h1⟩
              · exact Int.le_trans h1 (he1 _ (I.ends z hz).2.1)
              · rw [h1, hye]; exact Int.le_refl _
            · have : z = ⟨4, x.me, g, E, noC⟩ := by simpa using hz
              rw [this] at hk; cases hk
          · by_cases e : i = y
            · subst e; rw [upd_same] at hk; cases hk
            · rw [upd_other _ _ e] at hk ⊢
              obtain ⟨k1, k2⟩ := I.keeps i hi hk
              refine ⟨k1, .inr ?_⟩
              rcases k2 with ⟨_, rfl⟩ | k2
              · rw [hgt, hye, hge]; omega
              · exact Int.le_trans k2 (he1 _ k1)
          · rw [Option.toList_some] at hz
            rcases List.mem_append.mp hz with hz | hz
            · exact Int.le_trans (I.gots z hz hk) (he1 _ (I.ends z hz).1)
            · have : z = ⟨4, x.me, g, E, noC⟩ := by simpa using hz
              rw [this]
              have h9 : (upd s y ⟨x.me, E, 1, 0, cargo, false⟩ x.me).e = E := by
                rw [show upd s y ⟨x.me, E, 1, 0, cargo, false⟩ x.me = upd s y ⟨x.me, E, 1, 0, cargo, false⟩ y from congrArg _ hme]; exact hye
              exact Int.le_of_eq h9.symm
        · -- it was taken before
          rename_i hlt
          exact say ⟨4, x.me, m.src, m.ep, noC⟩ (by show four x.me; rw [hme]; exact hdst) hsrc hsz0 (fun h => by cases h) (fun _ => by show m.ep ≤ (s x.me).e; rw [hme, hx]; omega)
      · -- got
        rename_i hk3
        have hk4 : m.kind = 4 := by omega
        split
        · rename_i hmt
          obtain ⟨g1, g2, g3, g4⟩ := hmt
          have hng : ¬ (fl = true ∧ m.dst = g) := by
            rintro ⟨hf, hdg⟩
            obtain ⟨_, hy4, _, _, hge, _, hgt, _⟩ := I.fly hf
            rw [← hdg, hx] at hge hgt
            have := hgot hk4
            rw [← g4, hgt] at this
            have h2 := (I.free y hy4 (.inl hf)).2
            omega
          refine ⟨E, fl, h, g, y, ?_, .inl ⟨rfl, rfl, rfl⟩⟩
          have he1 : ∀ j, (upd s m.dst ⟨x.me, x.e, x.s, x.t, noC, false⟩ j).e = (s j).e ∧ (upd s m.dst ⟨x.me, x.e, x.s, x.t, noC, false⟩ j).s = (s j).s ∧ (upd s m.dst ⟨x.me, x.e, x.s, x.t, noC, false⟩ j).t = (s j).t ∧ (upd s m.dst ⟨x.me, x.e, x.s, x.t, noC, false⟩ j).me = (s j).me := by
            intro j
            unfold upd
            split
            · rename_i e; rw [e, hx]; exact ⟨rfl, rfl, rfl, rfl⟩
            · exact ⟨rfl, rfl, rfl, rfl⟩
          simp only [Option.toList_none, List.append_nil]
          refine ⟨I.lo, I.hi, fun i hi => ?_, I.ends, fun hf => ?_, fun i hi hin => ?_, fun hf => ?_, fun z hz hk => ?_, fun i hi hk => ?_, fun z hz hk => ?_, I.sizes⟩
          · by_cases e : i = m.dst
            · subst e
              rw [upd_same]
              refine ⟨?_, hme⟩
              rw [right_iff]
              exact ⟨r1, r2, by show ((noC.size : Nat) : Int) ≤ 500; decide, r4, by simp, .inl none_noC⟩
            · rw [upd_other _ _ e]; exact I.right i hi
          · obtain ⟨i1, i2, i3, i4⟩ := I.held hf
            have hhd : h ≠ m.dst := fun e => by rw [e, hx] at i2; omega
            rw [upd_other _ _ hhd]
            exact ⟨i1, i2, i3, i4⟩
          · rw [(he1 i).1, (he1 i).2.1]; exact I.free i hi hin
          · obtain ⟨i1, i2, i3, i4, i5, i6, i7, i8⟩ := I.fly hf
            have hgd : g ≠ m.dst := fun e => hng ⟨hf, e.symm⟩
            rw [upd_other _ _ hgd]
            exact ⟨i1, i2, i3, i4, i5, i6, i7, i8⟩
          · rw [(he1 _).1]; exact I.gives z hz hk
          · by_cases e : i = m.dst
            · subst e; rw [upd_same] at hk; cases hk
            · rw [upd_other _ _ e] at hk ⊢
              rw [(he1 _).1]
              exact I.keeps i hi hk
          · rw [(he1 _).1]; exact I.gots z hz hk
        · exact same
end Go.Proofs.Ytamlkmnkdcoebaa.HandPlay
