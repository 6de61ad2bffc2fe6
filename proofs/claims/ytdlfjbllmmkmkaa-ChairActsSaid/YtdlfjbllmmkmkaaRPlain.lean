/- The document's chair in plain Lean: lists of deals, of records; it answers as the chair over a map does. -/
import Derived.Test.YtdlfjbllmmkmkaaRDeal
import Derived.Test.YtdlfjbllmmkmkaaBegun
import Derived.Test.YtdlfjbllmmkmkaaTickAny
namespace Go.Proofs.Ytdlfjbllmmkmkaa.Chair
open Go.RowKit Flat ChairSpec Go.Proofs.YtdlfjbllmmkmkaaW.PrintLast
set_option linter.unusedSimpArgs false
set_option linter.unusedVariables false
abbrev Ds := List (Int × De)
def tk (now : Int) (x : Int × De) : Int × De := (x.1, tickD now x.2)
def cntR (now : Int) (D : Ds) (k : Nat) : Nat := (D.take k).countP fun x => hitD now x.2
theorem cnt_step (now : Int) (D : Ds) (k : Nat) (hk : k < D.length) : cntR now D (k + 1) = cntR now D k + (if hitD now D[k].2 then 1 else 0) := by
  rw [cntR, List.take_succ_eq_append_getElem hk, List.countP_append, List.countP_singleton, cntR]
theorem cnt_le (now : Int) (D : Ds) (k : Nat) : cntR now D k ≤ D.length := Nat.le_trans List.countP_le_length (by simp; omega)
/-! ### the document's calls -/
def beginR (D : Ds) (r : Re) : Ds × Int :=
  if (placeR D r.tx).isSome then (D, 8) else if (begunD r).2 ≠ 0 then (D, (begunD r).2) else (D ++ [(r.tx, (begunD r).1)], 0)
def badR (r : Re) : Prop := r.kind < 1 ∨ 4 < r.kind ∨ r.tx < 0 ∨ 1000 ≤ r.tx
instance (r : Re) : Decidable (badR r) := by unfold badR; infer_instance
def stepR (D : Ds) (r : Re) : Ds × Int × Int :=
  if badR r then (D, 0, 2)
  else if r.kind = 4 then (D.map (tk r.now), (cntR r.now D D.length : Nat), 0)
  else if r.kind = 1 then ((beginR D r).1, 0, (beginR D r).2)
  else match placeR D r.tx with
    | none => (D, 0, 7)
    | some i => match D[i]? with
      | none => (D, 0, 7)
      | some x => if (dealR x.2 r).2 ≠ 0 then (D, 0, (dealR x.2 r).2) else (D.set i (x.1, (dealR x.2 r).1), if (dealR x.2 r).1.out ≠ 0 then 1 else 0, 0)
structure ChR where
  deals : Ds
  log : List Re
def doR (m : ChR) (r : Re) : ChR × Int × Int :=
  if (stepR m.deals r).2.2 ≠ 0 then (m, 0, (stepR m.deals r).2.2) else (⟨(stepR m.deals r).1, m.log ++ [r]⟩, (stepR m.deals r).2.1, 0)
/-! ### as the chair's map says it -/
def lookR (D : Ds) (k : Int) : Option De := (D.find? fun x => x.1 == k).map (·.2)
structure Agree (D : Ds) (f : Int → Option De) : Prop where
  keys : (D.map (·.1)).Nodup
  rng : ∀ x ∈ D, 0 ≤ x.1 ∧ x.1 < 1000
  look : ∀ k, f k = lookR D k
theorem lookR_none {D : Ds} {k : Int} : lookR D k = none ↔ ∀ x ∈ D, x.1 ≠ k := by
  simp [lookR]
theorem place_isSome (D : Ds) (k : Int) : (placeR D k).isSome = (lookR D k).isSome := by
  rw [placeR, lookR, Option.isSome_map]
  cases h1 : D.findIdx? (fun x => x.1 == k) with
  | none =>
    have : D.find? (fun x => x.1 == k) = none := List.find?_eq_none.2 fun x hx => by simpa using List.findIdx?_eq_none_iff.1 h1 x hx
    rw [this]; rfl
  | some i =>
    obtain ⟨hi, h2, _⟩ := List.findIdx?_eq_some_iff_getElem.1 h1
    cases h3 : D.find? (fun x => x.1 == k) with
    | some _ => rfl
    | none => exact absurd h2 (List.find?_eq_none.1 h3 _ (List.getElem_mem hi))
theorem place_look {D : Ds} {k : Int} {i : Nat} (h : placeR D k = some i) : ∃ d, D[i]? = some (k, d) ∧ lookR D k = some d := by
  rw [placeR, List.findIdx?_eq_some_iff_getElem] at h
  obtain ⟨hi, h1, h2⟩ := h
  have e : D[i].1 = k := by simpa using h1
  refine ⟨D[i].2, ?_, ?_⟩
  · rw [List.getElem?_eq_getElem hi, ← e]
  · rw [lookR, show D.find? (fun x => x.1 == k) = some D[i] from List.find?_eq_some_iff_getElem.2 ⟨h1, i, hi, rfl, fun j hj => by simpa using h2 j hj⟩]
    rfl
/-! ### counts -/
def overAll (P : De → Bool) (f : Int → Option De) : Nat := (List.range 1000).countP fun (i : Nat) => match f (i : Int) with | some d => P d | none => false
theorem countP_two (l : List Nat) (hl : l.Nodup) (p q : Nat → Bool) (x : Nat) (hx : x ∈ l) (hpx : p x = false) (h : ∀ i, i ≠ x → q i = p i) : l.countP q = l.countP p + (if q x then 1 else 0) := countP_one l hl p q x hx hpx h
theorem overAll_eq (P : De → Bool) : ∀ (D : Ds), (D.map (·.1)).Nodup → (∀ x ∈ D, 0 ≤ x.1 ∧ x.1 < 1000) → overAll P (lookR D) = D.countP fun x => P x.2
  | [], _, _ => by simp [overAll, lookR]
  | x :: D, hn, hr => by
    obtain ⟨h0, h1⟩ := hr x (List.mem_cons_self ..)
    obtain ⟨hx, hn'⟩ := List.nodup_cons.1 (show (x.1 :: D.map (·.1)).Nodup from hn)
    have ih := overAll_eq P D hn' fun y hy => hr y (List.mem_cons_of_mem _ hy)
    have hnx : lookR D x.1 = none := lookR_none.2 fun y hy e => hx (List.mem_map.2 ⟨y, hy, e⟩)
    have hself : lookR (x :: D) x.1 = some x.2 := by simp [lookR]
    have hoth : ∀ k, k ≠ x.1 → lookR (x :: D) k = lookR D k := fun k hk => by simp [lookR, List.find?_cons, show (x.1 == k) = false from beq_eq_false_iff_ne.2 (Ne.symm hk)]
    have hc : ((x.1.toNat : Nat) : Int) = x.1 := Int.toNat_of_nonneg h0
    rw [List.countP_cons, ← ih]
    unfold overAll
    have := countP_two (List.range 1000) List.nodup_range (fun (i : Nat) => match lookR D (i : Int) with | some d => P d | none => false) (fun (i : Nat) => match lookR (x :: D) (i : Int) with | some d => P d | none => false) x.1.toNat (List.mem_range.2 (by omega)) (by simp [hc, hnx]) (fun i hi => by
      have : (i : Int) ≠ x.1 := fun e => hi (by omega)
      simp [hoth _ this])
    rw [this]
    simp [hc, hself]
theorem hits_eq (f : Int → Option De) (now : Int) : hits f now = (overAll (hitD now) f : Nat) := rfl
theorem cnt_all (now : Int) (D : Ds) : cntR now D D.length = D.countP fun x => hitD now x.2 := by rw [cntR, List.take_length]
/-! ### the laws -/
theorem agree_nil : Agree [] (fun _ => none) := ⟨by simp, by simp, fun k => by simp [lookR]⟩
theorem look_map {D : Ds} {g : Int × De → Int × De} (hg : ∀ x, (g x).1 = x.1) (k : Int) : lookR (D.map g) k = (D.find? fun x => x.1 == k).map fun x => (g x).2 := by
  rw [lookR, List.find?_map]
  simp [Function.comp_def, hg]
theorem agree_tick {D : Ds} {f : Int → Option De} (h : Agree D f) (now : Int) : Agree (D.map (tk now)) (fun k => (f k).map (tickD now)) := by
  refine ⟨?_, ?_, fun k => ?_⟩
  · rw [List.map_map]; exact h.keys
  · intro x hx
    obtain ⟨y, hy, rfl⟩ := List.mem_map.1 hx
    exact h.rng y hy
  · rw [h.look, lookR, look_map (g := tk now) (fun x => rfl)]
    cases D.find? _ <;> rfl
theorem look_append {D : Ds} {tx k : Int} {d : De} (h : lookR D tx = none) : lookR (D ++ [(tx, d)]) k = setD (lookR D) tx d k := by
  unfold setD lookR
  by_cases e : k = tx
  · subst e
    rw [if_pos rfl]
    have : D.find? (fun x => x.1 == k) = none := by simpa [lookR] using h
    simp [List.find?_append, this]
  · rw [if_neg e]
    simp [List.find?_append, List.find?_cons, show (tx == k) = false from beq_eq_false_iff_ne.2 (Ne.symm e)]
theorem agree_begin {D : Ds} {f : Int → Option De} (h : Agree D f) {tx : Int} {d : De} (hn : f tx = none) (h0 : 0 ≤ tx) (h1 : tx < 1000) : Agree (D ++ [(tx, d)]) (setD f tx d) := by
  have hl : lookR D tx = none := by rw [← h.look]; exact hn
  refine ⟨?_, ?_, fun k => ?_⟩
  · rw [List.map_append, List.nodup_append]
    refine ⟨h.keys, by simp, ?_⟩
    intro a ha b hb e
    obtain ⟨x, hx, rfl⟩ := List.mem_map.1 ha
    have : b = tx := by simpa using hb
    exact lookR_none.1 hl x hx (by rw [e, this])
  · intro x hx
    rcases List.mem_append.1 hx with hx | hx
    · exact h.rng x hx
    · have : x = (tx, d) := by simpa using hx
      subst this; exact ⟨h0, h1⟩
  · rw [look_append hl]
    unfold setD
    split
    · rfl
    · exact h.look k
theorem look_set : ∀ {D : Ds} {i : Nat} {tx : Int} {d e : De}, (D.map (·.1)).Nodup → D[i]? = some (tx, e) → ∀ k, lookR (D.set i (tx, d)) k = setD (lookR D) tx d k
  | [], _, _, _, _, _, h, _ => by simp at h
  | x :: D, 0, tx, d, e, hn, h, k => by
    have hx : x = (tx, e) := by simpa using h
    subst hx
    unfold setD lookR
    by_cases ek : k = tx
    · subst ek; simp
    · rw [if_neg ek]; simp [List.find?_cons, show (tx == k) = false from beq_eq_false_iff_ne.2 (Ne.symm ek)]
  | x :: D, i + 1, tx, d, e, hn, h, k => by
    obtain ⟨hx, hn'⟩ := List.nodup_cons.1 (show (x.1 :: D.map (·.1)).Nodup from hn)
    have hD : D[i]? = some (tx, e) := by simpa using h
    have ih := look_set (d := d) hn' hD k
    have hxt : x.1 ≠ tx := fun e2 => hx (List.mem_map.2 ⟨(tx, e), List.mem_of_getElem? hD, e2.symm⟩)
    rw [List.set_cons_succ]
    by_cases ek : x.1 = k
    · have hkt : k ≠ tx := fun e2 => hxt (ek.trans e2)
      simp [lookR, setD, List.find?_cons, ek, hkt]
    · have hb : (x.1 == k) = false := beq_eq_false_iff_ne.2 ek
      have e1 : lookR (x :: D.set i (tx, d)) k = lookR (D.set i (tx, d)) k := by simp [lookR, List.find?_cons, hb]
      have e2 : lookR (x :: D) k = lookR D k := by simp [lookR, List.find?_cons, hb]
      rw [e1, ih]
      unfold setD
      rw [e2]
theorem agree_set {D : Ds} {f : Int → Option De} (h : Agree D f) {i : Nat} {tx : Int} {d e : De} (hD : D[i]? = some (tx, e)) : Agree (D.set i (tx, d)) (setD f tx d) := by
  have hi : i < D.length := (List.getElem?_eq_some_iff.1 hD).1
  refine ⟨?_, ?_, fun k => ?_⟩
  · rw [List.map_set]
    rw [show (D.map (·.1)).set i (tx, d).1 = D.map (·.1) from ?_]
    · exact h.keys
    · apply List.ext_getElem?
      intro j
      rw [List.getElem?_set]
      by_cases e : i = j
      · subst e; simp [hi, hD]
        have := (List.getElem?_eq_some_iff.1 hD).2
        rw [this]
      · rw [if_neg e]
  · intro x hx
    rcases List.mem_or_eq_of_mem_set hx with hx | hx
    · exact h.rng x hx
    · subst hx; exact h.rng (tx, e) (List.mem_of_getElem? hD)
  · rw [look_set h.keys hD]
    unfold setD
    split
    · rfl
    · exact h.look k
/-- One deal: the program's Vote and Extend, the document's. -/
theorem dealR_eq (d : De) (r : Re) (hk : r.kind = 2 ∨ r.kind = 3) : (if d.out ≠ 0 then (d, (13 : Int)) else if r.kind = 2 then voteD d r else extendD d r).2 = (dealR d r).2 ∧ ((dealR d r).2 = 0 → (if d.out ≠ 0 then (d, (13 : Int)) else if r.kind = 2 then voteD d r else extendD d r).1 = (dealR d r).1) := by
  unfold dealR voteD extendD
  by_cases ho : d.out ≠ 0
  · simp [ho]
  · rw [if_neg ho, if_neg ho]
    rcases hk with h | h
    · have h3 : ¬ r.kind = 3 := by omega
      rw [if_pos h, if_neg h3]
      cases overTe d.te r.now
      · simp only [Bool.false_eq_true, if_false]
        split <;> simp_all
      · simp
    · have h2 : ¬ r.kind = 2 := by omega
      rw [if_neg h2, if_pos h]
      split
      · simp
      · simp only
        split <;> simp_all
theorem step_law {D : Ds} {f : Int → Option De} (h : Agree D f) (r : Re) (hb : ¬ badR r) : (stepR D r).2 = (stepC f r).2 ∧ ((stepR D r).2.2 = 0 → Agree (stepR D r).1 (stepC f r).1) := by
  unfold stepR stepC
  rw [if_neg hb]
  by_cases h4 : r.kind = 4
  · rw [if_pos h4, if_pos h4]
    refine ⟨?_, fun _ => agree_tick h _⟩
    have e : f = lookR D := funext h.look
    rw [hits_eq, e, overAll_eq _ _ h.keys h.rng, cnt_all]
  · rw [if_neg h4, if_neg h4]
    unfold badR at hb
    by_cases h1 : r.kind = 1
    · rw [if_pos h1]
      unfold beginR oneC
      rw [place_isSome, ← h.look]
      cases hf : f r.tx with
      | some d => simp [h1]
      | none =>
        simp only [Option.isSome_none, Bool.false_eq_true, if_false, h1, if_true]
        by_cases he : (begunD r).2 = 0
        · have ho : (begunD r).1.out = 0 := by unfold begunD; split <;> rfl
          simp only [he, ne_eq, not_true_eq_false, if_false, ho, if_true]
          exact ⟨trivial, fun _ => agree_begin h hf (by omega) (by omega)⟩
        · simp only [ne_eq, he, not_false_eq_true, if_true]
          exact ⟨trivial, fun e => absurd e (by simp)⟩
    · rw [if_neg h1]
      unfold oneC
      cases hp : placeR D r.tx with
      | none =>
        have : f r.tx = none := by
          have := place_isSome D r.tx
          rw [hp, ← h.look] at this
          cases hf : f r.tx with
          | none => rfl
          | some d => rw [hf] at this; cases this
        simp [this, h1]
      | some i =>
        obtain ⟨d, hd, hl⟩ := place_look hp
        rw [← h.look] at hl
        have hk : r.kind = 2 ∨ r.kind = 3 := by omega
        obtain ⟨e1, e2⟩ := dealR_eq d r hk
        simp only [hl, hd, h1, if_false]
        generalize (if d.out ≠ 0 then (d, (13 : Int)) else if r.kind = 2 then voteD d r else extendD d r) = x at *
        rw [e1]
        by_cases he : (dealR d r).2 = 0
        · simp only [he, ne_eq, not_true_eq_false, if_false]
          rw [e2 he]
          refine ⟨by split <;> simp_all, fun _ => agree_set h hd⟩
        · simp only [ne_eq, he, not_false_eq_true, if_true]
          exact ⟨trivial, fun e => absurd e (by simp)⟩
theorem do_law {m : ChR} {s : Ch} (h : Agree m.deals s.deals) (hl : m.log = s.log) (r : Re) : (doR m r).2 = (doC s r).2 ∧ Agree (doR m r).1.deals (doC s r).1.deals ∧ (doR m r).1.log = (doC s r).1.log := by
  unfold doR doC
  by_cases hb : badR r
  · have e : stepR m.deals r = (m.deals, 0, 2) := by unfold stepR; rw [if_pos hb]
    rw [e]
    unfold badR at hb
    rw [if_pos hb]
    exact ⟨rfl, h, hl⟩
  · obtain ⟨h1, h2⟩ := step_law h r hb
    rw [← h1]
    unfold badR at hb
    rw [if_neg hb]
    by_cases he : (stepR m.deals r).2.2 = 0
    · simp only [he, ne_eq, not_true_eq_false, if_false]
      exact ⟨trivial, h2 he, by rw [hl]⟩
    · simp only [ne_eq, he, not_false_eq_true, if_true]
      exact ⟨trivial, h, hl⟩
/-- Never more deals than records. -/
theorem beginR_len (D : Ds) (r : Re) : (beginR D r).1.length ≤ D.length + 1 := by
  unfold beginR
  split
  · simp
  · split <;> simp
theorem stepR_len (D : Ds) (r : Re) : (stepR D r).1.length ≤ D.length + 1 := by
  have := beginR_len D r
  unfold stepR
  split
  · simp
  · split
    · simp
    · split
      · exact this
      · split
        · simp
        · split
          · simp
          · split <;> simp
theorem doR_len (m : ChR) (r : Re) : (doR m r).1.deals.length ≤ m.deals.length + 1 := by
  unfold doR
  split
  · simp
  · exact stepR_len _ _
end Go.Proofs.Ytdlfjbllmmkmkaa.Chair
