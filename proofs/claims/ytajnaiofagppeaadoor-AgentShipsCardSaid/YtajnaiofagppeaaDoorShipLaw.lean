/- What Ship makes of a side, as plain laws over the ballots that it keeps. -/
import Derived.Test.YtajnaiofagppeaaDoorShip
namespace Go.Proofs.YtajnaiofagppeaaDoor.Ship
open CodeSpec AgentSpec Ballot Collect Pack LeaseSpec HandSpec Held Search Go.Proofs.YtajnaiofagppeaaDoor.Insert
set_option linter.unusedSimpArgs false
set_option linter.unusedVariables false
theorem rising_pair (l : List Ba) : Rising l ↔ l.Pairwise (fun a b => a.tx < b.tx) := by
  rw [List.pairwise_iff_getElem]
  exact ⟨fun h i j hi hj hij => h i j hij hj, fun h i j hij hj => h i j (by omega) hj hij⟩
theorem pos_found {l : List Ba} (b : Ba) (h : Rising l) : Search.Found l b (posL l b) := by
  rw [rising_pair] at h
  induction l with
  | nil => exact ⟨Nat.le_refl _, fun i h => absurd h (Nat.not_lt_zero _), fun i h => absurd h (Nat.not_lt_zero _)⟩
  | cons a l ih =>
    rw [List.pairwise_cons] at h
    by_cases ha : a.tx < b.tx
    · have k := ih h.2
      have e : posL (a :: l) b = posL l b + 1 := by simp [posL, List.takeWhile_cons, ha]
      rw [e]
      refine ⟨by simpa using k.1, ?_, ?_⟩
      · intro i hi hlt
        cases i with
        | zero => exact ha
        | succ i => exact k.2.1 i (by simpa using hi) (by omega)
      · intro i hi hle
        cases i with
        | zero => omega
        | succ i => exact k.2.2 i (by simpa using hi) (by omega)
    · have e : posL (a :: l) b = 0 := by simp [posL, List.takeWhile_cons, ha]
      rw [e]
      refine ⟨Nat.zero_le _, fun i _ h => absurd h (Nat.not_lt_zero _), fun i hi _ => ?_⟩
      cases i with
      | zero => show b.tx ≤ a.tx; omega
      | succ i =>
        have hi' : i < l.length := by simpa using hi
        have := h.1 _ (List.getElem_mem hi')
        show b.tx ≤ l[i].tx
        omega
theorem pos_eq {l : List Ba} {b : Ba} (h : Rising l) {i : Nat} (hi : i < l.length) (he : l[i].tx = b.tx) : posL l b = i := by
  have f := pos_found b h
  rcases Nat.lt_trichotomy (posL l b) i with k | k | k
  · have a1 := f.2.2 _ (by omega) (Nat.le_refl (posL l b))
    have a2 := h _ _ k hi
    omega
  · exact k
  · have := f.2.1 i hi k
    omega
theorem at_iff {l : List Ba} (b : Ba) (h : Rising l) : isAt l b (posL l b) = true ↔ ∃ a ∈ l, a.tx = b.tx := by
  unfold isAt
  constructor
  · split
    · rename_i hk
      intro hh
      exact ⟨_, List.getElem_mem hk, of_decide_eq_true hh⟩
    · intro hh; cases hh
  · rintro ⟨a, ha, he⟩
    obtain ⟨i, hi, rfl⟩ := List.getElem_of_mem ha
    rw [pos_eq h hi he, dif_pos hi, decide_eq_true_eq]
    exact he
theorem vote_at {l : List Ba} {a b : Ba} (h : Rising l) (ha : a ∈ l) (he : a.tx = b.tx) : voteAt l (posL l b) = a.vote := by
  obtain ⟨i, hi, rfl⟩ := List.getElem_of_mem ha
  rw [pos_eq h hi he, voteAt, dif_pos hi]
theorem ins_mem (l : List Ba) (k : Nat) (a b : Ba) : a ∈ insL l k b ↔ a = b ∨ a ∈ l := by
  unfold insL
  rw [List.mem_append, List.mem_cons]
  constructor
  · rintro (h | h | h)
    · exact .inr (List.mem_of_mem_take h)
    · exact .inl h
    · exact .inr (List.mem_of_mem_drop h)
  · rintro (h | h)
    · exact .inr (.inl h)
    · rw [← List.take_append_drop k l, List.mem_append] at h
      rcases h with h | h
      · exact .inl h
      · exact .inr (.inr h)
theorem ins_rising {l : List Ba} {b : Ba} (h : Rising l) (hn : ∀ a ∈ l, a.tx ≠ b.tx) : Rising (insL l (posL l b) b) := by
  have f := pos_found b h
  have hp := (rising_pair l).1 h
  rw [rising_pair]
  unfold insL
  rw [List.pairwise_append]
  refine ⟨hp.sublist (List.take_sublist _ _), ?_, ?_⟩
  · rw [List.pairwise_cons]
    refine ⟨fun a ha => ?_, hp.sublist (List.drop_sublist _ _)⟩
    have hm := List.mem_of_mem_drop ha
    obtain ⟨i, hi, rfl⟩ := List.getElem_of_mem ha
    rw [List.length_drop] at hi
    rw [List.getElem_drop] at hm ⊢
    have k := f.2.2 (posL l b + i) (by omega) (by omega)
    have := hn _ hm
    omega
  · intro a ha c hc
    have hlt : a.tx < b.tx := by
      obtain ⟨i, hi, rfl⟩ := List.getElem_of_mem ha
      rw [List.length_take] at hi
      rw [List.getElem_take]
      exact f.2.1 i (by omega) (by omega)
    rw [List.mem_cons] at hc
    rcases hc with rfl | hc
    · exact hlt
    · have hm := List.mem_of_mem_drop hc
      obtain ⟨i, hi, rfl⟩ := List.getElem_of_mem hc
      rw [List.length_drop] at hi
      rw [List.getElem_drop] at hm ⊢
      have k := f.2.2 (posL l b + i) (by omega) (by omega)
      omega
theorem rising_right {l : List Ba} (h : Rising l) (hm : ∀ a ∈ l, mayB a = true) (hl : l.length ≤ 50) : rightL l = true := by
  simp only [rightL, Bool.and_eq_true, decide_eq_true_eq]
  exact ⟨⟨List.all_eq_true.2 hm, (rise_iff l).2 fun i hi => h i (i + 1) (by omega) hi⟩, hl⟩
theorem right_may {l : List Ba} (h : rightL l = true) : ∀ a ∈ l, mayB a = true := by
  simp only [rightL, Bool.and_eq_true, decide_eq_true_eq] at h
  exact List.all_eq_true.1 h.1.1
theorem rising_ext : ∀ {l m : List Ba}, l.Pairwise (fun a b => a.tx < b.tx) → m.Pairwise (fun a b => a.tx < b.tx) → (∀ a, a ∈ l ↔ a ∈ m) → l = m
  | [], [], _, _, _ => rfl
  | [], b :: m, _, _, h => by have := (h b).2 (by simp); simp at this
  | a :: l, [], _, _, h => by have := (h a).1 (by simp); simp at this
  | a :: l, b :: m, h1, h2, h => by
    rw [List.pairwise_cons] at h1 h2
    have e : a = b := by
      have ha := (h a).1 (by simp)
      have hb := (h b).2 (by simp)
      rw [List.mem_cons] at ha hb
      rcases ha with ha | ha
      · exact ha
      · rcases hb with hb | hb
        · exact hb.symm
        · have k1 := h2.1 a ha
          have k2 := h1.1 b hb
          omega
    subst e
    have hr : l = m := rising_ext h1.2 h2.2 fun c => by
      have hc := h c
      rw [List.mem_cons, List.mem_cons] at hc
      constructor
      · intro hm
        rcases hc.1 (.inr hm) with rfl | k
        · have := h1.1 _ hm; omega
        · exact k
      · intro hm
        rcases hc.2 (.inr hm) with rfl | k
        · have := h2.1 _ hm; omega
        · exact k
    rw [hr]
/-! ### Ballots, one more -/
/-- What comes of ballots and one more; and the error. -/
def putL (l : List Ba) (b : Ba) : List Ba × Int :=
  if isAt l b (posL l b) = true then (l, if voteAt l (posL l b) = b.vote then 0 else 8) else if 50 ≤ l.length then (l, 6) else (insL l (posL l b) b, 0)
theorem put_right {l : List Ba} {b : Ba} (h : rightL l = true) (hb : mayB b = true) : rightL (putL l b).1 = true := by
  unfold putL
  have hr := right_rising h
  split
  · exact h
  · rename_i hn
    split
    · exact h
    · rename_i h50
      rw [at_iff b hr] at hn
      refine rising_right (ins_rising hr fun a ha he => hn ⟨a, ha, he⟩) ?_ ?_
      · intro a ha
        rcases (ins_mem _ _ _ _).1 ha with rfl | ha
        · exact hb
        · exact right_may h a ha
      · rw [ins_len _ _ _ (pos_found b hr).1]
        omega
/-- The side that keeps these ballots. -/
def mkS (x : S) (l : List Ba) : S := ⟨x.me, x.e, x.s, x.t, ⟨(bytesL l).toArray⟩, x.k⟩
theorem mkS_size (x : S) (l : List Ba) : (mkS x l).c.size = 3 * l.length := by
  rw [← bytes_len]
  show (bytesL l).toArray.size = _
  simp
theorem mk_right {x : S} {l : List Ba} (h : rightS x = true) (hs : x.s = 1) (hl : rightL l = true) : rightS (mkS x l) = true := by
  have h50 := right_len hl
  unfold rightS at h ⊢
  rw [mkS_size]
  simp only [mkS, hs] at h ⊢
  split at h
  · cases h
  · rename_i h1
    split at h
    · cases h
    · rename_i h2
      split at h
      · cases h
      · split at h
        · cases h
        · rename_i h4
          split at h
          · cases h
          · rename_i h5
            rw [if_neg h1, if_neg h2, if_neg (by omega), if_neg h4, if_neg h5]
            simp
theorem mk_held {x : S} {l : List Ba} (hs : x.s = 1) (hl : rightL l = true) : heldL (mkS x l) = (l, 0) := by
  unfold heldL
  rw [if_neg (by intro h; exact h hs)]
  exact unpack_pack hl
theorem pack_right {l : List Ba} (h : rightL l = true) : packL l = (bytesL l, 0) := by rw [packL, if_neg (by rw [h]; decide)]
/-- What comes of a side that keeps l. -/
theorem ship_held {x : S} {b : Ba} {l : List Ba} (hr : rightS x = true) (hb : mayB b = true) (hh : heldL x = (l, 0)) (hl : rightL l = true) :
    shipA x b = (if (putL l b).1 = l then x else mkS x (putL l b).1, (putL l b).2) := by
  have hr' := right_rising hl
  have hp := put_right hl hb
  unfold shipA
  rw [if_neg (by rw [hr]; decide), if_neg (by rw [hb]; decide), hh, if_neg (by simp)]
  dsimp only
  unfold putL at hp ⊢
  by_cases h1 : isAt l b (posL l b) = true
  · rw [if_pos h1] at hp ⊢
    rw [if_pos h1, if_pos rfl]
  · rw [if_neg h1] at hp ⊢
    rw [if_neg h1]
    by_cases h2 : 50 ≤ l.length
    · rw [if_pos h2] at hp ⊢
      rw [if_pos h2, if_pos rfl]
    · rw [if_neg h2] at hp ⊢
      rw [if_neg h2, pack_right hp]
      have hne : insL l (posL l b) b ≠ l := fun e => by
        have := congrArg List.length e
        rw [ins_len _ _ _ (pos_found b hr').1] at this
        omega
      dsimp only
      rw [if_neg (by simp), if_neg hne]
      rfl
theorem held_s {x : S} (h : (heldL x).2 = 0) : x.s = 1 := by
  unfold heldL at h
  split at h
  · simp at h
  · rename_i k
    exact Decidable.of_not_not k
theorem ship_mk {x : S} {b : Ba} {l : List Ba} (hr : rightS x = true) (hs : x.s = 1) (hl : rightL l = true) (hb : mayB b = true) : shipA (mkS x l) b = (mkS x (putL l b).1, (putL l b).2) := by
  rw [ship_held (mk_right hr hs hl) hb (mk_held hs hl) hl]
  split
  · rename_i h; rw [h]
  · rfl
theorem ship_not {x : S} {b : Ba} (hb : mayB b = false) : shipA x b = (x, 2) := by
  unfold shipA
  split
  · rfl
  · first | rfl | rw [if_pos hb]
/-- Behind one that was taken: it stands there. -/
theorem put_there {l : List Ba} {b : Ba} (h : rightL l = true) (hb : mayB b = true) (h0 : (putL l b).2 = 0) : b ∈ (putL l b).1 ∧ ∀ a, a ∈ (putL l b).1 ↔ a = b ∨ a ∈ l := by
  have hr := right_rising h
  unfold putL at h0 ⊢
  by_cases h1 : isAt l b (posL l b) = true
  · rw [if_pos h1] at h0 ⊢
    obtain ⟨a, ha, he⟩ := (at_iff b hr).1 h1
    have hv := vote_at hr ha he
    dsimp only at h0 ⊢
    rw [hv] at h0
    have e : a = b := by
      by_cases hq : a.vote = b.vote
      · cases a; cases b; simp at *; exact ⟨he, hq⟩
      · rw [if_neg hq] at h0; omega
    subst e
    exact ⟨ha, fun c => ⟨.inr, fun h => by rcases h with rfl | h; exact ha; exact h⟩⟩
  · rw [if_neg h1] at h0 ⊢
    by_cases h2 : 50 ≤ l.length
    · rw [if_pos h2] at h0; simp at h0
    · rw [if_neg h2]
      exact ⟨(ins_mem _ _ _ _).2 (.inl rfl), fun a => ins_mem _ _ _ _⟩
theorem put_again {l : List Ba} {b : Ba} (h : rightL l = true) (hm : b ∈ l) (v : Int) : putL l ⟨b.tx, v⟩ = (l, if b.vote = v then 0 else 8) := by
  have hr := right_rising h
  have h1 := (at_iff ⟨b.tx, v⟩ hr).2 ⟨b, hm, rfl⟩
  unfold putL
  rw [if_pos h1, vote_at (b := ⟨b.tx, v⟩) hr hm rfl]
theorem put_err {l : List Ba} {b : Ba} (h0 : (putL l b).2 ≠ 0) : (putL l b).1 = l := by
  unfold putL at h0 ⊢
  split
  · rfl
  · rename_i h1
    rw [if_neg h1] at h0
    split
    · rfl
    · rename_i h2
      rw [if_neg h2] at h0
      exact absurd rfl h0
theorem ship_err {x : S} {b : Ba} (h0 : (shipA x b).2 ≠ 0) : (shipA x b).1 = x := by
  unfold shipA at h0 ⊢
  split
  · rfl
  · split
    · rfl
    · split
      · rfl
      · split
        · rfl
        · split
          · rfl
          · split
            · rfl
            · rename_i h1 h2 h3 h4 h5 h6
              rw [if_neg h1, if_neg h2, if_neg h3, if_neg h4, if_neg h5, if_neg h6] at h0
              exact absurd rfl h0
/-- The first vote for a transaction stays. -/
theorem ship_first {x : S} {b : Ba} (h0 : (shipA x b).2 = 0) :
    rightS (shipA x b).1 = true ∧ shipA (shipA x b).1 b = ((shipA x b).1, 0) ∧ shipA (shipA x b).1 ⟨b.tx, 3 - b.vote⟩ = ((shipA x b).1, 8) ∧ (shipA x b).1.e = x.e ∧ (shipA x b).1.s = x.s ∧ (shipA x b).1.t = x.t := by
  have hr : rightS x = true := by
    cases h : rightS x with
    | true => rfl
    | false => rw [shipA, if_pos h] at h0; simp at h0
  have hb : mayB b = true := by
    cases h : mayB b with
    | true => rfl
    | false => rw [ship_not h] at h0; simp at h0
  have hh : (heldL x).2 = 0 := by
    by_cases h : (heldL x).2 = 0
    · exact h
    · rw [shipA, if_neg (by rw [hr]; decide), if_neg (by rw [hb]; decide), if_pos h] at h0
      exact h0
  obtain ⟨l, hl⟩ : ∃ l, heldL x = (l, 0) := ⟨(heldL x).1, by rw [← hh]⟩
  have hlr : rightL l = true := by have := held_right hh; rw [hl] at this; exact this
  have hs := held_s hh
  have hE := ship_held hr hb hl hlr
  rw [hE] at h0
  dsimp only at h0
  obtain ⟨hin, hmm⟩ := put_there hlr hb h0
  have hpr := put_right hlr hb
  obtain ⟨y, hy⟩ : ∃ y, y = (if (putL l b).1 = l then x else mkS x (putL l b).1) := ⟨_, rfl⟩
  have hyf : y.e = x.e ∧ y.s = x.s ∧ y.t = x.t := by rw [hy]; split <;> exact ⟨rfl, rfl, rfl⟩
  have hyr : rightS y = true := by
    rw [hy]; split
    · exact hr
    · exact mk_right hr hs hpr
  have hyh : heldL y = ((putL l b).1, 0) := by
    rw [hy]; split
    · rename_i e; rw [e]; exact hl
    · exact mk_held hs hpr
  have hb3 : mayB ⟨b.tx, 3 - b.vote⟩ = true := by
    simp only [mayB, decide_eq_true_eq] at hb ⊢
    omega
  have hv : b.vote = 1 ∨ b.vote = 2 := by
    simp only [mayB, decide_eq_true_eq] at hb
    exact hb.2.2
  rw [hE, ← hy]
  refine ⟨hyr, ?_, ?_, hyf⟩
  · rw [ship_held hyr hb hyh hpr]
    have k := put_again hpr hin b.vote
    rw [if_pos rfl] at k
    rw [k, if_pos rfl]
  · rw [ship_held hyr hb3 hyh hpr]
    have k := put_again hpr hin (3 - b.vote)
    rw [if_neg (by omega)] at k
    rw [k, if_pos rfl]
/-! ### Spoken -/
end Go.Proofs.YtajnaiofagppeaaDoor.Ship
