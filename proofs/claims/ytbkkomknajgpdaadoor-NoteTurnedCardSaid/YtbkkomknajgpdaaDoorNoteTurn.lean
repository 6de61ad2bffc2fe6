/- Of a note's bytes with one of them turned no note comes. -/
import Derived.Test.YtbkkomknajgpdaaDoorNoteEq
namespace Go.Proofs.YtbkkomknajgpdaaDoor.NoteCode
open Go.RowKit CodeSpec SumSpec NoteSpec Flat CodeMem SumMem NoteNum Note
set_option linter.unusedSimpArgs false
set_option linter.unusedVariables false
set_option maxRecDepth 100000

def sumB (l : List UInt8) : Nat := (l.map UInt8.toNat).sum
theorem ad_fst (l : List UInt8) : ∀ p : Nat × Nat, p.1 < 65521 → (ad p l).1 = (p.1 + sumB l) % 65521 := by
  induction l with
  | nil => intro p h; show p.1 = (p.1 + 0) % 65521; omega
  | cons c l ih =>
    intro p h
    show (ad (adStep p c) l).1 = _
    rw [ih _ (Nat.mod_lt _ (by decide))]
    show ((p.1 + c.toNat) % 65521 + sumB l) % 65521 = (p.1 + (c.toNat + sumB l)) % 65521
    omega
theorem sumB_set : ∀ (l : List UInt8) (j : Nat) (c : UInt8) (h : j < l.length), sumB (l.set j c) + l[j].toNat = sumB l + c.toNat
  | x :: l, 0, c, _ => by
    show c.toNat + sumB l + x.toNat = x.toNat + sumB l + c.toNat
    omega
  | x :: l, j + 1, c, h => by
    have hj : j < l.length := by simpa using h
    have := sumB_set l j c hj
    show x.toNat + sumB (l.set j c) + l[j].toNat = x.toNat + sumB l + c.toNat
    omega
theorem be4_low {a b : Nat} (h : be 4 a = be 4 b) : a % 65536 = b % 65536 := by
  simp only [be, List.cons.injEq, and_true] at h
  obtain ⟨_, _, h1, h2⟩ := h
  have h1 := congrArg UInt8.toNat h1
  have h2 := congrArg UInt8.toNat h2
  rw [UInt8.toNat_ofNat', UInt8.toNat_ofNat'] at h1 h2
  omega
theorem sum_turned {x y : UInt8} {l : List UInt8} {j : Nat} {c : UInt8} (h : j < l.length) (hc : c ≠ l[j]) : be 4 (sumN (1 :: x :: y :: l)) ≠ be 4 (sumN (1 :: x :: y :: l.set j c)) := by
  intro e
  have e2 := be4_low e
  have h1 := ad_fst (1 :: x :: y :: l) (1, 0) (by decide)
  have h2 := ad_fst (1 :: x :: y :: l.set j c) (1, 0) (by decide)
  have h3 := ad_lt (1 :: x :: y :: l) (1, 0) (by decide) (by decide)
  have h4 := ad_lt (1 :: x :: y :: l.set j c) (1, 0) (by decide) (by decide)
  have hs := sumB_set l j c h
  have g1 : sumB (1 :: x :: y :: l) = 1 + (x.toNat + (y.toNat + sumB l)) := rfl
  have g2 : sumB (1 :: x :: y :: l.set j c) = 1 + (x.toNat + (y.toNat + sumB (l.set j c))) := rfl
  rw [g1] at h1
  rw [g2] at h2
  unfold sumN at e2
  have hne : c.toNat ≠ l[j].toNat := fun e => hc (UInt8.toNat_inj.mp e)
  have b1 := c.toNat_lt
  have b2 := l[j].toNat_lt
  dsimp only at h1 h2
  omega
theorem first_turned {l : List UInt8} (h : l.length ≤ 4000) (i : Nat) (c : UInt8) (hi : i < (frame l).length) (h12 : i = 0 ∨ 3 ≤ i) (hc : c ≠ (frame l)[i]) : (firstS ((frame l).set i c)).2.2 ≠ 0 := by
  obtain ⟨x, hx⟩ : ∃ x, x = UInt8.ofNat (l.length / 256 ^ 1) := ⟨_, rfl⟩
  obtain ⟨y, hy⟩ : ∃ y, y = UInt8.ofNat (l.length / 256 ^ 0) := ⟨_, rfl⟩
  have hxy : x.toNat * 256 + y.toNat = l.length := by rw [hx, hy]; exact be2_val _ (by omega)
  have hb : frame l = 1 :: x :: y :: (l ++ be 4 (sumN (1 :: x :: y :: l))) := by rw [hx, hy]; rfl
  clear hx hy
  simp only [hb] at hi hc ⊢
  rcases h12 with rfl | h3
  · rw [List.set_cons_zero]
    have hc1 : c ≠ 1 := hc
    unfold firstS
    split
    · rename_i e; cases e; exact absurd rfl hc1
    · rename_i e; cases e
    · decide
  · obtain ⟨j, rfl⟩ : ∃ j, i = j + 3 := ⟨i - 3, by omega⟩
    simp only [List.set_cons_succ, List.getElem_cons_succ, List.length_cons] at hi hc ⊢
    have hlj : j < l.length + 4 := by rw [List.length_append, length_be] at hi; omega
    rw [firstS, hxy, if_neg (by omega), if_neg (by rw [List.length_set, List.length_append, length_be]; omega)]
    by_cases hj : j < l.length
    · rw [List.set_append_left _ _ hj]
      have e1 : (l.set j c ++ be 4 (sumN (1 :: x :: y :: l))).take l.length = l.set j c := by rw [List.take_append_of_le_length (by simp), List.take_of_length_le (by simp)]
      have e2 : ((l.set j c ++ be 4 (sumN (1 :: x :: y :: l))).drop l.length).take 4 = be 4 (sumN (1 :: x :: y :: l)) := by
        rw [show l.length = (l.set j c).length by simp, List.drop_left]
        exact List.take_of_length_le (by rw [length_be]; exact Nat.le_refl _)
      rw [e1, e2, if_neg (sum_turned hj (by rwa [List.getElem_append_left hj] at hc))]
      decide
    · have hj2 : l.length ≤ j := by omega
      rw [List.set_append_right _ _ hj2]
      generalize hT : be 4 (sumN (1 :: x :: y :: l)) = T at *
      have hTl : T.length = 4 := by rw [← hT, length_be]
      have e1 : (l ++ T.set (j - l.length) c).take l.length = l := by simp
      have e2 : ((l ++ T.set (j - l.length) c).drop l.length).take 4 = T.set (j - l.length) c := by
        rw [List.drop_left]
        exact List.take_of_length_le (by simp; omega)
      rw [e1, e2, hT, if_neg]
      · decide
      · intro e
        rw [List.getElem_append_right hj2] at hc
        have := congrArg (fun t => t[j - l.length]?) e
        simp only [List.getElem?_set_self (show j - l.length < T.length by omega), List.getElem?_eq_getElem (show j - l.length < T.length by omega)] at this
        exact hc (Option.some.inj this)
theorem ndec_turned {k m tx ep v mk mf mt me : Int} {mc : ByteArray} {o : List UInt8} (h : nencR k m tx ep v mk mf mt me mc = (o, 0)) (i : Nat) (c : UInt8) (hi : i < o.length) (h12 : i = 0 ∨ 3 ≤ i) (hc : c ≠ o[i]) :
    ndecR (o.set i c) = (bad, 4) := by
  unfold nencR at h
  split at h
  · cases h
  · rename_i hr
    have hr2 : rightB k m tx ep v mk mf mt me mc = true := by simpa using hr
    have hb := note_bounds hr2
    have ho : o = frame (nbytes k.toNat m.toNat tx.toNat ep.toNat v.toNat mk.toNat mf.toNat mt.toNat me.toNat mc) := (congrArg Prod.fst h).symm
    have hl := nbytes_length (k := k.toNat) (m := m.toNat) (tx := tx.toNat) (ep := ep.toNat) (v := v.toNat) (mk := mk.toNat) (mf := mf.toNat) (mt := mt.toNat) (me := me.toNat) (mc := mc)
    subst ho
    rw [ndecR, if_pos (.inl (first_turned (by omega) i c hi h12 hc))]
end Go.Proofs.YtbkkomknajgpdaaDoor.NoteCode
