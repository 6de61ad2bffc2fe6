/- The check sum of bytes, in plain Lean. -/
namespace Go.Proofs.YtbkkomknajgpdaaDoor.SumSpec

/-- One byte more. -/
def adStep (p : Nat × Nat) (c : UInt8) : Nat × Nat := ((p.1 + c.toNat) % 65521, (p.2 + (p.1 + c.toNat) % 65521) % 65521)
def ad (p : Nat × Nat) (l : List UInt8) : Nat × Nat := l.foldl adStep p
/-- The sums without a remainder. -/
def rawStep (p : Nat × Nat) (c : UInt8) : Nat × Nat := (p.1 + c.toNat, p.2 + (p.1 + c.toNat))
def raw (p : Nat × Nat) (l : List UInt8) : Nat × Nat := l.foldl rawStep p
def sumN (l : List UInt8) : Nat := (ad (1, 0) l).2 * 65536 + (ad (1, 0) l).1

theorem ad_snoc (p : Nat × Nat) (l : List UInt8) (c : UInt8) : ad p (l ++ [c]) = adStep (ad p l) c := by simp [ad]
theorem ad_append (p : Nat × Nat) (l m : List UInt8) : ad p (l ++ m) = ad (ad p l) m := by simp [ad]
theorem raw_snoc (p : Nat × Nat) (l : List UInt8) (c : UInt8) : raw p (l ++ [c]) = rawStep (raw p l) c := by simp [raw]
theorem raw_nil (p : Nat × Nat) : raw p [] = p := rfl
theorem raw_mod (l : List UInt8) : ∀ p q : Nat × Nat, q = (p.1 % 65521, p.2 % 65521) → ad q l = ((raw p l).1 % 65521, (raw p l).2 % 65521) := by
  induction l with
  | nil => intro p q h; exact h
  | cons c l ih =>
    intro p q h
    subst h
    show ad (adStep _ c) l = ((raw (rawStep p c) l).1 % 65521, (raw (rawStep p c) l).2 % 65521)
    refine ih (rawStep p c) _ ?_
    simp only [adStep, rawStep, Prod.mk.injEq]
    omega
theorem ad_lt (l : List UInt8) (p : Nat × Nat) (h1 : p.1 < 65521) (h2 : p.2 < 65521) : (ad p l).1 < 65521 ∧ (ad p l).2 < 65521 := by
  induction l generalizing p with
  | nil => exact ⟨h1, h2⟩
  | cons c l ih => exact ih (adStep p c) (Nat.mod_lt _ (by decide)) (Nat.mod_lt _ (by decide))
theorem raw_le (l : List UInt8) : ∀ (p : Nat × Nat) (X Y k : Nat), p.1 ≤ X → p.2 ≤ Y → l.length ≤ k → (raw p l).1 ≤ X + 255 * k ∧ (raw p l).2 ≤ Y + k * (X + 255 * k) := by
  induction l with
  | nil => intro p X Y k h1 h2 h3; exact ⟨Nat.le_trans h1 (Nat.le_add_right _ _), Nat.le_trans h2 (Nat.le_add_right _ _)⟩
  | cons c l ih =>
    intro p X Y k h1 h2 h3
    have hc := c.toNat_lt
    obtain ⟨k, rfl⟩ : ∃ m, k = m + 1 := ⟨k - 1, by simp at h3; omega⟩
    have h4 : l.length ≤ k := by simp at h3; omega
    obtain ⟨a, b⟩ := ih (rawStep p c) (X + 255) (Y + (X + 255)) k (by simp only [rawStep]; omega) (by simp only [rawStep]; omega) h4
    refine ⟨by show (raw (rawStep p c) l).1 ≤ _; omega, ?_⟩
    show (raw (rawStep p c) l).2 ≤ _
    have e1 : X + 255 + 255 * k = X + 255 * (k + 1) := by omega
    rw [e1] at b
    have e2 : (k + 1) * (X + 255 * (k + 1)) = k * (X + 255 * (k + 1)) + (X + 255 * (k + 1)) := by rw [Nat.add_mul, Nat.one_mul]
    rw [e2]
    omega
/-- The k-th part of bytes. -/
def pt (l : List UInt8) (k : Nat) : List UInt8 := (l.drop (3000 * k)).take 3000
def upto (l : List UInt8) (k : Nat) : List UInt8 := (List.range k).flatMap (pt l)
theorem upto_succ (l : List UInt8) (k : Nat) : upto l (k + 1) = upto l k ++ pt l k := by simp [upto, List.range_succ]
theorem upto_take (l : List UInt8) : ∀ k, upto l k = l.take (3000 * k)
  | 0 => by simp [upto]
  | k + 1 => by
    rw [upto_succ, upto_take l k, pt, show 3000 * (k + 1) = 3000 * k + 3000 by omega, List.take_add]
theorem pt_length (l : List UInt8) (k : Nat) : (pt l k).length = min 3000 (l.length - 3000 * k) := by simp [pt]
theorem pt_get (l : List UInt8) (k j : Nat) (h : j < (pt l k).length) : (pt l k)[j] = l[3000 * k + j]'(by rw [pt_length] at h; omega) := by simp [pt]
/-- What the parts of some numbers add up to. -/
def got (l : List UInt8) (ks : List Nat) : Nat × Nat := ad (1, 0) (ks.flatMap (pt l))
theorem got_nil (l : List UInt8) : got l [] = (1, 0) := rfl
theorem got_snoc (l : List UInt8) (ks : List Nat) (k : Nat) : got l (ks ++ [k]) = ad (got l ks) (pt l k) := by simp [got, ad_append]
theorem got_lt (l : List UInt8) (ks : List Nat) : (got l ks).1 < 65521 ∧ (got l ks).2 < 65521 := ad_lt _ _ (by decide) (by decide)
theorem got_all (l : List UInt8) (n : Nat) (h : l.length ≤ 3000 * n) : got l (List.range n) = ad (1, 0) l := by
  show ad (1, 0) (upto l n) = _
  rw [upto_take, List.take_of_length_le h]
theorem sumN_lt (l : List UInt8) : sumN l < 4294967296 := by
  have := ad_lt l (1, 0) (by decide) (by decide)
  unfold sumN
  omega
end Go.Proofs.YtbkkomknajgpdaaDoor.SumSpec
