/- Ballots and cargos, in plain Lean: what an agent packs and unpacks. -/
import Derived.Test.YtajnaiofagppeaaDoorCodeSpec
namespace Go.Proofs.YtajnaiofagppeaaDoor.AgentSpec
open CodeSpec
/-- A ballot: a transaction and a vote. -/
structure Ba where
  tx : Int
  vote : Int
deriving DecidableEq
def mayB (b : Ba) : Bool := decide (0 ≤ b.tx ∧ b.tx < 1000 ∧ (b.vote = 1 ∨ b.vote = 2))
/-- Ballots that rise. -/
def riseL : List Ba → Bool
  | [] => true
  | [_] => true
  | a :: b :: l => decide (a.tx < b.tx) && riseL (b :: l)
def rightL (l : List Ba) : Bool := l.all mayB && riseL l && decide (l.length ≤ 50)
/-- The values of ballots, and their shape. -/
def valsL (l : List Ba) : List V := l.flatMap fun b => [⟨b.tx.toNat, noS⟩, ⟨b.vote.toNat, noS⟩]
def shapeL : Nat → List UInt8
  | 0 => []
  | n + 1 => 98 :: 97 :: shapeL n
def bytesL (l : List Ba) : List UInt8 := l.flatMap fun b => be 2 b.tx.toNat ++ be 1 b.vote.toNat
def packL (l : List Ba) : List UInt8 × Int := if rightL l = false then ([], 2) else (bytesL l, 0)
/-- Ballots by threes of bytes. -/
def threes : List UInt8 → List Ba
  | a :: b :: c :: l => ⟨(val [a, b] : Int), (val [c] : Int)⟩ :: threes l
  | _ => []
def unpackL (s : List UInt8) : List Ba × Int :=
  if 150 < s.length then ([], 4) else if s.length % 3 = 0 ∧ rightL (threes s) = true then (threes s, 0) else ([], 4)
theorem shape_len : ∀ n, (shapeL n).length = 2 * n
  | 0 => rfl
  | n + 1 => by simp only [shapeL, List.length_cons, shape_len n]; omega
theorem shape_letters : ∀ n, (shapeL n).all letter = true
  | 0 => rfl
  | n + 1 => by simp only [shapeL, List.all_cons, shape_letters n]; rfl
theorem shape_right {n : Nat} (h : n ≤ 50) : shapeB (shapeL n) = true := by
  unfold shapeB
  rw [shape_letters, Bool.true_and, decide_eq_true_eq, shape_len]
  omega
theorem vals_len (l : List Ba) : (valsL l).length = 2 * l.length := by
  induction l with
  | nil => rfl
  | cons b l ih => simp only [valsL, List.flatMap_cons, List.length_append, List.length_cons, List.length_nil] at ih ⊢; omega
theorem bytes_len (l : List Ba) : (bytesL l).length = 3 * l.length := by
  induction l with
  | nil => rfl
  | cons b l ih => simp only [bytesL, List.flatMap_cons, List.length_append, length_be, List.length_cons] at ih ⊢; omega
/-- The values of ballots that may be have just these bytes. -/
theorem encL_ballots : ∀ l : List Ba, l.all mayB = true → encL (shapeL l.length) (valsL l) = some (bytesL l)
  | [], _ => rfl
  | b :: l, h => by
    simp only [List.all_cons, Bool.and_eq_true, mayB, decide_eq_true_eq] at h
    obtain ⟨⟨h1, h2, h3⟩, h4⟩ := h
    have ih := encL_ballots l h4
    have f1 : fits 98 ⟨b.tx.toNat, noS⟩ = true := by
      unfold fits
      rw [if_neg (by decide)]
      simp only [Bool.and_eq_true, decide_eq_true_eq]
      exact ⟨rfl, by rw [show 256 ^ wd 98 = 65536 from rfl]; omega⟩
    have f2 : fits 97 ⟨b.vote.toNat, noS⟩ = true := by
      unfold fits
      rw [if_neg (by decide)]
      simp only [Bool.and_eq_true, decide_eq_true_eq]
      exact ⟨rfl, by rw [show 256 ^ wd 97 = 256 from rfl]; omega⟩
    show encL (98 :: 97 :: shapeL l.length) (⟨b.tx.toNat, noS⟩ :: ⟨b.vote.toNat, noS⟩ :: valsL l) = _
    rw [encL, if_pos f1, encL, if_pos f2, ih]
    show some (be 2 b.tx.toNat ++ (be 1 b.vote.toNat ++ bytesL l)) = some ((be 2 b.tx.toNat ++ be 1 b.vote.toNat) ++ bytesL l)
    rw [List.append_assoc]
theorem enc_ballots {l : List Ba} (h : rightL l = true) : enc (shapeL l.length) (valsL l) = (bytesL l, 0) := by
  simp only [rightL, Bool.and_eq_true, decide_eq_true_eq] at h
  obtain ⟨⟨h1, _⟩, h3⟩ := h
  unfold enc
  rw [if_neg (by rw [shape_right h3]; decide), if_neg (by rw [vals_len, shape_len]; simp), encL_ballots l h1]
  simp only
  rw [if_neg (by rw [bytes_len]; omega)]
/-- What the shape of ballots finds in bytes. -/
theorem parse_ballots : ∀ (n : Nat) (s : List UInt8), 3 * n ≤ s.length → parse (shapeL n) s = some (valsL (threes (s.take (3 * n))), s.drop (3 * n))
  | 0, s, _ => by simp [shapeL, parse, threes, valsL]
  | n + 1, s, h => by
    obtain ⟨a, s1, rfl⟩ : ∃ a s1, s = a :: s1 := by cases s with
      | nil => simp at h
      | cons a s1 => exact ⟨a, s1, rfl⟩
    obtain ⟨b, s2, rfl⟩ : ∃ a s2, s1 = a :: s2 := by cases s1 with
      | nil => simp at h; omega
      | cons a s1 => exact ⟨a, s1, rfl⟩
    obtain ⟨c, s3, rfl⟩ : ∃ a s3, s2 = a :: s3 := by cases s2 with
      | nil => simp at h; omega
      | cons a s1 => exact ⟨a, s1, rfl⟩
    have h' : 3 * n ≤ s3.length := by simp only [List.length_cons] at h; omega
    have ih := parse_ballots n s3 h'
    show parse (98 :: 97 :: shapeL n) (a :: b :: c :: s3) = _
    rw [parse, if_neg (by decide), if_neg (by rw [show wd 98 = 2 from rfl]; simp only [List.length_cons]; omega), show wd 98 = 2 from rfl]
    show ((parse (97 :: shapeL n) (c :: s3)).map _) = _
    rw [parse, if_neg (by decide), if_neg (by rw [show wd 97 = 1 from rfl]; simp only [List.length_cons]; omega), show wd 97 = 1 from rfl]
    show (((parse (shapeL n) s3).map _).map _) = _
    rw [ih, show 3 * (n + 1) = 3 * n + 1 + 1 + 1 by omega]
    simp only [Option.map_some, List.take_succ_cons, List.drop_succ_cons, threes, valsL, List.flatMap_cons, List.take_zero, List.cons_append, List.nil_append]
    rfl
theorem threes_len (s : List UInt8) : (threes s).length = s.length / 3 := by
  fun_induction threes s with
  | case1 a b c l ih => simp only [List.length_cons, ih]; omega
  | case2 s h =>
    match s, h with
    | [], _ => rfl
    | [_], _ => simp
    | [_, _], _ => simp
    | a :: b :: c :: l, h => exact absurd rfl (h a b c l)
/-- What Decode makes of a cargo. -/
theorem dec_cargo (s : List UInt8) (h : s.length ≤ 150) : dec (shapeL (s.length / 3)) s = if s.length % 3 = 0 then (valsL (threes s), 0) else ([], 4) := by
  unfold dec
  rw [if_neg (by rw [shape_right (by omega)]; decide), parse_ballots (s.length / 3) s (by omega)]
  by_cases h3 : s.length % 3 = 0
  · have e : 3 * (s.length / 3) = s.length := by omega
    rw [e, List.take_length, List.drop_length, if_pos h3]
    simp only
    rw [if_neg (by omega)]
  · rw [if_neg h3]
    have hne : s.drop (3 * (s.length / 3)) ≠ [] := by
      intro e
      have := congrArg List.length e
      rw [List.length_drop, List.length_nil] at this
      omega
    cases hd : s.drop (3 * (s.length / 3)) with
    | nil => exact absurd hd hne
    | cons x y => rfl
theorem threes_bytes : ∀ l : List Ba, l.all mayB = true → threes (bytesL l) = l
  | [], _ => rfl
  | b :: l, h => by
    simp only [List.all_cons, Bool.and_eq_true, mayB, decide_eq_true_eq] at h
    obtain ⟨⟨h1, h2, h3⟩, h4⟩ := h
    have ih := threes_bytes l h4
    have e1 := val_be 2 b.tx.toNat (by rw [show 256 ^ 2 = 65536 from rfl]; omega)
    have e2 := val_be 1 b.vote.toNat (by rw [show 256 ^ 1 = 256 from rfl]; omega)
    show threes ((be 2 b.tx.toNat ++ be 1 b.vote.toNat) ++ bytesL l) = _
    unfold be be be at e1 ⊢
    unfold be be at e2
    rw [show ([UInt8.ofNat (b.tx.toNat / 256 ^ 1), UInt8.ofNat (b.tx.toNat / 256 ^ 0)] ++ [UInt8.ofNat (b.vote.toNat / 256 ^ 0)]) ++ bytesL l = UInt8.ofNat (b.tx.toNat / 256 ^ 1) :: UInt8.ofNat (b.tx.toNat / 256 ^ 0) :: UInt8.ofNat (b.vote.toNat / 256 ^ 0) :: bytesL l from rfl, threes, e1, e2, ih]
    have q1 : ((b.tx.toNat : Nat) : Int) = b.tx := by omega
    have q2 : ((b.vote.toNat : Nat) : Int) = b.vote := by omega
    rw [q1, q2]
theorem unpack_pack {l : List Ba} (h : rightL l = true) : unpackL (bytesL l) = (l, 0) := by
  have hr := h
  simp only [rightL, Bool.and_eq_true, decide_eq_true_eq] at hr
  obtain ⟨⟨h1, _⟩, h3⟩ := hr
  unfold unpackL
  rw [if_neg (by rw [bytes_len]; omega), threes_bytes l h1, if_pos ⟨by rw [bytes_len]; omega, h⟩]
end Go.Proofs.YtajnaiofagppeaaDoor.AgentSpec
