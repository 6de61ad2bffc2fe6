/- The steps that bytes say, in plain Lean. -/
namespace Go.Proofs.YtammpdifkpfafaaGreatDoor.ScriptSpec

/-- A step. -/
structure St where
  what : Int
  tx : Int
  a : Int
  b : Int
  kind : Int
  key : Int
  n : Int
deriving DecidableEq

/-- The fields that a byte may be taken into. -/
inductive Fld
  | tx | a | b | kind | key | n | signed
deriving DecidableEq

def put (s : St) (c : Int) : Fld → St
  | .tx => { s with tx := c }
  | .a => { s with a := c }
  | .b => { s with b := c }
  | .kind => { s with kind := c }
  | .key => { s with key := c }
  | .n => { s with n := c }
  | .signed => { s with n := c - 128 }
/-- What stands behind the first byte of a step. -/
def fds (what : Nat) : List Fld :=
  if what = 1 then [.tx, .a, .b, .n]
  else if what = 2 then [.a, .tx, .kind, .key, .signed]
  else if what = 3 then [.a, .tx, .n]
  else if what = 5 then [.a, .b, .tx]
  else if what = 8 then [.a, .key]
  else if what = 9 then [.a, .key]
  else if what = 10 then [.a, .key]
  else if what = 11 then [.n]
  else if what = 12 then [.a, .tx]
  else if what = 14 then []
  else [.a, .b]
def start0 (what : Nat) : St := ⟨what, 0, 0, 0, 0, 0, 0⟩
def puts : St → List Fld → List UInt8 → St
  | s, f :: fs, c :: l => puts (put s (c.toNat : Int) f) fs l
  | s, _, _ => s
/-- The steps that bytes say, where k are told so far. -/
def dec (k : Nat) : List UInt8 → List St
  | [] => []
  | c :: l =>
    if 300 ≤ k then []
    else if c.toNat % 15 = 0 then dec k l
    else if l.length < (fds (c.toNat % 15)).length then []
    else puts (start0 (c.toNat % 15)) (fds (c.toNat % 15)) l :: dec (k + 1) (l.drop (fds (c.toNat % 15)).length)
termination_by l => l.length
decreasing_by
  · simp
  · simp only [List.length_cons, List.length_drop]; omega

theorem dec_nil (k : Nat) : dec k [] = [] := by rw [dec]
theorem dec_cons (k : Nat) (c : UInt8) (l : List UInt8) : dec k (c :: l) = if 300 ≤ k then [] else if c.toNat % 15 = 0 then dec k l else if l.length < (fds (c.toNat % 15)).length then []
    else puts (start0 (c.toNat % 15)) (fds (c.toNat % 15)) l :: dec (k + 1) (l.drop (fds (c.toNat % 15)).length) := by rw [dec]
theorem fds_len (w : Nat) : (fds w).length ≤ 5 := by
  unfold fds
  repeat (split; · decide)
  decide
/-- As many steps as there are bytes, at most; and 300 in all. -/
theorem dec_length (k : Nat) (l : List UInt8) : (dec k l).length ≤ l.length := by
  induction hn : l.length using Nat.strongRecOn generalizing k l with
  | ind n ih =>
    cases l with
    | nil => rw [dec_nil]; simp
    | cons c l =>
      rw [dec_cons]
      split
      · simp
      split
      · have := ih l.length (by simp at hn; omega) k l rfl; simp at hn; omega
      split
      · simp
      · have := ih (l.drop (fds (c.toNat % 15)).length).length (by simp at hn ⊢; omega) (k + 1) _ rfl
        simp at hn this ⊢
        omega
theorem dec_room (k : Nat) (l : List UInt8) : k ≤ 300 → k + (dec k l).length ≤ 300 := by
  induction hn : l.length using Nat.strongRecOn generalizing k l with
  | ind n ih =>
    intro hk
    cases l with
    | nil => rw [dec_nil]; simpa using hk
    | cons c l =>
      rw [dec_cons]
      split
      · simpa using hk
      split
      · exact ih l.length (by simp at hn; omega) k l rfl hk
      split
      · simpa using hk
      · have := ih (l.drop (fds (c.toNat % 15)).length).length (by simp at hn ⊢; omega) (k + 1) _ rfl (by omega)
        simp only [List.length_cons]
        omega
theorem puts_take : ∀ (fs : List Fld) (s : St) (l : List UInt8) (n : Nat), fs.length ≤ n → puts s fs (l.take n) = puts s fs l
  | [], s, l, n, _ => by simp [puts]
  | f :: fs, s, [], n, _ => by simp [puts]
  | f :: fs, s, c :: l, 0, h => by simp at h
  | f :: fs, s, c :: l, n + 1, h => by
    rw [List.take_succ_cons]
    unfold puts
    exact puts_take fs _ l n (by simpa using h)
/-- What a beginning says is a beginning. -/
theorem dec_take (k : Nat) (l : List UInt8) (m : Nat) : dec k (l.take m) <+: dec k l := by
  induction hn : l.length using Nat.strongRecOn generalizing k l m with
  | ind n ih =>
    cases l with
    | nil => simp
    | cons c l =>
      cases m with
      | zero => rw [List.take_zero, dec_nil]; exact List.nil_prefix
      | succ m =>
        rw [List.take_succ_cons, dec_cons, dec_cons]
        split
        · exact List.nil_prefix
        split
        · exact ih l.length (by simp at hn; omega) k l m rfl
        split
        · exact List.nil_prefix
        · rename_i h
          rw [List.length_take] at h
          rw [if_neg (by omega), puts_take _ _ _ _ (by omega), List.drop_take]
          exact (List.prefix_cons_inj _).mpr (ih (l.drop (fds (c.toNat % 15)).length).length (by simp at hn ⊢; omega) (k + 1) _ _ rfl)
/-- Bytes that say nothing, ahead. -/
theorem dec_nothing (k : Nat) (z l : List UInt8) (hz : ∀ c ∈ z, c.toNat % 15 = 0) (hk : k < 300) : dec k (z ++ l) = dec k l := by
  induction z with
  | nil => rfl
  | cons c z ih =>
    rw [List.cons_append, dec_cons, if_neg (by omega), if_pos (hz c (by simp))]
    exact ih (fun x hx => hz x (by simp [hx]))
/-- What each step is like. -/
def Fine (s : St) : Prop := 1 ≤ s.what ∧ s.what ≤ 14 ∧ 0 ≤ s.tx ∧ s.tx ≤ 255 ∧ 0 ≤ s.kind ∧ s.kind ≤ 255 ∧ -128 ≤ s.n ∧ s.n ≤ 255 ∧ 0 ≤ s.a ∧ s.a ≤ 255 ∧ 0 ≤ s.b ∧ s.b ≤ 255 ∧ 0 ≤ s.key ∧ s.key ≤ 255
def Fine0 (s : St) : Prop := 0 ≤ s.tx ∧ s.tx ≤ 255 ∧ 0 ≤ s.kind ∧ s.kind ≤ 255 ∧ -128 ≤ s.n ∧ s.n ≤ 255 ∧ 0 ≤ s.a ∧ s.a ≤ 255 ∧ 0 ≤ s.b ∧ s.b ≤ 255 ∧ 0 ≤ s.key ∧ s.key ≤ 255
theorem puts_fine : ∀ (fs : List Fld) (s : St) (l : List UInt8), Fine0 s → Fine0 (puts s fs l) ∧ (puts s fs l).what = s.what
  | [], s, l, h => by unfold puts; exact ⟨h, rfl⟩
  | f :: fs, s, [], h => by unfold puts; exact ⟨h, rfl⟩
  | f :: fs, s, c :: l, h => by
    unfold puts
    have hc := c.toNat_lt
    have h1 : Fine0 (put s (c.toNat : Int) f) := by
      obtain ⟨a1, a2, a3, a4, a5, a6, a7, a8, a9, b1, b2, b3⟩ := h
      cases f <;> unfold put <;> refine ⟨?_, ?_, ?_, ?_, ?_, ?_, ?_, ?_, ?_, ?_, ?_, ?_⟩ <;> dsimp only <;> omega
    have h2 := puts_fine fs _ l h1
    refine ⟨h2.1, h2.2.trans ?_⟩
    cases f <;> rfl
/-- A crash is a crash alone, and a tick tells a number alone. -/
def Bare (s : St) : Prop := (s.what = 14 → s = ⟨14, 0, 0, 0, 0, 0, 0⟩) ∧ (s.what = 11 → s = ⟨11, 0, 0, 0, 0, 0, s.n⟩)
theorem told_fine (c : UInt8) (l : List UInt8) (h : c.toNat % 15 ≠ 0) : Fine (puts (start0 (c.toNat % 15)) (fds (c.toNat % 15)) l) ∧ Bare (puts (start0 (c.toNat % 15)) (fds (c.toNat % 15)) l) := by
  have hlt : c.toNat % 15 < 15 := Nat.mod_lt _ (by decide)
  generalize c.toNat % 15 = w at h hlt
  obtain ⟨h1, h2⟩ := puts_fine (fds w) (start0 w) l (by unfold Fine0 start0; dsimp only; omega)
  obtain ⟨a1, a2, a3, a4, a5, a6, a7, a8, a9, b1, b2, b3⟩ := h1
  have hw : (start0 w).what = (w : Int) := rfl
  refine ⟨⟨by omega, by omega, a1, a2, a3, a4, a5, a6, a7, a8, a9, b1, b2, b3⟩, fun h => ?_, fun h => ?_⟩
  · have : w = 14 := by omega
    subst this
    rfl
  · have : w = 11 := by omega
    subst this
    cases l <;> rfl
theorem dec_fine (k : Nat) (l : List UInt8) : ∀ s ∈ dec k l, Fine s ∧ Bare s := by
  induction hn : l.length using Nat.strongRecOn generalizing k l with
  | ind n ih =>
    cases l with
    | nil => rw [dec_nil]; intro s hs; cases hs
    | cons c l =>
      rw [dec_cons]
      split
      · intro s hs; cases hs
      split
      · exact ih l.length (by simp at hn; omega) k l rfl
      split
      · intro s hs; cases hs
      · rename_i h0 _
        intro s hs
        rcases List.mem_cons.mp hs with rfl | hs
        · exact told_fine c l h0
        · exact ih (l.drop (fds (c.toNat % 15)).length).length (by simp at hn ⊢; omega) (k + 1) _ rfl s hs
end Go.Proofs.YtammpdifkpfafaaGreatDoor.ScriptSpec
