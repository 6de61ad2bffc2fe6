/- Tallies, terms, deals and a chair, in plain Lean. -/
namespace Go.Proofs.Ytdlfjbllmmkmkaa.ChairSpec

/-- Terms: a deadline, and how often it may be put off. -/
structure Te where
  dl : Int
  span : Int
  used : Int
  cap : Int
deriving DecidableEq
/-- A tally: who takes part, votes and epochs, by places 0 to 7. -/
structure Ta where
  who : Nat → Bool
  votes : Nat → Int
  epochs : Nat → Int
structure De where
  ta : Ta
  te : Te
  out : Int
structure Re where
  kind : Int
  tx : Int
  who : Int
  epoch : Int
  vote : Int
  now : Int
  span : Int
  cap : Int
deriving DecidableEq

/-! ### terms -/
def baseTe (t : Te) : Bool := decide (1 ≤ t.span ∧ t.span ≤ 1048576 ∧ 0 ≤ t.cap ∧ t.cap ≤ 100 ∧ 0 ≤ t.used ∧ t.used ≤ t.cap)
def leftTe (t : Te) : Int := (t.cap - t.used) * t.span
def rightTe (t : Te) : Bool := baseTe t && decide (t.span ≤ t.dl) && decide (t.dl ≤ 1099511627776 - leftTe t)
def overTe (t : Te) (now : Int) : Bool := rightTe t && decide (t.dl ≤ now)
def lastTe (t : Te) : Int := if rightTe t then t.dl + leftTe t else 0
def newTe (now span most : Int) : Te × Int :=
  if now < 0 ∨ 1099511627776 < now ∨ span < 1 ∨ 1048576 < span ∨ most < 0 ∨ 100 < most then (⟨0, 0, 0, 0⟩, 2)
  else if rightTe ⟨now + span, span, 0, most⟩ then (⟨now + span, span, 0, most⟩, 0) else (⟨0, 0, 0, 0⟩, 3)
def extendTe (t : Te) (now : Int) : Te × Int :=
  if rightTe t = false then (t, 2) else if overTe t now then (t, 11) else if t.used = t.cap then (t, 12) else ({ t with dl := t.dl + t.span, used := t.used + 1 }, 0)
theorem left_bounds {t : Te} (h : baseTe t = true) : 0 ≤ leftTe t ∧ leftTe t ≤ 104857600 := by
  simp only [baseTe, decide_eq_true_eq] at h
  obtain ⟨h1, h2, h3, h4, h5, h6⟩ := h
  have a : 0 ≤ t.cap - t.used := by omega
  have b : t.cap - t.used ≤ 100 := by omega
  unfold leftTe
  refine ⟨Int.mul_nonneg a (by omega), ?_⟩
  calc (t.cap - t.used) * t.span ≤ 100 * t.span := Int.mul_le_mul_of_nonneg_right b (by omega)
    _ ≤ 100 * 1048576 := by omega

/-! ### tallies -/
def upd {α : Type} (f : Nat → α) (i : Nat) (x : α) : Nat → α := fun j => if j = i then x else f j
def badT (t : Ta) (i : Nat) : Bool :=
  decide (t.votes i < 0 ∨ 2 < t.votes i ∨ t.epochs i < 0 ∨ 1048576 < t.epochs i ∨ (t.who i = false ∧ (t.votes i ≠ 0 ∨ 0 < t.epochs i)) ∨ (t.votes i ≠ 0 ∧ t.epochs i = 0))
def rightT (t : Ta) : Bool := (List.range 8).all (fun i => !badT t i) && (List.range 8).any t.who
def hearT (t : Ta) (who epoch : Int) : Ta × Int :=
  if rightT t = false ∨ epoch < 1 ∨ 1048576 < epoch then (t, 2)
  else if 8 ≤ who ∨ t.who who.toNat = false then (t, 7)
  else if epoch < t.epochs who.toNat then (t, 10)
  else ({ t with epochs := upd t.epochs who.toNat epoch }, 0)
def putT (t : Ta) (who epoch vote : Int) : Ta × Int :=
  if vote ≠ 1 ∧ vote ≠ 2 then (t, 2)
  else if (hearT t who epoch).2 ≠ 0 then (t, (hearT t who epoch).2)
  else if (hearT t who epoch).1.votes who.toNat = 0 then ({ (hearT t who epoch).1 with votes := upd (hearT t who epoch).1.votes who.toNat vote }, 0)
  else if (hearT t who epoch).1.votes who.toNat ≠ vote then (t, 8)
  else ((hearT t who epoch).1, 0)
def outT (t : Ta) : Int :=
  if rightT t = false then 0
  else if (List.range 8).any (fun i => decide (t.votes i = 2)) then 2
  else if (List.range 8).any (fun i => t.who i && decide (t.votes i = 0)) then 0
  else 1
/-- Whether bit i is one of a byte's. -/
def bit (x : Int) (i : Nat) : Bool := decide (x / 2 ^ i % 2 = 1)
def newT (w : Int) : Ta := ⟨fun i => bit w i, fun _ => 0, fun _ => 0⟩

/-! ### deals -/
def begunD (r : Re) : De × Int :=
  if (List.range 8).any (bit r.who) = false then (⟨⟨fun _ => false, fun _ => 0, fun _ => 0⟩, ⟨0, 0, 0, 0⟩, 0⟩, 2)
  else (⟨newT r.who, (newTe r.now r.span r.cap).1, 0⟩, (newTe r.now r.span r.cap).2)
def voteD (d : De) (r : Re) : De × Int :=
  if overTe d.te r.now then (d, 11)
  else (⟨(putT d.ta r.who r.epoch r.vote).1, d.te, outT (putT d.ta r.who r.epoch r.vote).1⟩, (putT d.ta r.who r.epoch r.vote).2)
def extendD (d : De) (r : Re) : De × Int :=
  if (hearT d.ta r.who r.epoch).2 ≠ 0 then (d, (hearT d.ta r.who r.epoch).2)
  else (⟨(hearT d.ta r.who r.epoch).1, (extendTe d.te r.now).1, d.out⟩, (extendTe d.te r.now).2)
/-- What a tick makes of a deal. -/
def tickD (now : Int) (d : De) : De := if d.out = 0 ∧ overTe d.te now = true then { d with out := 2 } else d
def hitD (now : Int) (d : De) : Bool := decide (d.out = 0) && overTe d.te now

/-! ### a chair -/
structure Ch where
  deals : Int → Option De
  log : List Re
def setD (f : Int → Option De) (k : Int) (d : De) : Int → Option De := fun j => if j = k then some d else f j
/-- A call that changes one deal. -/
def oneC (f : Int → Option De) (r : Re) : De × Int :=
  match f r.tx with
  | some d => if r.kind = 1 then (d, 8) else if d.out ≠ 0 then (d, 13) else if r.kind = 2 then voteD d r else extendD d r
  | none => if r.kind = 1 then begunD r else (⟨⟨fun _ => false, fun _ => 0, fun _ => 0⟩, ⟨0, 0, 0, 0⟩, 0⟩, 7)
/-- How many deals a tick strikes, of those that 'now' says. -/
def hits (f : Int → Option De) (now : Int) : Int := ((List.range 1000).countP fun (i : Nat) => match f (i : Int) with | some d => hitD now d | none => false : Nat)
def stepC (f : Int → Option De) (r : Re) : (Int → Option De) × Int × Int :=
  if r.kind = 4 then (fun k => (f k).map (tickD r.now), hits f r.now, 0)
  else if (oneC f r).2 ≠ 0 then (f, 0, (oneC f r).2)
  else (setD f r.tx (oneC f r).1, if (oneC f r).1.out ≠ 0 then 1 else 0, 0)
def doC (c : Ch) (r : Re) : Ch × Int × Int :=
  if r.kind < 1 ∨ 4 < r.kind ∨ r.tx < 0 ∨ 1000 ≤ r.tx then (c, 0, 2)
  else if (stepC c.deals r).2.2 ≠ 0 then (c, 0, (stepC c.deals r).2.2)
  else (⟨(stepC c.deals r).1, c.log ++ [r]⟩, (stepC c.deals r).2.1, 0)
end Go.Proofs.Ytdlfjbllmmkmkaa.ChairSpec
