/- Numbers and texts as bytes, in plain Lean: which bytes values of a shape have, and which values bytes tell; they undo each other. -/
namespace Go.Proofs.YtajnaiofagppeaaDoor.CodeSpec

structure V where
  n : Nat
  s : ByteArray
deriving DecidableEq

/-- How many bytes a letter's number has. -/
def wd (c : UInt8) : Nat := if c = 116 then 0 else if c = 97 then 1 else if c = 98 then 2 else if c = 99 then 4 else 8
def letter (c : UInt8) : Bool := c == 97 || c == 98 || c == 99 || c == 100 || c == 116
def shapeB (sh : List UInt8) : Bool := sh.all letter && decide (sh.length ≤ 100)
/-- So many bytes of a number, the highest first. -/
def be : Nat → Nat → List UInt8
  | 0, _ => []
  | w + 1, n => UInt8.ofNat (n / 256 ^ w) :: be w n
def val (l : List UInt8) : Nat := l.foldl (fun a c => a * 256 + c.toNat) 0
def fits (c : UInt8) (v : V) : Bool := if c = 116 then decide (v.n = 0) && decide (v.s.size ≤ 2000) else decide (v.s.size = 0) && decide (v.n < 256 ^ wd c)
def one (c : UInt8) (v : V) : List UInt8 := if c = 116 then be 2 v.s.size ++ v.s.data.toList else be (wd c) v.n
def encL : List UInt8 → List V → Option (List UInt8)
  | [], [] => some []
  | c :: cs, v :: vs => if fits c v = true then (encL cs vs).map (one c v ++ ·) else none
  | _, _ => none
def enc (sh : List UInt8) (vs : List V) : List UInt8 × Int :=
  if shapeB sh = false then ([], 2) else if vs.length ≠ sh.length then ([], 2)
  else match encL sh vs with
    | none => ([], 2)
    | some o => if 4000 < o.length then ([], 3) else (o, 0)

def noS : ByteArray := ⟨#[]⟩
def parse : List UInt8 → List UInt8 → Option (List V × List UInt8)
  | [], b => some ([], b)
  | c :: cs, b =>
    if c = 116 then
      (if b.length < 2 then none else if 2000 < val (b.take 2) then none else if b.length - 2 < val (b.take 2) then none
       else (parse cs (b.drop (2 + val (b.take 2)))).map fun x => (⟨0, ⟨((b.drop 2).take (val (b.take 2))).toArray⟩⟩ :: x.1, x.2))
    else (if b.length < wd c then none else (parse cs (b.drop (wd c))).map fun x => (⟨val (b.take (wd c)), noS⟩ :: x.1, x.2))
def dec (sh b : List UInt8) : List V × Int :=
  if shapeB sh = false then ([], 2)
  else match parse sh b with
    | some (vs, []) => if 4000 < b.length then ([], 4) else (vs, 0)
    | _ => ([], 4)

theorem length_be : ∀ w n, (be w n).length = w
  | 0, _ => rfl
  | w + 1, n => by simp [be, length_be w n]

theorem val_snoc (l : List UInt8) (c : UInt8) : val (l ++ [c]) = val l * 256 + c.toNat := by simp [val]
theorem foldl_val (l : List UInt8) : ∀ a : Nat, l.foldl (fun a c => a * 256 + c.toNat) a = a * 256 ^ l.length + val l := by
  induction l with
  | nil => intro a; simp [val]
  | cons c l ih =>
    intro a
    simp only [List.foldl_cons, List.length_cons, val]
    rw [ih, ih (0 * 256 + c.toNat)]
    simp only [Nat.pow_succ]
    rw [Nat.add_mul, Nat.zero_mul, Nat.zero_add, Nat.mul_assoc, Nat.mul_comm 256, Nat.add_assoc]
theorem val_cons (c : UInt8) (l : List UInt8) : val (c :: l) = c.toNat * 256 ^ l.length + val l := by
  show (c :: l).foldl _ 0 = _
  rw [List.foldl_cons, foldl_val]; simp
theorem val_lt (l : List UInt8) : val l < 256 ^ l.length := by
  induction l with
  | nil => simp [val]
  | cons c l ih =>
    rw [val_cons, List.length_cons, Nat.pow_succ, Nat.mul_comm _ 256]
    have h2 : (c.toNat + 1) * 256 ^ l.length ≤ 256 * 256 ^ l.length := Nat.mul_le_mul_right _ (by have := c.toNat_lt; omega)
    rw [Nat.add_mul, Nat.one_mul] at h2
    omega
theorem be_mod (k n : Nat) : ∀ w, w ≤ k → be w (n % 256 ^ k) = be w n
  | 0, _ => rfl
  | w + 1, hw => by
    rw [be, be, be_mod k n w (by omega)]
    congr 1
    have e : 256 ^ k = 256 ^ w * 256 ^ (k - w) := by rw [← Nat.pow_add]; congr 1; omega
    rw [e, Nat.mod_mul_right_div_self]
    have h8 : 256 ∣ 256 ^ (k - w) := ⟨256 ^ (k - w - 1), by rw [← Nat.pow_succ']; congr 1; omega⟩
    apply UInt8.toNat_inj.mp
    simp
    exact Nat.mod_mod_of_dvd _ h8
theorem val_be : ∀ w n, n < 256 ^ w → val (be w n) = n
  | 0, n, h => by simp at h; subst h; rfl
  | w + 1, n, h => by
    have hp : 0 < 256 ^ w := Nat.pow_pos (by decide)
    have hd : n / 256 ^ w < 256 := Nat.div_lt_of_lt_mul (by rw [Nat.pow_succ] at h; omega)
    rw [be, val_cons, length_be]
    have h1 := val_be w (n % 256 ^ w) (Nat.mod_lt _ hp)
    have e : be w (n % 256 ^ w) = be w n := be_mod w n w (Nat.le_refl _)
    rw [e] at h1
    rw [h1]
    have : (UInt8.ofNat (n / 256 ^ w)).toNat = n / 256 ^ w := by
      simp; exact hd
    rw [this, Nat.mul_comm]
    exact Nat.div_add_mod n (256 ^ w)
theorem be_val : ∀ l : List UInt8, be l.length (val l) = l
  | [] => rfl
  | c :: l => by
    have hp : 0 < 256 ^ l.length := Nat.pow_pos (by decide)
    have hl := val_lt l
    rw [List.length_cons, be, val_cons]
    have e1 : (c.toNat * 256 ^ l.length + val l) / 256 ^ l.length = c.toNat := by
      rw [Nat.mul_comm, Nat.mul_add_div hp, Nat.div_eq_of_lt hl]; rfl
    rw [e1]
    have e2 : be l.length (c.toNat * 256 ^ l.length + val l) = be l.length (val l) := by
      rw [← be_mod l.length (c.toNat * 256 ^ l.length + val l) l.length (Nat.le_refl _), Nat.mul_comm, Nat.mul_add_mod, Nat.mod_eq_of_lt hl]
    rw [e2, be_val l]
    congr 1
    apply UInt8.toNat_inj.mp
    simp

theorem bytes_eq (s : ByteArray) : (⟨s.data.toList.toArray⟩ : ByteArray) = s := by
  obtain ⟨a⟩ := s; simp
theorem size_toList (s : ByteArray) : s.data.toList.length = s.size := by obtain ⟨a⟩ := s; rfl
theorem size_noS {s : ByteArray} (h : s.size = 0) : s = noS := by
  have : s.data.toList = [] := by apply List.length_eq_zero_iff.mp; rw [size_toList]; exact h
  rw [← bytes_eq s, this]; rfl

/-- Values come back from their bytes. -/
theorem parse_enc : ∀ (sh : List UInt8) (vs : List V) (o r : List UInt8), encL sh vs = some o → parse sh (o ++ r) = some (vs, r)
  | [], [], o, r, h => by simp [encL] at h; subst h; rfl
  | [], _ :: _, o, r, h => by simp [encL] at h
  | _ :: _, [], o, r, h => by simp [encL] at h
  | c :: cs, v :: vs, o, r, h => by
    rw [encL] at h
    split at h
    · rename_i hf
      obtain ⟨o', ho, rfl⟩ := Option.map_eq_some_iff.mp h
      have ih := parse_enc cs vs o' r ho
      rw [parse, List.append_assoc]
      unfold fits at hf
      split
      · rename_i hc
        rw [if_pos hc] at hf
        simp at hf
        obtain ⟨hn, hs⟩ := hf
        have e1 : one c v = be 2 v.s.size ++ v.s.data.toList := by rw [one, if_pos hc]
        have e2 : (one c v ++ (o' ++ r)).take 2 = be 2 v.s.size := by
          rw [e1, List.append_assoc]
          exact List.take_left' (length_be _ _)
        have e3 : val (be 2 v.s.size) = v.s.size := val_be _ _ (by omega)
        have e4 : (one c v ++ (o' ++ r)).length = 2 + v.s.size + (o' ++ r).length := by
          rw [List.length_append, e1, List.length_append, length_be, size_toList]
        rw [e2, e3, e4, if_neg (by omega), if_neg (by omega), if_neg (by omega)]
        have e5 : (one c v ++ (o' ++ r)).drop (2 + v.s.size) = o' ++ r := by
          apply List.drop_left'
          rw [e1, List.length_append, length_be, size_toList]
        have e6 : ((one c v ++ (o' ++ r)).drop 2).take v.s.size = v.s.data.toList := by
          rw [e1, List.append_assoc, List.drop_left' (length_be _ _)]
          exact List.take_left' (size_toList _)
        rw [e5, e6, ih]
        simp
        obtain ⟨n, s⟩ := v
        simp at hn
        rw [hn]
      · rename_i hc
        rw [if_neg hc] at hf
        simp only [Bool.and_eq_true, decide_eq_true_eq] at hf
        obtain ⟨hs, hn⟩ := hf
        have e1 : one c v = be (wd c) v.n := by rw [one, if_neg hc]
        have e2 : (one c v ++ (o' ++ r)).take (wd c) = be (wd c) v.n := by rw [e1]; exact List.take_left' (length_be _ _)
        rw [e2, val_be _ _ hn, e1, List.drop_left' (length_be _ _), ih, if_neg (by rw [List.length_append, length_be]; omega)]
        simp
        obtain ⟨n, s⟩ := v
        have := size_noS hs
        simp only at this
        rw [this]
    · cases h

/-- Bytes come back from their values. -/
theorem enc_parse : ∀ (sh : List UInt8) (b : List UInt8) (vs : List V) (r : List UInt8), parse sh b = some (vs, r) → ∃ o, encL sh vs = some o ∧ b = o ++ r
  | [], b, vs, r, h => by simp [parse] at h; obtain ⟨rfl, rfl⟩ := h; exact ⟨[], rfl, rfl⟩
  | c :: cs, b, vs, r, h => by
    rw [parse] at h
    split at h
    · rename_i hc
      split at h
      · cases h
      · split at h
        · cases h
        · split at h
          · cases h
          · rename_i h1 h2 h3
            obtain ⟨⟨vs', r'⟩, hp, he⟩ := Option.map_eq_some_iff.mp h
            simp at he
            obtain ⟨rfl, rfl⟩ := he
            obtain ⟨o, ho, hb⟩ := enc_parse cs _ _ _ hp
            have hsz : (⟨((b.drop 2).take (val (b.take 2))).toArray⟩ : ByteArray).size = val (b.take 2) := by
              simp [ByteArray.size]; omega
            refine ⟨one c ⟨0, ⟨((b.drop 2).take (val (b.take 2))).toArray⟩⟩ ++ o, ?_, ?_⟩
            · rw [encL, if_pos, ho]; · rfl
              unfold fits
              rw [if_pos hc]
              simp only [hsz]
              simp; omega
            · have e1 : one c ⟨0, ⟨((b.drop 2).take (val (b.take 2))).toArray⟩⟩ = b.take 2 ++ (b.drop 2).take (val (b.take 2)) := by
                rw [one, if_pos hc]
                simp only [hsz]
                congr 1
                have := be_val (b.take 2)
                rwa [show (b.take 2).length = 2 by simp; omega] at this
              rw [e1, List.append_assoc, List.append_assoc, ← hb, ← List.drop_drop, List.take_append_drop, List.take_append_drop]
    · rename_i hc
      split at h
      · cases h
      · rename_i h1
        obtain ⟨⟨vs', r'⟩, hp, he⟩ := Option.map_eq_some_iff.mp h
        simp at he
        obtain ⟨rfl, rfl⟩ := he
        obtain ⟨o, ho, hb⟩ := enc_parse cs _ _ _ hp
        have hlen : (b.take (wd c)).length = wd c := by simp; omega
        refine ⟨one c ⟨val (b.take (wd c)), noS⟩ ++ o, ?_, ?_⟩
        · rw [encL, if_pos, ho]; · rfl
          unfold fits
          rw [if_neg hc]
          have := val_lt (b.take (wd c))
          rw [hlen] at this
          simp only [Bool.and_eq_true, decide_eq_true_eq]
          exact ⟨rfl, this⟩
        · have e1 : one c ⟨val (b.take (wd c)), noS⟩ = b.take (wd c) := by
            rw [one, if_neg hc]
            have := be_val (b.take (wd c))
            rwa [hlen] at this
          rw [e1, List.append_assoc, ← hb, List.take_append_drop]

theorem encL_len : ∀ (sh : List UInt8) (vs : List V) (o : List UInt8), encL sh vs = some o → vs.length = sh.length
  | [], [], _, _ => rfl
  | [], _ :: _, o, h => by simp [encL] at h
  | _ :: _, [], o, h => by simp [encL] at h
  | c :: cs, v :: vs, o, h => by
    rw [encL] at h
    split at h
    · obtain ⟨o', ho, _⟩ := Option.map_eq_some_iff.mp h
      simp [encL_len cs vs o' ho]
    · cases h
theorem enc_ok {sh : List UInt8} {vs : List V} {o : List UInt8} : enc sh vs = (o, 0) ↔ shapeB sh = true ∧ encL sh vs = some o ∧ o.length ≤ 4000 := by
  unfold enc
  constructor
  · intro h
    split at h
    · cases h
    · split at h
      · cases h
      · rename_i h1 h2
        have h1' : shapeB sh = true := by cases hb : shapeB sh <;> simp_all
        split at h
        · cases h
        · rename_i o' ho
          split at h
          · cases h
          · cases h
            exact ⟨h1', ho, by omega⟩
  · rintro ⟨h1, h2, h3⟩
    rw [if_neg (by simp [h1]), if_neg (by rw [encL_len _ _ _ h2]; simp), h2]
    simp only
    rw [if_neg (by omega)]
theorem dec_ok {sh b : List UInt8} {vs : List V} : dec sh b = (vs, 0) ↔ shapeB sh = true ∧ parse sh b = some (vs, []) ∧ b.length ≤ 4000 := by
  unfold dec
  constructor
  · intro h
    split at h
    · cases h
    · rename_i h1
      have h1' : shapeB sh = true := by cases hb : shapeB sh <;> simp_all
      split at h
      · rename_i vs' ho
        split at h
        · cases h
        · cases h
          exact ⟨h1', ho, by omega⟩
      · cases h
  · rintro ⟨h1, h2, h3⟩
    rw [if_neg (by simp [h1]), h2]
    simp only
    rw [if_neg (by omega)]
theorem dec_err (sh b : List UInt8) : (∃ vs, dec sh b = (vs, 0)) ∨ dec sh b = ([], 2) ∧ shapeB sh = false ∨ dec sh b = ([], 4) ∧ shapeB sh = true := by
  unfold dec
  split
  · rename_i h; exact .inr (.inl ⟨rfl, h⟩)
  · rename_i h1
    have h1' : shapeB sh = true := by cases hb : shapeB sh <;> simp_all
    split
    · split
      · exact .inr (.inr ⟨rfl, h1'⟩)
      · exact .inl ⟨_, rfl⟩
    · exact .inr (.inr ⟨rfl, h1'⟩)
/-- They undo each other. -/
theorem dec_enc {sh : List UInt8} {vs : List V} {o : List UInt8} (h : enc sh vs = (o, 0)) : dec sh o = (vs, 0) := by
  obtain ⟨h1, h2, h3⟩ := enc_ok.mp h
  exact dec_ok.mpr ⟨h1, by have := parse_enc sh vs o [] h2; rwa [List.append_nil] at this, h3⟩
theorem enc_dec {sh b : List UInt8} {vs : List V} (h : dec sh b = (vs, 0)) : enc sh vs = (b, 0) := by
  obtain ⟨h1, h2, h3⟩ := dec_ok.mp h
  obtain ⟨o, ho, hb⟩ := enc_parse _ _ _ _ h2
  rw [List.append_nil] at hb
  subst hb
  exact enc_ok.mpr ⟨h1, ho, h3⟩

end Go.Proofs.YtajnaiofagppeaaDoor.CodeSpec
