/- Votes shipped one behind the other: what a side keeps then, as a plain law; in whatever order they come it is the same. -/
import Derived.Test.YtajnaiofagppeaaDoorShipLaw
namespace Go.Proofs.YtajnaiofagppeaaDoor.Ship
open CodeSpec AgentSpec Ballot Collect Pack LeaseSpec HandSpec Held Search Go.Proofs.YtajnaiofagppeaaDoor.Insert
set_option linter.unusedSimpArgs false
set_option linter.unusedVariables false
theorem nodup_le : ∀ (l ks : List Int), l.Nodup → (∀ x ∈ l, x ∈ ks) → l.length ≤ ks.length
  | [], _, _, _ => Nat.zero_le _
  | x :: l, ks, h, hs => by
    rw [List.nodup_cons] at h
    have hx := hs x (by simp)
    have k := nodup_le l (ks.erase x) h.2 fun y hy => (List.mem_erase_of_ne (fun e => h.1 (by rw [← e]; exact hy))).2 (hs y (by simp [hy]))
    have e := List.length_erase_of_mem hx
    have hp : 0 < ks.length := List.length_pos_of_mem hx
    rw [List.length_cons]
    omega
/-- What ballots, shipped one behind the other, make of ballots that there are. -/
def shipsL (L : List Ba) (l : List Ba) : List Ba := l.foldl (fun L b => if mayB b = true then (putL L b).1 else L) L
def shipsS (x : S) (l : List Ba) : S := l.foldl (fun a b => (shipA a b).1) x
theorem shipsS_last (x : S) (l : List Ba) (b : Ba) : shipsS x (l ++ [b]) = (shipA (shipsS x l) b).1 := by simp [shipsS]
theorem ships_right : ∀ (l L : List Ba), rightL L = true → rightL (shipsL L l) = true
  | [], _, h => h
  | b :: l, L, h => by
    show rightL (shipsL (if mayB b = true then (putL L b).1 else L) l) = true
    refine ships_right l _ ?_
    split
    · rename_i hb; exact put_right h hb
    · exact h
theorem ships_mk {x : S} (hr : rightS x = true) (hs : x.s = 1) : ∀ (l L : List Ba), rightL L = true → shipsS (mkS x L) l = mkS x (shipsL L l)
  | [], _, _ => rfl
  | b :: l, L, h => by
    show shipsS (shipA (mkS x L) b).1 l = mkS x (shipsL (if mayB b = true then (putL L b).1 else L) l)
    cases hb : mayB b with
    | false => rw [ship_not hb, if_neg (by decide)]; exact ships_mk hr hs l L h
    | true =>
      rw [ship_mk hr hs h hb, if_pos rfl]
      exact ships_mk hr hs l _ (put_right h hb)
/-- Nobody votes two things; and the transactions are few. -/
def Calm (all : List Ba) : Prop := (∀ a ∈ all, ∀ b ∈ all, a.tx = b.tx → a.vote = b.vote) ∧ ∃ ks : List Int, ks.length ≤ 50 ∧ ∀ b ∈ all, b.tx ∈ ks
theorem nodup_tx {l : List Ba} (h : Rising l) : (l.map (·.tx)).Nodup := by
  rw [rising_pair] at h
  rw [List.Nodup, List.pairwise_map]
  exact h.imp fun h => by omega
theorem put_calm {all : List Ba} (hc : Calm all) {L : List Ba} {b : Ba} (h : rightL L = true) (hb : mayB b = true) (hL : ∀ a ∈ L, a ∈ all) (hba : b ∈ all) : (putL L b).2 = 0 := by
  have hr := right_rising h
  unfold putL
  by_cases h1 : isAt L b (posL L b) = true
  · rw [if_pos h1]
    obtain ⟨a, ha, he⟩ := (at_iff b hr).1 h1
    dsimp only
    rw [vote_at hr ha he, if_pos (hc.1 a (hL a ha) b hba he)]
  · rw [if_neg h1]
    have hn : ∀ a ∈ L, a.tx ≠ b.tx := fun a ha he => h1 ((at_iff b hr).2 ⟨a, ha, he⟩)
    obtain ⟨ks, hk, hks⟩ := hc.2
    have hlen := nodup_le (b.tx :: L.map (·.tx)) ks (List.nodup_cons.2 ⟨fun hm => by
      obtain ⟨a, ha, he⟩ := List.mem_map.1 hm
      exact hn a ha he, nodup_tx hr⟩) fun t ht => by
        rcases List.mem_cons.1 ht with rfl | ht
        · exact hks _ hba
        · obtain ⟨a, ha, rfl⟩ := List.mem_map.1 ht
          exact hks _ (hL a ha)
    rw [List.length_cons, List.length_map] at hlen
    rw [if_neg (by omega)]
theorem ships_mem {all : List Ba} (hc : Calm all) : ∀ (l L : List Ba), (∀ a ∈ l, a ∈ all) → rightL L = true → (∀ a ∈ L, a ∈ all) → ∀ b, b ∈ shipsL L l ↔ b ∈ L ∨ (b ∈ l ∧ mayB b = true)
  | [], L, _, _, _, b => by simp [shipsL]
  | c :: l, L, hl, h, hL, b => by
    have hca := hl c (by simp)
    show b ∈ shipsL (if mayB c = true then (putL L c).1 else L) l ↔ _
    cases hb : mayB c with
    | false =>
      rw [if_neg (by decide), ships_mem hc l L (fun a ha => hl a (by simp [ha])) h hL b]
      constructor
      · rintro (k | ⟨k1, k2⟩)
        · exact .inl k
        · exact .inr ⟨by simp [k1], k2⟩
      · rintro (k | ⟨k1, k2⟩)
        · exact .inl k
        · rcases List.mem_cons.1 k1 with rfl | k1
          · rw [hb] at k2; cases k2
          · exact .inr ⟨k1, k2⟩
    | true =>
      have hm := (put_there h hb (put_calm hc h hb hL hca)).2
      rw [if_pos rfl, ships_mem hc l (putL L c).1 (fun a ha => hl a (by simp [ha])) (put_right h hb) (fun a ha => by
        rcases (hm a).1 ha with rfl | ha
        · exact hca
        · exact hL a ha) b, hm b]
      constructor
      · rintro ((rfl | k) | ⟨k1, k2⟩)
        · exact .inr ⟨by simp, hb⟩
        · exact .inl k
        · exact .inr ⟨by simp [k1], k2⟩
      · rintro (k | ⟨k1, k2⟩)
        · exact .inl (.inr k)
        · rcases List.mem_cons.1 k1 with rfl | k1
          · exact .inl (.inl rfl)
          · exact .inr ⟨k1, k2⟩
/-- The ballots from 'at' on, around. -/
def turned (l : List Ba) (at_ k : Nat) : List Ba := (List.range k).filterMap fun i => l[(i + at_) % l.length]?
theorem turned_succ (l : List Ba) (at_ k : Nat) (h : 0 < l.length) : turned l at_ (k + 1) = turned l at_ k ++ [l[(k + at_) % l.length]'(Nat.mod_lt _ h)] := by
  unfold turned
  rw [List.range_succ, List.filterMap_append]
  simp [List.getElem?_eq_getElem (Nat.mod_lt (k + at_) h)]
theorem turned_mem (l : List Ba) (at_ : Nat) (b : Ba) : b ∈ turned l at_ l.length ↔ b ∈ l := by
  unfold turned
  rw [List.mem_filterMap]
  constructor
  · rintro ⟨i, _, hi⟩
    exact List.mem_of_getElem? hi
  · intro hb
    obtain ⟨j, hj, rfl⟩ := List.getElem_of_mem hb
    have h0 : 0 < l.length := by omega
    refine ⟨(j + (l.length - at_ % l.length)) % l.length, List.mem_range.2 (Nat.mod_lt _ h0), ?_⟩
    have e : ((j + (l.length - at_ % l.length)) % l.length + at_) % l.length = j := by
      rw [Nat.mod_add_mod]
      have h1 := Nat.mod_lt at_ h0
      have h2 := Nat.div_add_mod at_ l.length
      have : j + (l.length - at_ % l.length) + at_ = j + l.length * (at_ / l.length + 1) := by
        rw [Nat.mul_add, Nat.mul_one]; omega
      rw [this, Nat.add_mul_mod_self_left, Nat.mod_eq_of_lt hj]
    rw [e]
    exact List.getElem?_eq_getElem hj
theorem any_order {x : S} (hr : rightS x = true) (hs : x.s = 1) {l : List Ba} (hc : Calm l) (at_ : Nat) : shipsS (mkS x []) l = shipsS (mkS x []) (turned l at_ l.length) := by
  rw [ships_mk hr hs _ _ rfl, ships_mk hr hs _ _ rfl]
  have e : shipsL [] l = shipsL [] (turned l at_ l.length) := by
    refine rising_ext ((rising_pair _).1 (right_rising (ships_right _ _ rfl))) ((rising_pair _).1 (right_rising (ships_right _ _ rfl))) fun b => ?_
    rw [ships_mem hc l [] (fun _ h => h) rfl (fun _ h => absurd h (by simp)), ships_mem hc _ [] (fun a h => (turned_mem l at_ a).1 h) rfl (fun _ h => absurd h (by simp)), turned_mem]
  rw [e]
end Go.Proofs.YtajnaiofagppeaaDoor.Ship
