/- What a value without memory of its own, or a slice of such, reads as: its cells, each of its kind. -/
import Derived.Test.YtdlfjbllmmkmkaaProg
import Derived.WalkKit
import Derived.ProofKit
import Derived.Deep.Slices
import Derived.Deep.Draws
namespace Go.Proofs.Ytdlfjbllmmkmkaa.Flat
open Go.ChangeShapes Go.WideShapes Go.ChangeAt Go.RowKit

/-- The kinds of one cell. -/
inductive SK where
  | int (k : IntKind)
  | bool
  | str

def Fit : SK → Value → Prop
  | .int k, v => ∃ n, v = .int k n ∧ (Lit.int k n).wf = true
  | .bool, v => ∃ b, v = .bool b
  | .str, v => ∃ s, v = .string s ∧ s.size ≤ maxLen

inductive Fits : List SK → List Value → Prop
  | nil : Fits [] []
  | cons {k : SK} {v : Value} {ks : List SK} {vs : List Value} : Fit k v → Fits ks vs → Fits (k :: ks) (v :: vs)

theorem Fits.length {ks : List SK} {cs : List Value} (h : Fits ks cs) : cs.length = ks.length := by
  induction h with
  | nil => rfl
  | cons _ _ ih => simp [ih]

theorem Fits.append {a b : List SK} {x y : List Value} (h : Fits a x) (h' : Fits b y) : Fits (a ++ b) (x ++ y) := by
  induction h with
  | nil => simpa using h'
  | cons hf _ ih => exact .cons hf ih

theorem Fits.int {k : IntKind} {ks : List SK} {cs : List Value} (h : Fits (.int k :: ks) cs) : ∃ n cs', cs = .int k n :: cs' ∧ (Lit.int k n).wf = true ∧ Fits ks cs' := by
  cases h with
  | cons hf hr => obtain ⟨n, rfl, hw⟩ := hf; exact ⟨n, _, rfl, hw, hr⟩
theorem Fits.bool {ks : List SK} {cs : List Value} (h : Fits (.bool :: ks) cs) : ∃ n cs', cs = .bool n :: cs' ∧ Fits ks cs' := by
  cases h with
  | cons hf hr => obtain ⟨n, rfl⟩ := hf; exact ⟨n, _, rfl, hr⟩
theorem Fits.str {ks : List SK} {cs : List Value} (h : Fits (.str :: ks) cs) : ∃ s cs', cs = .string s :: cs' ∧ s.size ≤ maxLen ∧ Fits ks cs' := by
  cases h with
  | cons hf hr => obtain ⟨n, rfl, hw⟩ := hf; exact ⟨n, _, rfl, hw, hr⟩
theorem Fits.done {cs : List Value} (h : Fits [] cs) : cs = [] := by
  cases h; rfl

def fields (sub : TypeId → Option (List SK)) (P : Program) : Nat → List Field → Option (List SK)
  | _, [] => some []
  | o, f :: fs =>
    match sub f.type with
    | some l => if f.offset = o ∧ l.length = P.cellsOf f.type then (fields sub P (o + l.length) fs).map (l ++ ·) else none
    | none => none

/-- The cells of a type without memory of its own. -/
def flat (P : Program) : Nat → TypeId → Option (List SK)
  | 0, _ => none
  | n + 1, t =>
    match P.underlying t with
    | some (.int k) => some [.int k]
    | some .bool => some [.bool]
    | some .string => some [.str]
    | some (.struct fs) => match fields (flat P n) P 0 fs.toList with
      | some l => if l.length = P.cellsOf t then some l else none
      | none => none
    | some (.array m e) => match flat P n e with
      | some l => if l.length = P.cellsOf e ∧ m * l.length = P.cellsOf t then some (List.replicate m l).flatten else none
      | none => none
    | _ => none

section
variable {H : Type} {enc : TypeId × Value → H} {P : Program} {w : World} {base : Nat} {spare : Nat → Bool} {held : Bool}

theorem fields_fit {fuel : Nat} {sub : TypeId → Option (List SK)}
    (ih : ∀ t ks cs x, sub t = some ks → DataW.trod enc P w base spare held fuel t cs = some x → Fits ks cs) :
    ∀ (fs : List Field) (o : Nat) (ks : List SK) (cs : List Value) xs, fields sub P o fs = some ks → cs.length = o + ks.length →
      (fs.mapM fun f => DataW.trod enc P w base spare held fuel f.type ((cs.drop f.offset).take (P.cellsOf f.type))) = some xs → Fits ks (cs.drop o)
  | [], o, ks, cs, xs, hf, hl, _ => by
    simp [fields] at hf; subst hf
    simp at hl
    rw [List.drop_of_length_le (by omega)]; exact .nil
  | f :: fs, o, ks, cs, xs, hf, hl, hm => by
    unfold fields at hf
    split at hf
    · rename_i l hs
      split at hf
      · rename_i hc
        obtain ⟨ho, hll⟩ := hc
        obtain ⟨r, hr, rfl⟩ := Option.map_eq_some_iff.mp hf
        simp only [List.mapM_cons, Option.bind_eq_bind, Option.bind_eq_some_iff] at hm
        obtain ⟨x, hx, ys, hy, _⟩ := hm
        have h1 := ih _ _ _ _ hs hx
        have hlen := h1.length
        have h2 := fields_fit ih fs (o + l.length) r cs ys hr (by simp at hl; omega) hy
        have e : cs.drop o = (cs.drop o).take l.length ++ cs.drop (o + l.length) := by
          rw [← List.drop_drop, List.take_append_drop]
        rw [e]
        rw [ho, ← hll] at h1
        exact h1.append h2
      · simp at hf
    · simp at hf

theorem array_fit {fuel m e : Nat} {l : List SK} (he : l.length = P.cellsOf e)
    (ih : ∀ cs x, DataW.trod enc P w base spare held fuel e cs = some x → Fits l cs) (cs : List Value) (hl : cs.length = m * l.length)
    (h : ∀ i, i < m → ∃ x, DataW.trod enc P w base spare held fuel e ((cs.drop (i * P.cellsOf e)).take (P.cellsOf e)) = some x) :
    ∀ d i, i + d = m → Fits (List.replicate d l).flatten (cs.drop (i * l.length))
  | 0, i, hi => by
    have : i = m := by omega
    subst this
    rw [List.drop_of_length_le (by omega)]; exact .nil
  | d + 1, i, hi => by
    obtain ⟨x, hx⟩ := h i (by omega)
    have h1 := ih _ _ hx
    have h2 := array_fit he ih cs hl h d (i + 1) (by omega)
    have e1 : cs.drop (i * l.length) = (cs.drop (i * l.length)).take l.length ++ cs.drop ((i + 1) * l.length) := by
      rw [Nat.succ_mul, ← List.drop_drop, List.take_append_drop]
    rw [e1, List.replicate_succ, List.flatten_cons]
    rw [← he] at h1
    exact h1.append h2

theorem flat_fit : ∀ (n : Nat) (fuel : Nat) (t : TypeId) (ks : List SK) (cs : List Value) x, flat P n t = some ks → DataW.trod enc P w base spare held fuel t cs = some x → Fits ks cs
  | 0, _, _, _, _, _, h, _ => by simp [flat] at h
  | n + 1, 0, _, _, _, _, _, h => by simp [DataW.trod] at h
  | n + 1, fuel + 1, t, ks, cs, x, hk, h => by
    have ih : ∀ t ks cs x, flat P n t = some ks → DataW.trod enc P w base spare held fuel t cs = some x → Fits ks cs := fun t ks cs x => flat_fit n fuel t ks cs x
    unfold flat at hk
    split at hk
    · rename_i k hu
      cases hk
      obtain ⟨m, rfl, _, hw⟩ := DataW.trod_int hu h
      exact .cons ⟨m, rfl, hw⟩ .nil
    · rename_i hu
      cases hk
      unfold DataW.trod at h
      rw [hu] at h
      split at h <;> simp_all
      exact .cons ⟨_, rfl⟩ .nil
    · rename_i hu
      cases hk
      unfold DataW.trod at h
      rw [hu] at h
      split at h <;> simp_all
      exact .cons ⟨_, rfl, h.1⟩ .nil
    · rename_i fs hu
      split at hk
      · rename_i l hl
        split at hk
        · rename_i hc
          cases hk
          unfold DataW.trod at h
          rw [hu] at h
          simp only at h
          split at h
          · rename_i hcs
            obtain ⟨xs, hxs, _⟩ := Option.map_eq_some_iff.mp h
            have := fields_fit ih fs.toList 0 _ cs xs hl (by omega) hxs
            simpa using this
          · simp at h
        · simp at hk
      · simp at hk
    · rename_i m e hu
      split at hk
      · rename_i l hl
        split at hk
        · rename_i hc
          cases hk
          unfold DataW.trod at h
          rw [hu] at h
          simp only at h
          split at h
          · rename_i hcs
            obtain ⟨xs, hxs, _⟩ := Option.map_eq_some_iff.mp h
            have hlen : xs.length = m := by have := mapM_some_length hxs; simpa using this
            have := array_fit (m := m) hc.1 (fun cs x => ih e l cs x hl) cs (by omega) (fun i hi => by
              have hg := mapM_some_get hxs i i (by simp [hi])
              exact ⟨xs[i]'(by omega), by rw [hg]; simp [List.getElem?_eq_getElem (show i < xs.length by omega)]⟩) m 0 (by omega)
            simpa using this
          · simp at h
        · simp at hk
      · simp at hk
    · simp at hk

theorem add_two (b off x j : Nat) : ((⟨b, off, none⟩ : Addr).add x).add j = ⟨b, off + (x + j), none⟩ := by
  by_cases hx : x = 0
  · subst hx
    by_cases hj : j = 0
    · subst hj; rfl
    · unfold Addr.add; rw [if_pos rfl, if_neg hj]; simp
  · by_cases hj : j = 0
    · subst hj; unfold Addr.add; rw [if_pos rfl, if_neg hx]; simp
    · unfold Addr.add; rw [if_neg hj, if_neg hx]; simp [Nat.add_assoc]

/-- A value of several cells, opened. -/
theorem open_flat {r : Reach} {b0 n : Nat} {t : TypeId} {ks : List SK} {v : Value} {d : DataW H} {p : List MemPlace} (hk : flat P n t = some ks)
    (hs : (∃ fs, P.underlying t = some (.struct fs)) ∨ ∃ m e, P.underlying t = some (.array m e))
    (hv : Value.okWide P w r b0 t v) (h : DataW.Trod enc P w base spare held t v d p) : ∃ cs : List Value, v = .agg cs.toArray ∧ Fits ks cs := by
  have : ∃ cs, v = .agg cs := by
    rcases hs with ⟨fs, hs⟩ | ⟨m, e, hs⟩
    · unfold Value.okWide at hv; rw [hs] at hv; obtain ⟨cs, hc, _⟩ := hv; exact ⟨cs, hc⟩
    · unfold Value.okWide at hv; rw [hs] at hv; obtain ⟨cs, hc, _⟩ := hv; exact ⟨cs, hc⟩
  obtain ⟨cs, rfl⟩ := this
  obtain ⟨fuel, hf⟩ := h
  exact ⟨cs.toList, by simp, by simpa [Value.cells] using flat_fit n fuel t ks _ _ hk hf⟩

/-- What is told of a slice of such values that came in: its rows of cells. -/
def IsRows (ks : List SK) (w : World) (a : Option Addr) (len cap : Nat) (rows : List (List Value)) : Prop :=
  rows.length = len ∧ len ≤ cap ∧ cap ≤ maxLen ∧ (∀ r ∈ rows, Fits ks r) ∧
  (0 < len → ∃ b off, a = some ⟨b, off, none⟩ ∧ ∀ i, i < len → ∀ j, j < ks.length → w.cell? ⟨b, off + (i * ks.length + j), none⟩ = (rows.getD i [])[j]?)

theorem open_rows {n : Nat} {t e : TypeId} {ks : List SK} {a : Option Addr} {len cap : Nat} {d : DataW H} {p : List MemPlace} (ht : P.underlying t = some (.slice e)) (hk : flat P n e = some ks)
    (hc : P.cellsOf e = ks.length) (hpos : 0 < ks.length) (h : DataW.Trod enc P w base spare held t (.slice a len cap) d p) : ∃ rows, IsRows ks w a len cap rows := by
  obtain ⟨fuel, hf⟩ := h
  rcases Go.Deep.open_slice ht hf with ⟨hcs, _⟩ | ⟨a', len', cap', m, n', D, Pl, hcs, hb, hl, hm, hm', _, hel⟩
  · simp [Value.cells] at hcs
    obtain ⟨rfl, rfl, rfl⟩ := hcs
    exact ⟨[], rfl, Nat.le_refl _, Nat.zero_le _, by simp, fun h => absurd h (by omega)⟩
  · simp [Value.cells] at hcs
    obtain ⟨rfl, rfl, rfl⟩ := hcs
    have hle : len ≤ m := by rw [hm']; split <;> omega
    have hex : ∀ i, ∃ cs', i < len → w.cells? base (a'.add (i * P.cellsOf e)) (P.cellsOf e) = some cs' ∧ Fits ks cs' := fun i => by
      by_cases hi : i < len
      · obtain ⟨cs', h1, h2⟩ := hel i (by omega)
        exact ⟨cs', fun _ => ⟨h1, flat_fit n _ e ks _ _ hk h2⟩⟩
      · exact ⟨[], fun h => absurd h hi⟩
    refine ⟨(List.range len).map fun i => (hex i).choose, by simp, hl, hm, ?_, fun hlen => ?_⟩
    · intro r hr
      obtain ⟨i, hi, rfl⟩ := List.mem_map.mp hr
      exact ((hex i).choose_spec (by simpa using hi)).2
    · have h0 := ((hex 0).choose_spec hlen).1
      obtain ⟨_, hl0, hg0⟩ := World.cells?_some h0
      have hspot : a'.spot = none := by
        have := hg0 0 (by omega)
        have h3 : ∃ v, w.cell? ((a'.add (0 * P.cellsOf e)).add 0) = some v := by
          rw [this]; exact ⟨_, List.getElem?_eq_getElem (show 0 < ((hex 0).choose).length by omega)⟩
        obtain ⟨v, hv⟩ := h3
        have := World.cell?_spot hv
        simpa [Addr.add] using this
      obtain ⟨b, off, spot⟩ := a'
      simp at hspot; subst hspot
      refine ⟨b, off, rfl, fun i hi j hj => ?_⟩
      obtain ⟨h1, h2⟩ := (hex i).choose_spec hi
      obtain ⟨_, _, hg⟩ := World.cells?_some h1
      have := hg j (by omega)
      have e1 : ((⟨b, off, none⟩ : Addr).add (i * P.cellsOf e)).add j = ⟨b, off + (i * ks.length + j), none⟩ := by
        rw [hc]
        exact add_two b off _ j
      rw [e1] at this
      rw [this]
      congr 1
      simp [List.getD, hi]
end

/-- Behind a call that leaves alone what was there. -/
theorem bcell {W w1 : World} (hb : Below W.heap.size W w1) : (∀ b o, b < W.heap.size → w1.cell? ⟨b, o, none⟩ = W.cell? ⟨b, o, none⟩) ∧ (∀ b o, b < W.heap.size → w1.frozen? ⟨b, o, none⟩ = W.frozen? ⟨b, o, none⟩) ∧ (∀ b, b < W.heap.size → b < w1.heap.size) :=
  ⟨fun b o h => hb.cell (p := ⟨b, o, none⟩) h, fun b o h => hb.frozen (p := ⟨b, o, none⟩) h, fun _ h => Nat.lt_of_lt_of_le h hb.size⟩

theorem bw_via {w W w1 : World} (hb : Below W.heap.size W w1) (h : Below w.heap.size w W) : Below w.heap.size w w1 := h.trans (hb.mono h.size)
theorem bw_alloc {w W : World} {o : Obj} (h : Below w.heap.size w W) : Below w.heap.size w (W.alloc o) := h.alloc h.size o
theorem bw_drew {w W : World} (h : Below w.heap.size w W) : Below w.heap.size w W.drew := h.drew
theorem bw_drewN {w W : World} {n : Nat} (h : Below w.heap.size w W) : Below w.heap.size w (W.drewN n) := ⟨h.os, h.tape, h.output, h.size, h.block⟩
theorem bw_set {w W : World} {p : Addr} {v : Value} (h : Below w.heap.size w W) (hp : w.heap.size ≤ p.block) : Below w.heap.size w (W.setCell p v) := h.setCell hp v

/-- What was there stays, in a region that draws its order. -/
theorem still_keep {W wc w2 : World} (h : Below W.heap.size W wc ∧ ∀ b o, b < W.heap.size → wc.cell? ⟨b, o, none⟩ = W.cell? ⟨b, o, none⟩) (hb : Below wc.heap.size wc w2) :
    Below W.heap.size W w2 ∧ ∀ b o, b < W.heap.size → w2.cell? ⟨b, o, none⟩ = W.cell? ⟨b, o, none⟩ :=
  have k := h.1.trans (hb.mono h.1.size)
  ⟨k, fun b o hlt => k.cell (p := ⟨b, o, none⟩) hlt⟩
theorem still_start (W : World) : Below W.heap.size W W ∧ ∀ b o, b < W.heap.size → W.cell? ⟨b, o, none⟩ = W.cell? ⟨b, o, none⟩ := ⟨Below.refl _ _, fun _ _ _ => rfl⟩
theorem still_drew (W : World) : Below W.heap.size W W.drew ∧ ∀ b o, b < W.heap.size → W.drew.cell? ⟨b, o, none⟩ = W.cell? ⟨b, o, none⟩ := ⟨(Below.refl _ _).drew, fun _ _ _ => rfl⟩

theorem cell_lt {w : World} {b o : Nat} {v : Value} (h : w.cell? ⟨b, o, none⟩ = some v) : b < w.heap.size := by
  unfold World.cell? at h
  split at h
  · rename_i hb
    exact (Array.getElem?_eq_some_iff.mp hb).1
  · simp at h

theorem stay {wo v : World} {b o : Nat} {x : Value} (hb : Below wo.heap.size wo v) (hlt : b < wo.heap.size) (h : wo.cell? ⟨b, o, none⟩ = some x) : v.cell? ⟨b, o, none⟩ = some x :=
  (hb.cell (p := ⟨b, o, none⟩) hlt).trans h
theorem stayf {wo v : World} {b o : Nat} {x : Bool} (hb : Below wo.heap.size wo v) (hlt : b < wo.heap.size) (h : wo.frozen? ⟨b, o, none⟩ = x) : v.frozen? ⟨b, o, none⟩ = x :=
  (hb.frozen (p := ⟨b, o, none⟩) hlt).trans h

/-- A new block, under a name for the world behind it. -/
theorem alloc_facts {v v6 : World} {cs : Array Value} {t : TypeId} (h : v.alloc (.cells cs t) = v6) :
    Below v.heap.size v v6 ∧ v.heap.size < v6.heap.size ∧ (∀ i, v6.cell? ⟨v.heap.size, i, none⟩ = cs[i]?) := by
  subst h
  refine ⟨(Below.refl _ _).alloc (Nat.le_refl _) _, by simp, fun i => ?_⟩
  exact World.cell?_alloc_new ..
end Go.Proofs.Ytdlfjbllmmkmkaa.Flat
