/- What the program's reader takes: bytes, and numbers. -/
import Derived.Test.YtajnaiofagppeaaDoorCodeEnc
import Derived.Laws.BytesArg
import Derived.Laws.BitsLemmas
namespace Go.Proofs.YtajnaiofagppeaaDoor.CodeMem
open Go.RowKit CodeSpec Flat
set_option linter.unusedSimpArgs false
set_option linter.unusedVariables false
set_option maxRecDepth 100000

/-- Bytes that lie at an address, in a block below B. -/
def IsB (w : World) (B : Nat) (a : Option Addr) (l : List UInt8) : Prop :=
  0 < l.length → ∃ b off, a = some ⟨b, off, none⟩ ∧ b < B ∧ ∀ i (h : i < l.length), w.cell? ⟨b, off + i, none⟩ = some (.int .u8 (l[i].toNat : Int))
theorem IsB.take {w : World} {B : Nat} {a : Option Addr} {l : List UInt8} (h : IsB w B a l) (n : Nat) : IsB w B a (l.take n) := by
  intro hl
  have hlt : (l.take n).length ≤ l.length := by rw [List.length_take]; omega
  obtain ⟨b, off, rfl, hb, hc⟩ := h (by omega)
  exact ⟨b, off, rfl, hb, fun i hi => by rw [hc i (by omega), List.getElem_take]⟩
theorem IsB.drop {w : World} {B : Nat} {a : Option Addr} {l : List UInt8} (h : IsB w B a l) (n : Nat) : IsB w B (a.map fun x => x.add n) (l.drop n) := by
  intro hl
  rw [List.length_drop] at hl
  obtain ⟨b, off, rfl, hb, hc⟩ := h (by omega)
  refine ⟨b, off + n, ?_, hb, fun i hi => ?_⟩
  · simp only [Option.map_some]
    unfold Addr.add
    split <;> simp_all
  · rw [List.length_drop] at hi
    rw [List.getElem_drop, ← hc (n + i) (by omega)]
    congr 2
    omega
theorem IsB.nil (w : World) (B : Nat) (a : Option Addr) : IsB w B a [] := fun h => absurd h (by simp)
theorem IsB.kept {w w' : World} {B : Nat} {a : Option Addr} {l : List UInt8} (h : IsB w B a l) (hk : ∀ b o, b < B → w'.cell? ⟨b, o, none⟩ = w.cell? ⟨b, o, none⟩) : IsB w' B a l := by
  intro hl
  obtain ⟨b, off, ha, hb, hc⟩ := h hl
  exact ⟨b, off, ha, hb, fun i hi => (hk b _ hb).trans (hc i hi)⟩

/-- A reader at block r, before these bytes. -/
structure Rd (w : World) (B r : Nat) (l : List UInt8) (short : Bool) : Prop where
  c0 : ∃ a cap, w.cell? ⟨r, 0, none⟩ = some (.slice a l.length cap) ∧ l.length ≤ cap ∧ cap ≤ maxLen ∧ IsB w B a l
  c1 : w.cell? ⟨r, 1, none⟩ = some (.bool short)
  f0 : w.frozen? ⟨r, 0, none⟩ = false
  f1 : w.frozen? ⟨r, 1, none⟩ = false
  lo : B ≤ r
theorem Rd.lt {w : World} {B r : Nat} {l : List UInt8} {short : Bool} (h : Rd w B r l short) : r < w.heap.size := Flat.cell_lt h.c1
theorem Rd.kept {w w' : World} {B r : Nat} {l : List UInt8} {short : Bool} {row : Option Nat} (h : Rd w B r l short) (hg : w.grownBy w' row) (hr : some r ≠ row) (hB : ∀ k, row = some k → B ≤ k) : Rd w' B r l short := by
  have hlt := h.lt
  have hlo := h.lo
  obtain ⟨a, cap, h0, h1, h2, h3⟩ := h.c0
  refine ⟨⟨a, cap, (hg.cell_far _ hlt hr).trans h0, h1, h2, h3.kept fun b o hb => hg.cell_far ⟨b, o, none⟩ (by show b < _; omega) (fun e => by have := hB b e.symm; omega)⟩, (hg.cell_far _ hlt hr).trans h.c1, (hg.frozen_far _ hlt hr).trans h.f0, (hg.frozen_far _ hlt hr).trans h.f1, hlo⟩
theorem grown_set (w : World) (p : Addr) (v : Value) : w.grownBy (w.setCell p v) (some p.block) :=
  ⟨rfl, rfl, rfl, by simp, fun k _ hne => Below.heap_setCell _ _ _ _ (fun h => hne (by rw [h]))⟩

def TakePost (w : World) (B r : Nat) (l : List UInt8) (n : Nat) (e : Ending) (w' : World) : Prop :=
  ∃ a cap, e = .returned (.slice a n cap) ∧ IsB w' B a (l.take n) ∧ Rd w' B r (l.drop n) false ∧ w.grownBy w' (some r)
set_option maxHeartbeats 1000000 in
theorem take_ok (w : World) (B r : Nat) (l : List UInt8) (n : Nat) (ni : Int) (hni : ni = n) (hr : Rd w B r l false) (hn : n ≤ l.length) :
    Calls Tryd.prog 64 #[.pointer (some ⟨r, 0, none⟩), .int .i64 ni] w (TakePost w B r l n) := by
  subst hni
  obtain ⟨a, cap, c0, hlc, hc, hib⟩ := hr.c0
  have c1 := hr.c1
  have f0 := hr.f0
  have fin : ∀ a', (a' = a ∧ cap = n) ∨ (a' = a.map fun x => x.add n) → IsB (w.setCell ⟨r, 0, none⟩ (.slice a' (l.length - n) (cap - n))) B a (l.take n) ∧ Rd (w.setCell ⟨r, 0, none⟩ (.slice a' (l.length - n) (cap - n))) B r (l.drop n) false ∧ w.grownBy (w.setCell ⟨r, 0, none⟩ (.slice a' (l.length - n) (cap - n))) (some r) := by
    intro a' ha'
    have hk : ∀ b o, b < B → (w.setCell ⟨r, 0, none⟩ (.slice a' (l.length - n) (cap - n))).cell? ⟨b, o, none⟩ = w.cell? ⟨b, o, none⟩ := fun b o hb =>
      World.cell?_setCell_other _ _ _ _ (by have := hr.lo; simp <;> omega)
    have hd : IsB w B a' (l.drop n) := by
      rcases ha' with ⟨rfl, h2⟩ | rfl
      · rw [List.drop_of_length_le (by omega)]; exact IsB.nil _ _ _
      · exact hib.drop n
    refine ⟨(hib.take n).kept hk, ⟨⟨a', cap - n, ?_, by rw [List.length_drop]; omega, by omega, hd.kept hk⟩, ?_, by simp [hr.f0], by simp [hr.f1], hr.lo⟩, grown_set _ _ _⟩
    · rw [World.cell?_setCell_same _ _ _ c0, List.length_drop]
    · rw [World.cell?_setCell_other _ _ _ _ (by simp)]; exact c1
  have FIN := Lib.hid fin
  clear fin hr hib
  have hcm := hc
  unfold maxLen at hcm
  have hnI : ¬ (l.length : Int) < (n : Int) := by omega
  go_enter Tryd.func64, Tryd.ntmps64
  go_wp2
  all_goals go_ret
  all_goals first
    | exact ⟨_, _, rfl, FIN.out _ (.inr rfl)⟩
    | (have h3 := FIN.out a (.inl ⟨rfl, by omega⟩)
       have e0 : cap - n = 0 := by omega
       rw [e0] at h3
       exact ⟨_, _, rfl, h3⟩)

set_option maxHeartbeats 1000000 in
theorem take_short (w : World) (B r : Nat) (l : List UInt8) (n : Nat) (ni : Int) (hni : ni = n) (short : Bool) (hr : Rd w B r l short) (hn : short = true ∨ l.length < n) (hn2 : n < 100000) :
    Calls Tryd.prog 64 #[.pointer (some ⟨r, 0, none⟩), .int .i64 ni] w fun e w' =>
      e = .returned (.slice none 0 0) ∧ Rd w' B r l true ∧ w.grownBy w' (some r) := by
  subst hni
  obtain ⟨a, cap, c0, hlc, hc, hib⟩ := hr.c0
  have c1 := hr.c1
  have f1 := hr.f1
  have fin : Rd (w.setCell ⟨r, 1, none⟩ (.bool true)) B r l true ∧ w.grownBy (w.setCell ⟨r, 1, none⟩ (.bool true)) (some r) := by
    have hk : ∀ b o, b < B → (w.setCell ⟨r, 1, none⟩ (.bool true)).cell? ⟨b, o, none⟩ = w.cell? ⟨b, o, none⟩ := fun b o hb =>
      World.cell?_setCell_other _ _ _ _ (by have := hr.lo; simp <;> omega)
    refine ⟨⟨⟨a, cap, ?_, hlc, hc, hib.kept hk⟩, World.cell?_setCell_same _ _ _ c1, by simp [hr.f0], by simp [hr.f1], hr.lo⟩, grown_set _ _ _⟩
    rw [World.cell?_setCell_other _ _ _ _ (by simp)]; exact c0
  have FIN := Lib.hid fin
  clear fin hr hib
  have hcm := hc
  unfold maxLen at hcm
  cases short with
  | true =>
    go_enter Tryd.func64, Tryd.ntmps64
    go_wp2
    go_ret
    exact ⟨rfl, FIN.out⟩
  | false =>
    have hnI : (l.length : Int) < (n : Int) := by rcases hn with h | h; · cases h
                                                  · omega
    go_enter Tryd.func64, Tryd.ntmps64
    go_wp2
    go_ret
    exact ⟨rfl, FIN.out⟩

theorem wraps_u64 (n : Int) (h₀ : 0 ≤ n) (h₁ : n < 2 ^ 64) : IntKind.u64.wrap n = n := by
  simp [IntKind.wrap, IntKind.bits, IntKind.signed]
  omega
theorem u64_or8 (x y : Int) (hx₀ : 0 ≤ x) (hx : x % 256 = 0) (hx₁ : x < 18446744073709551616) (h₀ : 0 ≤ y) (h₁ : y < 256) : bits .or .u64 x y = x + y :=
  bits_join .u64 64 (by decide) wraps_u64 8 x y hx₀ (by simpa using hx) (by simpa using hx₁) h₀ (by simpa using h₁) (by simp; omega)
set_option maxHeartbeats 1000000 in
theorem rd_number_short (w : World) (B r : Nat) (l : List UInt8) (n : Nat) (ni : Int) (hni : ni = n) (short : Bool) (hr : Rd w B r l short) (hn : short = true ∨ l.length < n) (hn2 : n < 100000) :
    Calls Tryd.prog 63 #[.pointer (some ⟨r, 0, none⟩), .int .i64 ni] w fun e w' =>
      e = .returned (.int .u64 0) ∧ Rd w' B r l true ∧ w.grownBy w' (some r) := by
  subst hni
  have HT := take_short w B r l n _ rfl short hr hn hn2
  clear hr hn hn2
  go_enter Tryd.func63, Tryd.ntmps63
  go_wp2_with (go_at_call 64; refine HT.mono ?_; rintro e w1 ⟨rfl, hr1, hg1⟩)
  refine wp_loop_rounds 1 ?_
  rw [rounds_succ]
  go_wp2
  go_ret
  exact ⟨rfl, hr1, hg1⟩

set_option maxHeartbeats 1000000 in
theorem rd_number_ok (w : World) (B r : Nat) (l : List UInt8) (n : Nat) (ni : Int) (hni : ni = n) (hr : Rd w B r l false) (hn : n ≤ l.length) (h8 : n ≤ 8) :
    Calls Tryd.prog 63 #[.pointer (some ⟨r, 0, none⟩), .int .i64 ni] w fun e w' =>
      e = .returned (.int .u64 (val (l.take n) : Nat)) ∧ Rd w' B r (l.drop n) false ∧ w.grownBy w' (some r) := by
  subst hni
  have h8I : (n : Int) ≤ 8 := by omega
  have HT := take_ok w B r l n _ rfl hr hn
  clear hr
  go_enter Tryd.func63, Tryd.ntmps63
  go_wp2_with (go_at_call 64; refine HT.mono ?_; rintro e w1 ⟨a, cap, rfl, hib, hr1, hg1⟩)
  go_loop [5, 12] (fun q i => ∃ k : Nat, k ≤ n ∧ i = .int .i64 k ∧ q = .int .u64 ((val (l.take k) : Nat) : Int)) (fun _ i => n - (intOf i).toNat)
  case atStart => exact ⟨0, Nat.zero_le _, rfl, rfl⟩
  case round =>
    obtain ⟨k, hk, rfl, rfl⟩ := hrel
    by_cases hkl : k < n
    · have hkI : (k : Int) < (n : Int) := by omega
      have hlt : (l.take n).length = n := by rw [List.length_take]; omega
      obtain ⟨b, off, hab, hb, hc⟩ := hib (by omega)
      subst hab
      have d0 := hc k (by omega)
      rw [List.getElem_take] at d0
      have hsn := val_snoc (l.take k) (l[k]'(by omega))
      rw [← List.take_succ_eq_append_getElem (by omega)] at hsn
      have HSN := Lib.hid hsn
      have hv := val_lt (l.take k)
      have hvl : (l.take k).length = k := by rw [List.length_take]; omega
      rw [hvl] at hv
      have hp : 256 ^ k ≤ 256 ^ 7 := Nat.pow_le_pow_right (by decide) (by omega)
      have hv2 : val (l.take k) < 72057594037927936 := Nat.lt_of_lt_of_le hv hp
      have hcl := (l[k]'(by omega)).toNat_lt
      clear hc hsn hp hv hib
      generalize l[k]'(by omega) = c at *
      generalize val (l.take k) = q at *
      go_wp2
      go_round
      case rel => 
        refine ⟨k + 1, by omega, by go_num, ?_⟩
        rw [HSN.out, u64_or8 _ _ (by omega) (by omega) (by omega) (by omega) (by omega)]
        simp
      case measure => simp [intOf]; omega
    · obtain rfl : k = n := by omega
      go_wp2
      go_ret
      exact ⟨rfl, hr1, hg1⟩
end Go.Proofs.YtajnaiofagppeaaDoor.CodeMem
