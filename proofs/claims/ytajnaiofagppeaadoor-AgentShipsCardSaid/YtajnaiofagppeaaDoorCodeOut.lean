/- The codes' contracts, as the statements of other packages use them. -/
import Derived.Test.YtajnaiofagppeaaDoorCodeRDec
import Derived.OpenShut
namespace Go.Proofs.YtajnaiofagppeaaDoor.CodeMem
open Go.RowKit CodeSpec Flat
set_option linter.unusedSimpArgs false
set_option linter.unusedVariables false
set_option maxRecDepth 100000

theorem vals_below {w w' : World} {v : Value} {vs : List V} (h : IsVals w v vs) (hb : Below w.heap.size w w') : IsVals w' v vs := by
  obtain ⟨a, cap, hv, hm, hall, hc⟩ := h
  refine ⟨a, cap, hv, hm, hall, fun hl => ?_⟩
  obtain ⟨b, off, ha, hb2, hd⟩ := hc hl
  exact ⟨b, off, ha, Nat.lt_of_lt_of_le hb2 hb.size, fun i hi => ⟨(hb.cell (p := ⟨b, _, none⟩) hb2).trans (hd i hi).1, (hb.cell (p := ⟨b, _, none⟩) hb2).trans (hd i hi).2⟩⟩

theorem ownv_read {w : World} {B : Nat} {v : Value} {l : List V} (h : OwnV w B v l) (hl : 0 < l.length) :
    ∃ g cap, v = .slice (some ⟨g, 0, none⟩) l.length cap ∧ l.length ≤ cap ∧ B ≤ g ∧ g < w.heap.size ∧ ∀ i (h : i < l.length), w.cell? ⟨g, i * 2, none⟩ = some (.int .u64 (l[i].n : Int)) ∧ w.cell? ⟨g, i * 2 + 1, none⟩ = some (.string l[i].s) := by
  have hc := fun g => World.ownsRow.cells (g := g) h
  have hlt := h.lt
  rcases h.2 with ⟨h1, h2⟩ | ⟨g, cap, cur, h1, _, _, h3, _⟩
  · omega
  · subst h1
    refine ⟨g, cap, rfl, h3, (hlt g rfl).1, (hlt g rfl).2, fun i hi => ?_⟩
    have hg := vcells_get l i hi
    have e : ∀ j, ((⟨g, 0, none⟩ : Addr).add j) = ⟨g, j, none⟩ := fun j => by unfold Addr.add; split <;> simp_all
    have h1 := hc g rfl (i * 2) _ hg.1
    have h2 := hc g rfl (i * 2 + 1) _ hg.2
    rw [e] at h1 h2
    exact ⟨h1, h2⟩

theorem IsB.mono {w : World} {B B' : Nat} {a : Option Addr} {l : List UInt8} (h : IsB w B a l) (hb : B ≤ B') : IsB w B' a l := by
  intro hl
  obtain ⟨b, off, ha, h1, h2⟩ := h hl
  exact ⟨b, off, ha, by omega, h2⟩

def EncUse (T : List UInt8 × Int) (w : World) (e : Ending) (w' : World) : Prop :=
  ∃ a cap, e = .returned (.tuple #[.slice a T.1.length cap, .int .i64 T.2]) ∧ T.1.length ≤ cap ∧ cap ≤ maxLen ∧ IsB w' w'.heap.size a T.1 ∧ Below w.heap.size w w'
theorem enc_use {T : List UInt8 × Int} {w w' : World} {e : Ending} (h : EncPost T w e w') : EncUse T w e w' := by
  obtain ⟨v, rfl, ho, hb⟩ := h
  obtain ⟨a, cap, rfl, h1, h2, h3⟩ := own_isB ho
  exact ⟨a, cap, rfl, h1, h2, h3, hb⟩
theorem encode_use (s : ByteArray) (v : Value) (vs : List V) (w : World) (hs : s.size ≤ maxLen) (hv : IsVals w v vs) :
    Calls Tryd.prog 27 #[.string s, v] w (EncUse (enc s.data.toList vs) w) := (encode_any s v vs w hs hv).mono fun _ _ h => enc_use h
theorem rencode_use (s : ByteArray) (v : Value) (vs : List V) (w : World) (hs : s.size ≤ maxLen) (hv : IsVals w v vs) :
    Calls Tryd.prog 31 #[.string s, v] w (EncUse (enc s.data.toList vs) w) := (rencode_any s v vs w hs hv).mono fun _ _ h => enc_use h

theorem dec_bound (sh b : List UInt8) : (dec sh b).1.length ≤ 100 ∧ ∀ x ∈ (dec sh b).1, x.n < 18446744073709551616 ∧ x.s.size ≤ maxLen := by
  rcases dec_err sh b with ⟨vs, h⟩ | ⟨h, _⟩ | ⟨h, _⟩
  · obtain ⟨h1, h2, _⟩ := dec_ok.mp h
    have h3 := loose_parse sh b 0 vs [] (by simpa using h2)
    rw [h]
    simp only
    refine ⟨?_, by rw [← h3]; exact loose_bound sh b 0⟩
    rw [← h3, loose_len]
    unfold shapeB at h1
    simp only [Bool.and_eq_true, decide_eq_true_eq] at h1
    exact h1.2
  · rw [h]; exact ⟨by simp, by simp⟩
  · rw [h]; exact ⟨by simp, by simp⟩
def DecUse (T : List V × Int) (w : World) (e : Ending) (w' : World) : Prop := ∃ v, e = .returned (.tuple #[v, .int .i64 T.2]) ∧ IsVals w' v T.1 ∧ T.1.length ≤ 100 ∧ Below w.heap.size w w'
theorem decode_use (s : ByteArray) (a : Option Addr) (l : List UInt8) (cap : Nat) (w : World) (hs : s.size ≤ maxLen) (hib : IsB w w.heap.size a l) (hlc : l.length ≤ cap) (hcm : cap ≤ maxLen) :
    Calls Tryd.prog 33 #[.string s, .slice a l.length cap] w (DecUse (dec s.data.toList l) w) :=
  (decode_any s a l cap w hs hib hlc hcm).mono fun _ _ ⟨v, he, ho, hb⟩ =>
    ⟨v, he, row_vals ho (by have := (dec_bound s.data.toList l).1; unfold maxLen; omega) (dec_bound s.data.toList l).2, (dec_bound s.data.toList l).1, hb⟩
theorem rdecode_use (s : ByteArray) (a : Option Addr) (l : List UInt8) (cap : Nat) (w : World) (hs : s.size ≤ maxLen) (hib : IsB w w.heap.size a l) (hlc : l.length ≤ cap) (hcm : cap ≤ maxLen) :
    Calls Tryd.prog 36 #[.string s, .slice a l.length cap] w (DecUse (dec s.data.toList l) w) :=
  (rdecode_any s a l cap w hs hib hlc hcm).mono fun _ _ ⟨v, he, ho, hb⟩ =>
    ⟨v, he, row_vals ho (by have := (dec_bound s.data.toList l).1; unfold maxLen; omega) (dec_bound s.data.toList l).2, (dec_bound s.data.toList l).1, hb⟩
/-- Values that came in. -/
theorem rows_vals {w : World} {a : Option Addr} {len cap : Nat} {r : List (List Value)} (h : IsRows [.int .u64, .str] w a len cap r) : ∃ vs : List V, vs.length = len ∧ IsVals w (.slice a len cap) vs := by
  obtain ⟨hl, hlc, hcm, hf, hc⟩ := h
  have key : ∀ rows : List (List Value), (∀ x ∈ rows, Fits [.int .u64, .str] x) → ∃ vs : List V, vs.length = rows.length ∧ (∀ x ∈ vs, x.n < 18446744073709551616 ∧ x.s.size ≤ maxLen) ∧
      ∀ i (h : i < vs.length), rows.getD i [] = [.int .u64 (vs[i].n : Int), .string vs[i].s] := by
    intro rows
    induction rows with
    | nil => intro _; exact ⟨[], rfl, by simp, fun i hi => absurd hi (by simp)⟩
    | cons row rows ih =>
      intro hall
      obtain ⟨vs, h1, h2, h3⟩ := ih (fun x hx => hall x (List.mem_cons_of_mem _ hx))
      obtain ⟨n, _, rfl, wn, x1⟩ := (hall row (by simp)).int
      obtain ⟨s, _, rfl, ws, x2⟩ := x1.str
      obtain rfl := x2.done
      obtain ⟨b1, b2⟩ := bounds_u64 wn
      obtain ⟨m, rfl⟩ := Int.eq_ofNat_of_zero_le b1
      refine ⟨⟨m, s⟩ :: vs, by simp [h1], ?_, ?_⟩
      · intro x hx
        rcases List.mem_cons.mp hx with rfl | hx
        · exact ⟨by show m < _; omega, ws⟩
        · exact h2 x hx
      · intro i hi
        cases i with
        | zero => rfl
        | succ i => exact h3 i (by simpa using hi)
  obtain ⟨vs, h1, h2, h3⟩ := key r hf
  have hvl : vs.length = len := by rw [h1, hl]
  refine ⟨vs, hvl, a, cap, by rw [hvl], by rw [hvl]; exact Nat.le_trans hlc hcm, h2, fun hpos => ?_⟩
  obtain ⟨b, off, ha, hd⟩ := hc (by omega)
  have hd0 : ∀ i (h : i < vs.length), w.cell? ⟨b, off + i * 2, none⟩ = some (.int .u64 (vs[i].n : Int)) ∧ w.cell? ⟨b, off + i * 2 + 1, none⟩ = some (.string vs[i].s) := fun i hi => by
    have e0 := hd i (by omega) 0 (by decide)
    have e1 := hd i (by omega) 1 (by decide)
    rw [h3 i hi] at e0 e1
    exact ⟨e0, e1⟩
  exact ⟨b, off, ha, Flat.cell_lt (hd0 0 hpos).1, hd0⟩
/-- Bytes that came in. -/
theorem rows_bytes {w : World} {a : Option Addr} {len cap : Nat} {r : List (List Value)} (h : IsRows [.int .u8] w a len cap r) : ∃ l : List UInt8, l.length = len ∧ len ≤ cap ∧ cap ≤ maxLen ∧ IsB w w.heap.size a l := by
  obtain ⟨hl, hlc, hcm, hf, hc⟩ := h
  have key : ∀ rows : List (List Value), (∀ x ∈ rows, Fits [.int .u8] x) → ∃ l : List UInt8, l.length = rows.length ∧ ∀ i (h : i < l.length), rows.getD i [] = [.int .u8 (l[i].toNat : Int)] := by
    intro rows
    induction rows with
    | nil => intro _; exact ⟨[], rfl, fun i hi => absurd hi (by simp)⟩
    | cons row rows ih =>
      intro hall
      obtain ⟨l, h1, h3⟩ := ih (fun x hx => hall x (List.mem_cons_of_mem _ hx))
      obtain ⟨n, _, rfl, wn, x1⟩ := (hall row (by simp)).int
      obtain rfl := x1.done
      obtain ⟨b1, b2⟩ := bounds_u8 wn
      refine ⟨UInt8.ofNat n.toNat :: l, by simp [h1], ?_⟩
      intro i hi
      cases i with
      | zero =>
        have : ((UInt8.ofNat n.toNat).toNat : Int) = n := by
          rw [UInt8.toNat_ofNat']
          omega
        show [Value.int .u8 n] = [.int .u8 ((UInt8.ofNat n.toNat).toNat : Int)]
        rw [this]
      | succ i => exact h3 i (by simpa using hi)
  obtain ⟨l, h1, h3⟩ := key r hf
  have hll : l.length = len := by rw [h1, hl]
  refine ⟨l, hll, hlc, hcm, fun hpos => ?_⟩
  obtain ⟨b, off, ha, hd⟩ := hc (by omega)
  have hd0 : ∀ i (h : i < l.length), w.cell? ⟨b, off + i, none⟩ = some (.int .u8 (l[i].toNat : Int)) := fun i hi => by
    have e0 := hd i (by omega) 0 (by decide)
    rw [h3 i hi] at e0
    simpa using e0
  exact ⟨b, off, ha, Flat.cell_lt (hd0 0 hpos), hd0⟩
theorem isB_below {w w' : World} {B : Nat} {a : Option Addr} {l : List UInt8} (h : IsB w B a l) (hB : B ≤ w.heap.size) (hb : Below w.heap.size w w') : IsB w' B a l :=
  h.kept fun b o hlt => hb.cell (p := ⟨b, o, none⟩) (Nat.lt_of_lt_of_le hlt hB)
theorem isB_up {w w' : World} {a : Option Addr} {l : List UInt8} (h : IsB w w.heap.size a l) (hb : Below w.heap.size w w') : IsB w' w'.heap.size a l :=
  (isB_below h (Nat.le_refl _) hb).mono hb.size
end Go.Proofs.YtajnaiofagppeaaDoor.CodeMem
