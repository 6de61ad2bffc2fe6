/- A note's bytes, in plain Lean. -/
import Derived.Test.YtbkkomknajgpdaaDoorNote
namespace Go.Proofs.YtbkkomknajgpdaaDoor.NoteNum
open Go.RowKit CodeSpec SumSpec NoteSpec Flat CodeMem SumMem
set_option linter.unusedSimpArgs false
set_option linter.unusedVariables false
set_option maxRecDepth 100000

def nshape : List UInt8 := [97, 97, 98, 99, 97, 97, 97, 97, 99, 116]
def nvals (k m tx ep v mk mf mt me : Nat) (mc : ByteArray) : List V := [⟨k, noS⟩, ⟨m, noS⟩, ⟨tx, noS⟩, ⟨ep, noS⟩, ⟨v, noS⟩, ⟨mk, noS⟩, ⟨mf, noS⟩, ⟨mt, noS⟩, ⟨me, noS⟩, ⟨0, mc⟩]
def nbytes (k m tx ep v mk mf mt me : Nat) (mc : ByteArray) : List UInt8 :=
  be 1 k ++ (be 1 m ++ (be 2 tx ++ (be 4 ep ++ (be 1 v ++ (be 1 mk ++ (be 1 mf ++ (be 1 mt ++ (be 4 me ++ (be 2 mc.size ++ mc.data.toList)))))))))
theorem noS_empty : noS = ByteArray.empty := rfl
theorem fit_num {c : UInt8} {x M : Nat} (hc : c ≠ 116) (hM : 256 ^ wd c = M) (h : x < M) : fits c ⟨x, noS⟩ = true := by
  rw [fits, if_neg hc, hM]
  simp [noS_empty, h]
theorem nenc {k m tx ep v mk mf mt me : Nat} {mc : ByteArray} (h1 : k < 256) (h2 : m < 256) (h3 : tx < 65536) (h4 : ep < 4294967296) (h5 : v < 256) (h6 : mk < 256) (h7 : mf < 256) (h8 : mt < 256) (h9 : me < 4294967296) (h10 : mc.size ≤ 2000) :
    enc nshape (nvals k m tx ep v mk mf mt me mc) = (nbytes k m tx ep v mk mf mt me mc, 0) := by
  have f1 : ∀ x, x < 256 → fits 97 ⟨x, noS⟩ = true := fun x h => fit_num (by decide) rfl h
  have f2 : ∀ x, x < 65536 → fits 98 ⟨x, noS⟩ = true := fun x h => fit_num (by decide) rfl h
  have f4 : ∀ x, x < 4294967296 → fits 99 ⟨x, noS⟩ = true := fun x h => fit_num (by decide) rfl h
  have ft : fits 116 ⟨0, mc⟩ = true := by
    rw [fits, if_pos rfl]
    simp only [decide_true, Bool.true_and, decide_eq_true_eq]
    exact h10
  refine enc_ok.mpr ⟨by decide, ?_, ?_⟩
  · unfold nshape nvals nbytes
    rw [encL, if_pos (f1 _ h1), encL, if_pos (f1 _ h2), encL, if_pos (f2 _ h3), encL, if_pos (f4 _ h4), encL, if_pos (f1 _ h5), encL, if_pos (f1 _ h6), encL, if_pos (f1 _ h7), encL, if_pos (f1 _ h8), encL, if_pos (f4 _ h9), encL, if_pos ft]
    simp [one, wd, encL]
  · have hz : mc.data.toList.length = mc.size := size_toList mc
    unfold nbytes
    simp only [List.length_append, length_be, hz]
    omega

theorem fit_out {c : UInt8} {x : V} {M : Nat} (hc : c ≠ 116) (hM : 256 ^ wd c = M) (h : fits c x = true) : x = ⟨x.n, noS⟩ ∧ x.n < M := by
  rw [fits, if_neg hc, hM] at h
  simp only [Bool.and_eq_true, decide_eq_true_eq] at h
  refine ⟨?_, h.2⟩
  obtain ⟨n, s⟩ := x
  have : s = noS := by
    apply ByteArray.ext
    exact Array.eq_empty_of_size_eq_zero h.1
  rw [this]
theorem encL_cons {c : UInt8} {cs : List UInt8} {vs : List V} {o : List UInt8} (h : encL (c :: cs) vs = some o) : ∃ x xs o2, vs = x :: xs ∧ fits c x = true ∧ encL cs xs = some o2 := by
  cases vs with
  | nil => simp [encL] at h
  | cons x xs =>
    rw [encL] at h
    split at h
    · rename_i hf
      cases h2 : encL cs xs with
      | none => rw [h2] at h; simp at h
      | some o2 => exact ⟨x, xs, o2, rfl, hf, h2⟩
    · cases h
theorem ndec {b : List UInt8} {vs : List V} (h : dec nshape b = (vs, 0)) : ∃ k m tx ep v mk mf mt me : Nat, ∃ mc : ByteArray, vs = nvals k m tx ep v mk mf mt me mc ∧ k < 256 ∧ m < 256 ∧ tx < 65536 ∧ ep < 4294967296 ∧ v < 256 ∧ mk < 256 ∧ mf < 256 ∧ mt < 256 ∧ me < 4294967296 ∧ mc.size ≤ 2000 := by
  obtain ⟨_, h2, _⟩ := enc_ok.mp (enc_dec h)
  unfold nshape at h2
  obtain ⟨x1, r1, _, rfl, f1, h2⟩ := encL_cons h2
  obtain ⟨x2, r2, _, rfl, f2, h2⟩ := encL_cons h2
  obtain ⟨x3, r3, _, rfl, f3, h2⟩ := encL_cons h2
  obtain ⟨x4, r4, _, rfl, f4, h2⟩ := encL_cons h2
  obtain ⟨x5, r5, _, rfl, f5, h2⟩ := encL_cons h2
  obtain ⟨x6, r6, _, rfl, f6, h2⟩ := encL_cons h2
  obtain ⟨x7, r7, _, rfl, f7, h2⟩ := encL_cons h2
  obtain ⟨x8, r8, _, rfl, f8, h2⟩ := encL_cons h2
  obtain ⟨x9, r9, _, rfl, f9, h2⟩ := encL_cons h2
  obtain ⟨x10, r10, _, rfl, f10, h2⟩ := encL_cons h2
  have e : r10 = [] := by
    cases r10 with
    | nil => rfl
    | cons a l => simp [encL] at h2
  subst e
  obtain ⟨e1, g1⟩ := fit_out (M := 256) (by decide) rfl f1
  obtain ⟨e2, g2⟩ := fit_out (M := 256) (by decide) rfl f2
  obtain ⟨e3, g3⟩ := fit_out (M := 65536) (by decide) rfl f3
  obtain ⟨e4, g4⟩ := fit_out (M := 4294967296) (by decide) rfl f4
  obtain ⟨e5, g5⟩ := fit_out (M := 256) (by decide) rfl f5
  obtain ⟨e6, g6⟩ := fit_out (M := 256) (by decide) rfl f6
  obtain ⟨e7, g7⟩ := fit_out (M := 256) (by decide) rfl f7
  obtain ⟨e8, g8⟩ := fit_out (M := 256) (by decide) rfl f8
  obtain ⟨e9, g9⟩ := fit_out (M := 4294967296) (by decide) rfl f9
  rw [fits, if_pos rfl] at f10
  simp only [Bool.and_eq_true, decide_eq_true_eq] at f10
  obtain ⟨n10, s10⟩ := x10
  obtain ⟨f10, g10⟩ := f10
  simp only at f10 g10
  subst f10
  refine ⟨x1.n, x2.n, x3.n, x4.n, x5.n, x6.n, x7.n, x8.n, x9.n, s10, ?_, g1, g2, g3, g4, g5, g6, g7, g8, g9, g10⟩
  rw [nvals, ← e1, ← e2, ← e3, ← e4, ← e5, ← e6, ← e7, ← e8, ← e9]
end Go.Proofs.YtbkkomknajgpdaaDoor.NoteNum
