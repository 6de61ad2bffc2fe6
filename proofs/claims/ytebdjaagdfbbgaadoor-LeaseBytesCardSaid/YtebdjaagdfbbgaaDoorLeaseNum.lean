/- A lease's bytes, in plain Lean. -/
import Derived.Test.YtebdjaagdfbbgaaDoorCodeOut
import Derived.Test.YtebdjaagdfbbgaaDoorLease
namespace Go.Proofs.YtebdjaagdfbbgaaDoor.LeaseNum
open Go.RowKit CodeSpec LeaseSpec Flat CodeMem
set_option linter.unusedSimpArgs false
set_option linter.unusedVariables false

def aca : List UInt8 := [97, 99, 97]
def three (s e t : Nat) : List V := [⟨s, noS⟩, ⟨e, noS⟩, ⟨t, noS⟩]
theorem noS_empty : noS = ByteArray.empty := rfl
theorem aca_fits {s e t : Nat} (hs : s < 256) (he : e < 4294967296) (ht : t < 256) : enc aca (three s e t) = (be 1 s ++ (be 4 e ++ be 1 t), 0) := by
  refine enc_ok.mpr ⟨by decide, ?_, ?_⟩
  · have f1 : fits 97 ⟨s, noS⟩ = true := by simp [fits, noS_empty, wd]; omega
    have f2 : fits 99 ⟨e, noS⟩ = true := by simp [fits, noS_empty, wd]; omega
    have f3 : fits 97 ⟨t, noS⟩ = true := by simp [fits, noS_empty, wd]; omega
    unfold aca three
    rw [encL, if_pos f1, encL, if_pos f2, encL, if_pos f3, encL]
    simp [one, wd]
  · simp [length_be]
theorem aca_dec {b : List UInt8} {vs : List V} (h : dec aca b = (vs, 0)) : ∃ s e t : Nat, vs = three s e t ∧ s < 256 ∧ e < 4294967296 ∧ t < 256 := by
  obtain ⟨_, h2, _⟩ := enc_ok.mp (enc_dec h)
  unfold aca at h2
  match vs, h2 with
  | [], h2 => simp [encL] at h2
  | [a], h2 =>
    rw [encL] at h2
    split at h2
    · simp [encL] at h2
    · simp at h2
  | [a, b'], h2 =>
    rw [encL] at h2
    split at h2
    · rw [encL] at h2
      split at h2
      · simp [encL] at h2
      · simp at h2
    · simp at h2
  | [a, b', c], h2 =>
    rw [encL] at h2
    split at h2
    · rename_i f1
      rw [encL] at h2
      split at h2
      · rename_i f2
        rw [encL] at h2
        split at h2
        · rename_i f3
          obtain ⟨n1, s1⟩ := a
          obtain ⟨n2, s2⟩ := b'
          obtain ⟨n3, s3⟩ := c
          simp [fits, wd] at f1 f2 f3
          exact ⟨n1, n2, n3, by rw [three, f1.1, f2.1, f3.1]; rfl, by omega, by omega, by omega⟩
        · simp at h2
      · simp at h2
    · simp at h2
  | a :: b' :: c :: d :: l, h2 =>
    rw [encL] at h2
    split at h2
    · rw [encL] at h2
      split at h2
      · rw [encL] at h2
        split at h2
        · simp [encL] at h2
        · simp at h2
      · simp at h2
    · simp at h2

/-- A lease's bytes, and an error. -/
def lenc (e s t : Int) : List UInt8 × Int := if rightB e s t = false then ([], 2) else (be 1 s.toNat ++ (be 4 e.toNat ++ be 1 t.toNat), 0)
/-- The lease of bytes, and an error. -/
def ldec (b : List UInt8) : L × Int :=
  match dec aca b with
  | ([s, e, t], 0) => if rightB e.n s.n t.n = false then (⟨0, 0, 0⟩, 4) else (⟨e.n, s.n, t.n⟩, 0)
  | _ => (⟨0, 0, 0⟩, 4)
theorem right_bounds {e s t : Int} (h : rightB e s t = true) : 0 ≤ s ∧ s ≤ 2 ∧ 0 ≤ e ∧ e ≤ 1048576 ∧ t ≤ 7 := by
  unfold rightB epochB at h
  split at h
  · simp at h; omega
  · split at h
    · simp at h; omega
    · split at h
      · simp at h; omega
      · simp at h
theorem ldec_lenc {e s t : Int} {o : List UInt8} (h0 : 0 ≤ t) (h : lenc e s t = (o, 0)) : ldec o = (⟨e, s, t⟩, 0) := by
  unfold lenc at h
  split at h
  · simp at h
  · rename_i hr
    simp at hr
    obtain ⟨b1, b2, b3, b4, b5⟩ := right_bounds hr
    have hE := aca_fits (s := s.toNat) (e := e.toNat) (t := t.toNat) (by omega) (by omega) (by omega)
    have ho : o = be 1 s.toNat ++ (be 4 e.toNat ++ be 1 t.toNat) := (congrArg Prod.fst h).symm
    rw [← ho] at hE
    unfold ldec
    rw [dec_enc hE, three]
    simp only
    rw [Int.toNat_of_nonneg b1, Int.toNat_of_nonneg b3, Int.toNat_of_nonneg h0, hr]
    simp
theorem ldec_bad {b : List UInt8} (h : (dec aca b).2 ≠ 0) : ldec b = (⟨0, 0, 0⟩, 4) := by
  unfold ldec
  split
  · rename_i h2
    rw [h2] at h
    simp at h
  · rfl
theorem ldec_ok {b : List UInt8} {s e t : Nat} (h : dec aca b = (three s e t, 0)) : ldec b = if rightB e s t = false then (⟨0, 0, 0⟩, 4) else (⟨e, s, t⟩, 0) := by
  unfold ldec
  rw [h, three]
  rfl
end Go.Proofs.YtebdjaagdfbbgaaDoor.LeaseNum
