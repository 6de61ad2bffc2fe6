/- Frames undo each other, in plain Lean. -/
import Derived.Test.YtbkkomknajgpdaaDoorFirst
namespace Go.Proofs.YtbkkomknajgpdaaDoor.SumMem
open CodeSpec SumSpec
set_option maxRecDepth 100000

theorem be2_val (n : Nat) (h : n < 65536) : (UInt8.ofNat (n / 256 ^ 1)).toNat * 256 + (UInt8.ofNat (n / 256 ^ 0)).toNat = n := by
  rw [UInt8.toNat_ofNat', UInt8.toNat_ofNat']
  omega
theorem first_frame {l : List UInt8} (h : l.length ≤ 4000) : firstS (frame l) = (l, ((l.length + 7 : Nat) : Int), 0) := by
  have hb : frame l = 1 :: UInt8.ofNat (l.length / 256 ^ 1) :: UInt8.ofNat (l.length / 256 ^ 0) :: (l ++ be 4 (sumN (body l))) := rfl
  rw [hb, firstS, be2_val _ (by omega), if_neg (by omega), if_neg (by rw [List.length_append, length_be]; omega)]
  have e1 : (l ++ be 4 (sumN (body l))).take l.length = l := by simp
  have e2 : ((l ++ be 4 (sumN (body l))).drop l.length).take 4 = be 4 (sumN (body l)) := by
    rw [List.drop_left]
    exact List.take_of_length_le (by rw [length_be]; exact Nat.le_refl _)
  rw [e1, e2]
  exact if_pos rfl
theorem first_ok {b x : List UInt8} {k : Int} (h : firstS b = (x, k, 0)) : x.length ≤ 4000 ∧ ∃ r, b = frame x ++ r ∧ k = ((x.length + 7 : Nat) : Int) := by
  unfold firstS at h
  split at h
  · rename_i u v r
    split at h
    · cases h
    · split at h
      · cases h
      · split at h
        · rename_i h1 h2 h3
          have hx := (congrArg Prod.fst h).symm
          have hk := (congrArg (fun t => t.2.1) h).symm
          dsimp only at hx hk
          have hl : x.length = u.toNat * 256 + v.toNat := by rw [hx, List.length_take]; omega
          refine ⟨by omega, r.drop (u.toNat * 256 + v.toNat + 4), ?_, by rw [hk, hl]⟩
          have h4 := (frame_iff (x := u) (y := v) (r := r) (n := u.toNat * 256 + v.toNat) (by omega) rfl).mpr h3
          rw [hx, h4]
          simp
        · cases h
  · cases h
  · cases h
end Go.Proofs.YtbkkomknajgpdaaDoor.SumMem
