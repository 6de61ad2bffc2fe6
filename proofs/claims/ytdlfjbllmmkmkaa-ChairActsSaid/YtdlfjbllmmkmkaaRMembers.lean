/- The members that a byte says, by the reference. -/
import Derived.Test.YtdlfjbllmmkmkaaBegun
import Derived.Maps.AppendAt
namespace Go.Proofs.Ytdlfjbllmmkmkaa.Chair
open Go.RowKit Flat ChairSpec Go.Proofs.YtdlfjbllmmkmkaaW.PrintLast ByteMem
set_option linter.unusedSimpArgs false
set_option linter.unusedVariables false
set_option maxRecDepth 100000
theorem info8 : (Try.prog.info? 5).map (fun i => (i.zero, i.size, i.bytes)) = some (some (.int .u8 0), 1, 1) := by kernel_rfl
theorem bit_nat (n k : Nat) : bit (n : Int) k = decide (n / 2 ^ k % 2 = 1) := by
  unfold bit
  rw [decide_eq_decide]
  have e : ((n : Int) / 2 ^ k) = ((n / 2 ^ k : Nat) : Int) := by simp
  rw [e]
  omega
set_option maxHeartbeats 4000000 in
theorem members_any (n : Nat) (hn : n ≤ 255) (w : World) : Calls Try.prog 50 #[.int .u8 (n : Int)] w fun e w' => ∃ v, e = .returned v ∧ w'.ownsRow w.heap.size 5 1 v (ids n 8).length (bcl (ids n 8)) ∧ Below w.heap.size w w' := by
  obtain ⟨i0, hi, hz0, hz1, hz2⟩ : ∃ i0, Try.prog.info? 5 = some i0 ∧ i0.zero = some (.int .u8 0) ∧ i0.size = 1 ∧ i0.bytes = 1 := by
    have h := info8
    cases hq : Try.prog.info? 5 with
    | none => rw [hq] at h; cases h
    | some i =>
      rw [hq] at h
      simp only [Option.map_some, Option.some.injEq, Prod.mk.injEq] at h
      exact ⟨i, rfl, h.1, h.2.1, h.2.2⟩
  go_enter Try.func50, Try.ntmps50
  go_wp2_with fail
  go_loopw [3, 4, 5] (fun o m i wr => ∃ k : Nat, k ≤ 8 ∧ i = .int .i64 (k : Int) ∧ m = .int .u8 ((n / 2 ^ k : Nat) : Int) ∧ wr.ownsRow w.heap.size 5 1 o (ids n k).length (bcl (ids n k)) ∧ Below w.heap.size w wr) (fun _ _ i _ => 8 - (intOf i).toNat)
  case atStart => exact ⟨0, by omega, rfl, by simp, World.ownsRow_nil _ _ _ _, Below.refl _ _⟩
  case round =>
    obtain ⟨wo, h_wo⟩ : ∃ v : World, v = wr := ⟨_, rfl⟩; subst h_wo
    obtain ⟨k, hk, rfl, rfl, how, hB⟩ := hrel
    by_cases hk8 : k = 8
    · subst hk8
      have hkI : ¬ (((8 : Nat) : Int)) < 8 := by decide
      go_wp2_with fail
      go_ret
      exact ⟨_, rfl, how, hB⟩
    · have hkI : (k : Int) < 8 := by omega
      have hbit := bit_nat n k
      have hs := ids_succ (n : Int) k
      have hp : n / 2 ^ (k + 1) = n / 2 ^ k / 2 := by rw [Nat.pow_succ, Nat.div_div_eq_div_mul]
      have hm : n / 2 ^ k ≤ 255 := Nat.le_trans (Nat.div_le_self _ _) hn
      have HP := Lib.hid (show ((n / 2 ^ (k + 1) : Nat) : Int) = ((n / 2 ^ k : Nat) : Int) / 2 by rw [hp]; omega)
      have hlen := ids_len (n : Int) k
      clear hp
      generalize n / 2 ^ k = m at *
      by_cases h1 : m % 2 = 1
      · rw [hbit, decide_eq_true h1] at hs
        have e1 : ((m : Int) % 2 == 1) = true := by rw [show (m : Int) % 2 = 1 by omega]; rfl
        have e2 : IntKind.u8.wrap (k : Int) = (k : Int) := by simp [IntKind.wrap, IntKind.bits, IntKind.signed]; omega
        have HS := Lib.hid hs
        have HBS := hB.size
        have HB := Lib.hid hB
        have e3 : (UInt8.ofNat k).toNat = k := by rw [UInt8.toNat_ofNat']; omega
        clear hs h1 hbit hB
        go_wp2_with (first | (at_builtin; refine wpList_append_own_at _ rfl _ _ 95 rfl w.heap.size 5 i0 _ 1 1 Try.underlying95 hi hz0 hz1 hz2 rfl (by decide) _ _ _ rfl (World.ownsRow.alloc how _) ⟨wo.heap.size, 0, none⟩ 1 1 [.int .u8 (k : Int)] rfl rfl (fun j u hu => new_byte hu) (fun u hu => by simp at hu; subst hu; rfl) (by unfold maxLen; omega) (by omega) (Nat.le_trans HBS (by simp)) ?_; intro v7 w7 hob7 hg7 hnil7 hloc7) | fail)
        refine ⟨⟨k + 1, by omega, by go_num, by rw [HP.out], ?_, (HB.out.alloc HBS _).grown hg7 (Nat.le_trans HBS (by simp)) (fun j hj => (how.lt j hj).1)⟩, by simp [intOf]; omega⟩
        rw [HS.out, if_pos rfl, List.length_append, show bcl (ids (n : Int) k ++ [UInt8.ofNat k]) = bcl (ids (n : Int) k) ++ [.int .u8 (k : Int)] from by simp [bcl, e3]]
        exact hob7
      · rw [hbit, decide_eq_false h1] at hs
        have e1 : ((m : Int) % 2 == 1) = false := by rw [show (m : Int) % 2 = 0 by omega]; rfl
        have HS := Lib.hid hs
        clear hs h1 hbit
        go_wp2_with fail
        refine ⟨⟨k + 1, by omega, by go_num, by rw [HP.out], ?_, hB⟩, by simp [intOf]; omega⟩
        rw [HS.out, if_neg (by decide), List.append_nil]
        exact how
end Go.Proofs.Ytdlfjbllmmkmkaa.Chair
