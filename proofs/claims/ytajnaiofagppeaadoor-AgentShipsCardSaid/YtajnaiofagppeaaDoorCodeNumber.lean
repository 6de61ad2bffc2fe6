/- What the program's 'number' appends: the bytes of a number behind others that the caller owns. -/
import Derived.Test.YtajnaiofagppeaaDoorCodeShape
import Derived.LoopTactic
import Derived.Deep.LoopGhost
import Derived.OwnWalk
import Derived.Maps.AppendAt
import Derived.Maps.Range
import Derived.Lib.AppendStr
namespace Go.Proofs.YtajnaiofagppeaaDoor.CodeMem
open Go.RowKit CodeSpec
set_option linter.unusedSimpArgs false
set_option linter.unusedVariables false
set_option maxRecDepth 100000

def bcells (l : List UInt8) : List Value := l.map fun c => .int .u8 (c.toNat : Int)
/-- v is a row of bytes of the call's own, behind block B. -/
def OwnB (w : World) (B : Nat) (v : Value) (l : List UInt8) : Prop := w.ownsRow B 5 1 v l.length (bcells l)
theorem info5 : (Tryd.prog.info? 5).map (fun i => (i.zero, i.size, i.bytes)) = some (some (.int .u8 0), 1, 1) := by kernel_rfl

theorem bcells_append (a b : List UInt8) : bcells (a ++ b) = bcells a ++ bcells b := by simp [bcells]
theorem bcells_snoc (a : List UInt8) (c : UInt8) : bcells (a ++ [c]) = bcells a ++ [.int .u8 (c.toNat : Int)] := by simp [bcells]
theorem bcells_length (a : List UInt8) : (bcells a).length = a.length := by simp [bcells]
theorem pow_eq (m : Nat) : (2 : Int) ^ (8 * (m + 1) - 8) = ((256 ^ m : Nat) : Int) := by
  rw [show 8 * (m + 1) - 8 = 8 * m by omega, Int.pow_mul, Int.natCast_pow]
  rfl
theorem byte_eq (n m : Nat) : ((UInt8.ofNat (n / 256 ^ m)).toNat : Int) = (n : Int) / 2 ^ (8 * (m + 1) - 8) % 256 := by
  rw [pow_eq, UInt8.toNat_ofNat', Int.natCast_emod, Int.natCast_ediv]
  rfl
/-- Behind a step that writes the row at hand alone, or a new block. -/
theorem grown_step {w wo w1 : World} {v b : Value} {o : Obj} (hg : w.grownBy wo v.ownBlock) (hgrow : (wo.alloc o).grownBy w1 b.ownBlock) (hloc : b.ownBlock = v.ownBlock ∨ ∃ k, b.ownBlock = some k ∧ w.heap.size ≤ k) : w.grownBy w1 v.ownBlock := by
  have h1 : w.grownBy (wo.alloc o) v.ownBlock := hg.trans (World.grownBy_alloc wo o _)
  refine h1.andThen hgrow (fun j hj => ?_)
  rcases hloc with h | ⟨k, h, hk⟩
  · right; rw [← h]; exact hj
  · left; rw [h] at hj; cases hj; exact hk
def RelN (w : World) (B : Nat) (vb : Value) (xs : List UInt8) (n wd : Nat) (b i : Value) (wr : World) : Prop :=
  ∃ (m : Nat) (done : List UInt8), m ≤ wd ∧ i = .int .i64 (8 * (m : Int) - 8) ∧ done ++ be m n = be wd n ∧ OwnB wr B b (xs ++ done) ∧ w.grownBy wr vb.ownBlock ∧ B ≤ wr.heap.size ∧
    (b.ownBlock = vb.ownBlock ∨ ∃ k, b.ownBlock = some k ∧ w.heap.size ≤ k)

set_option maxHeartbeats 1000000 in
theorem number_any (w : World) (B : Nat) (vb : Value) (xs : List UInt8) (n wd : Nat) (hn : n < 18446744073709551616) (hw : wd ≤ 8) (hown : OwnB w B vb xs) (hB : B ≤ w.heap.size) (hl : xs.length + wd ≤ 1000000) :
    Calls Tryd.prog 52 #[vb, .int .u64 n, .int .i64 wd] w fun e w' => ∃ v, e = .returned v ∧ OwnB w' B v (xs ++ be wd n) ∧ w.grownBy w' vb.ownBlock ∧ (v.ownBlock = vb.ownBlock ∨ ∃ k, v.ownBlock = some k ∧ w.heap.size ≤ k) := by
  obtain ⟨i0, hi, hz0, hz1, hz2⟩ := info_parts info5
  have h8 : (wd : Int) ≤ 8 := by omega
  go_enter Tryd.func52, Tryd.ntmps52
  go_wp2
  go_loopw [0, 7] (fun b i wr => RelN w B vb xs n wd b i wr) (fun _ i _ => (intOf i + 8).toNat)
  case atStart => exact ⟨wd, [], Nat.le_refl _, by go_num, rfl, by simpa using hown, World.grownBy.refl _ _, hB, .inl rfl⟩
  case round =>
    obtain ⟨wo, h_wo⟩ : ∃ v : World, v = wr := ⟨_, rfl⟩; subst h_wo
    obtain ⟨m, done, hm, rfl, hdone, hob, hg, hsz, hloc⟩ := hrel
    cases m with
    | zero =>
      go_wp2
      go_ret
      have hd : done = be wd n := by rw [← hdone]; simp [be]
      rw [hd] at hob
      exact ⟨_, rfl, hob, hg, hloc⟩
    | succ m =>
      have hx : xs.length + done.length + 1 ≤ 1000000 := by
        have h1 := congrArg List.length hdone
        rw [List.length_append, length_be, length_be] at h1
        omega
      have HD := Lib.hid hdone
      clear hdone
      go_wp2_with (first | (at_builtin; refine wpList_append_own_at _ rfl _ _ 81 rfl B 5 i0 (.int .u8 0) 1 1 Tryd.underlying81 hi hz0 hz1 hz2 rfl (by decide) _ _ _ rfl (World.ownsRow.alloc hob _) ⟨wo.heap.size, 0, none⟩ 1 1 [.int .u8 ((n : Int) / 2 ^ (8 * (m + 1) - 8) % 256)] rfl rfl (cell_one_new _ _ _) (ints_oneCell .u8 [_]) (by rw [List.length_append]; unfold maxLen; omega) (by rw [List.length_append]; omega) (by simp; omega) ?_; intro v' w1 hown' hgrow hnil hloc') | go_in)
      go_roundw
      case rel =>
        refine ⟨m, done ++ [UInt8.ofNat (n / 256 ^ m)], by omega, by go_num, ?_, ?_, ?_, ?_, ?_⟩
        · rw [← HD.out, be]; simp
        · rw [← List.append_assoc, OwnB, bcells_snoc, byte_eq, List.length_append]
          exact hown'
        · exact grown_step hg hgrow hloc
        · exact Nat.le_trans hsz (by have := hgrow.size; simp at this; omega)
        · rcases hloc' with h | h
          · rw [h]; exact hloc
          · exact .inr ⟨_, h, by have := hg.size; simp; omega⟩
      case measure => simp [intOf]; omega
end Go.Proofs.YtajnaiofagppeaaDoor.CodeMem
