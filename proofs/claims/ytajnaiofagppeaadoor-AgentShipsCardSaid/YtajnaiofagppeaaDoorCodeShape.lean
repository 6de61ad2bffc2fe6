/- What the program's 'shaped' and 'width' answer. -/
import Derived.Test.YtajnaiofagppeaaDoorTrim
import Derived.Test.YtajnaiofagppeaaDoorCodeSpec
import Derived.Test.YtajnaiofagppeaaDoorFlat
import Derived.WalkKit
import Derived.Below
import Derived.Lib.Hide
import Derived.Lib.Strings
import Derived.Outline
import Derived.RowKit3
namespace Go.Proofs.YtajnaiofagppeaaDoor.CodeMem
open Go.RowKit CodeSpec
set_option linter.unusedSimpArgs false
set_option linter.unusedVariables false

theorem dropWhile_nil {p : UInt8 → Bool} : ∀ l : List UInt8, l.dropWhile p = [] ↔ l.all p = true
  | [] => by simp
  | c :: l => by
    rw [List.dropWhile_cons]
    cases h : p c <;> simp [h, dropWhile_nil l]
theorem all_reverse {p : UInt8 → Bool} (l : List UInt8) : l.reverse.all p = l.all p := by simp
theorem trim_nil (l cs : List UInt8) : (Go.Lib.trimS l cs = []) ↔ l.all (cs.contains ·) = true := by
  unfold Go.Lib.trimS Go.Lib.trimLeftS Go.Lib.trimRightS
  rw [dropWhile_nil, all_reverse]
  constructor
  · intro h
    have h2 : (l.reverse.dropWhile (cs.contains ·)) = [] := by
      cases h3 : l.reverse.dropWhile (cs.contains ·) with
      | nil => rfl
      | cons c r =>
        have hc := List.head?_dropWhile_not (cs.contains ·) l.reverse
        rw [h3] at hc h
        simp at hc
        simp at h
        exact absurd h.1 hc
    rw [dropWhile_nil, all_reverse] at h2
    exact h2
  · intro h
    have h2 : (l.reverse.dropWhile (cs.contains ·)) = [] := by rw [dropWhile_nil, all_reverse]; exact h
    rw [h2]; rfl
theorem letter_in (c : UInt8) : [(97 : UInt8), 98, 99, 100, 116].contains c = letter c := by
  simp only [letter, List.contains_cons, Bool.or_assoc, List.contains_nil, Bool.or_false]
theorem trim_letters (l : List UInt8) : (Go.Lib.trimS l [97, 98, 99, 100, 116] = []) ↔ l.all letter = true := by
  rw [trim_nil]
  have : (fun x => [(97 : UInt8), 98, 99, 100, 116].contains x) = letter := by funext x; exact letter_in x
  rw [this]
def cset : ByteArray := ⟨#[97, 98, 99, 100, 116]⟩
set_option maxHeartbeats 1000000 in
theorem trim_any (s : ByteArray) (w : World) (hs : s.size ≤ 9223372036854775807) :
    Calls Tryd.prog 80 #[.string s, .string ⟨#[97, 98, 99, 100, 116]⟩] w fun e w' => e = .returned (.string ⟨(Go.Lib.trimS s.data.toList [97, 98, 99, 100, 116]).toArray⟩) ∧ Below w.heap.size w w' := by
  have hcon := Any.strings_Trim_laid Tryd.lays160 (by kernel_rfl) s ⟨#[97, 98, 99, 100, 116]⟩ w hs (by decide) (ascii_of_all (by decide))
  change Calls Tryd.prog 80 _ _ (fun e w' => e = .returned (.string ⟨(Go.Lib.trimS s.data.toList [97, 98, 99, 100, 116]).toArray⟩) ∧ Below w.heap.size w w') at hcon
  exact hcon

theorem shaped_any (s : ByteArray) (w : World) (hs : s.size ≤ maxLen) :
    Calls Tryd.prog 50 #[.string s] w fun e w' => e = .returned (.bool (shapeB s.data.toList)) ∧ Below w.heap.size w w' := by
  unfold maxLen at hs
  have hcon := trim_any s w (by omega)
  have ht := trim_letters s.data.toList
  have hl := size_toList s
  by_cases hn : s.size ≤ 100
  · have hnI : (s.size : Int) ≤ 100 := by omega
    cases ha : s.data.toList.all letter with
    | true =>
      have e := ht.mpr ha
      rw [e] at hcon
      have hsh : shapeB s.data.toList = true := by simp [shapeB, ha, hl, hn]
      rw [hsh]
      clear ht hl ha e hsh
      go_enter Tryd.func50, Tryd.ntmps50
      go_wp2_with (go_at_call 80; refine hcon.mono ?_; rintro e w' ⟨rfl, hb⟩)
      go_ret
      exact ⟨rfl, hb⟩
    | false =>
      have e : ¬ (Go.Lib.trimS s.data.toList [97, 98, 99, 100, 116] = []) := fun h => by rw [ht.mp h] at ha; cases ha
      have hsh : shapeB s.data.toList = false := by simp [shapeB, ha]
      rw [hsh]
      clear ht hl ha hsh
      generalize Go.Lib.trimS s.data.toList [97, 98, 99, 100, 116] = r at hcon e
      have hr : (⟨r.toArray⟩ : ByteArray).toList.isEmpty = false := by
        rw [Go.Lib.toList_data]; cases r with
        | nil => exact absurd rfl e
        | cons c r => rfl
      have HE := Lib.hid e
      clear e
      go_enter Tryd.func50, Tryd.ntmps50
      go_wp2_with (go_at_call 80; refine hcon.mono ?_; rintro e w' ⟨rfl, hb⟩)
      go_ret
      exact ⟨by simpa using HE.out, hb⟩
  · have hnI : ¬ (s.size : Int) ≤ 100 := by omega
    have hsh : shapeB s.data.toList = false := by unfold shapeB; rw [hl, decide_eq_false hn, Bool.and_false]
    rw [hsh]
    clear ht hl hsh hcon
    go_enter Tryd.func50, Tryd.ntmps50
    go_wp2_with fail
    go_ret
    exact ⟨rfl, Below.refl _ _⟩

theorem width_any (c : UInt8) (w : World) (hc : letter c = true) :
    Calls Tryd.prog 51 #[.int .u8 c.toNat] w fun e w' => e = .returned (.int .i64 (wd c)) ∧ w = w' := by
  have h : c = 97 ∨ c = 98 ∨ c = 99 ∨ c = 100 ∨ c = 116 := by simpa only [letter, Bool.or_eq_true, beq_iff_eq, or_assoc] using hc
  rcases h with rfl | rfl | rfl | rfl | rfl
  all_goals
    go_enter Tryd.func51, Tryd.ntmps51
    go_wp2
    go_ret
    exact ⟨rfl, rfl⟩
end Go.Proofs.YtajnaiofagppeaaDoor.CodeMem
