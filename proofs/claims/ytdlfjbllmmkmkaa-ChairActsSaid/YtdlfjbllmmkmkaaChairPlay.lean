/- The chair of alive, in plain Lean. -/
import Derived.Test.YtdlfjbllmmkmkaaChairSpec
namespace Go.Proofs.Ytdlfjbllmmkmkaa.ChairSpec
set_option maxRecDepth 100000
def aRec : Nat → Re
  | 0 => ⟨1, 7, 6, 0, 0, 0, 10, 0⟩
  | 1 => ⟨2, 7, 1, 1, 1, 3, 0, 0⟩
  | 2 => ⟨1, 8, 1, 0, 0, 0, 5, 0⟩
  | 3 => ⟨2, 7, 2, 1, 1, 9, 0, 0⟩
  | 4 => ⟨4, 0, 0, 0, 0, 5, 0, 0⟩
  | _ => ⟨2, 8, 0, 1, 1, 0, 0, 0⟩
def c0 : Ch := ⟨fun _ => none, []⟩
def aCh : Nat → Ch
  | 0 => c0
  | k + 1 => (doC (aCh k) (aRec k)).1
def aN : Nat → Int
  | 3 => 1
  | 4 => 1
  | _ => 0
def aE : Nat → Int
  | 5 => 13
  | _ => 0
theorem aAns : ∀ k : Fin 6, (doC (aCh k.val) (aRec k.val)).2 = (aN k.val, aE k.val) := by decide +kernel
theorem aLog : (aCh 6).log.length = 5 := by decide +kernel
theorem aDeal7 : ((aCh 6).deals 7).map (fun d => d.out) = some 1 := by decide +kernel
theorem aDeal8 : ((aCh 6).deals 8).map (fun d => d.out) = some 2 := by decide +kernel
theorem aOpen : ((List.range 1000).filter fun (i : Nat) => match (aCh 6).deals (i : Int) with | some d => !decide (d.out ≠ 0) | none => false) = [] := by decide +kernel
theorem aLen : ∀ k : Fin 7, (aCh k.val).log.length ≤ 6 := by decide +kernel
end Go.Proofs.Ytdlfjbllmmkmkaa.ChairSpec
