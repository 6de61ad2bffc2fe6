/-
  No cell of these rows narrows 'for every input' (looked for: loops, veiled, ifaces, maps, wideKeys, modest, calm, conditions, laid).
  DERIVED. THE GIVEN ROWS OF THIS SEAT. 6 by the template 'for every input the law returns true; each argument reads behind the call as it read before'; 0 by the template 'total and deterministic' (their statements: YtcenfolmajegeaaTotals.lean).
  GIVEN WITH THE SEED: the statements are not yours to turn. If you find one false, say at which input.
  Laid BY PROGRAM, IN A SANDBOX (cutbox-rows.mjs): the forced cells as the released guide's own fill.sh prints them over the translation a7768e7d58581723… (all of the seat's roots in one cut). By AI agents, Wed Nov 11 2026. No macro, syntax, notation, axiom, sorry.
-/
import Derived.Test.YtcenfolmajegeaaChecked
import GoSem.Claim
import GoSem.ClaimJoined
import GoSem.ClaimMapViews
import Derived.JoinedTies
import Derived.KernelRfl
namespace Go.Proofs.Ytcenfolmajegeaa
/- THE CELL 'sum', in the pinned program and in every row, IS THE sha256 OF THE DUMP (.gsa) THAT YtcenfolmajegeaaProg.lean LOADS. Nothing in Lean hashes anything: it is a label: what it is worth is what the hold of that sum in a sandbox is worth. -/
noncomputable def Try.pinned : Pinned := { name := "ytcenfolmajegeaa", sum := "a7768e7d58581723b702a4f1c938032381e4f44279b4cc9d40d6d9bb8b2efc4d", checked := Try.checked }
namespace Rows
def none {H : Type} : Left H := { results := [], args := [] }

/-- 'waystationlaw05.CellsKeys': WHATEVER THE INPUT: true; the input reads as it did. -/
def cellsKeysSpec : ChangeSpec := { name := "cellsKeys", fn := fun _ => fun
  | [d1, d2, d3] => { results := [.lit (.bool true)], args := [d1, d2, d3] }
  | _ => none }
def cellsKeysRow : OpenClaim := { program := "ytcenfolmajegeaa", sum := "a7768e7d58581723b702a4f1c938032381e4f44279b4cc9d40d6d9bb8b2efc4d", func := "waystation/waystationlaw05.CellsKeys", spec := "cellsKeys", inPlace := ["maps.clone"], apart := false }
def CellsKeysSaid : Prop := cellsKeysRow.holds Try.pinned (OpenSpec.ofChange cellsKeysSpec)

/-- ITS FALSE NEIGHBOUR: 'it returns false'. Refute it at one input. -/
def cellsKeysWrong : ChangeSpec := { name := "cellsKeys", fn := fun _ => fun
  | [d1, d2, d3] => { results := [.lit (.bool false)], args := [d1, d2, d3] }
  | _ => none }
def CellsKeysWrongFalsely : Prop := cellsKeysRow.holds Try.pinned (OpenSpec.ofChange cellsKeysWrong)

/-- 'waystationlaw05.CellsSafe': WHATEVER THE INPUT: true; the input reads as it did. -/
def cellsSafeSpec : ChangeSpec := { name := "cellsSafe", fn := fun _ => fun
  | [d1, d2] => { results := [.lit (.bool true)], args := [d1, d2] }
  | _ => none }
def cellsSafeRow : OpenClaim := { program := "ytcenfolmajegeaa", sum := "a7768e7d58581723b702a4f1c938032381e4f44279b4cc9d40d6d9bb8b2efc4d", func := "waystation/waystationlaw05.CellsSafe", spec := "cellsSafe", inPlace := ["maps.clone"], apart := false }
def CellsSafeSaid : Prop := cellsSafeRow.holds Try.pinned (OpenSpec.ofChange cellsSafeSpec)

/-- ITS FALSE NEIGHBOUR: 'it returns false'. Refute it at one input. -/
def cellsSafeWrong : ChangeSpec := { name := "cellsSafe", fn := fun _ => fun
  | [d1, d2] => { results := [.lit (.bool false)], args := [d1, d2] }
  | _ => none }
def CellsSafeWrongFalsely : Prop := cellsSafeRow.holds Try.pinned (OpenSpec.ofChange cellsSafeWrong)

/-- 'waystationlaw05.CellsDrops': WHATEVER THE INPUT: true; the input reads as it did. -/
def cellsDropsSpec : ChangeSpec := { name := "cellsDrops", fn := fun _ => fun
  | [d1, d2] => { results := [.lit (.bool true)], args := [d1, d2] }
  | _ => none }
def cellsDropsRow : OpenClaim := { program := "ytcenfolmajegeaa", sum := "a7768e7d58581723b702a4f1c938032381e4f44279b4cc9d40d6d9bb8b2efc4d", func := "waystation/waystationlaw05.CellsDrops", spec := "cellsDrops", inPlace := ["maps.clone"], apart := false }
def CellsDropsSaid : Prop := cellsDropsRow.holds Try.pinned (OpenSpec.ofChange cellsDropsSpec)

/-- ITS FALSE NEIGHBOUR: 'it returns false'. Refute it at one input. -/
def cellsDropsWrong : ChangeSpec := { name := "cellsDrops", fn := fun _ => fun
  | [d1, d2] => { results := [.lit (.bool false)], args := [d1, d2] }
  | _ => none }
def CellsDropsWrongFalsely : Prop := cellsDropsRow.holds Try.pinned (OpenSpec.ofChange cellsDropsWrong)

/-- 'waystationlaw05.CellsActs': WHATEVER THE INPUT: true; the input reads as it did. -/
def cellsActsSpec : ChangeSpec := { name := "cellsActs", fn := fun _ => fun
  | [d1, d2] => { results := [.lit (.bool true)], args := [d1, d2] }
  | _ => none }
def cellsActsRow : OpenClaim := { program := "ytcenfolmajegeaa", sum := "a7768e7d58581723b702a4f1c938032381e4f44279b4cc9d40d6d9bb8b2efc4d", func := "waystation/waystationlaw05.CellsActs", spec := "cellsActs", inPlace := ["maps.clone"], unfollowed := true, recurses := true, apart := false }
def CellsActsSaid : Prop := cellsActsRow.holds Try.pinned (OpenSpec.ofChange cellsActsSpec)

/-- ITS FALSE NEIGHBOUR: 'it returns false'. Refute it at one input. -/
def cellsActsWrong : ChangeSpec := { name := "cellsActs", fn := fun _ => fun
  | [d1, d2] => { results := [.lit (.bool false)], args := [d1, d2] }
  | _ => none }
def CellsActsWrongFalsely : Prop := cellsActsRow.holds Try.pinned (OpenSpec.ofChange cellsActsWrong)

/-- 'waystationlaw05.CellsThrough': WHATEVER THE INPUT: true; the input reads as it did. -/
def cellsThroughSpec : ChangeSpec := { name := "cellsThrough", fn := fun _ => fun
  | [d1, d2] => { results := [.lit (.bool true)], args := [d1, d2] }
  | _ => none }
def cellsThroughRow : OpenClaim := { program := "ytcenfolmajegeaa", sum := "a7768e7d58581723b702a4f1c938032381e4f44279b4cc9d40d6d9bb8b2efc4d", func := "waystation/waystationlaw05.CellsThrough", spec := "cellsThrough", inPlace := ["maps.clone"], unfollowed := true, recurses := true, apart := false }
def CellsThroughSaid : Prop := cellsThroughRow.holds Try.pinned (OpenSpec.ofChange cellsThroughSpec)

/-- ITS FALSE NEIGHBOUR: 'it returns false'. Refute it at one input. -/
def cellsThroughWrong : ChangeSpec := { name := "cellsThrough", fn := fun _ => fun
  | [d1, d2] => { results := [.lit (.bool false)], args := [d1, d2] }
  | _ => none }
def CellsThroughWrongFalsely : Prop := cellsThroughRow.holds Try.pinned (OpenSpec.ofChange cellsThroughWrong)

/-- 'waystationlaw05.CellsNobody': WHATEVER THE INPUT: true; the input reads as it did. -/
def cellsNobodySpec : ChangeSpec := { name := "cellsNobody", fn := fun _ => fun
  | [d] => { results := [.lit (.bool true)], args := [d] }
  | _ => none }
def cellsNobodyRow : OpenClaim := { program := "ytcenfolmajegeaa", sum := "a7768e7d58581723b702a4f1c938032381e4f44279b4cc9d40d6d9bb8b2efc4d", func := "waystation/waystationlaw05.CellsNobody", spec := "cellsNobody", inPlace := ["maps.clone"], unfollowed := true, recurses := true, apart := false }
def CellsNobodySaid : Prop := cellsNobodyRow.holds Try.pinned (OpenSpec.ofChange cellsNobodySpec)

/-- ITS FALSE NEIGHBOUR: 'it returns false'. Refute it at one input. -/
def cellsNobodyWrong : ChangeSpec := { name := "cellsNobody", fn := fun _ => fun
  | [d] => { results := [.lit (.bool false)], args := [d] }
  | _ => none }
def CellsNobodyWrongFalsely : Prop := cellsNobodyRow.holds Try.pinned (OpenSpec.ofChange cellsNobodyWrong)

/- THE SECOND FORM. 'bulk': how many values and letters a reading holds, each counted each time it is reached (what is shared counts as often as it is met; a slice's spare places count too). A statement '..UptoSaid' is the law's where the arguments, and the package variables that the reading takes, are together of bulk at most 1048576: NARROWER than '..Said'. Prove '..Said' where nothing that the law and all that it calls make is longer than what came in: it says more and counts as full. Else prove '..UptoSaid'. A law counts once. -/
mutual
def uptoBulk {H : Type} : DataW H → Nat
  | .lit (.string bytes) => bytes.length + 1
  | .lit _ => 1
  | .nil => 1
  | .ptr d => uptoBulk d + 1
  | .slice elems spare => uptoBulkAll elems + uptoBulkAll spare + 1
  | .agg parts => uptoBulkAll parts + 1
  | .iface _ d => uptoBulk d + 1
  | .map entries => uptoBulkEntries entries + 1
  | .held _ => 1
def uptoBulkAll {H : Type} : List (DataW H) → Nat
  | [] => 0
  | d :: r => uptoBulk d + uptoBulkAll r
def uptoBulkEntries {H : Type} : List (Lit × DataW H) → Nat
  | [] => 0
  | x :: r => uptoBulkEntry x + uptoBulkEntries r
def uptoBulkEntry {H : Type} : Lit × DataW H → Nat
  | (.string bytes, d) => bytes.length + uptoBulk d + 1
  | (_, d) => uptoBulk d + 1
 end
def uptoSmall : (H : Type) → List (DataW H) → Bool := fun _ ds => decide (uptoBulkAll ds ≤ 1048576)
def OpenSpec.upto (s : _root_.Go.ChangeSpec) : _root_.Go.OpenSpec := { _root_.Go.OpenSpec.ofChange s with cond := some uptoSmall }

/-- 'waystationlaw05.CellsKeys', WHERE WHAT IT READS IS OF BULK AT MOST 1048576: true; the input reads as it did. -/
def cellsKeysUptoRow : OpenClaim := { program := "ytcenfolmajegeaa", sum := "a7768e7d58581723b702a4f1c938032381e4f44279b4cc9d40d6d9bb8b2efc4d", func := "waystation/waystationlaw05.CellsKeys", spec := "cellsKeys", inPlace := ["maps.clone"], apart := false, narrowed := true }
def CellsKeysUptoSaid : Prop := cellsKeysUptoRow.holds Try.pinned (OpenSpec.upto cellsKeysSpec)

/-- 'waystationlaw05.CellsSafe', WHERE WHAT IT READS IS OF BULK AT MOST 1048576: true; the input reads as it did. -/
def cellsSafeUptoRow : OpenClaim := { program := "ytcenfolmajegeaa", sum := "a7768e7d58581723b702a4f1c938032381e4f44279b4cc9d40d6d9bb8b2efc4d", func := "waystation/waystationlaw05.CellsSafe", spec := "cellsSafe", inPlace := ["maps.clone"], apart := false, narrowed := true }
def CellsSafeUptoSaid : Prop := cellsSafeUptoRow.holds Try.pinned (OpenSpec.upto cellsSafeSpec)

/-- 'waystationlaw05.CellsDrops', WHERE WHAT IT READS IS OF BULK AT MOST 1048576: true; the input reads as it did. -/
def cellsDropsUptoRow : OpenClaim := { program := "ytcenfolmajegeaa", sum := "a7768e7d58581723b702a4f1c938032381e4f44279b4cc9d40d6d9bb8b2efc4d", func := "waystation/waystationlaw05.CellsDrops", spec := "cellsDrops", inPlace := ["maps.clone"], apart := false, narrowed := true }
def CellsDropsUptoSaid : Prop := cellsDropsUptoRow.holds Try.pinned (OpenSpec.upto cellsDropsSpec)

/-- 'waystationlaw05.CellsActs', WHERE WHAT IT READS IS OF BULK AT MOST 1048576: true; the input reads as it did. -/
def cellsActsUptoRow : OpenClaim := { program := "ytcenfolmajegeaa", sum := "a7768e7d58581723b702a4f1c938032381e4f44279b4cc9d40d6d9bb8b2efc4d", func := "waystation/waystationlaw05.CellsActs", spec := "cellsActs", inPlace := ["maps.clone"], unfollowed := true, recurses := true, apart := false, narrowed := true }
def CellsActsUptoSaid : Prop := cellsActsUptoRow.holds Try.pinned (OpenSpec.upto cellsActsSpec)

/-- 'waystationlaw05.CellsThrough', WHERE WHAT IT READS IS OF BULK AT MOST 1048576: true; the input reads as it did. -/
def cellsThroughUptoRow : OpenClaim := { program := "ytcenfolmajegeaa", sum := "a7768e7d58581723b702a4f1c938032381e4f44279b4cc9d40d6d9bb8b2efc4d", func := "waystation/waystationlaw05.CellsThrough", spec := "cellsThrough", inPlace := ["maps.clone"], unfollowed := true, recurses := true, apart := false, narrowed := true }
def CellsThroughUptoSaid : Prop := cellsThroughUptoRow.holds Try.pinned (OpenSpec.upto cellsThroughSpec)

/-- 'waystationlaw05.CellsNobody', WHERE WHAT IT READS IS OF BULK AT MOST 1048576: true; the input reads as it did. -/
def cellsNobodyUptoRow : OpenClaim := { program := "ytcenfolmajegeaa", sum := "a7768e7d58581723b702a4f1c938032381e4f44279b4cc9d40d6d9bb8b2efc4d", func := "waystation/waystationlaw05.CellsNobody", spec := "cellsNobody", inPlace := ["maps.clone"], unfollowed := true, recurses := true, apart := false, narrowed := true }
def CellsNobodyUptoSaid : Prop := cellsNobodyUptoRow.holds Try.pinned (OpenSpec.upto cellsNobodySpec)

end Rows
end Go.Proofs.Ytcenfolmajegeaa
