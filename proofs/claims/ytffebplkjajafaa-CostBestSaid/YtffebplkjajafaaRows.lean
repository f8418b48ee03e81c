/-
  No cell of these rows narrows 'for every input' (looked for: loops, veiled, ifaces, maps, wideKeys, modest, calm, conditions, laid).
  DERIVED. THE GIVEN ROWS OF THIS SEAT. 5 by the template 'for every input the law returns true; each argument reads behind the call as it read before'; 0 by the template 'total and deterministic' (their statements: YtffebplkjajafaaTotals.lean).
  GIVEN WITH THE SEED: the statements are not yours to turn. If you find one false, say at which input.
  Laid BY PROGRAM, IN A SANDBOX (cutbox-rows.mjs): the forced cells as the released guide's own fill.sh prints them over the translation e76fe6b838e7b434… (all of the seat's roots in one cut). By AI agents, Wed Nov 11 2026. No macro, syntax, notation, axiom, sorry.
-/
import Derived.Test.YtffebplkjajafaaChecked
import GoSem.Claim
import GoSem.ClaimJoined
import GoSem.ClaimMapViews
import Derived.JoinedTies
import Derived.KernelRfl
namespace Go.Proofs.Ytffebplkjajafaa
/- THE CELL 'sum', in the pinned program and in every row, IS THE sha256 OF THE DUMP (.gsa) THAT YtffebplkjajafaaProg.lean LOADS. Nothing in Lean hashes anything: it is a label: what it is worth is what the hold of that sum in a sandbox is worth. -/
noncomputable def Try.pinned : Pinned := { name := "ytffebplkjajafaa", sum := "e76fe6b838e7b434e4bf903ffac21bdeb66a1e267f397e90ef68581085fd84cb", checked := Try.checked }
namespace Rows
def none {H : Type} : Left H := { results := [], args := [] }

/-- 'locksteplaw21.CostTells': WHATEVER THE INPUT: true; the input reads as it did. -/
def costTellsSpec : ChangeSpec := { name := "costTells", fn := fun _ => fun
  | [d1, d2] => { results := [.lit (.bool true)], args := [d1, d2] }
  | _ => none }
def costTellsRow : OpenClaim := { program := "ytffebplkjajafaa", sum := "e76fe6b838e7b434e4bf903ffac21bdeb66a1e267f397e90ef68581085fd84cb", func := "lockstep/locksteplaw21.CostTells", spec := "costTells", apart := false }
def CostTellsSaid : Prop := costTellsRow.holds Try.pinned (OpenSpec.ofChange costTellsSpec)

/-- ITS FALSE NEIGHBOUR: 'it returns false'. Refute it at one input. -/
def costTellsWrong : ChangeSpec := { name := "costTells", fn := fun _ => fun
  | [d1, d2] => { results := [.lit (.bool false)], args := [d1, d2] }
  | _ => none }
def CostTellsWrongFalsely : Prop := costTellsRow.holds Try.pinned (OpenSpec.ofChange costTellsWrong)

/-- 'locksteplaw21.CostSums': WHATEVER THE INPUT: true; the input reads as it did. -/
def costSumsSpec : ChangeSpec := { name := "costSums", fn := fun _ => fun
  | [d1, d2] => { results := [.lit (.bool true)], args := [d1, d2] }
  | _ => none }
def costSumsRow : OpenClaim := { program := "ytffebplkjajafaa", sum := "e76fe6b838e7b434e4bf903ffac21bdeb66a1e267f397e90ef68581085fd84cb", func := "lockstep/locksteplaw21.CostSums", spec := "costSums", apart := false }
def CostSumsSaid : Prop := costSumsRow.holds Try.pinned (OpenSpec.ofChange costSumsSpec)

/-- ITS FALSE NEIGHBOUR: 'it returns false'. Refute it at one input. -/
def costSumsWrong : ChangeSpec := { name := "costSums", fn := fun _ => fun
  | [d1, d2] => { results := [.lit (.bool false)], args := [d1, d2] }
  | _ => none }
def CostSumsWrongFalsely : Prop := costSumsRow.holds Try.pinned (OpenSpec.ofChange costSumsWrong)

/-- 'locksteplaw21.CostGather': WHATEVER THE INPUT: true; the input reads as it did. -/
def costGatherSpec : ChangeSpec := { name := "costGather", fn := fun _ => fun
  | [d1, d2] => { results := [.lit (.bool true)], args := [d1, d2] }
  | _ => none }
def costGatherRow : OpenClaim := { program := "ytffebplkjajafaa", sum := "e76fe6b838e7b434e4bf903ffac21bdeb66a1e267f397e90ef68581085fd84cb", func := "lockstep/locksteplaw21.CostGather", spec := "costGather", apart := false }
def CostGatherSaid : Prop := costGatherRow.holds Try.pinned (OpenSpec.ofChange costGatherSpec)

/-- ITS FALSE NEIGHBOUR: 'it returns false'. Refute it at one input. -/
def costGatherWrong : ChangeSpec := { name := "costGather", fn := fun _ => fun
  | [d1, d2] => { results := [.lit (.bool false)], args := [d1, d2] }
  | _ => none }
def CostGatherWrongFalsely : Prop := costGatherRow.holds Try.pinned (OpenSpec.ofChange costGatherWrong)

/-- 'locksteplaw21.CostTurns': WHATEVER THE INPUT: true; the input reads as it did. -/
def costTurnsSpec : ChangeSpec := { name := "costTurns", fn := fun _ => fun
  | [d1, d2] => { results := [.lit (.bool true)], args := [d1, d2] }
  | _ => none }
def costTurnsRow : OpenClaim := { program := "ytffebplkjajafaa", sum := "e76fe6b838e7b434e4bf903ffac21bdeb66a1e267f397e90ef68581085fd84cb", func := "lockstep/locksteplaw21.CostTurns", spec := "costTurns", apart := false }
def CostTurnsSaid : Prop := costTurnsRow.holds Try.pinned (OpenSpec.ofChange costTurnsSpec)

/-- ITS FALSE NEIGHBOUR: 'it returns false'. Refute it at one input. -/
def costTurnsWrong : ChangeSpec := { name := "costTurns", fn := fun _ => fun
  | [d1, d2] => { results := [.lit (.bool false)], args := [d1, d2] }
  | _ => none }
def CostTurnsWrongFalsely : Prop := costTurnsRow.holds Try.pinned (OpenSpec.ofChange costTurnsWrong)

/-- 'locksteplaw21.CostBest': WHATEVER THE INPUT: true; the input reads as it did. -/
def costBestSpec : ChangeSpec := { name := "costBest", fn := fun _ => fun
  | [d] => { results := [.lit (.bool true)], args := [d] }
  | _ => none }
def costBestRow : OpenClaim := { program := "ytffebplkjajafaa", sum := "e76fe6b838e7b434e4bf903ffac21bdeb66a1e267f397e90ef68581085fd84cb", func := "lockstep/locksteplaw21.CostBest", spec := "costBest", apart := false }
def CostBestSaid : Prop := costBestRow.holds Try.pinned (OpenSpec.ofChange costBestSpec)

/-- ITS FALSE NEIGHBOUR: 'it returns false'. Refute it at one input. -/
def costBestWrong : ChangeSpec := { name := "costBest", fn := fun _ => fun
  | [d] => { results := [.lit (.bool false)], args := [d] }
  | _ => none }
def CostBestWrongFalsely : Prop := costBestRow.holds Try.pinned (OpenSpec.ofChange costBestWrong)

/- THE SECOND FORM. 'bulk': how many values and letters a reading holds, each counted each time it is reached (what is shared counts as often as it is met; a slice's spare places count too). A statement '..UptoSaid' is the law's where the arguments, and the package variables that the reading takes, are together of bulk at most 1048576: NARROWER than '..Said'. Prove '..Said' where nothing that the law and all that it calls make is longer than what came in: it says more and counts as full. Else prove '..UptoSaid'. A law counts once. -/
mutual
def uptoBulk {H : Type} : DataW H → Nat
  | .lit (.string bytes) => bytes.length + 1
  | .lit _ => 1
  | .nil => 1
  | .ptr d => uptoBulk d + 1
  | .slice elems spare => uptoBulkAll elems + uptoBulkAll spare + 1
  | .agg parts => uptoBulkAll parts + 1
  | .iface _ d => uptoBulk d + 1
  | .map entries => uptoBulkEntries entries + 1
  | .held _ => 1
def uptoBulkAll {H : Type} : List (DataW H) → Nat
  | [] => 0
  | d :: r => uptoBulk d + uptoBulkAll r
def uptoBulkEntries {H : Type} : List (Lit × DataW H) → Nat
  | [] => 0
  | x :: r => uptoBulkEntry x + uptoBulkEntries r
def uptoBulkEntry {H : Type} : Lit × DataW H → Nat
  | (.string bytes, d) => bytes.length + uptoBulk d + 1
  | (_, d) => uptoBulk d + 1
 end
def uptoSmall : (H : Type) → List (DataW H) → Bool := fun _ ds => decide (uptoBulkAll ds ≤ 1048576)
def OpenSpec.upto (s : _root_.Go.ChangeSpec) : _root_.Go.OpenSpec := { _root_.Go.OpenSpec.ofChange s with cond := some uptoSmall }

/-- 'locksteplaw21.CostTells', WHERE WHAT IT READS IS OF BULK AT MOST 1048576: true; the input reads as it did. -/
def costTellsUptoRow : OpenClaim := { program := "ytffebplkjajafaa", sum := "e76fe6b838e7b434e4bf903ffac21bdeb66a1e267f397e90ef68581085fd84cb", func := "lockstep/locksteplaw21.CostTells", spec := "costTells", apart := false, narrowed := true }
def CostTellsUptoSaid : Prop := costTellsUptoRow.holds Try.pinned (OpenSpec.upto costTellsSpec)

/-- 'locksteplaw21.CostSums', WHERE WHAT IT READS IS OF BULK AT MOST 1048576: true; the input reads as it did. -/
def costSumsUptoRow : OpenClaim := { program := "ytffebplkjajafaa", sum := "e76fe6b838e7b434e4bf903ffac21bdeb66a1e267f397e90ef68581085fd84cb", func := "lockstep/locksteplaw21.CostSums", spec := "costSums", apart := false, narrowed := true }
def CostSumsUptoSaid : Prop := costSumsUptoRow.holds Try.pinned (OpenSpec.upto costSumsSpec)

/-- 'locksteplaw21.CostGather', WHERE WHAT IT READS IS OF BULK AT MOST 1048576: true; the input reads as it did. -/
def costGatherUptoRow : OpenClaim := { program := "ytffebplkjajafaa", sum := "e76fe6b838e7b434e4bf903ffac21bdeb66a1e267f397e90ef68581085fd84cb", func := "lockstep/locksteplaw21.CostGather", spec := "costGather", apart := false, narrowed := true }
def CostGatherUptoSaid : Prop := costGatherUptoRow.holds Try.pinned (OpenSpec.upto costGatherSpec)

/-- 'locksteplaw21.CostTurns', WHERE WHAT IT READS IS OF BULK AT MOST 1048576: true; the input reads as it did. -/
def costTurnsUptoRow : OpenClaim := { program := "ytffebplkjajafaa", sum := "e76fe6b838e7b434e4bf903ffac21bdeb66a1e267f397e90ef68581085fd84cb", func := "lockstep/locksteplaw21.CostTurns", spec := "costTurns", apart := false, narrowed := true }
def CostTurnsUptoSaid : Prop := costTurnsUptoRow.holds Try.pinned (OpenSpec.upto costTurnsSpec)

/-- 'locksteplaw21.CostBest', WHERE WHAT IT READS IS OF BULK AT MOST 1048576: true; the input reads as it did. -/
def costBestUptoRow : OpenClaim := { program := "ytffebplkjajafaa", sum := "e76fe6b838e7b434e4bf903ffac21bdeb66a1e267f397e90ef68581085fd84cb", func := "lockstep/locksteplaw21.CostBest", spec := "costBest", apart := false, narrowed := true }
def CostBestUptoSaid : Prop := costBestUptoRow.holds Try.pinned (OpenSpec.upto costBestSpec)

end Rows
end Go.Proofs.Ytffebplkjajafaa
