/-
  No cell of these rows narrows 'for every input' (looked for: loops, veiled, ifaces, maps, wideKeys, modest, calm, conditions, laid).
  DERIVED. THE GIVEN ROWS OF THIS SEAT. 6 by the template 'for every input the law returns true; each argument reads behind the call as it read before'; 0 by the template 'total and deterministic' (their statements: YtcnhnjbefhgaaaaTotals.lean).
  GIVEN WITH THE SEED: the statements are not yours to turn. If you find one false, say at which input.
  Laid BY PROGRAM, IN A SANDBOX (cutbox-rows.mjs): the forced cells as the released guide's own fill.sh prints them over the translation 3f2988b3247cc7d4… (all of the seat's roots in one cut). By AI agents, Wed Nov 11 2026. No macro, syntax, notation, axiom, sorry.
-/
import Derived.Test.YtcnhnjbefhgaaaaChecked
import GoSem.Claim
import GoSem.ClaimJoined
import GoSem.ClaimMapViews
import Derived.JoinedTies
import Derived.KernelRfl
namespace Go.Proofs.Ytcnhnjbefhgaaaa
/- THE CELL 'sum', in the pinned program and in every row, IS THE sha256 OF THE DUMP (.gsa) THAT YtcnhnjbefhgaaaaProg.lean LOADS. Nothing in Lean hashes anything: it is a label: what it is worth is what the hold of that sum in a sandbox is worth. -/
noncomputable def Try.pinned : Pinned := { name := "ytcnhnjbefhgaaaa", sum := "3f2988b3247cc7d46aaa1edca0a2c4bdc461e77937c788181b2f7f7dbc6f0e31", checked := Try.checked }
namespace Rows
def none {H : Type} : Left H := { results := [], args := [] }

/-- 'locksteplaw12.MemPlays': WHATEVER THE INPUT: true; the input reads as it did. -/
def memPlaysSpec : ChangeSpec := { name := "memPlays", fn := fun _ => fun
  | [d1, d2] => { results := [.lit (.bool true)], args := [d1, d2] }
  | _ => none }
def memPlaysRow : OpenClaim := { program := "ytcnhnjbefhgaaaa", sum := "3f2988b3247cc7d46aaa1edca0a2c4bdc461e77937c788181b2f7f7dbc6f0e31", func := "lockstep/locksteplaw12.MemPlays", spec := "memPlays", apart := false }
def MemPlaysSaid : Prop := memPlaysRow.holds Try.pinned (OpenSpec.ofChange memPlaysSpec)

/-- ITS FALSE NEIGHBOUR: 'it returns false'. Refute it at one input. -/
def memPlaysWrong : ChangeSpec := { name := "memPlays", fn := fun _ => fun
  | [d1, d2] => { results := [.lit (.bool false)], args := [d1, d2] }
  | _ => none }
def MemPlaysWrongFalsely : Prop := memPlaysRow.holds Try.pinned (OpenSpec.ofChange memPlaysWrong)

/-- 'locksteplaw12.MemBack': WHATEVER THE INPUT: true; the input reads as it did. -/
def memBackSpec : ChangeSpec := { name := "memBack", fn := fun _ => fun
  | [d1, d2, d3] => { results := [.lit (.bool true)], args := [d1, d2, d3] }
  | _ => none }
def memBackRow : OpenClaim := { program := "ytcnhnjbefhgaaaa", sum := "3f2988b3247cc7d46aaa1edca0a2c4bdc461e77937c788181b2f7f7dbc6f0e31", func := "lockstep/locksteplaw12.MemBack", spec := "memBack", apart := false }
def MemBackSaid : Prop := memBackRow.holds Try.pinned (OpenSpec.ofChange memBackSpec)

/-- ITS FALSE NEIGHBOUR: 'it returns false'. Refute it at one input. -/
def memBackWrong : ChangeSpec := { name := "memBack", fn := fun _ => fun
  | [d1, d2, d3] => { results := [.lit (.bool false)], args := [d1, d2, d3] }
  | _ => none }
def MemBackWrongFalsely : Prop := memBackRow.holds Try.pinned (OpenSpec.ofChange memBackWrong)

/-- 'locksteplaw12.MemReads': WHATEVER THE INPUT: true; the input reads as it did. -/
def memReadsSpec : ChangeSpec := { name := "memReads", fn := fun _ => fun
  | [d1, d2, d3] => { results := [.lit (.bool true)], args := [d1, d2, d3] }
  | _ => none }
def memReadsRow : OpenClaim := { program := "ytcnhnjbefhgaaaa", sum := "3f2988b3247cc7d46aaa1edca0a2c4bdc461e77937c788181b2f7f7dbc6f0e31", func := "lockstep/locksteplaw12.MemReads", spec := "memReads", apart := false }
def MemReadsSaid : Prop := memReadsRow.holds Try.pinned (OpenSpec.ofChange memReadsSpec)

/-- ITS FALSE NEIGHBOUR: 'it returns false'. Refute it at one input. -/
def memReadsWrong : ChangeSpec := { name := "memReads", fn := fun _ => fun
  | [d1, d2, d3] => { results := [.lit (.bool false)], args := [d1, d2, d3] }
  | _ => none }
def MemReadsWrongFalsely : Prop := memReadsRow.holds Try.pinned (OpenSpec.ofChange memReadsWrong)

/-- 'locksteplaw12.MemApart': WHATEVER THE INPUT: true; the input reads as it did. -/
def memApartSpec : ChangeSpec := { name := "memApart", fn := fun _ => fun
  | [d1, d2, d3] => { results := [.lit (.bool true)], args := [d1, d2, d3] }
  | _ => none }
def memApartRow : OpenClaim := { program := "ytcnhnjbefhgaaaa", sum := "3f2988b3247cc7d46aaa1edca0a2c4bdc461e77937c788181b2f7f7dbc6f0e31", func := "lockstep/locksteplaw12.MemApart", spec := "memApart", apart := false }
def MemApartSaid : Prop := memApartRow.holds Try.pinned (OpenSpec.ofChange memApartSpec)

/-- ITS FALSE NEIGHBOUR: 'it returns false'. Refute it at one input. -/
def memApartWrong : ChangeSpec := { name := "memApart", fn := fun _ => fun
  | [d1, d2, d3] => { results := [.lit (.bool false)], args := [d1, d2, d3] }
  | _ => none }
def MemApartWrongFalsely : Prop := memApartRow.holds Try.pinned (OpenSpec.ofChange memApartWrong)

/-- 'locksteplaw12.MemMany': WHATEVER THE INPUT: true; the input reads as it did. -/
def memManySpec : ChangeSpec := { name := "memMany", fn := fun _ => fun
  | [d1, d2, d3] => { results := [.lit (.bool true)], args := [d1, d2, d3] }
  | _ => none }
def memManyRow : OpenClaim := { program := "ytcnhnjbefhgaaaa", sum := "3f2988b3247cc7d46aaa1edca0a2c4bdc461e77937c788181b2f7f7dbc6f0e31", func := "lockstep/locksteplaw12.MemMany", spec := "memMany", apart := false }
def MemManySaid : Prop := memManyRow.holds Try.pinned (OpenSpec.ofChange memManySpec)

/-- ITS FALSE NEIGHBOUR: 'it returns false'. Refute it at one input. -/
def memManyWrong : ChangeSpec := { name := "memMany", fn := fun _ => fun
  | [d1, d2, d3] => { results := [.lit (.bool false)], args := [d1, d2, d3] }
  | _ => none }
def MemManyWrongFalsely : Prop := memManyRow.holds Try.pinned (OpenSpec.ofChange memManyWrong)

/-- 'locksteplaw12.MemThere': WHATEVER THE INPUT: true; the input reads as it did. -/
def memThereSpec : ChangeSpec := { name := "memThere", fn := fun _ => fun
  | [d1, d2, d3] => { results := [.lit (.bool true)], args := [d1, d2, d3] }
  | _ => none }
def memThereRow : OpenClaim := { program := "ytcnhnjbefhgaaaa", sum := "3f2988b3247cc7d46aaa1edca0a2c4bdc461e77937c788181b2f7f7dbc6f0e31", func := "lockstep/locksteplaw12.MemThere", spec := "memThere", apart := false }
def MemThereSaid : Prop := memThereRow.holds Try.pinned (OpenSpec.ofChange memThereSpec)

/-- ITS FALSE NEIGHBOUR: 'it returns false'. Refute it at one input. -/
def memThereWrong : ChangeSpec := { name := "memThere", fn := fun _ => fun
  | [d1, d2, d3] => { results := [.lit (.bool false)], args := [d1, d2, d3] }
  | _ => none }
def MemThereWrongFalsely : Prop := memThereRow.holds Try.pinned (OpenSpec.ofChange memThereWrong)

/- THE SECOND FORM. 'bulk': how many values and letters a reading holds, each counted each time it is reached (what is shared counts as often as it is met; a slice's spare places count too). A statement '..UptoSaid' is the law's where the arguments, and the package variables that the reading takes, are together of bulk at most 1048576: NARROWER than '..Said'. Prove '..Said' where nothing that the law and all that it calls make is longer than what came in: it says more and counts as full. Else prove '..UptoSaid'. A law counts once. -/
mutual
def uptoBulk {H : Type} : DataW H → Nat
  | .lit (.string bytes) => bytes.length + 1
  | .lit _ => 1
  | .nil => 1
  | .ptr d => uptoBulk d + 1
  | .slice elems spare => uptoBulkAll elems + uptoBulkAll spare + 1
  | .agg parts => uptoBulkAll parts + 1
  | .iface _ d => uptoBulk d + 1
  | .map entries => uptoBulkEntries entries + 1
  | .held _ => 1
def uptoBulkAll {H : Type} : List (DataW H) → Nat
  | [] => 0
  | d :: r => uptoBulk d + uptoBulkAll r
def uptoBulkEntries {H : Type} : List (Lit × DataW H) → Nat
  | [] => 0
  | x :: r => uptoBulkEntry x + uptoBulkEntries r
def uptoBulkEntry {H : Type} : Lit × DataW H → Nat
  | (.string bytes, d) => bytes.length + uptoBulk d + 1
  | (_, d) => uptoBulk d + 1
 end
def uptoSmall : (H : Type) → List (DataW H) → Bool := fun _ ds => decide (uptoBulkAll ds ≤ 1048576)
def OpenSpec.upto (s : _root_.Go.ChangeSpec) : _root_.Go.OpenSpec := { _root_.Go.OpenSpec.ofChange s with cond := some uptoSmall }

/-- 'locksteplaw12.MemPlays', WHERE WHAT IT READS IS OF BULK AT MOST 1048576: true; the input reads as it did. -/
def memPlaysUptoRow : OpenClaim := { program := "ytcnhnjbefhgaaaa", sum := "3f2988b3247cc7d46aaa1edca0a2c4bdc461e77937c788181b2f7f7dbc6f0e31", func := "lockstep/locksteplaw12.MemPlays", spec := "memPlays", apart := false, narrowed := true }
def MemPlaysUptoSaid : Prop := memPlaysUptoRow.holds Try.pinned (OpenSpec.upto memPlaysSpec)

/-- 'locksteplaw12.MemBack', WHERE WHAT IT READS IS OF BULK AT MOST 1048576: true; the input reads as it did. -/
def memBackUptoRow : OpenClaim := { program := "ytcnhnjbefhgaaaa", sum := "3f2988b3247cc7d46aaa1edca0a2c4bdc461e77937c788181b2f7f7dbc6f0e31", func := "lockstep/locksteplaw12.MemBack", spec := "memBack", apart := false, narrowed := true }
def MemBackUptoSaid : Prop := memBackUptoRow.holds Try.pinned (OpenSpec.upto memBackSpec)

/-- 'locksteplaw12.MemReads', WHERE WHAT IT READS IS OF BULK AT MOST 1048576: true; the input reads as it did. -/
def memReadsUptoRow : OpenClaim := { program := "ytcnhnjbefhgaaaa", sum := "3f2988b3247cc7d46aaa1edca0a2c4bdc461e77937c788181b2f7f7dbc6f0e31", func := "lockstep/locksteplaw12.MemReads", spec := "memReads", apart := false, narrowed := true }
def MemReadsUptoSaid : Prop := memReadsUptoRow.holds Try.pinned (OpenSpec.upto memReadsSpec)

/-- 'locksteplaw12.MemApart', WHERE WHAT IT READS IS OF BULK AT MOST 1048576: true; the input reads as it did. -/
def memApartUptoRow : OpenClaim := { program := "ytcnhnjbefhgaaaa", sum := "3f2988b3247cc7d46aaa1edca0a2c4bdc461e77937c788181b2f7f7dbc6f0e31", func := "lockstep/locksteplaw12.MemApart", spec := "memApart", apart := false, narrowed := true }
def MemApartUptoSaid : Prop := memApartUptoRow.holds Try.pinned (OpenSpec.upto memApartSpec)

/-- 'locksteplaw12.MemMany', WHERE WHAT IT READS IS OF BULK AT MOST 1048576: true; the input reads as it did. -/
def memManyUptoRow : OpenClaim := { program := "ytcnhnjbefhgaaaa", sum := "3f2988b3247cc7d46aaa1edca0a2c4bdc461e77937c788181b2f7f7dbc6f0e31", func := "lockstep/locksteplaw12.MemMany", spec := "memMany", apart := false, narrowed := true }
def MemManyUptoSaid : Prop := memManyUptoRow.holds Try.pinned (OpenSpec.upto memManySpec)

/-- 'locksteplaw12.MemThere', WHERE WHAT IT READS IS OF BULK AT MOST 1048576: true; the input reads as it did. -/
def memThereUptoRow : OpenClaim := { program := "ytcnhnjbefhgaaaa", sum := "3f2988b3247cc7d46aaa1edca0a2c4bdc461e77937c788181b2f7f7dbc6f0e31", func := "lockstep/locksteplaw12.MemThere", spec := "memThere", apart := false, narrowed := true }
def MemThereUptoSaid : Prop := memThereUptoRow.holds Try.pinned (OpenSpec.upto memThereSpec)

end Rows
end Go.Proofs.Ytcnhnjbefhgaaaa
