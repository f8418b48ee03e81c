/-
  No cell of these rows narrows 'for every input' (looked for: loops, veiled, ifaces, maps, wideKeys, modest, calm, conditions, laid).
  DERIVED. THE GIVEN ROWS OF THIS SEAT. 8 by the template 'for every input the law returns true; each argument reads behind the call as it read before'; 0 by the template 'total and deterministic' (their statements: YtakbkpcmdmjblaaTotals.lean).
  GIVEN WITH THE SEED: the statements are not yours to turn. If you find one false, say at which input.
  Laid BY PROGRAM, IN A SANDBOX (cutbox-rows.mjs): the forced cells as the released guide's own fill.sh prints them over the translation 419fec1fa69f2d27… (all of the seat's roots in one cut). By AI agents, Wed Nov 11 2026. No macro, syntax, notation, axiom, sorry.
-/
import Derived.Test.YtakbkpcmdmjblaaChecked
import GoSem.Claim
import GoSem.ClaimJoined
import GoSem.ClaimMapViews
import Derived.JoinedTies
import Derived.KernelRfl
namespace Go.Proofs.Ytakbkpcmdmjblaa
/- THE CELL 'sum', in the pinned program and in every row, IS THE sha256 OF THE DUMP (.gsa) THAT YtakbkpcmdmjblaaProg.lean LOADS. Nothing in Lean hashes anything: it is a label: what it is worth is what the hold of that sum in a sandbox is worth. -/
noncomputable def Try.pinned : Pinned := { name := "ytakbkpcmdmjblaa", sum := "419fec1fa69f2d27ba8748147327666177e0fbb836530abbc63c125eefc81948", checked := Try.checked }
namespace Rows
def none {H : Type} : Left H := { results := [], args := [] }

/-- 'locksteplaw01.WordDoes': WHATEVER THE INPUT: true; the input reads as it did. -/
def wordDoesSpec : ChangeSpec := { name := "wordDoes", fn := fun _ => fun
  | [d1, d2] => { results := [.lit (.bool true)], args := [d1, d2] }
  | _ => none }
def wordDoesRow : OpenClaim := { program := "ytakbkpcmdmjblaa", sum := "419fec1fa69f2d27ba8748147327666177e0fbb836530abbc63c125eefc81948", func := "lockstep/locksteplaw01.WordDoes", spec := "wordDoes", unfollowed := true, recurses := true, apart := false }
def WordDoesSaid : Prop := wordDoesRow.holds Try.pinned (OpenSpec.ofChange wordDoesSpec)

/-- ITS FALSE NEIGHBOUR: 'it returns false'. Refute it at one input. -/
def wordDoesWrong : ChangeSpec := { name := "wordDoes", fn := fun _ => fun
  | [d1, d2] => { results := [.lit (.bool false)], args := [d1, d2] }
  | _ => none }
def WordDoesWrongFalsely : Prop := wordDoesRow.holds Try.pinned (OpenSpec.ofChange wordDoesWrong)

/-- 'locksteplaw01.WordUndoes': WHATEVER THE INPUT: true; the input reads as it did. -/
def wordUndoesSpec : ChangeSpec := { name := "wordUndoes", fn := fun _ => fun
  | [d1, d2, d3] => { results := [.lit (.bool true)], args := [d1, d2, d3] }
  | _ => none }
def wordUndoesRow : OpenClaim := { program := "ytakbkpcmdmjblaa", sum := "419fec1fa69f2d27ba8748147327666177e0fbb836530abbc63c125eefc81948", func := "lockstep/locksteplaw01.WordUndoes", spec := "wordUndoes", unfollowed := true, recurses := true, apart := false }
def WordUndoesSaid : Prop := wordUndoesRow.holds Try.pinned (OpenSpec.ofChange wordUndoesSpec)

/-- ITS FALSE NEIGHBOUR: 'it returns false'. Refute it at one input. -/
def wordUndoesWrong : ChangeSpec := { name := "wordUndoes", fn := fun _ => fun
  | [d1, d2, d3] => { results := [.lit (.bool false)], args := [d1, d2, d3] }
  | _ => none }
def WordUndoesWrongFalsely : Prop := wordUndoesRow.holds Try.pinned (OpenSpec.ofChange wordUndoesWrong)

/-- 'locksteplaw01.WordLaws': WHATEVER THE INPUT: true; the input reads as it did. -/
def wordLawsSpec : ChangeSpec := { name := "wordLaws", fn := fun _ => fun
  | [d1, d2, d3] => { results := [.lit (.bool true)], args := [d1, d2, d3] }
  | _ => none }
def wordLawsRow : OpenClaim := { program := "ytakbkpcmdmjblaa", sum := "419fec1fa69f2d27ba8748147327666177e0fbb836530abbc63c125eefc81948", func := "lockstep/locksteplaw01.WordLaws", spec := "wordLaws", unfollowed := true, recurses := true, apart := false }
def WordLawsSaid : Prop := wordLawsRow.holds Try.pinned (OpenSpec.ofChange wordLawsSpec)

/-- ITS FALSE NEIGHBOUR: 'it returns false'. Refute it at one input. -/
def wordLawsWrong : ChangeSpec := { name := "wordLaws", fn := fun _ => fun
  | [d1, d2, d3] => { results := [.lit (.bool false)], args := [d1, d2, d3] }
  | _ => none }
def WordLawsWrongFalsely : Prop := wordLawsRow.holds Try.pinned (OpenSpec.ofChange wordLawsWrong)

/-- 'locksteplaw01.WordSigns': WHATEVER THE INPUT: true; the input reads as it did. -/
def wordSignsSpec : ChangeSpec := { name := "wordSigns", fn := fun _ => fun
  | [d1, d2, d3] => { results := [.lit (.bool true)], args := [d1, d2, d3] }
  | _ => none }
def wordSignsRow : OpenClaim := { program := "ytakbkpcmdmjblaa", sum := "419fec1fa69f2d27ba8748147327666177e0fbb836530abbc63c125eefc81948", func := "lockstep/locksteplaw01.WordSigns", spec := "wordSigns", unfollowed := true, recurses := true, apart := false }
def WordSignsSaid : Prop := wordSignsRow.holds Try.pinned (OpenSpec.ofChange wordSignsSpec)

/-- ITS FALSE NEIGHBOUR: 'it returns false'. Refute it at one input. -/
def wordSignsWrong : ChangeSpec := { name := "wordSigns", fn := fun _ => fun
  | [d1, d2, d3] => { results := [.lit (.bool false)], args := [d1, d2, d3] }
  | _ => none }
def WordSignsWrongFalsely : Prop := wordSignsRow.holds Try.pinned (OpenSpec.ofChange wordSignsWrong)

/-- 'locksteplaw01.WordShifts': WHATEVER THE INPUT: true; the input reads as it did. -/
def wordShiftsSpec : ChangeSpec := { name := "wordShifts", fn := fun _ => fun
  | [d1, d2, d3] => { results := [.lit (.bool true)], args := [d1, d2, d3] }
  | _ => none }
def wordShiftsRow : OpenClaim := { program := "ytakbkpcmdmjblaa", sum := "419fec1fa69f2d27ba8748147327666177e0fbb836530abbc63c125eefc81948", func := "lockstep/locksteplaw01.WordShifts", spec := "wordShifts", unfollowed := true, recurses := true, apart := false }
def WordShiftsSaid : Prop := wordShiftsRow.holds Try.pinned (OpenSpec.ofChange wordShiftsSpec)

/-- ITS FALSE NEIGHBOUR: 'it returns false'. Refute it at one input. -/
def wordShiftsWrong : ChangeSpec := { name := "wordShifts", fn := fun _ => fun
  | [d1, d2, d3] => { results := [.lit (.bool false)], args := [d1, d2, d3] }
  | _ => none }
def WordShiftsWrongFalsely : Prop := wordShiftsRow.holds Try.pinned (OpenSpec.ofChange wordShiftsWrong)

/-- 'locksteplaw01.WordBits': WHATEVER THE INPUT: true; the input reads as it did. -/
def wordBitsSpec : ChangeSpec := { name := "wordBits", fn := fun _ => fun
  | [d] => { results := [.lit (.bool true)], args := [d] }
  | _ => none }
def wordBitsRow : OpenClaim := { program := "ytakbkpcmdmjblaa", sum := "419fec1fa69f2d27ba8748147327666177e0fbb836530abbc63c125eefc81948", func := "lockstep/locksteplaw01.WordBits", spec := "wordBits", unfollowed := true, recurses := true, apart := false }
def WordBitsSaid : Prop := wordBitsRow.holds Try.pinned (OpenSpec.ofChange wordBitsSpec)

/-- ITS FALSE NEIGHBOUR: 'it returns false'. Refute it at one input. -/
def wordBitsWrong : ChangeSpec := { name := "wordBits", fn := fun _ => fun
  | [d] => { results := [.lit (.bool false)], args := [d] }
  | _ => none }
def WordBitsWrongFalsely : Prop := wordBitsRow.holds Try.pinned (OpenSpec.ofChange wordBitsWrong)

/-- 'locksteplaw01.WordMuls': WHATEVER THE INPUT: true; the input reads as it did. -/
def wordMulsSpec : ChangeSpec := { name := "wordMuls", fn := fun _ => fun
  | [d1, d2, d3] => { results := [.lit (.bool true)], args := [d1, d2, d3] }
  | _ => none }
def wordMulsRow : OpenClaim := { program := "ytakbkpcmdmjblaa", sum := "419fec1fa69f2d27ba8748147327666177e0fbb836530abbc63c125eefc81948", func := "lockstep/locksteplaw01.WordMuls", spec := "wordMuls", unfollowed := true, recurses := true, apart := false }
def WordMulsSaid : Prop := wordMulsRow.holds Try.pinned (OpenSpec.ofChange wordMulsSpec)

/-- ITS FALSE NEIGHBOUR: 'it returns false'. Refute it at one input. -/
def wordMulsWrong : ChangeSpec := { name := "wordMuls", fn := fun _ => fun
  | [d1, d2, d3] => { results := [.lit (.bool false)], args := [d1, d2, d3] }
  | _ => none }
def WordMulsWrongFalsely : Prop := wordMulsRow.holds Try.pinned (OpenSpec.ofChange wordMulsWrong)

/-- 'locksteplaw01.WordWidths': WHATEVER THE INPUT: true; the input reads as it did. -/
def wordWidthsSpec : ChangeSpec := { name := "wordWidths", fn := fun _ => fun
  | [d1, d2, d3] => { results := [.lit (.bool true)], args := [d1, d2, d3] }
  | _ => none }
def wordWidthsRow : OpenClaim := { program := "ytakbkpcmdmjblaa", sum := "419fec1fa69f2d27ba8748147327666177e0fbb836530abbc63c125eefc81948", func := "lockstep/locksteplaw01.WordWidths", spec := "wordWidths", unfollowed := true, recurses := true, apart := false }
def WordWidthsSaid : Prop := wordWidthsRow.holds Try.pinned (OpenSpec.ofChange wordWidthsSpec)

/-- ITS FALSE NEIGHBOUR: 'it returns false'. Refute it at one input. -/
def wordWidthsWrong : ChangeSpec := { name := "wordWidths", fn := fun _ => fun
  | [d1, d2, d3] => { results := [.lit (.bool false)], args := [d1, d2, d3] }
  | _ => none }
def WordWidthsWrongFalsely : Prop := wordWidthsRow.holds Try.pinned (OpenSpec.ofChange wordWidthsWrong)

/- THE SECOND FORM. 'bulk': how many values and letters a reading holds, each counted each time it is reached (what is shared counts as often as it is met; a slice's spare places count too). A statement '..UptoSaid' is the law's where the arguments, and the package variables that the reading takes, are together of bulk at most 1048576: NARROWER than '..Said'. Prove '..Said' where nothing that the law and all that it calls make is longer than what came in: it says more and counts as full. Else prove '..UptoSaid'. A law counts once. -/
mutual
def uptoBulk {H : Type} : DataW H → Nat
  | .lit (.string bytes) => bytes.length + 1
  | .lit _ => 1
  | .nil => 1
  | .ptr d => uptoBulk d + 1
  | .slice elems spare => uptoBulkAll elems + uptoBulkAll spare + 1
  | .agg parts => uptoBulkAll parts + 1
  | .iface _ d => uptoBulk d + 1
  | .map entries => uptoBulkEntries entries + 1
  | .held _ => 1
def uptoBulkAll {H : Type} : List (DataW H) → Nat
  | [] => 0
  | d :: r => uptoBulk d + uptoBulkAll r
def uptoBulkEntries {H : Type} : List (Lit × DataW H) → Nat
  | [] => 0
  | x :: r => uptoBulkEntry x + uptoBulkEntries r
def uptoBulkEntry {H : Type} : Lit × DataW H → Nat
  | (.string bytes, d) => bytes.length + uptoBulk d + 1
  | (_, d) => uptoBulk d + 1
 end
def uptoSmall : (H : Type) → List (DataW H) → Bool := fun _ ds => decide (uptoBulkAll ds ≤ 1048576)
def OpenSpec.upto (s : _root_.Go.ChangeSpec) : _root_.Go.OpenSpec := { _root_.Go.OpenSpec.ofChange s with cond := some uptoSmall }

/-- 'locksteplaw01.WordDoes', WHERE WHAT IT READS IS OF BULK AT MOST 1048576: true; the input reads as it did. -/
def wordDoesUptoRow : OpenClaim := { program := "ytakbkpcmdmjblaa", sum := "419fec1fa69f2d27ba8748147327666177e0fbb836530abbc63c125eefc81948", func := "lockstep/locksteplaw01.WordDoes", spec := "wordDoes", unfollowed := true, recurses := true, apart := false, narrowed := true }
def WordDoesUptoSaid : Prop := wordDoesUptoRow.holds Try.pinned (OpenSpec.upto wordDoesSpec)

/-- 'locksteplaw01.WordUndoes', WHERE WHAT IT READS IS OF BULK AT MOST 1048576: true; the input reads as it did. -/
def wordUndoesUptoRow : OpenClaim := { program := "ytakbkpcmdmjblaa", sum := "419fec1fa69f2d27ba8748147327666177e0fbb836530abbc63c125eefc81948", func := "lockstep/locksteplaw01.WordUndoes", spec := "wordUndoes", unfollowed := true, recurses := true, apart := false, narrowed := true }
def WordUndoesUptoSaid : Prop := wordUndoesUptoRow.holds Try.pinned (OpenSpec.upto wordUndoesSpec)

/-- 'locksteplaw01.WordLaws', WHERE WHAT IT READS IS OF BULK AT MOST 1048576: true; the input reads as it did. -/
def wordLawsUptoRow : OpenClaim := { program := "ytakbkpcmdmjblaa", sum := "419fec1fa69f2d27ba8748147327666177e0fbb836530abbc63c125eefc81948", func := "lockstep/locksteplaw01.WordLaws", spec := "wordLaws", unfollowed := true, recurses := true, apart := false, narrowed := true }
def WordLawsUptoSaid : Prop := wordLawsUptoRow.holds Try.pinned (OpenSpec.upto wordLawsSpec)

/-- 'locksteplaw01.WordSigns', WHERE WHAT IT READS IS OF BULK AT MOST 1048576: true; the input reads as it did. -/
def wordSignsUptoRow : OpenClaim := { program := "ytakbkpcmdmjblaa", sum := "419fec1fa69f2d27ba8748147327666177e0fbb836530abbc63c125eefc81948", func := "lockstep/locksteplaw01.WordSigns", spec := "wordSigns", unfollowed := true, recurses := true, apart := false, narrowed := true }
def WordSignsUptoSaid : Prop := wordSignsUptoRow.holds Try.pinned (OpenSpec.upto wordSignsSpec)

/-- 'locksteplaw01.WordShifts', WHERE WHAT IT READS IS OF BULK AT MOST 1048576: true; the input reads as it did. -/
def wordShiftsUptoRow : OpenClaim := { program := "ytakbkpcmdmjblaa", sum := "419fec1fa69f2d27ba8748147327666177e0fbb836530abbc63c125eefc81948", func := "lockstep/locksteplaw01.WordShifts", spec := "wordShifts", unfollowed := true, recurses := true, apart := false, narrowed := true }
def WordShiftsUptoSaid : Prop := wordShiftsUptoRow.holds Try.pinned (OpenSpec.upto wordShiftsSpec)

/-- 'locksteplaw01.WordBits', WHERE WHAT IT READS IS OF BULK AT MOST 1048576: true; the input reads as it did. -/
def wordBitsUptoRow : OpenClaim := { program := "ytakbkpcmdmjblaa", sum := "419fec1fa69f2d27ba8748147327666177e0fbb836530abbc63c125eefc81948", func := "lockstep/locksteplaw01.WordBits", spec := "wordBits", unfollowed := true, recurses := true, apart := false, narrowed := true }
def WordBitsUptoSaid : Prop := wordBitsUptoRow.holds Try.pinned (OpenSpec.upto wordBitsSpec)

/-- 'locksteplaw01.WordMuls', WHERE WHAT IT READS IS OF BULK AT MOST 1048576: true; the input reads as it did. -/
def wordMulsUptoRow : OpenClaim := { program := "ytakbkpcmdmjblaa", sum := "419fec1fa69f2d27ba8748147327666177e0fbb836530abbc63c125eefc81948", func := "lockstep/locksteplaw01.WordMuls", spec := "wordMuls", unfollowed := true, recurses := true, apart := false, narrowed := true }
def WordMulsUptoSaid : Prop := wordMulsUptoRow.holds Try.pinned (OpenSpec.upto wordMulsSpec)

/-- 'locksteplaw01.WordWidths', WHERE WHAT IT READS IS OF BULK AT MOST 1048576: true; the input reads as it did. -/
def wordWidthsUptoRow : OpenClaim := { program := "ytakbkpcmdmjblaa", sum := "419fec1fa69f2d27ba8748147327666177e0fbb836530abbc63c125eefc81948", func := "lockstep/locksteplaw01.WordWidths", spec := "wordWidths", unfollowed := true, recurses := true, apart := false, narrowed := true }
def WordWidthsUptoSaid : Prop := wordWidthsUptoRow.holds Try.pinned (OpenSpec.upto wordWidthsSpec)

end Rows
end Go.Proofs.Ytakbkpcmdmjblaa
