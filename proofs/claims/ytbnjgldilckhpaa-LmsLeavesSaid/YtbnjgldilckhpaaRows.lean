/-
  No cell of these rows narrows 'for every input' (looked for: loops, veiled, ifaces, maps, wideKeys, modest, calm, conditions, laid).
  DERIVED. THE GIVEN ROWS OF THIS SEAT. 11 by the template 'for every input the law returns true; each argument reads behind the call as it read before'; 0 by the template 'total and deterministic' (their statements: YtbnjgldilckhpaaTotals.lean).
  GIVEN WITH THE SEED: the statements are not yours to turn. If you find one false, say at which input.
  Laid BY PROGRAM, IN A SANDBOX (cutbox-rows.mjs): the forced cells as the released guide's own fill.sh prints them over the translation 2e1a157e85376fff… (all of the seat's roots in one cut). By AI agents, Wed Nov 11 2026. No macro, syntax, notation, axiom, sorry.
-/
import Derived.Test.YtbnjgldilckhpaaChecked
import GoSem.Claim
import GoSem.ClaimJoined
import GoSem.ClaimMapViews
import Derived.JoinedTies
import Derived.KernelRfl
namespace Go.Proofs.Ytbnjgldilckhpaa
/- THE CELL 'sum', in the pinned program and in every row, IS THE sha256 OF THE DUMP (.gsa) THAT YtbnjgldilckhpaaProg.lean LOADS. Nothing in Lean hashes anything: it is a label: what it is worth is what the hold of that sum in a sandbox is worth. -/
noncomputable def Try.pinned : Pinned := { name := "ytbnjgldilckhpaa", sum := "2e1a157e85376fff68a225b60ff2867699e83fb5204c95b2f3e0d4e416e432fd", checked := Try.checked }
namespace Rows
def none {H : Type} : Left H := { results := [], args := [] }

/-- 'latticelaw5.OtsKeys': WHATEVER THE INPUT: true; the input reads as it did. -/
def otsKeysSpec : ChangeSpec := { name := "otsKeys", fn := fun _ => fun
  | [d1, d2, d3] => { results := [.lit (.bool true)], args := [d1, d2, d3] }
  | _ => none }
def otsKeysRow : OpenClaim := { program := "ytbnjgldilckhpaa", sum := "2e1a157e85376fff68a225b60ff2867699e83fb5204c95b2f3e0d4e416e432fd", func := "lattice/latticelaw5.OtsKeys", spec := "otsKeys", unfollowed := true, recurses := true, apart := false }
def OtsKeysSaid : Prop := otsKeysRow.holds Try.pinned (OpenSpec.ofChange otsKeysSpec)

/-- ITS FALSE NEIGHBOUR: 'it returns false'. Refute it at one input. -/
def otsKeysWrong : ChangeSpec := { name := "otsKeys", fn := fun _ => fun
  | [d1, d2, d3] => { results := [.lit (.bool false)], args := [d1, d2, d3] }
  | _ => none }
def OtsKeysWrongFalsely : Prop := otsKeysRow.holds Try.pinned (OpenSpec.ofChange otsKeysWrong)

/-- 'latticelaw5.OtsApart': WHATEVER THE INPUT: true; the input reads as it did. -/
def otsApartSpec : ChangeSpec := { name := "otsApart", fn := fun _ => fun
  | [d1, d2, d3, d4, d5, d6] => { results := [.lit (.bool true)], args := [d1, d2, d3, d4, d5, d6] }
  | _ => none }
def otsApartRow : OpenClaim := { program := "ytbnjgldilckhpaa", sum := "2e1a157e85376fff68a225b60ff2867699e83fb5204c95b2f3e0d4e416e432fd", func := "lattice/latticelaw5.OtsApart", spec := "otsApart", unfollowed := true, recurses := true, apart := false }
def OtsApartSaid : Prop := otsApartRow.holds Try.pinned (OpenSpec.ofChange otsApartSpec)

/-- ITS FALSE NEIGHBOUR: 'it returns false'. Refute it at one input. -/
def otsApartWrong : ChangeSpec := { name := "otsApart", fn := fun _ => fun
  | [d1, d2, d3, d4, d5, d6] => { results := [.lit (.bool false)], args := [d1, d2, d3, d4, d5, d6] }
  | _ => none }
def OtsApartWrongFalsely : Prop := otsApartRow.holds Try.pinned (OpenSpec.ofChange otsApartWrong)

/-- 'latticelaw6.LmsKeys': WHATEVER THE INPUT: true; the input reads as it did. -/
def lmsKeysSpec : ChangeSpec := { name := "lmsKeys", fn := fun _ => fun
  | [d1, d2, d3] => { results := [.lit (.bool true)], args := [d1, d2, d3] }
  | _ => none }
def lmsKeysRow : OpenClaim := { program := "ytbnjgldilckhpaa", sum := "2e1a157e85376fff68a225b60ff2867699e83fb5204c95b2f3e0d4e416e432fd", func := "lattice/latticelaw6.LmsKeys", spec := "lmsKeys", unfollowed := true, recurses := true, apart := false }
def LmsKeysSaid : Prop := lmsKeysRow.holds Try.pinned (OpenSpec.ofChange lmsKeysSpec)

/-- ITS FALSE NEIGHBOUR: 'it returns false'. Refute it at one input. -/
def lmsKeysWrong : ChangeSpec := { name := "lmsKeys", fn := fun _ => fun
  | [d1, d2, d3] => { results := [.lit (.bool false)], args := [d1, d2, d3] }
  | _ => none }
def LmsKeysWrongFalsely : Prop := lmsKeysRow.holds Try.pinned (OpenSpec.ofChange lmsKeysWrong)

/-- 'latticelaw5.OtsSigns': WHATEVER THE INPUT: true; the input reads as it did. -/
def otsSignsSpec : ChangeSpec := { name := "otsSigns", fn := fun _ => fun
  | [d1, d2, d3, d4] => { results := [.lit (.bool true)], args := [d1, d2, d3, d4] }
  | _ => none }
def otsSignsRow : OpenClaim := { program := "ytbnjgldilckhpaa", sum := "2e1a157e85376fff68a225b60ff2867699e83fb5204c95b2f3e0d4e416e432fd", func := "lattice/latticelaw5.OtsSigns", spec := "otsSigns", unfollowed := true, recurses := true, apart := false }
def OtsSignsSaid : Prop := otsSignsRow.holds Try.pinned (OpenSpec.ofChange otsSignsSpec)

/-- ITS FALSE NEIGHBOUR: 'it returns false'. Refute it at one input. -/
def otsSignsWrong : ChangeSpec := { name := "otsSigns", fn := fun _ => fun
  | [d1, d2, d3, d4] => { results := [.lit (.bool false)], args := [d1, d2, d3, d4] }
  | _ => none }
def OtsSignsWrongFalsely : Prop := otsSignsRow.holds Try.pinned (OpenSpec.ofChange otsSignsWrong)

/-- 'latticelaw5.OtsBacks': WHATEVER THE INPUT: true; the input reads as it did. -/
def otsBacksSpec : ChangeSpec := { name := "otsBacks", fn := fun _ => fun
  | [d1, d2, d3, d4, d5, d6, d7, d8] => { results := [.lit (.bool true)], args := [d1, d2, d3, d4, d5, d6, d7, d8] }
  | _ => none }
def otsBacksRow : OpenClaim := { program := "ytbnjgldilckhpaa", sum := "2e1a157e85376fff68a225b60ff2867699e83fb5204c95b2f3e0d4e416e432fd", func := "lattice/latticelaw5.OtsBacks", spec := "otsBacks", unfollowed := true, recurses := true, apart := false }
def OtsBacksSaid : Prop := otsBacksRow.holds Try.pinned (OpenSpec.ofChange otsBacksSpec)

/-- ITS FALSE NEIGHBOUR: 'it returns false'. Refute it at one input. -/
def otsBacksWrong : ChangeSpec := { name := "otsBacks", fn := fun _ => fun
  | [d1, d2, d3, d4, d5, d6, d7, d8] => { results := [.lit (.bool false)], args := [d1, d2, d3, d4, d5, d6, d7, d8] }
  | _ => none }
def OtsBacksWrongFalsely : Prop := otsBacksRow.holds Try.pinned (OpenSpec.ofChange otsBacksWrong)

/-- 'latticelaw5.OtsLengths': WHATEVER THE INPUT: true; the input reads as it did. -/
def otsLengthsSpec : ChangeSpec := { name := "otsLengths", fn := fun _ => fun
  | [d1, d2, d3, d4, d5] => { results := [.lit (.bool true)], args := [d1, d2, d3, d4, d5] }
  | _ => none }
def otsLengthsRow : OpenClaim := { program := "ytbnjgldilckhpaa", sum := "2e1a157e85376fff68a225b60ff2867699e83fb5204c95b2f3e0d4e416e432fd", func := "lattice/latticelaw5.OtsLengths", spec := "otsLengths", unfollowed := true, recurses := true, apart := false }
def OtsLengthsSaid : Prop := otsLengthsRow.holds Try.pinned (OpenSpec.ofChange otsLengthsSpec)

/-- ITS FALSE NEIGHBOUR: 'it returns false'. Refute it at one input. -/
def otsLengthsWrong : ChangeSpec := { name := "otsLengths", fn := fun _ => fun
  | [d1, d2, d3, d4, d5] => { results := [.lit (.bool false)], args := [d1, d2, d3, d4, d5] }
  | _ => none }
def OtsLengthsWrongFalsely : Prop := otsLengthsRow.holds Try.pinned (OpenSpec.ofChange otsLengthsWrong)

/-- 'latticelaw6.LmsChecks': WHATEVER THE INPUT: true; the input reads as it did. -/
def lmsChecksSpec : ChangeSpec := { name := "lmsChecks", fn := fun _ => fun
  | [d1, d2, d3, d4, d5, d6, d7, d8] => { results := [.lit (.bool true)], args := [d1, d2, d3, d4, d5, d6, d7, d8] }
  | _ => none }
def lmsChecksRow : OpenClaim := { program := "ytbnjgldilckhpaa", sum := "2e1a157e85376fff68a225b60ff2867699e83fb5204c95b2f3e0d4e416e432fd", func := "lattice/latticelaw6.LmsChecks", spec := "lmsChecks", unfollowed := true, recurses := true, apart := false }
def LmsChecksSaid : Prop := lmsChecksRow.holds Try.pinned (OpenSpec.ofChange lmsChecksSpec)

/-- ITS FALSE NEIGHBOUR: 'it returns false'. Refute it at one input. -/
def lmsChecksWrong : ChangeSpec := { name := "lmsChecks", fn := fun _ => fun
  | [d1, d2, d3, d4, d5, d6, d7, d8] => { results := [.lit (.bool false)], args := [d1, d2, d3, d4, d5, d6, d7, d8] }
  | _ => none }
def LmsChecksWrongFalsely : Prop := lmsChecksRow.holds Try.pinned (OpenSpec.ofChange lmsChecksWrong)

/-- 'latticelaw6.LmsSigns': WHATEVER THE INPUT: true; the input reads as it did. -/
def lmsSignsSpec : ChangeSpec := { name := "lmsSigns", fn := fun _ => fun
  | [d1, d2, d3, d4, d5] => { results := [.lit (.bool true)], args := [d1, d2, d3, d4, d5] }
  | _ => none }
def lmsSignsRow : OpenClaim := { program := "ytbnjgldilckhpaa", sum := "2e1a157e85376fff68a225b60ff2867699e83fb5204c95b2f3e0d4e416e432fd", func := "lattice/latticelaw6.LmsSigns", spec := "lmsSigns", unfollowed := true, recurses := true, apart := false }
def LmsSignsSaid : Prop := lmsSignsRow.holds Try.pinned (OpenSpec.ofChange lmsSignsSpec)

/-- ITS FALSE NEIGHBOUR: 'it returns false'. Refute it at one input. -/
def lmsSignsWrong : ChangeSpec := { name := "lmsSigns", fn := fun _ => fun
  | [d1, d2, d3, d4, d5] => { results := [.lit (.bool false)], args := [d1, d2, d3, d4, d5] }
  | _ => none }
def LmsSignsWrongFalsely : Prop := lmsSignsRow.holds Try.pinned (OpenSpec.ofChange lmsSignsWrong)

/-- 'latticelaw6.LmsOthers': WHATEVER THE INPUT: true; the input reads as it did. -/
def lmsOthersSpec : ChangeSpec := { name := "lmsOthers", fn := fun _ => fun
  | [d1, d2, d3, d4, d5] => { results := [.lit (.bool true)], args := [d1, d2, d3, d4, d5] }
  | _ => none }
def lmsOthersRow : OpenClaim := { program := "ytbnjgldilckhpaa", sum := "2e1a157e85376fff68a225b60ff2867699e83fb5204c95b2f3e0d4e416e432fd", func := "lattice/latticelaw6.LmsOthers", spec := "lmsOthers", unfollowed := true, recurses := true, apart := false }
def LmsOthersSaid : Prop := lmsOthersRow.holds Try.pinned (OpenSpec.ofChange lmsOthersSpec)

/-- ITS FALSE NEIGHBOUR: 'it returns false'. Refute it at one input. -/
def lmsOthersWrong : ChangeSpec := { name := "lmsOthers", fn := fun _ => fun
  | [d1, d2, d3, d4, d5] => { results := [.lit (.bool false)], args := [d1, d2, d3, d4, d5] }
  | _ => none }
def LmsOthersWrongFalsely : Prop := lmsOthersRow.holds Try.pinned (OpenSpec.ofChange lmsOthersWrong)

/-- 'latticelaw6.LmsLeaves': WHATEVER THE INPUT: true; the input reads as it did. -/
def lmsLeavesSpec : ChangeSpec := { name := "lmsLeaves", fn := fun _ => fun
  | [d1, d2, d3, d4] => { results := [.lit (.bool true)], args := [d1, d2, d3, d4] }
  | _ => none }
def lmsLeavesRow : OpenClaim := { program := "ytbnjgldilckhpaa", sum := "2e1a157e85376fff68a225b60ff2867699e83fb5204c95b2f3e0d4e416e432fd", func := "lattice/latticelaw6.LmsLeaves", spec := "lmsLeaves", unfollowed := true, recurses := true, apart := false }
def LmsLeavesSaid : Prop := lmsLeavesRow.holds Try.pinned (OpenSpec.ofChange lmsLeavesSpec)

/-- ITS FALSE NEIGHBOUR: 'it returns false'. Refute it at one input. -/
def lmsLeavesWrong : ChangeSpec := { name := "lmsLeaves", fn := fun _ => fun
  | [d1, d2, d3, d4] => { results := [.lit (.bool false)], args := [d1, d2, d3, d4] }
  | _ => none }
def LmsLeavesWrongFalsely : Prop := lmsLeavesRow.holds Try.pinned (OpenSpec.ofChange lmsLeavesWrong)

/-- 'latticelaw6.LmsForms': WHATEVER THE INPUT: true; the input reads as it did. -/
def lmsFormsSpec : ChangeSpec := { name := "lmsForms", fn := fun _ => fun
  | [d1, d2, d3, d4] => { results := [.lit (.bool true)], args := [d1, d2, d3, d4] }
  | _ => none }
def lmsFormsRow : OpenClaim := { program := "ytbnjgldilckhpaa", sum := "2e1a157e85376fff68a225b60ff2867699e83fb5204c95b2f3e0d4e416e432fd", func := "lattice/latticelaw6.LmsForms", spec := "lmsForms", unfollowed := true, recurses := true, apart := false }
def LmsFormsSaid : Prop := lmsFormsRow.holds Try.pinned (OpenSpec.ofChange lmsFormsSpec)

/-- ITS FALSE NEIGHBOUR: 'it returns false'. Refute it at one input. -/
def lmsFormsWrong : ChangeSpec := { name := "lmsForms", fn := fun _ => fun
  | [d1, d2, d3, d4] => { results := [.lit (.bool false)], args := [d1, d2, d3, d4] }
  | _ => none }
def LmsFormsWrongFalsely : Prop := lmsFormsRow.holds Try.pinned (OpenSpec.ofChange lmsFormsWrong)

/- THE SECOND FORM. 'bulk': how many values and letters a reading holds, each counted each time it is reached (what is shared counts as often as it is met; a slice's spare places count too). A statement '..UptoSaid' is the law's where the arguments, and the package variables that the reading takes, are together of bulk at most 1048576: NARROWER than '..Said'. Prove '..Said' where nothing that the law and all that it calls make is longer than what came in: it says more and counts as full. Else prove '..UptoSaid'. A law counts once. -/
mutual
def uptoBulk {H : Type} : DataW H → Nat
  | .lit (.string bytes) => bytes.length + 1
  | .lit _ => 1
  | .nil => 1
  | .ptr d => uptoBulk d + 1
  | .slice elems spare => uptoBulkAll elems + uptoBulkAll spare + 1
  | .agg parts => uptoBulkAll parts + 1
  | .iface _ d => uptoBulk d + 1
  | .map entries => uptoBulkEntries entries + 1
  | .held _ => 1
def uptoBulkAll {H : Type} : List (DataW H) → Nat
  | [] => 0
  | d :: r => uptoBulk d + uptoBulkAll r
def uptoBulkEntries {H : Type} : List (Lit × DataW H) → Nat
  | [] => 0
  | x :: r => uptoBulkEntry x + uptoBulkEntries r
def uptoBulkEntry {H : Type} : Lit × DataW H → Nat
  | (.string bytes, d) => bytes.length + uptoBulk d + 1
  | (_, d) => uptoBulk d + 1
 end
def uptoSmall : (H : Type) → List (DataW H) → Bool := fun _ ds => decide (uptoBulkAll ds ≤ 1048576)
def OpenSpec.upto (s : _root_.Go.ChangeSpec) : _root_.Go.OpenSpec := { _root_.Go.OpenSpec.ofChange s with cond := some uptoSmall }

/-- 'latticelaw5.OtsKeys', WHERE WHAT IT READS IS OF BULK AT MOST 1048576: true; the input reads as it did. -/
def otsKeysUptoRow : OpenClaim := { program := "ytbnjgldilckhpaa", sum := "2e1a157e85376fff68a225b60ff2867699e83fb5204c95b2f3e0d4e416e432fd", func := "lattice/latticelaw5.OtsKeys", spec := "otsKeys", unfollowed := true, recurses := true, apart := false, narrowed := true }
def OtsKeysUptoSaid : Prop := otsKeysUptoRow.holds Try.pinned (OpenSpec.upto otsKeysSpec)

/-- 'latticelaw5.OtsApart', WHERE WHAT IT READS IS OF BULK AT MOST 1048576: true; the input reads as it did. -/
def otsApartUptoRow : OpenClaim := { program := "ytbnjgldilckhpaa", sum := "2e1a157e85376fff68a225b60ff2867699e83fb5204c95b2f3e0d4e416e432fd", func := "lattice/latticelaw5.OtsApart", spec := "otsApart", unfollowed := true, recurses := true, apart := false, narrowed := true }
def OtsApartUptoSaid : Prop := otsApartUptoRow.holds Try.pinned (OpenSpec.upto otsApartSpec)

/-- 'latticelaw6.LmsKeys', WHERE WHAT IT READS IS OF BULK AT MOST 1048576: true; the input reads as it did. -/
def lmsKeysUptoRow : OpenClaim := { program := "ytbnjgldilckhpaa", sum := "2e1a157e85376fff68a225b60ff2867699e83fb5204c95b2f3e0d4e416e432fd", func := "lattice/latticelaw6.LmsKeys", spec := "lmsKeys", unfollowed := true, recurses := true, apart := false, narrowed := true }
def LmsKeysUptoSaid : Prop := lmsKeysUptoRow.holds Try.pinned (OpenSpec.upto lmsKeysSpec)

/-- 'latticelaw5.OtsSigns', WHERE WHAT IT READS IS OF BULK AT MOST 1048576: true; the input reads as it did. -/
def otsSignsUptoRow : OpenClaim := { program := "ytbnjgldilckhpaa", sum := "2e1a157e85376fff68a225b60ff2867699e83fb5204c95b2f3e0d4e416e432fd", func := "lattice/latticelaw5.OtsSigns", spec := "otsSigns", unfollowed := true, recurses := true, apart := false, narrowed := true }
def OtsSignsUptoSaid : Prop := otsSignsUptoRow.holds Try.pinned (OpenSpec.upto otsSignsSpec)

/-- 'latticelaw5.OtsBacks', WHERE WHAT IT READS IS OF BULK AT MOST 1048576: true; the input reads as it did. -/
def otsBacksUptoRow : OpenClaim := { program := "ytbnjgldilckhpaa", sum := "2e1a157e85376fff68a225b60ff2867699e83fb5204c95b2f3e0d4e416e432fd", func := "lattice/latticelaw5.OtsBacks", spec := "otsBacks", unfollowed := true, recurses := true, apart := false, narrowed := true }
def OtsBacksUptoSaid : Prop := otsBacksUptoRow.holds Try.pinned (OpenSpec.upto otsBacksSpec)

/-- 'latticelaw5.OtsLengths', WHERE WHAT IT READS IS OF BULK AT MOST 1048576: true; the input reads as it did. -/
def otsLengthsUptoRow : OpenClaim := { program := "ytbnjgldilckhpaa", sum := "2e1a157e85376fff68a225b60ff2867699e83fb5204c95b2f3e0d4e416e432fd", func := "lattice/latticelaw5.OtsLengths", spec := "otsLengths", unfollowed := true, recurses := true, apart := false, narrowed := true }
def OtsLengthsUptoSaid : Prop := otsLengthsUptoRow.holds Try.pinned (OpenSpec.upto otsLengthsSpec)

/-- 'latticelaw6.LmsChecks', WHERE WHAT IT READS IS OF BULK AT MOST 1048576: true; the input reads as it did. -/
def lmsChecksUptoRow : OpenClaim := { program := "ytbnjgldilckhpaa", sum := "2e1a157e85376fff68a225b60ff2867699e83fb5204c95b2f3e0d4e416e432fd", func := "lattice/latticelaw6.LmsChecks", spec := "lmsChecks", unfollowed := true, recurses := true, apart := false, narrowed := true }
def LmsChecksUptoSaid : Prop := lmsChecksUptoRow.holds Try.pinned (OpenSpec.upto lmsChecksSpec)

/-- 'latticelaw6.LmsSigns', WHERE WHAT IT READS IS OF BULK AT MOST 1048576: true; the input reads as it did. -/
def lmsSignsUptoRow : OpenClaim := { program := "ytbnjgldilckhpaa", sum := "2e1a157e85376fff68a225b60ff2867699e83fb5204c95b2f3e0d4e416e432fd", func := "lattice/latticelaw6.LmsSigns", spec := "lmsSigns", unfollowed := true, recurses := true, apart := false, narrowed := true }
def LmsSignsUptoSaid : Prop := lmsSignsUptoRow.holds Try.pinned (OpenSpec.upto lmsSignsSpec)

/-- 'latticelaw6.LmsOthers', WHERE WHAT IT READS IS OF BULK AT MOST 1048576: true; the input reads as it did. -/
def lmsOthersUptoRow : OpenClaim := { program := "ytbnjgldilckhpaa", sum := "2e1a157e85376fff68a225b60ff2867699e83fb5204c95b2f3e0d4e416e432fd", func := "lattice/latticelaw6.LmsOthers", spec := "lmsOthers", unfollowed := true, recurses := true, apart := false, narrowed := true }
def LmsOthersUptoSaid : Prop := lmsOthersUptoRow.holds Try.pinned (OpenSpec.upto lmsOthersSpec)

/-- 'latticelaw6.LmsLeaves', WHERE WHAT IT READS IS OF BULK AT MOST 1048576: true; the input reads as it did. -/
def lmsLeavesUptoRow : OpenClaim := { program := "ytbnjgldilckhpaa", sum := "2e1a157e85376fff68a225b60ff2867699e83fb5204c95b2f3e0d4e416e432fd", func := "lattice/latticelaw6.LmsLeaves", spec := "lmsLeaves", unfollowed := true, recurses := true, apart := false, narrowed := true }
def LmsLeavesUptoSaid : Prop := lmsLeavesUptoRow.holds Try.pinned (OpenSpec.upto lmsLeavesSpec)

/-- 'latticelaw6.LmsForms', WHERE WHAT IT READS IS OF BULK AT MOST 1048576: true; the input reads as it did. -/
def lmsFormsUptoRow : OpenClaim := { program := "ytbnjgldilckhpaa", sum := "2e1a157e85376fff68a225b60ff2867699e83fb5204c95b2f3e0d4e416e432fd", func := "lattice/latticelaw6.LmsForms", spec := "lmsForms", unfollowed := true, recurses := true, apart := false, narrowed := true }
def LmsFormsUptoSaid : Prop := lmsFormsUptoRow.holds Try.pinned (OpenSpec.upto lmsFormsSpec)

end Rows
end Go.Proofs.Ytbnjgldilckhpaa
