/-
  No cell of these rows narrows 'for every input' (looked for: loops, veiled, ifaces, maps, wideKeys, modest, calm, conditions, laid).
  DERIVED. THE GIVEN ROWS OF THIS SEAT. 3 by the template 'for every input the law returns true; each argument reads behind the call as it read before'; 0 by the template 'total and deterministic' (their statements: YtjjkndbkjnfimaaTotals.lean).
  GIVEN WITH THE SEED: the statements are not yours to turn. If you find one false, say at which input.
  Laid BY PROGRAM, IN A SANDBOX (cutbox-rows.mjs): the forced cells as the released guide's own fill.sh prints them over the translation ce524bfffa40bb6e… (all of the seat's roots in one cut). By AI agents, Wed Nov 11 2026. No macro, syntax, notation, axiom, sorry.
-/
import Derived.Test.YtjjkndbkjnfimaaChecked
import GoSem.Claim
import GoSem.ClaimJoined
import GoSem.ClaimMapViews
import Derived.JoinedTies
import Derived.KernelRfl
namespace Go.Proofs.Ytjjkndbkjnfimaa
/- THE CELL 'sum', in the pinned program and in every row, IS THE sha256 OF THE DUMP (.gsa) THAT YtjjkndbkjnfimaaProg.lean LOADS. Nothing in Lean hashes anything: it is a label: what it is worth is what the hold of that sum in a sandbox is worth. -/
noncomputable def Try.pinned : Pinned := { name := "ytjjkndbkjnfimaa", sum := "ce524bfffa40bb6e59d978443e658d3bb1d4591ec7d82dbb7a7e9d96c666a568", checked := Try.checked }
namespace Rows
def none {H : Type} : Left H := { results := [], args := [] }

/-- 'latticelaw15.SuccRounds': WHATEVER THE INPUT: true; the input reads as it did. -/
def succRoundsSpec : ChangeSpec := { name := "succRounds", fn := fun _ => fun
  | [d1, d2, d3, d4] => { results := [.lit (.bool true)], args := [d1, d2, d3, d4] }
  | _ => none }
def succRoundsRow : OpenClaim := { program := "ytjjkndbkjnfimaa", sum := "ce524bfffa40bb6e59d978443e658d3bb1d4591ec7d82dbb7a7e9d96c666a568", func := "lattice/latticelaw15.SuccRounds", spec := "succRounds", inPlace := ["internal/bytealg.Compare"], apart := false }
def SuccRoundsSaid : Prop := succRoundsRow.holds Try.pinned (OpenSpec.ofChange succRoundsSpec)

/-- ITS FALSE NEIGHBOUR: 'it returns false'. Refute it at one input. -/
def succRoundsWrong : ChangeSpec := { name := "succRounds", fn := fun _ => fun
  | [d1, d2, d3, d4] => { results := [.lit (.bool false)], args := [d1, d2, d3, d4] }
  | _ => none }
def SuccRoundsWrongFalsely : Prop := succRoundsRow.holds Try.pinned (OpenSpec.ofChange succRoundsWrong)

/-- 'latticelaw15.SuccBest': WHATEVER THE INPUT: true; the input reads as it did. -/
def succBestSpec : ChangeSpec := { name := "succBest", fn := fun _ => fun
  | [d1, d2, d3] => { results := [.lit (.bool true)], args := [d1, d2, d3] }
  | _ => none }
def succBestRow : OpenClaim := { program := "ytjjkndbkjnfimaa", sum := "ce524bfffa40bb6e59d978443e658d3bb1d4591ec7d82dbb7a7e9d96c666a568", func := "lattice/latticelaw15.SuccBest", spec := "succBest", inPlace := ["internal/bytealg.Compare", "slices.overlaps[int]"], apart := false }
def SuccBestSaid : Prop := succBestRow.holds Try.pinned (OpenSpec.ofChange succBestSpec)

/-- ITS FALSE NEIGHBOUR: 'it returns false'. Refute it at one input. -/
def succBestWrong : ChangeSpec := { name := "succBest", fn := fun _ => fun
  | [d1, d2, d3] => { results := [.lit (.bool false)], args := [d1, d2, d3] }
  | _ => none }
def SuccBestWrongFalsely : Prop := succBestRow.holds Try.pinned (OpenSpec.ofChange succBestWrong)

/-- 'latticelaw15.SuccAsks': WHATEVER THE INPUT: true; the input reads as it did. -/
def succAsksSpec : ChangeSpec := { name := "succAsks", fn := fun _ => fun
  | [d1, d2, d3, d4, d5, d6] => { results := [.lit (.bool true)], args := [d1, d2, d3, d4, d5, d6] }
  | _ => none }
def succAsksRow : OpenClaim := { program := "ytjjkndbkjnfimaa", sum := "ce524bfffa40bb6e59d978443e658d3bb1d4591ec7d82dbb7a7e9d96c666a568", func := "lattice/latticelaw15.SuccAsks", spec := "succAsks", inPlace := ["internal/bytealg.Compare", "slices.overlaps[int]"], apart := false }
def SuccAsksSaid : Prop := succAsksRow.holds Try.pinned (OpenSpec.ofChange succAsksSpec)

/-- ITS FALSE NEIGHBOUR: 'it returns false'. Refute it at one input. -/
def succAsksWrong : ChangeSpec := { name := "succAsks", fn := fun _ => fun
  | [d1, d2, d3, d4, d5, d6] => { results := [.lit (.bool false)], args := [d1, d2, d3, d4, d5, d6] }
  | _ => none }
def SuccAsksWrongFalsely : Prop := succAsksRow.holds Try.pinned (OpenSpec.ofChange succAsksWrong)

/- THE SECOND FORM. 'bulk': how many values and letters a reading holds, each counted each time it is reached (what is shared counts as often as it is met; a slice's spare places count too). A statement '..UptoSaid' is the law's where the arguments, and the package variables that the reading takes, are together of bulk at most 1048576: NARROWER than '..Said'. Prove '..Said' where nothing that the law and all that it calls make is longer than what came in: it says more and counts as full. Else prove '..UptoSaid'. A law counts once. -/
mutual
def uptoBulk {H : Type} : DataW H → Nat
  | .lit (.string bytes) => bytes.length + 1
  | .lit _ => 1
  | .nil => 1
  | .ptr d => uptoBulk d + 1
  | .slice elems spare => uptoBulkAll elems + uptoBulkAll spare + 1
  | .agg parts => uptoBulkAll parts + 1
  | .iface _ d => uptoBulk d + 1
  | .map entries => uptoBulkEntries entries + 1
  | .held _ => 1
def uptoBulkAll {H : Type} : List (DataW H) → Nat
  | [] => 0
  | d :: r => uptoBulk d + uptoBulkAll r
def uptoBulkEntries {H : Type} : List (Lit × DataW H) → Nat
  | [] => 0
  | x :: r => uptoBulkEntry x + uptoBulkEntries r
def uptoBulkEntry {H : Type} : Lit × DataW H → Nat
  | (.string bytes, d) => bytes.length + uptoBulk d + 1
  | (_, d) => uptoBulk d + 1
 end
def uptoSmall : (H : Type) → List (DataW H) → Bool := fun _ ds => decide (uptoBulkAll ds ≤ 1048576)
def OpenSpec.upto (s : _root_.Go.ChangeSpec) : _root_.Go.OpenSpec := { _root_.Go.OpenSpec.ofChange s with cond := some uptoSmall }

/-- 'latticelaw15.SuccRounds', WHERE WHAT IT READS IS OF BULK AT MOST 1048576: true; the input reads as it did. -/
def succRoundsUptoRow : OpenClaim := { program := "ytjjkndbkjnfimaa", sum := "ce524bfffa40bb6e59d978443e658d3bb1d4591ec7d82dbb7a7e9d96c666a568", func := "lattice/latticelaw15.SuccRounds", spec := "succRounds", inPlace := ["internal/bytealg.Compare"], apart := false, narrowed := true }
def SuccRoundsUptoSaid : Prop := succRoundsUptoRow.holds Try.pinned (OpenSpec.upto succRoundsSpec)

/-- 'latticelaw15.SuccBest', WHERE WHAT IT READS IS OF BULK AT MOST 1048576: true; the input reads as it did. -/
def succBestUptoRow : OpenClaim := { program := "ytjjkndbkjnfimaa", sum := "ce524bfffa40bb6e59d978443e658d3bb1d4591ec7d82dbb7a7e9d96c666a568", func := "lattice/latticelaw15.SuccBest", spec := "succBest", inPlace := ["internal/bytealg.Compare", "slices.overlaps[int]"], apart := false, narrowed := true }
def SuccBestUptoSaid : Prop := succBestUptoRow.holds Try.pinned (OpenSpec.upto succBestSpec)

/-- 'latticelaw15.SuccAsks', WHERE WHAT IT READS IS OF BULK AT MOST 1048576: true; the input reads as it did. -/
def succAsksUptoRow : OpenClaim := { program := "ytjjkndbkjnfimaa", sum := "ce524bfffa40bb6e59d978443e658d3bb1d4591ec7d82dbb7a7e9d96c666a568", func := "lattice/latticelaw15.SuccAsks", spec := "succAsks", inPlace := ["internal/bytealg.Compare", "slices.overlaps[int]"], apart := false, narrowed := true }
def SuccAsksUptoSaid : Prop := succAsksUptoRow.holds Try.pinned (OpenSpec.upto succAsksSpec)

end Rows
end Go.Proofs.Ytjjkndbkjnfimaa
