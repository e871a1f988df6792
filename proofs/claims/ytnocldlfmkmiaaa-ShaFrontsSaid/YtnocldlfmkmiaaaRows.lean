/-
  No cell of these rows narrows 'for every input' (looked for: loops, veiled, ifaces, maps, wideKeys, modest, calm, conditions, laid).
  DERIVED. THE GIVEN ROWS OF THIS SEAT. 12 by the template 'for every input the law returns true; each argument reads behind the call as it read before'; 0 by the template 'total and deterministic' (their statements: YtnocldlfmkmiaaaTotals.lean).
  GIVEN WITH THE SEED: the statements are not yours to turn. If you find one false, say at which input.
  Laid BY PROGRAM, IN A SANDBOX (cutbox-rows.mjs): the forced cells as the released guide's own fill.sh prints them over the translation d8d76ab7ac62eddd… (all of the seat's roots in one cut). By AI agents, Wed Nov 11 2026. No macro, syntax, notation, axiom, sorry.
-/
import Derived.Test.YtnocldlfmkmiaaaChecked
import GoSem.Claim
import GoSem.ClaimJoined
import GoSem.ClaimMapViews
import Derived.JoinedTies
import Derived.KernelRfl
namespace Go.Proofs.Ytnocldlfmkmiaaa
/- THE CELL 'sum', in the pinned program and in every row, IS THE sha256 OF THE DUMP (.gsa) THAT YtnocldlfmkmiaaaProg.lean LOADS. Nothing in Lean hashes anything: it is a label: what it is worth is what the hold of that sum in a sandbox is worth. -/
noncomputable def Try.pinned : Pinned := { name := "ytnocldlfmkmiaaa", sum := "d8d76ab7ac62eddd024fd5faceb8bfaf9a1053c7131aa6c90bc9cca50792c7e8", checked := Try.checked }
namespace Rows
def none {H : Type} : Left H := { results := [], args := [] }

/-- 'latticelaw15.SuccLeads': WHATEVER THE INPUT: true; the input reads as it did. -/
def succLeadsSpec : ChangeSpec := { name := "succLeads", fn := fun _ => fun
  | [d1, d2] => { results := [.lit (.bool true)], args := [d1, d2] }
  | _ => none }
def succLeadsRow : OpenClaim := { program := "ytnocldlfmkmiaaa", sum := "d8d76ab7ac62eddd024fd5faceb8bfaf9a1053c7131aa6c90bc9cca50792c7e8", func := "lattice/latticelaw15.SuccLeads", spec := "succLeads", apart := false }
def SuccLeadsSaid : Prop := succLeadsRow.holds Try.pinned (OpenSpec.ofChange succLeadsSpec)

/-- ITS FALSE NEIGHBOUR: 'it returns false'. Refute it at one input. -/
def succLeadsWrong : ChangeSpec := { name := "succLeads", fn := fun _ => fun
  | [d1, d2] => { results := [.lit (.bool false)], args := [d1, d2] }
  | _ => none }
def SuccLeadsWrongFalsely : Prop := succLeadsRow.holds Try.pinned (OpenSpec.ofChange succLeadsWrong)

/-- 'latticelaw2.IdentRounds': WHATEVER THE INPUT: true; the input reads as it did. -/
def identRoundsSpec : ChangeSpec := { name := "identRounds", fn := fun _ => fun
  | [d1, d2, d3, d4, d5] => { results := [.lit (.bool true)], args := [d1, d2, d3, d4, d5] }
  | _ => none }
def identRoundsRow : OpenClaim := { program := "ytnocldlfmkmiaaa", sum := "d8d76ab7ac62eddd024fd5faceb8bfaf9a1053c7131aa6c90bc9cca50792c7e8", func := "lattice/latticelaw2.IdentRounds", spec := "identRounds", inPlace := ["internal/bytealg.Compare"], apart := false }
def IdentRoundsSaid : Prop := identRoundsRow.holds Try.pinned (OpenSpec.ofChange identRoundsSpec)

/-- ITS FALSE NEIGHBOUR: 'it returns false'. Refute it at one input. -/
def identRoundsWrong : ChangeSpec := { name := "identRounds", fn := fun _ => fun
  | [d1, d2, d3, d4, d5] => { results := [.lit (.bool false)], args := [d1, d2, d3, d4, d5] }
  | _ => none }
def IdentRoundsWrongFalsely : Prop := identRoundsRow.holds Try.pinned (OpenSpec.ofChange identRoundsWrong)

/-- 'latticelaw2.IdentOrder': WHATEVER THE INPUT: true; the input reads as it did. -/
def identOrderSpec : ChangeSpec := { name := "identOrder", fn := fun _ => fun
  | [d1, d2] => { results := [.lit (.bool true)], args := [d1, d2] }
  | _ => none }
def identOrderRow : OpenClaim := { program := "ytnocldlfmkmiaaa", sum := "d8d76ab7ac62eddd024fd5faceb8bfaf9a1053c7131aa6c90bc9cca50792c7e8", func := "lattice/latticelaw2.IdentOrder", spec := "identOrder", inPlace := ["internal/bytealg.Compare"], apart := false }
def IdentOrderSaid : Prop := identOrderRow.holds Try.pinned (OpenSpec.ofChange identOrderSpec)

/-- ITS FALSE NEIGHBOUR: 'it returns false'. Refute it at one input. -/
def identOrderWrong : ChangeSpec := { name := "identOrder", fn := fun _ => fun
  | [d1, d2] => { results := [.lit (.bool false)], args := [d1, d2] }
  | _ => none }
def IdentOrderWrongFalsely : Prop := identOrderRow.holds Try.pinned (OpenSpec.ofChange identOrderWrong)

/-- 'latticelaw2.IdentAsks': WHATEVER THE INPUT: true; the input reads as it did. -/
def identAsksSpec : ChangeSpec := { name := "identAsks", fn := fun _ => fun
  | [d1, d2, d3, d4, d5, d6] => { results := [.lit (.bool true)], args := [d1, d2, d3, d4, d5, d6] }
  | _ => none }
def identAsksRow : OpenClaim := { program := "ytnocldlfmkmiaaa", sum := "d8d76ab7ac62eddd024fd5faceb8bfaf9a1053c7131aa6c90bc9cca50792c7e8", func := "lattice/latticelaw2.IdentAsks", spec := "identAsks", inPlace := ["internal/bytealg.Compare"], apart := false }
def IdentAsksSaid : Prop := identAsksRow.holds Try.pinned (OpenSpec.ofChange identAsksSpec)

/-- ITS FALSE NEIGHBOUR: 'it returns false'. Refute it at one input. -/
def identAsksWrong : ChangeSpec := { name := "identAsks", fn := fun _ => fun
  | [d1, d2, d3, d4, d5, d6] => { results := [.lit (.bool false)], args := [d1, d2, d3, d4, d5, d6] }
  | _ => none }
def IdentAsksWrongFalsely : Prop := identAsksRow.holds Try.pinned (OpenSpec.ofChange identAsksWrong)

/-- 'latticelaw2.IdentAdds': WHATEVER THE INPUT: true; the input reads as it did. -/
def identAddsSpec : ChangeSpec := { name := "identAdds", fn := fun _ => fun
  | [d1, d2] => { results := [.lit (.bool true)], args := [d1, d2] }
  | _ => none }
def identAddsRow : OpenClaim := { program := "ytnocldlfmkmiaaa", sum := "d8d76ab7ac62eddd024fd5faceb8bfaf9a1053c7131aa6c90bc9cca50792c7e8", func := "lattice/latticelaw2.IdentAdds", spec := "identAdds", inPlace := ["internal/bytealg.Compare"], apart := false }
def IdentAddsSaid : Prop := identAddsRow.holds Try.pinned (OpenSpec.ofChange identAddsSpec)

/-- ITS FALSE NEIGHBOUR: 'it returns false'. Refute it at one input. -/
def identAddsWrong : ChangeSpec := { name := "identAdds", fn := fun _ => fun
  | [d1, d2] => { results := [.lit (.bool false)], args := [d1, d2] }
  | _ => none }
def IdentAddsWrongFalsely : Prop := identAddsRow.holds Try.pinned (OpenSpec.ofChange identAddsWrong)

/-- 'latticelaw2.IdentCarries': WHATEVER THE INPUT: true; the input reads as it did. -/
def identCarriesSpec : ChangeSpec := { name := "identCarries", fn := fun _ => fun
  | [d1, d2] => { results := [.lit (.bool true)], args := [d1, d2] }
  | _ => none }
def identCarriesRow : OpenClaim := { program := "ytnocldlfmkmiaaa", sum := "d8d76ab7ac62eddd024fd5faceb8bfaf9a1053c7131aa6c90bc9cca50792c7e8", func := "lattice/latticelaw2.IdentCarries", spec := "identCarries", inPlace := ["internal/bytealg.Compare"], apart := false }
def IdentCarriesSaid : Prop := identCarriesRow.holds Try.pinned (OpenSpec.ofChange identCarriesSpec)

/-- ITS FALSE NEIGHBOUR: 'it returns false'. Refute it at one input. -/
def identCarriesWrong : ChangeSpec := { name := "identCarries", fn := fun _ => fun
  | [d1, d2] => { results := [.lit (.bool false)], args := [d1, d2] }
  | _ => none }
def IdentCarriesWrongFalsely : Prop := identCarriesRow.holds Try.pinned (OpenSpec.ofChange identCarriesWrong)

/-- 'latticelaw1.ShaSums': WHATEVER THE INPUT: true; the input reads as it did. -/
def shaSumsSpec : ChangeSpec := { name := "shaSums", fn := fun _ => fun
  | [d1, d2] => { results := [.lit (.bool true)], args := [d1, d2] }
  | _ => none }
def shaSumsRow : OpenClaim := { program := "ytnocldlfmkmiaaa", sum := "d8d76ab7ac62eddd024fd5faceb8bfaf9a1053c7131aa6c90bc9cca50792c7e8", func := "lattice/latticelaw1.ShaSums", spec := "shaSums", apart := false }
def ShaSumsSaid : Prop := shaSumsRow.holds Try.pinned (OpenSpec.ofChange shaSumsSpec)

/-- ITS FALSE NEIGHBOUR: 'it returns false'. Refute it at one input. -/
def shaSumsWrong : ChangeSpec := { name := "shaSums", fn := fun _ => fun
  | [d1, d2] => { results := [.lit (.bool false)], args := [d1, d2] }
  | _ => none }
def ShaSumsWrongFalsely : Prop := shaSumsRow.holds Try.pinned (OpenSpec.ofChange shaSumsWrong)

/-- 'latticelaw1.ShaSizes': WHATEVER THE INPUT: true; the input reads as it did. -/
def shaSizesSpec : ChangeSpec := { name := "shaSizes", fn := fun _ => fun
  | [d1, d2] => { results := [.lit (.bool true)], args := [d1, d2] }
  | _ => none }
def shaSizesRow : OpenClaim := { program := "ytnocldlfmkmiaaa", sum := "d8d76ab7ac62eddd024fd5faceb8bfaf9a1053c7131aa6c90bc9cca50792c7e8", func := "lattice/latticelaw1.ShaSizes", spec := "shaSizes", apart := false }
def ShaSizesSaid : Prop := shaSizesRow.holds Try.pinned (OpenSpec.ofChange shaSizesSpec)

/-- ITS FALSE NEIGHBOUR: 'it returns false'. Refute it at one input. -/
def shaSizesWrong : ChangeSpec := { name := "shaSizes", fn := fun _ => fun
  | [d1, d2] => { results := [.lit (.bool false)], args := [d1, d2] }
  | _ => none }
def ShaSizesWrongFalsely : Prop := shaSizesRow.holds Try.pinned (OpenSpec.ofChange shaSizesWrong)

/-- 'latticelaw1.ShaTurns': WHATEVER THE INPUT: true; the input reads as it did. -/
def shaTurnsSpec : ChangeSpec := { name := "shaTurns", fn := fun _ => fun
  | [d1, d2, d3] => { results := [.lit (.bool true)], args := [d1, d2, d3] }
  | _ => none }
def shaTurnsRow : OpenClaim := { program := "ytnocldlfmkmiaaa", sum := "d8d76ab7ac62eddd024fd5faceb8bfaf9a1053c7131aa6c90bc9cca50792c7e8", func := "lattice/latticelaw1.ShaTurns", spec := "shaTurns", apart := false }
def ShaTurnsSaid : Prop := shaTurnsRow.holds Try.pinned (OpenSpec.ofChange shaTurnsSpec)

/-- ITS FALSE NEIGHBOUR: 'it returns false'. Refute it at one input. -/
def shaTurnsWrong : ChangeSpec := { name := "shaTurns", fn := fun _ => fun
  | [d1, d2, d3] => { results := [.lit (.bool false)], args := [d1, d2, d3] }
  | _ => none }
def ShaTurnsWrongFalsely : Prop := shaTurnsRow.holds Try.pinned (OpenSpec.ofChange shaTurnsWrong)

/-- 'latticelaw1.ShaTexts': WHATEVER THE INPUT: true; the input reads as it did. -/
def shaTextsSpec : ChangeSpec := { name := "shaTexts", fn := fun _ => fun
  | [d] => { results := [.lit (.bool true)], args := [d] }
  | _ => none }
def shaTextsRow : OpenClaim := { program := "ytnocldlfmkmiaaa", sum := "d8d76ab7ac62eddd024fd5faceb8bfaf9a1053c7131aa6c90bc9cca50792c7e8", func := "lattice/latticelaw1.ShaTexts", spec := "shaTexts", apart := false }
def ShaTextsSaid : Prop := shaTextsRow.holds Try.pinned (OpenSpec.ofChange shaTextsSpec)

/-- ITS FALSE NEIGHBOUR: 'it returns false'. Refute it at one input. -/
def shaTextsWrong : ChangeSpec := { name := "shaTexts", fn := fun _ => fun
  | [d] => { results := [.lit (.bool false)], args := [d] }
  | _ => none }
def ShaTextsWrongFalsely : Prop := shaTextsRow.holds Try.pinned (OpenSpec.ofChange shaTextsWrong)

/-- 'latticelaw1.ShaFronts': WHATEVER THE INPUT: true; the input reads as it did. -/
def shaFrontsSpec : ChangeSpec := { name := "shaFronts", fn := fun _ => fun
  | [d1, d2, d3] => { results := [.lit (.bool true)], args := [d1, d2, d3] }
  | _ => none }
def shaFrontsRow : OpenClaim := { program := "ytnocldlfmkmiaaa", sum := "d8d76ab7ac62eddd024fd5faceb8bfaf9a1053c7131aa6c90bc9cca50792c7e8", func := "lattice/latticelaw1.ShaFronts", spec := "shaFronts", apart := false }
def ShaFrontsSaid : Prop := shaFrontsRow.holds Try.pinned (OpenSpec.ofChange shaFrontsSpec)

/-- ITS FALSE NEIGHBOUR: 'it returns false'. Refute it at one input. -/
def shaFrontsWrong : ChangeSpec := { name := "shaFronts", fn := fun _ => fun
  | [d1, d2, d3] => { results := [.lit (.bool false)], args := [d1, d2, d3] }
  | _ => none }
def ShaFrontsWrongFalsely : Prop := shaFrontsRow.holds Try.pinned (OpenSpec.ofChange shaFrontsWrong)

/-- 'latticelaw2.IdentNodes': WHATEVER THE INPUT: true; the input reads as it did. -/
def identNodesSpec : ChangeSpec := { name := "identNodes", fn := fun _ => fun
  | [d1, d2] => { results := [.lit (.bool true)], args := [d1, d2] }
  | _ => none }
def identNodesRow : OpenClaim := { program := "ytnocldlfmkmiaaa", sum := "d8d76ab7ac62eddd024fd5faceb8bfaf9a1053c7131aa6c90bc9cca50792c7e8", func := "lattice/latticelaw2.IdentNodes", spec := "identNodes", inPlace := ["internal/bytealg.Compare"], apart := false }
def IdentNodesSaid : Prop := identNodesRow.holds Try.pinned (OpenSpec.ofChange identNodesSpec)

/-- ITS FALSE NEIGHBOUR: 'it returns false'. Refute it at one input. -/
def identNodesWrong : ChangeSpec := { name := "identNodes", fn := fun _ => fun
  | [d1, d2] => { results := [.lit (.bool false)], args := [d1, d2] }
  | _ => none }
def IdentNodesWrongFalsely : Prop := identNodesRow.holds Try.pinned (OpenSpec.ofChange identNodesWrong)

/- THE SECOND FORM. 'bulk': how many values and letters a reading holds, each counted each time it is reached (what is shared counts as often as it is met; a slice's spare places count too). A statement '..UptoSaid' is the law's where the arguments, and the package variables that the reading takes, are together of bulk at most 1048576: NARROWER than '..Said'. Prove '..Said' where nothing that the law and all that it calls make is longer than what came in: it says more and counts as full. Else prove '..UptoSaid'. A law counts once. -/
mutual
def uptoBulk {H : Type} : DataW H → Nat
  | .lit (.string bytes) => bytes.length + 1
  | .lit _ => 1
  | .nil => 1
  | .ptr d => uptoBulk d + 1
  | .slice elems spare => uptoBulkAll elems + uptoBulkAll spare + 1
  | .agg parts => uptoBulkAll parts + 1
  | .iface _ d => uptoBulk d + 1
  | .map entries => uptoBulkEntries entries + 1
  | .held _ => 1
def uptoBulkAll {H : Type} : List (DataW H) → Nat
  | [] => 0
  | d :: r => uptoBulk d + uptoBulkAll r
def uptoBulkEntries {H : Type} : List (Lit × DataW H) → Nat
  | [] => 0
  | x :: r => uptoBulkEntry x + uptoBulkEntries r
def uptoBulkEntry {H : Type} : Lit × DataW H → Nat
  | (.string bytes, d) => bytes.length + uptoBulk d + 1
  | (_, d) => uptoBulk d + 1
 end
def uptoSmall : (H : Type) → List (DataW H) → Bool := fun _ ds => decide (uptoBulkAll ds ≤ 1048576)
def OpenSpec.upto (s : _root_.Go.ChangeSpec) : _root_.Go.OpenSpec := { _root_.Go.OpenSpec.ofChange s with cond := some uptoSmall }

/-- 'latticelaw15.SuccLeads', WHERE WHAT IT READS IS OF BULK AT MOST 1048576: true; the input reads as it did. -/
def succLeadsUptoRow : OpenClaim := { program := "ytnocldlfmkmiaaa", sum := "d8d76ab7ac62eddd024fd5faceb8bfaf9a1053c7131aa6c90bc9cca50792c7e8", func := "lattice/latticelaw15.SuccLeads", spec := "succLeads", apart := false, narrowed := true }
def SuccLeadsUptoSaid : Prop := succLeadsUptoRow.holds Try.pinned (OpenSpec.upto succLeadsSpec)

/-- 'latticelaw2.IdentRounds', WHERE WHAT IT READS IS OF BULK AT MOST 1048576: true; the input reads as it did. -/
def identRoundsUptoRow : OpenClaim := { program := "ytnocldlfmkmiaaa", sum := "d8d76ab7ac62eddd024fd5faceb8bfaf9a1053c7131aa6c90bc9cca50792c7e8", func := "lattice/latticelaw2.IdentRounds", spec := "identRounds", inPlace := ["internal/bytealg.Compare"], apart := false, narrowed := true }
def IdentRoundsUptoSaid : Prop := identRoundsUptoRow.holds Try.pinned (OpenSpec.upto identRoundsSpec)

/-- 'latticelaw2.IdentOrder', WHERE WHAT IT READS IS OF BULK AT MOST 1048576: true; the input reads as it did. -/
def identOrderUptoRow : OpenClaim := { program := "ytnocldlfmkmiaaa", sum := "d8d76ab7ac62eddd024fd5faceb8bfaf9a1053c7131aa6c90bc9cca50792c7e8", func := "lattice/latticelaw2.IdentOrder", spec := "identOrder", inPlace := ["internal/bytealg.Compare"], apart := false, narrowed := true }
def IdentOrderUptoSaid : Prop := identOrderUptoRow.holds Try.pinned (OpenSpec.upto identOrderSpec)

/-- 'latticelaw2.IdentAsks', WHERE WHAT IT READS IS OF BULK AT MOST 1048576: true; the input reads as it did. -/
def identAsksUptoRow : OpenClaim := { program := "ytnocldlfmkmiaaa", sum := "d8d76ab7ac62eddd024fd5faceb8bfaf9a1053c7131aa6c90bc9cca50792c7e8", func := "lattice/latticelaw2.IdentAsks", spec := "identAsks", inPlace := ["internal/bytealg.Compare"], apart := false, narrowed := true }
def IdentAsksUptoSaid : Prop := identAsksUptoRow.holds Try.pinned (OpenSpec.upto identAsksSpec)

/-- 'latticelaw2.IdentAdds', WHERE WHAT IT READS IS OF BULK AT MOST 1048576: true; the input reads as it did. -/
def identAddsUptoRow : OpenClaim := { program := "ytnocldlfmkmiaaa", sum := "d8d76ab7ac62eddd024fd5faceb8bfaf9a1053c7131aa6c90bc9cca50792c7e8", func := "lattice/latticelaw2.IdentAdds", spec := "identAdds", inPlace := ["internal/bytealg.Compare"], apart := false, narrowed := true }
def IdentAddsUptoSaid : Prop := identAddsUptoRow.holds Try.pinned (OpenSpec.upto identAddsSpec)

/-- 'latticelaw2.IdentCarries', WHERE WHAT IT READS IS OF BULK AT MOST 1048576: true; the input reads as it did. -/
def identCarriesUptoRow : OpenClaim := { program := "ytnocldlfmkmiaaa", sum := "d8d76ab7ac62eddd024fd5faceb8bfaf9a1053c7131aa6c90bc9cca50792c7e8", func := "lattice/latticelaw2.IdentCarries", spec := "identCarries", inPlace := ["internal/bytealg.Compare"], apart := false, narrowed := true }
def IdentCarriesUptoSaid : Prop := identCarriesUptoRow.holds Try.pinned (OpenSpec.upto identCarriesSpec)

/-- 'latticelaw1.ShaSums', WHERE WHAT IT READS IS OF BULK AT MOST 1048576: true; the input reads as it did. -/
def shaSumsUptoRow : OpenClaim := { program := "ytnocldlfmkmiaaa", sum := "d8d76ab7ac62eddd024fd5faceb8bfaf9a1053c7131aa6c90bc9cca50792c7e8", func := "lattice/latticelaw1.ShaSums", spec := "shaSums", apart := false, narrowed := true }
def ShaSumsUptoSaid : Prop := shaSumsUptoRow.holds Try.pinned (OpenSpec.upto shaSumsSpec)

/-- 'latticelaw1.ShaSizes', WHERE WHAT IT READS IS OF BULK AT MOST 1048576: true; the input reads as it did. -/
def shaSizesUptoRow : OpenClaim := { program := "ytnocldlfmkmiaaa", sum := "d8d76ab7ac62eddd024fd5faceb8bfaf9a1053c7131aa6c90bc9cca50792c7e8", func := "lattice/latticelaw1.ShaSizes", spec := "shaSizes", apart := false, narrowed := true }
def ShaSizesUptoSaid : Prop := shaSizesUptoRow.holds Try.pinned (OpenSpec.upto shaSizesSpec)

/-- 'latticelaw1.ShaTurns', WHERE WHAT IT READS IS OF BULK AT MOST 1048576: true; the input reads as it did. -/
def shaTurnsUptoRow : OpenClaim := { program := "ytnocldlfmkmiaaa", sum := "d8d76ab7ac62eddd024fd5faceb8bfaf9a1053c7131aa6c90bc9cca50792c7e8", func := "lattice/latticelaw1.ShaTurns", spec := "shaTurns", apart := false, narrowed := true }
def ShaTurnsUptoSaid : Prop := shaTurnsUptoRow.holds Try.pinned (OpenSpec.upto shaTurnsSpec)

/-- 'latticelaw1.ShaTexts', WHERE WHAT IT READS IS OF BULK AT MOST 1048576: true; the input reads as it did. -/
def shaTextsUptoRow : OpenClaim := { program := "ytnocldlfmkmiaaa", sum := "d8d76ab7ac62eddd024fd5faceb8bfaf9a1053c7131aa6c90bc9cca50792c7e8", func := "lattice/latticelaw1.ShaTexts", spec := "shaTexts", apart := false, narrowed := true }
def ShaTextsUptoSaid : Prop := shaTextsUptoRow.holds Try.pinned (OpenSpec.upto shaTextsSpec)

/-- 'latticelaw1.ShaFronts', WHERE WHAT IT READS IS OF BULK AT MOST 1048576: true; the input reads as it did. -/
def shaFrontsUptoRow : OpenClaim := { program := "ytnocldlfmkmiaaa", sum := "d8d76ab7ac62eddd024fd5faceb8bfaf9a1053c7131aa6c90bc9cca50792c7e8", func := "lattice/latticelaw1.ShaFronts", spec := "shaFronts", apart := false, narrowed := true }
def ShaFrontsUptoSaid : Prop := shaFrontsUptoRow.holds Try.pinned (OpenSpec.upto shaFrontsSpec)

/-- 'latticelaw2.IdentNodes', WHERE WHAT IT READS IS OF BULK AT MOST 1048576: true; the input reads as it did. -/
def identNodesUptoRow : OpenClaim := { program := "ytnocldlfmkmiaaa", sum := "d8d76ab7ac62eddd024fd5faceb8bfaf9a1053c7131aa6c90bc9cca50792c7e8", func := "lattice/latticelaw2.IdentNodes", spec := "identNodes", inPlace := ["internal/bytealg.Compare"], apart := false, narrowed := true }
def IdentNodesUptoSaid : Prop := identNodesUptoRow.holds Try.pinned (OpenSpec.upto identNodesSpec)

end Rows
end Go.Proofs.Ytnocldlfmkmiaaa
