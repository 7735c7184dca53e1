/-
  No cell of these rows narrows 'for every input' (looked for: loops, veiled, ifaces, maps, wideKeys, modest, calm, conditions, laid).
  DERIVED. THE GIVEN ROWS OF THIS SEAT. 7 by the template 'for every input the law returns true; each argument reads behind the call as it read before'; 0 by the template 'total and deterministic' (their statements: YtgendnoafemgpaaTotals.lean).
  GIVEN WITH THE SEED: the statements are not yours to turn. If you find one false, say at which input.
  Laid BY PROGRAM, IN A SANDBOX (cutbox-rows.mjs): the forced cells as the released guide's own fill.sh prints them over the translation 50b55f49c52e9421… (all of the seat's roots in one cut). By AI agents, Wed Nov 11 2026. No macro, syntax, notation, axiom, sorry.
-/
import Derived.Test.YtgendnoafemgpaaChecked
import GoSem.Claim
import GoSem.ClaimJoined
import GoSem.ClaimMapViews
import Derived.JoinedTies
import Derived.KernelRfl
namespace Go.Proofs.Ytgendnoafemgpaa
/- THE CELL 'sum', in the pinned program and in every row, IS THE sha256 OF THE DUMP (.gsa) THAT YtgendnoafemgpaaProg.lean LOADS. Nothing in Lean hashes anything: it is a label: what it is worth is what the hold of that sum in a sandbox is worth. -/
noncomputable def Try.pinned : Pinned := { name := "ytgendnoafemgpaa", sum := "50b55f49c52e942140ba54c1a8a976219de8bebeb113b4489c763f797f0cfce3", checked := Try.checked }
namespace Rows
def none {H : Type} : Left H := { results := [], args := [] }

/-- 'ecdysislaw10.BlocksApart': WHATEVER THE INPUT: true; the input reads as it did. -/
def blocksApartSpec : ChangeSpec := { name := "blocksApart", fn := fun _ => fun
  | [d1, d2] => { results := [.lit (.bool true)], args := [d1, d2] }
  | _ => none }
def blocksApartRow : OpenClaim := { program := "ytgendnoafemgpaa", sum := "50b55f49c52e942140ba54c1a8a976219de8bebeb113b4489c763f797f0cfce3", func := "ecdysis/ecdysislaw10.BlocksApart", spec := "blocksApart", unfollowed := true, recurses := true, apart := false }
def BlocksApartSaid : Prop := blocksApartRow.holds Try.pinned (OpenSpec.ofChange blocksApartSpec)

/-- ITS FALSE NEIGHBOUR: 'it returns false'. Refute it at one input. -/
def blocksApartWrong : ChangeSpec := { name := "blocksApart", fn := fun _ => fun
  | [d1, d2] => { results := [.lit (.bool false)], args := [d1, d2] }
  | _ => none }
def BlocksApartWrongFalsely : Prop := blocksApartRow.holds Try.pinned (OpenSpec.ofChange blocksApartWrong)

/-- 'ecdysislaw10.BlocksAll': WHATEVER THE INPUT: true; the input reads as it did. -/
def blocksAllSpec : ChangeSpec := { name := "blocksAll", fn := fun _ => fun
  | [d1, d2] => { results := [.lit (.bool true)], args := [d1, d2] }
  | _ => none }
def blocksAllRow : OpenClaim := { program := "ytgendnoafemgpaa", sum := "50b55f49c52e942140ba54c1a8a976219de8bebeb113b4489c763f797f0cfce3", func := "ecdysis/ecdysislaw10.BlocksAll", spec := "blocksAll", unfollowed := true, recurses := true, apart := false }
def BlocksAllSaid : Prop := blocksAllRow.holds Try.pinned (OpenSpec.ofChange blocksAllSpec)

/-- ITS FALSE NEIGHBOUR: 'it returns false'. Refute it at one input. -/
def blocksAllWrong : ChangeSpec := { name := "blocksAll", fn := fun _ => fun
  | [d1, d2] => { results := [.lit (.bool false)], args := [d1, d2] }
  | _ => none }
def BlocksAllWrongFalsely : Prop := blocksAllRow.holds Try.pinned (OpenSpec.ofChange blocksAllWrong)

/-- 'ecdysislaw10.BlocksTakes': WHATEVER THE INPUT: true; the input reads as it did. -/
def blocksTakesSpec : ChangeSpec := { name := "blocksTakes", fn := fun _ => fun
  | [d1, d2, d3] => { results := [.lit (.bool true)], args := [d1, d2, d3] }
  | _ => none }
def blocksTakesRow : OpenClaim := { program := "ytgendnoafemgpaa", sum := "50b55f49c52e942140ba54c1a8a976219de8bebeb113b4489c763f797f0cfce3", func := "ecdysis/ecdysislaw10.BlocksTakes", spec := "blocksTakes", unfollowed := true, recurses := true, apart := false }
def BlocksTakesSaid : Prop := blocksTakesRow.holds Try.pinned (OpenSpec.ofChange blocksTakesSpec)

/-- ITS FALSE NEIGHBOUR: 'it returns false'. Refute it at one input. -/
def blocksTakesWrong : ChangeSpec := { name := "blocksTakes", fn := fun _ => fun
  | [d1, d2, d3] => { results := [.lit (.bool false)], args := [d1, d2, d3] }
  | _ => none }
def BlocksTakesWrongFalsely : Prop := blocksTakesRow.holds Try.pinned (OpenSpec.ofChange blocksTakesWrong)

/-- 'ecdysislaw10.BlocksClaims': WHATEVER THE INPUT: true; the input reads as it did. -/
def blocksClaimsSpec : ChangeSpec := { name := "blocksClaims", fn := fun _ => fun
  | [d1, d2, d3] => { results := [.lit (.bool true)], args := [d1, d2, d3] }
  | _ => none }
def blocksClaimsRow : OpenClaim := { program := "ytgendnoafemgpaa", sum := "50b55f49c52e942140ba54c1a8a976219de8bebeb113b4489c763f797f0cfce3", func := "ecdysis/ecdysislaw10.BlocksClaims", spec := "blocksClaims", unfollowed := true, recurses := true, apart := false }
def BlocksClaimsSaid : Prop := blocksClaimsRow.holds Try.pinned (OpenSpec.ofChange blocksClaimsSpec)

/-- ITS FALSE NEIGHBOUR: 'it returns false'. Refute it at one input. -/
def blocksClaimsWrong : ChangeSpec := { name := "blocksClaims", fn := fun _ => fun
  | [d1, d2, d3] => { results := [.lit (.bool false)], args := [d1, d2, d3] }
  | _ => none }
def BlocksClaimsWrongFalsely : Prop := blocksClaimsRow.holds Try.pinned (OpenSpec.ofChange blocksClaimsWrong)

/-- 'ecdysislaw10.BlocksLargest': WHATEVER THE INPUT: true; the input reads as it did. -/
def blocksLargestSpec : ChangeSpec := { name := "blocksLargest", fn := fun _ => fun
  | [d1, d2] => { results := [.lit (.bool true)], args := [d1, d2] }
  | _ => none }
def blocksLargestRow : OpenClaim := { program := "ytgendnoafemgpaa", sum := "50b55f49c52e942140ba54c1a8a976219de8bebeb113b4489c763f797f0cfce3", func := "ecdysis/ecdysislaw10.BlocksLargest", spec := "blocksLargest", unfollowed := true, recurses := true, apart := false }
def BlocksLargestSaid : Prop := blocksLargestRow.holds Try.pinned (OpenSpec.ofChange blocksLargestSpec)

/-- ITS FALSE NEIGHBOUR: 'it returns false'. Refute it at one input. -/
def blocksLargestWrong : ChangeSpec := { name := "blocksLargest", fn := fun _ => fun
  | [d1, d2] => { results := [.lit (.bool false)], args := [d1, d2] }
  | _ => none }
def BlocksLargestWrongFalsely : Prop := blocksLargestRow.holds Try.pinned (OpenSpec.ofChange blocksLargestWrong)

/-- 'ecdysislaw10.BlocksEach': WHATEVER THE INPUT: true; the input reads as it did. -/
def blocksEachSpec : ChangeSpec := { name := "blocksEach", fn := fun _ => fun
  | [d1, d2, d3] => { results := [.lit (.bool true)], args := [d1, d2, d3] }
  | _ => none }
def blocksEachRow : OpenClaim := { program := "ytgendnoafemgpaa", sum := "50b55f49c52e942140ba54c1a8a976219de8bebeb113b4489c763f797f0cfce3", func := "ecdysis/ecdysislaw10.BlocksEach", spec := "blocksEach", inPlace := ["maps.clone"], unfollowed := true, recurses := true, apart := false }
def BlocksEachSaid : Prop := blocksEachRow.holds Try.pinned (OpenSpec.ofChange blocksEachSpec)

/-- ITS FALSE NEIGHBOUR: 'it returns false'. Refute it at one input. -/
def blocksEachWrong : ChangeSpec := { name := "blocksEach", fn := fun _ => fun
  | [d1, d2, d3] => { results := [.lit (.bool false)], args := [d1, d2, d3] }
  | _ => none }
def BlocksEachWrongFalsely : Prop := blocksEachRow.holds Try.pinned (OpenSpec.ofChange blocksEachWrong)

/-- 'ecdysislaw10.BlocksBytes': WHATEVER THE INPUT: true; the input reads as it did. -/
def blocksBytesSpec : ChangeSpec := { name := "blocksBytes", fn := fun _ => fun
  | [d1, d2, d3] => { results := [.lit (.bool true)], args := [d1, d2, d3] }
  | _ => none }
def blocksBytesRow : OpenClaim := { program := "ytgendnoafemgpaa", sum := "50b55f49c52e942140ba54c1a8a976219de8bebeb113b4489c763f797f0cfce3", func := "ecdysis/ecdysislaw10.BlocksBytes", spec := "blocksBytes", unfollowed := true, recurses := true, apart := false }
def BlocksBytesSaid : Prop := blocksBytesRow.holds Try.pinned (OpenSpec.ofChange blocksBytesSpec)

/-- ITS FALSE NEIGHBOUR: 'it returns false'. Refute it at one input. -/
def blocksBytesWrong : ChangeSpec := { name := "blocksBytes", fn := fun _ => fun
  | [d1, d2, d3] => { results := [.lit (.bool false)], args := [d1, d2, d3] }
  | _ => none }
def BlocksBytesWrongFalsely : Prop := blocksBytesRow.holds Try.pinned (OpenSpec.ofChange blocksBytesWrong)

/- THE SECOND FORM. 'bulk': how many values and letters a reading holds, each counted each time it is reached (what is shared counts as often as it is met; a slice's spare places count too). A statement '..UptoSaid' is the law's where the arguments, and the package variables that the reading takes, are together of bulk at most 1048576: NARROWER than '..Said'. Prove '..Said' where nothing that the law and all that it calls make is longer than what came in: it says more and counts as full. Else prove '..UptoSaid'. A law counts once. -/
mutual
def uptoBulk {H : Type} : DataW H → Nat
  | .lit (.string bytes) => bytes.length + 1
  | .lit _ => 1
  | .nil => 1
  | .ptr d => uptoBulk d + 1
  | .slice elems spare => uptoBulkAll elems + uptoBulkAll spare + 1
  | .agg parts => uptoBulkAll parts + 1
  | .iface _ d => uptoBulk d + 1
  | .map entries => uptoBulkEntries entries + 1
  | .held _ => 1
def uptoBulkAll {H : Type} : List (DataW H) → Nat
  | [] => 0
  | d :: r => uptoBulk d + uptoBulkAll r
def uptoBulkEntries {H : Type} : List (Lit × DataW H) → Nat
  | [] => 0
  | x :: r => uptoBulkEntry x + uptoBulkEntries r
def uptoBulkEntry {H : Type} : Lit × DataW H → Nat
  | (.string bytes, d) => bytes.length + uptoBulk d + 1
  | (_, d) => uptoBulk d + 1
 end
def uptoSmall : (H : Type) → List (DataW H) → Bool := fun _ ds => decide (uptoBulkAll ds ≤ 1048576)
def OpenSpec.upto (s : _root_.Go.ChangeSpec) : _root_.Go.OpenSpec := { _root_.Go.OpenSpec.ofChange s with cond := some uptoSmall }

/-- 'ecdysislaw10.BlocksApart', WHERE WHAT IT READS IS OF BULK AT MOST 1048576: true; the input reads as it did. -/
def blocksApartUptoRow : OpenClaim := { program := "ytgendnoafemgpaa", sum := "50b55f49c52e942140ba54c1a8a976219de8bebeb113b4489c763f797f0cfce3", func := "ecdysis/ecdysislaw10.BlocksApart", spec := "blocksApart", unfollowed := true, recurses := true, apart := false, narrowed := true }
def BlocksApartUptoSaid : Prop := blocksApartUptoRow.holds Try.pinned (OpenSpec.upto blocksApartSpec)

/-- 'ecdysislaw10.BlocksAll', WHERE WHAT IT READS IS OF BULK AT MOST 1048576: true; the input reads as it did. -/
def blocksAllUptoRow : OpenClaim := { program := "ytgendnoafemgpaa", sum := "50b55f49c52e942140ba54c1a8a976219de8bebeb113b4489c763f797f0cfce3", func := "ecdysis/ecdysislaw10.BlocksAll", spec := "blocksAll", unfollowed := true, recurses := true, apart := false, narrowed := true }
def BlocksAllUptoSaid : Prop := blocksAllUptoRow.holds Try.pinned (OpenSpec.upto blocksAllSpec)

/-- 'ecdysislaw10.BlocksTakes', WHERE WHAT IT READS IS OF BULK AT MOST 1048576: true; the input reads as it did. -/
def blocksTakesUptoRow : OpenClaim := { program := "ytgendnoafemgpaa", sum := "50b55f49c52e942140ba54c1a8a976219de8bebeb113b4489c763f797f0cfce3", func := "ecdysis/ecdysislaw10.BlocksTakes", spec := "blocksTakes", unfollowed := true, recurses := true, apart := false, narrowed := true }
def BlocksTakesUptoSaid : Prop := blocksTakesUptoRow.holds Try.pinned (OpenSpec.upto blocksTakesSpec)

/-- 'ecdysislaw10.BlocksClaims', WHERE WHAT IT READS IS OF BULK AT MOST 1048576: true; the input reads as it did. -/
def blocksClaimsUptoRow : OpenClaim := { program := "ytgendnoafemgpaa", sum := "50b55f49c52e942140ba54c1a8a976219de8bebeb113b4489c763f797f0cfce3", func := "ecdysis/ecdysislaw10.BlocksClaims", spec := "blocksClaims", unfollowed := true, recurses := true, apart := false, narrowed := true }
def BlocksClaimsUptoSaid : Prop := blocksClaimsUptoRow.holds Try.pinned (OpenSpec.upto blocksClaimsSpec)

/-- 'ecdysislaw10.BlocksLargest', WHERE WHAT IT READS IS OF BULK AT MOST 1048576: true; the input reads as it did. -/
def blocksLargestUptoRow : OpenClaim := { program := "ytgendnoafemgpaa", sum := "50b55f49c52e942140ba54c1a8a976219de8bebeb113b4489c763f797f0cfce3", func := "ecdysis/ecdysislaw10.BlocksLargest", spec := "blocksLargest", unfollowed := true, recurses := true, apart := false, narrowed := true }
def BlocksLargestUptoSaid : Prop := blocksLargestUptoRow.holds Try.pinned (OpenSpec.upto blocksLargestSpec)

/-- 'ecdysislaw10.BlocksEach', WHERE WHAT IT READS IS OF BULK AT MOST 1048576: true; the input reads as it did. -/
def blocksEachUptoRow : OpenClaim := { program := "ytgendnoafemgpaa", sum := "50b55f49c52e942140ba54c1a8a976219de8bebeb113b4489c763f797f0cfce3", func := "ecdysis/ecdysislaw10.BlocksEach", spec := "blocksEach", inPlace := ["maps.clone"], unfollowed := true, recurses := true, apart := false, narrowed := true }
def BlocksEachUptoSaid : Prop := blocksEachUptoRow.holds Try.pinned (OpenSpec.upto blocksEachSpec)

/-- 'ecdysislaw10.BlocksBytes', WHERE WHAT IT READS IS OF BULK AT MOST 1048576: true; the input reads as it did. -/
def blocksBytesUptoRow : OpenClaim := { program := "ytgendnoafemgpaa", sum := "50b55f49c52e942140ba54c1a8a976219de8bebeb113b4489c763f797f0cfce3", func := "ecdysis/ecdysislaw10.BlocksBytes", spec := "blocksBytes", unfollowed := true, recurses := true, apart := false, narrowed := true }
def BlocksBytesUptoSaid : Prop := blocksBytesUptoRow.holds Try.pinned (OpenSpec.upto blocksBytesSpec)

end Rows
end Go.Proofs.Ytgendnoafemgpaa
