/-
  No cell of these rows narrows 'for every input' (looked for: loops, veiled, ifaces, maps, wideKeys, modest, calm, conditions, laid).
  DERIVED. THE GIVEN ROWS OF THIS SEAT. 7 by the template 'for every input the law returns true; each argument reads behind the call as it read before'; 0 by the template 'total and deterministic' (their statements: YtliclajcifeneaaTotals.lean).
  GIVEN WITH THE SEED: the statements are not yours to turn. If you find one false, say at which input.
  Laid BY PROGRAM, IN A SANDBOX (cutbox-rows.mjs): the forced cells as the released guide's own fill.sh prints them over the translation 8d32e1fc443d5560… (all of the seat's roots in one cut). By AI agents, Wed Nov 11 2026. No macro, syntax, notation, axiom, sorry.
-/
import Derived.Test.YtliclajcifeneaaChecked
import GoSem.Claim
import GoSem.ClaimJoined
import GoSem.ClaimMapViews
import Derived.JoinedTies
import Derived.KernelRfl
namespace Go.Proofs.Ytliclajcifeneaa
/- THE CELL 'sum', in the pinned program and in every row, IS THE sha256 OF THE DUMP (.gsa) THAT YtliclajcifeneaaProg.lean LOADS. Nothing in Lean hashes anything: it is a label: what it is worth is what the hold of that sum in a sandbox is worth. -/
noncomputable def Try.pinned : Pinned := { name := "ytliclajcifeneaa", sum := "8d32e1fc443d5560378c8c736c3a307ceebe1ea4567052900dd4f7317e0cedf0", checked := Try.checked }
namespace Rows
def none {H : Type} : Left H := { results := [], args := [] }

/-- 'ecdysislaw13.RootsAll': WHATEVER THE INPUT: true; the input reads as it did. -/
def rootsAllSpec : ChangeSpec := { name := "rootsAll", fn := fun _ => fun
  | [d] => { results := [.lit (.bool true)], args := [d] }
  | _ => none }
def rootsAllRow : OpenClaim := { program := "ytliclajcifeneaa", sum := "8d32e1fc443d5560378c8c736c3a307ceebe1ea4567052900dd4f7317e0cedf0", func := "ecdysis/ecdysislaw13.RootsAll", spec := "rootsAll", unfollowed := true, recurses := true, apart := false }
def RootsAllSaid : Prop := rootsAllRow.holds Try.pinned (OpenSpec.ofChange rootsAllSpec)

/-- ITS FALSE NEIGHBOUR: 'it returns false'. Refute it at one input. -/
def rootsAllWrong : ChangeSpec := { name := "rootsAll", fn := fun _ => fun
  | [d] => { results := [.lit (.bool false)], args := [d] }
  | _ => none }
def RootsAllWrongFalsely : Prop := rootsAllRow.holds Try.pinned (OpenSpec.ofChange rootsAllWrong)

/-- 'ecdysislaw13.RootsLast': WHATEVER THE INPUT: true; the input reads as it did. -/
def rootsLastSpec : ChangeSpec := { name := "rootsLast", fn := fun _ => fun
  | [d1, d2, d3] => { results := [.lit (.bool true)], args := [d1, d2, d3] }
  | _ => none }
def rootsLastRow : OpenClaim := { program := "ytliclajcifeneaa", sum := "8d32e1fc443d5560378c8c736c3a307ceebe1ea4567052900dd4f7317e0cedf0", func := "ecdysis/ecdysislaw13.RootsLast", spec := "rootsLast", unfollowed := true, recurses := true, apart := false }
def RootsLastSaid : Prop := rootsLastRow.holds Try.pinned (OpenSpec.ofChange rootsLastSpec)

/-- ITS FALSE NEIGHBOUR: 'it returns false'. Refute it at one input. -/
def rootsLastWrong : ChangeSpec := { name := "rootsLast", fn := fun _ => fun
  | [d1, d2, d3] => { results := [.lit (.bool false)], args := [d1, d2, d3] }
  | _ => none }
def RootsLastWrongFalsely : Prop := rootsLastRow.holds Try.pinned (OpenSpec.ofChange rootsLastWrong)

/-- 'ecdysislaw13.RootsMany': WHATEVER THE INPUT: true; the input reads as it did. -/
def rootsManySpec : ChangeSpec := { name := "rootsMany", fn := fun _ => fun
  | [d] => { results := [.lit (.bool true)], args := [d] }
  | _ => none }
def rootsManyRow : OpenClaim := { program := "ytliclajcifeneaa", sum := "8d32e1fc443d5560378c8c736c3a307ceebe1ea4567052900dd4f7317e0cedf0", func := "ecdysis/ecdysislaw13.RootsMany", spec := "rootsMany", unfollowed := true, recurses := true, apart := false }
def RootsManySaid : Prop := rootsManyRow.holds Try.pinned (OpenSpec.ofChange rootsManySpec)

/-- ITS FALSE NEIGHBOUR: 'it returns false'. Refute it at one input. -/
def rootsManyWrong : ChangeSpec := { name := "rootsMany", fn := fun _ => fun
  | [d] => { results := [.lit (.bool false)], args := [d] }
  | _ => none }
def RootsManyWrongFalsely : Prop := rootsManyRow.holds Try.pinned (OpenSpec.ofChange rootsManyWrong)

/-- 'ecdysislaw13.RootsNothing': WHATEVER THE INPUT: true; the input reads as it did. -/
def rootsNothingSpec : ChangeSpec := { name := "rootsNothing", fn := fun _ => fun
  | [d1, d2] => { results := [.lit (.bool true)], args := [d1, d2] }
  | _ => none }
def rootsNothingRow : OpenClaim := { program := "ytliclajcifeneaa", sum := "8d32e1fc443d5560378c8c736c3a307ceebe1ea4567052900dd4f7317e0cedf0", func := "ecdysis/ecdysislaw13.RootsNothing", spec := "rootsNothing", unfollowed := true, recurses := true, apart := false }
def RootsNothingSaid : Prop := rootsNothingRow.holds Try.pinned (OpenSpec.ofChange rootsNothingSpec)

/-- ITS FALSE NEIGHBOUR: 'it returns false'. Refute it at one input. -/
def rootsNothingWrong : ChangeSpec := { name := "rootsNothing", fn := fun _ => fun
  | [d1, d2] => { results := [.lit (.bool false)], args := [d1, d2] }
  | _ => none }
def RootsNothingWrongFalsely : Prop := rootsNothingRow.holds Try.pinned (OpenSpec.ofChange rootsNothingWrong)

/-- 'ecdysislaw13.RootsHeld': WHATEVER THE INPUT: true; the input reads as it did. -/
def rootsHeldSpec : ChangeSpec := { name := "rootsHeld", fn := fun _ => fun
  | [d1, d2] => { results := [.lit (.bool true)], args := [d1, d2] }
  | _ => none }
def rootsHeldRow : OpenClaim := { program := "ytliclajcifeneaa", sum := "8d32e1fc443d5560378c8c736c3a307ceebe1ea4567052900dd4f7317e0cedf0", func := "ecdysis/ecdysislaw13.RootsHeld", spec := "rootsHeld", unfollowed := true, recurses := true, apart := false }
def RootsHeldSaid : Prop := rootsHeldRow.holds Try.pinned (OpenSpec.ofChange rootsHeldSpec)

/-- ITS FALSE NEIGHBOUR: 'it returns false'. Refute it at one input. -/
def rootsHeldWrong : ChangeSpec := { name := "rootsHeld", fn := fun _ => fun
  | [d1, d2] => { results := [.lit (.bool false)], args := [d1, d2] }
  | _ => none }
def RootsHeldWrongFalsely : Prop := rootsHeldRow.holds Try.pinned (OpenSpec.ofChange rootsHeldWrong)

/-- 'ecdysislaw13.RootsCopies': WHATEVER THE INPUT: true; the input reads as it did. -/
def rootsCopiesSpec : ChangeSpec := { name := "rootsCopies", fn := fun _ => fun
  | [d1, d2] => { results := [.lit (.bool true)], args := [d1, d2] }
  | _ => none }
def rootsCopiesRow : OpenClaim := { program := "ytliclajcifeneaa", sum := "8d32e1fc443d5560378c8c736c3a307ceebe1ea4567052900dd4f7317e0cedf0", func := "ecdysis/ecdysislaw13.RootsCopies", spec := "rootsCopies", inPlace := ["maps.clone"], unfollowed := true, recurses := true, apart := false }
def RootsCopiesSaid : Prop := rootsCopiesRow.holds Try.pinned (OpenSpec.ofChange rootsCopiesSpec)

/-- ITS FALSE NEIGHBOUR: 'it returns false'. Refute it at one input. -/
def rootsCopiesWrong : ChangeSpec := { name := "rootsCopies", fn := fun _ => fun
  | [d1, d2] => { results := [.lit (.bool false)], args := [d1, d2] }
  | _ => none }
def RootsCopiesWrongFalsely : Prop := rootsCopiesRow.holds Try.pinned (OpenSpec.ofChange rootsCopiesWrong)

/-- 'ecdysislaw13.RootsBytes': WHATEVER THE INPUT: true; the input reads as it did. -/
def rootsBytesSpec : ChangeSpec := { name := "rootsBytes", fn := fun _ => fun
  | [d1, d2] => { results := [.lit (.bool true)], args := [d1, d2] }
  | _ => none }
def rootsBytesRow : OpenClaim := { program := "ytliclajcifeneaa", sum := "8d32e1fc443d5560378c8c736c3a307ceebe1ea4567052900dd4f7317e0cedf0", func := "ecdysis/ecdysislaw13.RootsBytes", spec := "rootsBytes", unfollowed := true, recurses := true, apart := false }
def RootsBytesSaid : Prop := rootsBytesRow.holds Try.pinned (OpenSpec.ofChange rootsBytesSpec)

/-- ITS FALSE NEIGHBOUR: 'it returns false'. Refute it at one input. -/
def rootsBytesWrong : ChangeSpec := { name := "rootsBytes", fn := fun _ => fun
  | [d1, d2] => { results := [.lit (.bool false)], args := [d1, d2] }
  | _ => none }
def RootsBytesWrongFalsely : Prop := rootsBytesRow.holds Try.pinned (OpenSpec.ofChange rootsBytesWrong)

/- THE SECOND FORM. 'bulk': how many values and letters a reading holds, each counted each time it is reached (what is shared counts as often as it is met; a slice's spare places count too). A statement '..UptoSaid' is the law's where the arguments, and the package variables that the reading takes, are together of bulk at most 1048576: NARROWER than '..Said'. Prove '..Said' where nothing that the law and all that it calls make is longer than what came in: it says more and counts as full. Else prove '..UptoSaid'. A law counts once. -/
mutual
def uptoBulk {H : Type} : DataW H → Nat
  | .lit (.string bytes) => bytes.length + 1
  | .lit _ => 1
  | .nil => 1
  | .ptr d => uptoBulk d + 1
  | .slice elems spare => uptoBulkAll elems + uptoBulkAll spare + 1
  | .agg parts => uptoBulkAll parts + 1
  | .iface _ d => uptoBulk d + 1
  | .map entries => uptoBulkEntries entries + 1
  | .held _ => 1
def uptoBulkAll {H : Type} : List (DataW H) → Nat
  | [] => 0
  | d :: r => uptoBulk d + uptoBulkAll r
def uptoBulkEntries {H : Type} : List (Lit × DataW H) → Nat
  | [] => 0
  | x :: r => uptoBulkEntry x + uptoBulkEntries r
def uptoBulkEntry {H : Type} : Lit × DataW H → Nat
  | (.string bytes, d) => bytes.length + uptoBulk d + 1
  | (_, d) => uptoBulk d + 1
 end
def uptoSmall : (H : Type) → List (DataW H) → Bool := fun _ ds => decide (uptoBulkAll ds ≤ 1048576)
def OpenSpec.upto (s : _root_.Go.ChangeSpec) : _root_.Go.OpenSpec := { _root_.Go.OpenSpec.ofChange s with cond := some uptoSmall }

/-- 'ecdysislaw13.RootsAll', WHERE WHAT IT READS IS OF BULK AT MOST 1048576: true; the input reads as it did. -/
def rootsAllUptoRow : OpenClaim := { program := "ytliclajcifeneaa", sum := "8d32e1fc443d5560378c8c736c3a307ceebe1ea4567052900dd4f7317e0cedf0", func := "ecdysis/ecdysislaw13.RootsAll", spec := "rootsAll", unfollowed := true, recurses := true, apart := false, narrowed := true }
def RootsAllUptoSaid : Prop := rootsAllUptoRow.holds Try.pinned (OpenSpec.upto rootsAllSpec)

/-- 'ecdysislaw13.RootsLast', WHERE WHAT IT READS IS OF BULK AT MOST 1048576: true; the input reads as it did. -/
def rootsLastUptoRow : OpenClaim := { program := "ytliclajcifeneaa", sum := "8d32e1fc443d5560378c8c736c3a307ceebe1ea4567052900dd4f7317e0cedf0", func := "ecdysis/ecdysislaw13.RootsLast", spec := "rootsLast", unfollowed := true, recurses := true, apart := false, narrowed := true }
def RootsLastUptoSaid : Prop := rootsLastUptoRow.holds Try.pinned (OpenSpec.upto rootsLastSpec)

/-- 'ecdysislaw13.RootsMany', WHERE WHAT IT READS IS OF BULK AT MOST 1048576: true; the input reads as it did. -/
def rootsManyUptoRow : OpenClaim := { program := "ytliclajcifeneaa", sum := "8d32e1fc443d5560378c8c736c3a307ceebe1ea4567052900dd4f7317e0cedf0", func := "ecdysis/ecdysislaw13.RootsMany", spec := "rootsMany", unfollowed := true, recurses := true, apart := false, narrowed := true }
def RootsManyUptoSaid : Prop := rootsManyUptoRow.holds Try.pinned (OpenSpec.upto rootsManySpec)

/-- 'ecdysislaw13.RootsNothing', WHERE WHAT IT READS IS OF BULK AT MOST 1048576: true; the input reads as it did. -/
def rootsNothingUptoRow : OpenClaim := { program := "ytliclajcifeneaa", sum := "8d32e1fc443d5560378c8c736c3a307ceebe1ea4567052900dd4f7317e0cedf0", func := "ecdysis/ecdysislaw13.RootsNothing", spec := "rootsNothing", unfollowed := true, recurses := true, apart := false, narrowed := true }
def RootsNothingUptoSaid : Prop := rootsNothingUptoRow.holds Try.pinned (OpenSpec.upto rootsNothingSpec)

/-- 'ecdysislaw13.RootsHeld', WHERE WHAT IT READS IS OF BULK AT MOST 1048576: true; the input reads as it did. -/
def rootsHeldUptoRow : OpenClaim := { program := "ytliclajcifeneaa", sum := "8d32e1fc443d5560378c8c736c3a307ceebe1ea4567052900dd4f7317e0cedf0", func := "ecdysis/ecdysislaw13.RootsHeld", spec := "rootsHeld", unfollowed := true, recurses := true, apart := false, narrowed := true }
def RootsHeldUptoSaid : Prop := rootsHeldUptoRow.holds Try.pinned (OpenSpec.upto rootsHeldSpec)

/-- 'ecdysislaw13.RootsCopies', WHERE WHAT IT READS IS OF BULK AT MOST 1048576: true; the input reads as it did. -/
def rootsCopiesUptoRow : OpenClaim := { program := "ytliclajcifeneaa", sum := "8d32e1fc443d5560378c8c736c3a307ceebe1ea4567052900dd4f7317e0cedf0", func := "ecdysis/ecdysislaw13.RootsCopies", spec := "rootsCopies", inPlace := ["maps.clone"], unfollowed := true, recurses := true, apart := false, narrowed := true }
def RootsCopiesUptoSaid : Prop := rootsCopiesUptoRow.holds Try.pinned (OpenSpec.upto rootsCopiesSpec)

/-- 'ecdysislaw13.RootsBytes', WHERE WHAT IT READS IS OF BULK AT MOST 1048576: true; the input reads as it did. -/
def rootsBytesUptoRow : OpenClaim := { program := "ytliclajcifeneaa", sum := "8d32e1fc443d5560378c8c736c3a307ceebe1ea4567052900dd4f7317e0cedf0", func := "ecdysis/ecdysislaw13.RootsBytes", spec := "rootsBytes", unfollowed := true, recurses := true, apart := false, narrowed := true }
def RootsBytesUptoSaid : Prop := rootsBytesUptoRow.holds Try.pinned (OpenSpec.upto rootsBytesSpec)

end Rows
end Go.Proofs.Ytliclajcifeneaa
