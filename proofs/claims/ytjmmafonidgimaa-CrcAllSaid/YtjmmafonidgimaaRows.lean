/-
  No cell of these rows narrows 'for every input' (looked for: loops, veiled, ifaces, maps, wideKeys, modest, calm, conditions, laid).
  DERIVED. THE GIVEN ROWS OF THIS SEAT. 5 by the template 'for every input the law returns true; each argument reads behind the call as it read before'; 0 by the template 'total and deterministic' (their statements: YtjmmafonidgimaaTotals.lean).
  GIVEN WITH THE SEED: the statements are not yours to turn. If you find one false, say at which input.
  Laid BY PROGRAM, IN A SANDBOX (cutbox-rows.mjs): the forced cells as the released guide's own fill.sh prints them over the translation f8f8d1c34ffae1fe… (all of the seat's roots in one cut). By AI agents, Wed Nov 11 2026. No macro, syntax, notation, axiom, sorry.
-/
import Derived.Test.YtjmmafonidgimaaChecked
import GoSem.Claim
import GoSem.ClaimJoined
import GoSem.ClaimMapViews
import Derived.JoinedTies
import Derived.KernelRfl
namespace Go.Proofs.Ytjmmafonidgimaa
/- THE CELL 'sum', in the pinned program and in every row, IS THE sha256 OF THE DUMP (.gsa) THAT YtjmmafonidgimaaProg.lean LOADS. Nothing in Lean hashes anything: it is a label: what it is worth is what the hold of that sum in a sandbox is worth. -/
noncomputable def Try.pinned : Pinned := { name := "ytjmmafonidgimaa", sum := "f8f8d1c34ffae1fef60c51225f357be9a2c51dc32e171c3391baaa0a46d5b759", checked := Try.checked }
namespace Rows
def none {H : Type} : Left H := { results := [], args := [] }

/-- 'ecdysislaw02.CrcAll': WHATEVER THE INPUT: true; the input reads as it did. -/
def crcAllSpec : ChangeSpec := { name := "crcAll", fn := fun _ => fun
  | [d1, d2, d3] => { results := [.lit (.bool true)], args := [d1, d2, d3] }
  | _ => none }
def crcAllRow : OpenClaim := { program := "ytjmmafonidgimaa", sum := "f8f8d1c34ffae1fef60c51225f357be9a2c51dc32e171c3391baaa0a46d5b759", func := "ecdysis/ecdysislaw02.CrcAll", spec := "crcAll", unfollowed := true, recurses := true, apart := false }
def CrcAllSaid : Prop := crcAllRow.holds Try.pinned (OpenSpec.ofChange crcAllSpec)

/-- ITS FALSE NEIGHBOUR: 'it returns false'. Refute it at one input. -/
def crcAllWrong : ChangeSpec := { name := "crcAll", fn := fun _ => fun
  | [d1, d2, d3] => { results := [.lit (.bool false)], args := [d1, d2, d3] }
  | _ => none }
def CrcAllWrongFalsely : Prop := crcAllRow.holds Try.pinned (OpenSpec.ofChange crcAllWrong)

/-- 'ecdysislaw02.CrcBack': WHATEVER THE INPUT: true; the input reads as it did. -/
def crcBackSpec : ChangeSpec := { name := "crcBack", fn := fun _ => fun
  | [d1, d2] => { results := [.lit (.bool true)], args := [d1, d2] }
  | _ => none }
def crcBackRow : OpenClaim := { program := "ytjmmafonidgimaa", sum := "f8f8d1c34ffae1fef60c51225f357be9a2c51dc32e171c3391baaa0a46d5b759", func := "ecdysis/ecdysislaw02.CrcBack", spec := "crcBack", unfollowed := true, recurses := true, apart := false }
def CrcBackSaid : Prop := crcBackRow.holds Try.pinned (OpenSpec.ofChange crcBackSpec)

/-- ITS FALSE NEIGHBOUR: 'it returns false'. Refute it at one input. -/
def crcBackWrong : ChangeSpec := { name := "crcBack", fn := fun _ => fun
  | [d1, d2] => { results := [.lit (.bool false)], args := [d1, d2] }
  | _ => none }
def CrcBackWrongFalsely : Prop := crcBackRow.holds Try.pinned (OpenSpec.ofChange crcBackWrong)

/-- 'ecdysislaw02.CrcTurned': WHATEVER THE INPUT: true; the input reads as it did. -/
def crcTurnedSpec : ChangeSpec := { name := "crcTurned", fn := fun _ => fun
  | [d1, d2, d3] => { results := [.lit (.bool true)], args := [d1, d2, d3] }
  | _ => none }
def crcTurnedRow : OpenClaim := { program := "ytjmmafonidgimaa", sum := "f8f8d1c34ffae1fef60c51225f357be9a2c51dc32e171c3391baaa0a46d5b759", func := "ecdysis/ecdysislaw02.CrcTurned", spec := "crcTurned", unfollowed := true, recurses := true, apart := false }
def CrcTurnedSaid : Prop := crcTurnedRow.holds Try.pinned (OpenSpec.ofChange crcTurnedSpec)

/-- ITS FALSE NEIGHBOUR: 'it returns false'. Refute it at one input. -/
def crcTurnedWrong : ChangeSpec := { name := "crcTurned", fn := fun _ => fun
  | [d1, d2, d3] => { results := [.lit (.bool false)], args := [d1, d2, d3] }
  | _ => none }
def CrcTurnedWrongFalsely : Prop := crcTurnedRow.holds Try.pinned (OpenSpec.ofChange crcTurnedWrong)

/-- 'ecdysislaw02.CrcTwo': WHATEVER THE INPUT: true; the input reads as it did. -/
def crcTwoSpec : ChangeSpec := { name := "crcTwo", fn := fun _ => fun
  | [d1, d2] => { results := [.lit (.bool true)], args := [d1, d2] }
  | _ => none }
def crcTwoRow : OpenClaim := { program := "ytjmmafonidgimaa", sum := "f8f8d1c34ffae1fef60c51225f357be9a2c51dc32e171c3391baaa0a46d5b759", func := "ecdysis/ecdysislaw02.CrcTwo", spec := "crcTwo", unfollowed := true, recurses := true, apart := false }
def CrcTwoSaid : Prop := crcTwoRow.holds Try.pinned (OpenSpec.ofChange crcTwoSpec)

/-- ITS FALSE NEIGHBOUR: 'it returns false'. Refute it at one input. -/
def crcTwoWrong : ChangeSpec := { name := "crcTwo", fn := fun _ => fun
  | [d1, d2] => { results := [.lit (.bool false)], args := [d1, d2] }
  | _ => none }
def CrcTwoWrongFalsely : Prop := crcTwoRow.holds Try.pinned (OpenSpec.ofChange crcTwoWrong)

/-- 'ecdysislaw02.CrcZero': WHATEVER THE INPUT: true; the input reads as it did. -/
def crcZeroSpec : ChangeSpec := { name := "crcZero", fn := fun _ => fun
  | [d1, d2] => { results := [.lit (.bool true)], args := [d1, d2] }
  | _ => none }
def crcZeroRow : OpenClaim := { program := "ytjmmafonidgimaa", sum := "f8f8d1c34ffae1fef60c51225f357be9a2c51dc32e171c3391baaa0a46d5b759", func := "ecdysis/ecdysislaw02.CrcZero", spec := "crcZero", unfollowed := true, recurses := true, apart := false }
def CrcZeroSaid : Prop := crcZeroRow.holds Try.pinned (OpenSpec.ofChange crcZeroSpec)

/-- ITS FALSE NEIGHBOUR: 'it returns false'. Refute it at one input. -/
def crcZeroWrong : ChangeSpec := { name := "crcZero", fn := fun _ => fun
  | [d1, d2] => { results := [.lit (.bool false)], args := [d1, d2] }
  | _ => none }
def CrcZeroWrongFalsely : Prop := crcZeroRow.holds Try.pinned (OpenSpec.ofChange crcZeroWrong)

/- THE SECOND FORM. 'bulk': how many values and letters a reading holds, each counted each time it is reached (what is shared counts as often as it is met; a slice's spare places count too). A statement '..UptoSaid' is the law's where the arguments, and the package variables that the reading takes, are together of bulk at most 1048576: NARROWER than '..Said'. Prove '..Said' where nothing that the law and all that it calls make is longer than what came in: it says more and counts as full. Else prove '..UptoSaid'. A law counts once. -/
mutual
def uptoBulk {H : Type} : DataW H → Nat
  | .lit (.string bytes) => bytes.length + 1
  | .lit _ => 1
  | .nil => 1
  | .ptr d => uptoBulk d + 1
  | .slice elems spare => uptoBulkAll elems + uptoBulkAll spare + 1
  | .agg parts => uptoBulkAll parts + 1
  | .iface _ d => uptoBulk d + 1
  | .map entries => uptoBulkEntries entries + 1
  | .held _ => 1
def uptoBulkAll {H : Type} : List (DataW H) → Nat
  | [] => 0
  | d :: r => uptoBulk d + uptoBulkAll r
def uptoBulkEntries {H : Type} : List (Lit × DataW H) → Nat
  | [] => 0
  | x :: r => uptoBulkEntry x + uptoBulkEntries r
def uptoBulkEntry {H : Type} : Lit × DataW H → Nat
  | (.string bytes, d) => bytes.length + uptoBulk d + 1
  | (_, d) => uptoBulk d + 1
 end
def uptoSmall : (H : Type) → List (DataW H) → Bool := fun _ ds => decide (uptoBulkAll ds ≤ 1048576)
def OpenSpec.upto (s : _root_.Go.ChangeSpec) : _root_.Go.OpenSpec := { _root_.Go.OpenSpec.ofChange s with cond := some uptoSmall }

/-- 'ecdysislaw02.CrcAll', WHERE WHAT IT READS IS OF BULK AT MOST 1048576: true; the input reads as it did. -/
def crcAllUptoRow : OpenClaim := { program := "ytjmmafonidgimaa", sum := "f8f8d1c34ffae1fef60c51225f357be9a2c51dc32e171c3391baaa0a46d5b759", func := "ecdysis/ecdysislaw02.CrcAll", spec := "crcAll", unfollowed := true, recurses := true, apart := false, narrowed := true }
def CrcAllUptoSaid : Prop := crcAllUptoRow.holds Try.pinned (OpenSpec.upto crcAllSpec)

/-- 'ecdysislaw02.CrcBack', WHERE WHAT IT READS IS OF BULK AT MOST 1048576: true; the input reads as it did. -/
def crcBackUptoRow : OpenClaim := { program := "ytjmmafonidgimaa", sum := "f8f8d1c34ffae1fef60c51225f357be9a2c51dc32e171c3391baaa0a46d5b759", func := "ecdysis/ecdysislaw02.CrcBack", spec := "crcBack", unfollowed := true, recurses := true, apart := false, narrowed := true }
def CrcBackUptoSaid : Prop := crcBackUptoRow.holds Try.pinned (OpenSpec.upto crcBackSpec)

/-- 'ecdysislaw02.CrcTurned', WHERE WHAT IT READS IS OF BULK AT MOST 1048576: true; the input reads as it did. -/
def crcTurnedUptoRow : OpenClaim := { program := "ytjmmafonidgimaa", sum := "f8f8d1c34ffae1fef60c51225f357be9a2c51dc32e171c3391baaa0a46d5b759", func := "ecdysis/ecdysislaw02.CrcTurned", spec := "crcTurned", unfollowed := true, recurses := true, apart := false, narrowed := true }
def CrcTurnedUptoSaid : Prop := crcTurnedUptoRow.holds Try.pinned (OpenSpec.upto crcTurnedSpec)

/-- 'ecdysislaw02.CrcTwo', WHERE WHAT IT READS IS OF BULK AT MOST 1048576: true; the input reads as it did. -/
def crcTwoUptoRow : OpenClaim := { program := "ytjmmafonidgimaa", sum := "f8f8d1c34ffae1fef60c51225f357be9a2c51dc32e171c3391baaa0a46d5b759", func := "ecdysis/ecdysislaw02.CrcTwo", spec := "crcTwo", unfollowed := true, recurses := true, apart := false, narrowed := true }
def CrcTwoUptoSaid : Prop := crcTwoUptoRow.holds Try.pinned (OpenSpec.upto crcTwoSpec)

/-- 'ecdysislaw02.CrcZero', WHERE WHAT IT READS IS OF BULK AT MOST 1048576: true; the input reads as it did. -/
def crcZeroUptoRow : OpenClaim := { program := "ytjmmafonidgimaa", sum := "f8f8d1c34ffae1fef60c51225f357be9a2c51dc32e171c3391baaa0a46d5b759", func := "ecdysis/ecdysislaw02.CrcZero", spec := "crcZero", unfollowed := true, recurses := true, apart := false, narrowed := true }
def CrcZeroUptoSaid : Prop := crcZeroUptoRow.holds Try.pinned (OpenSpec.upto crcZeroSpec)

end Rows
end Go.Proofs.Ytjmmafonidgimaa
