/-
  No cell of these rows narrows 'for every input' (looked for: loops, veiled, ifaces, maps, wideKeys, modest, calm, conditions, laid).
  DERIVED. THE GIVEN ROWS OF THIS SEAT. 9 by the template 'for every input the law returns true; each argument reads behind the call as it read before'; 0 by the template 'total and deterministic' (their statements: YtbogfjadmiodkaaTotals.lean).
  GIVEN WITH THE SEED: the statements are not yours to turn. If you find one false, say at which input.
  Laid BY PROGRAM, IN A SANDBOX (cutbox-rows.mjs): the forced cells as the released guide's own fill.sh prints them over the translation 7beec1edfc622ab0… (all of the seat's roots in one cut). By AI agents, Wed Nov 11 2026. No macro, syntax, notation, axiom, sorry.
-/
import Derived.Test.YtbogfjadmiodkaaChecked
import GoSem.Claim
import GoSem.ClaimJoined
import GoSem.ClaimMapViews
import Derived.JoinedTies
import Derived.KernelRfl
namespace Go.Proofs.Ytbogfjadmiodkaa
/- THE CELL 'sum', in the pinned program and in every row, IS THE sha256 OF THE DUMP (.gsa) THAT YtbogfjadmiodkaaProg.lean LOADS. Nothing in Lean hashes anything: it is a label: what it is worth is what the hold of that sum in a sandbox is worth. -/
noncomputable def Try.pinned : Pinned := { name := "ytbogfjadmiodkaa", sum := "7beec1edfc622ab047e1c9c4aa11600cc05fe1f6601f74eae396e7fa31a2460f", checked := Try.checked }
namespace Rows
def none {H : Type} : Left H := { results := [], args := [] }

/-- 'ecdysislaw11.SlotsPack': WHATEVER THE INPUT: true; the input reads as it did. -/
def slotsPackSpec : ChangeSpec := { name := "slotsPack", fn := fun _ => fun
  | [d1, d2] => { results := [.lit (.bool true)], args := [d1, d2] }
  | _ => none }
def slotsPackRow : OpenClaim := { program := "ytbogfjadmiodkaa", sum := "7beec1edfc622ab047e1c9c4aa11600cc05fe1f6601f74eae396e7fa31a2460f", func := "ecdysis/ecdysislaw11.SlotsPack", spec := "slotsPack", unfollowed := true, recurses := true, apart := false }
def SlotsPackSaid : Prop := slotsPackRow.holds Try.pinned (OpenSpec.ofChange slotsPackSpec)

/-- ITS FALSE NEIGHBOUR: 'it returns false'. Refute it at one input. -/
def slotsPackWrong : ChangeSpec := { name := "slotsPack", fn := fun _ => fun
  | [d1, d2] => { results := [.lit (.bool false)], args := [d1, d2] }
  | _ => none }
def SlotsPackWrongFalsely : Prop := slotsPackRow.holds Try.pinned (OpenSpec.ofChange slotsPackWrong)

/-- 'ecdysislaw11.SlotsNew': WHATEVER THE INPUT: true; the input reads as it did. -/
def slotsNewSpec : ChangeSpec := { name := "slotsNew", fn := fun _ => fun
  | [d] => { results := [.lit (.bool true)], args := [d] }
  | _ => none }
def slotsNewRow : OpenClaim := { program := "ytbogfjadmiodkaa", sum := "7beec1edfc622ab047e1c9c4aa11600cc05fe1f6601f74eae396e7fa31a2460f", func := "ecdysis/ecdysislaw11.SlotsNew", spec := "slotsNew", unfollowed := true, recurses := true, apart := false }
def SlotsNewSaid : Prop := slotsNewRow.holds Try.pinned (OpenSpec.ofChange slotsNewSpec)

/-- ITS FALSE NEIGHBOUR: 'it returns false'. Refute it at one input. -/
def slotsNewWrong : ChangeSpec := { name := "slotsNew", fn := fun _ => fun
  | [d] => { results := [.lit (.bool false)], args := [d] }
  | _ => none }
def SlotsNewWrongFalsely : Prop := slotsNewRow.holds Try.pinned (OpenSpec.ofChange slotsNewWrong)

/-- 'ecdysislaw11.SlotsAll': WHATEVER THE INPUT: true; the input reads as it did. -/
def slotsAllSpec : ChangeSpec := { name := "slotsAll", fn := fun _ => fun
  | [d1, d2] => { results := [.lit (.bool true)], args := [d1, d2] }
  | _ => none }
def slotsAllRow : OpenClaim := { program := "ytbogfjadmiodkaa", sum := "7beec1edfc622ab047e1c9c4aa11600cc05fe1f6601f74eae396e7fa31a2460f", func := "ecdysis/ecdysislaw11.SlotsAll", spec := "slotsAll", unfollowed := true, recurses := true, apart := false }
def SlotsAllSaid : Prop := slotsAllRow.holds Try.pinned (OpenSpec.ofChange slotsAllSpec)

/-- ITS FALSE NEIGHBOUR: 'it returns false'. Refute it at one input. -/
def slotsAllWrong : ChangeSpec := { name := "slotsAll", fn := fun _ => fun
  | [d1, d2] => { results := [.lit (.bool false)], args := [d1, d2] }
  | _ => none }
def SlotsAllWrongFalsely : Prop := slotsAllRow.holds Try.pinned (OpenSpec.ofChange slotsAllWrong)

/-- 'ecdysislaw11.SlotsBack': WHATEVER THE INPUT: true; the input reads as it did. -/
def slotsBackSpec : ChangeSpec := { name := "slotsBack", fn := fun _ => fun
  | [d1, d2] => { results := [.lit (.bool true)], args := [d1, d2] }
  | _ => none }
def slotsBackRow : OpenClaim := { program := "ytbogfjadmiodkaa", sum := "7beec1edfc622ab047e1c9c4aa11600cc05fe1f6601f74eae396e7fa31a2460f", func := "ecdysis/ecdysislaw11.SlotsBack", spec := "slotsBack", unfollowed := true, recurses := true, apart := false }
def SlotsBackSaid : Prop := slotsBackRow.holds Try.pinned (OpenSpec.ofChange slotsBackSpec)

/-- ITS FALSE NEIGHBOUR: 'it returns false'. Refute it at one input. -/
def slotsBackWrong : ChangeSpec := { name := "slotsBack", fn := fun _ => fun
  | [d1, d2] => { results := [.lit (.bool false)], args := [d1, d2] }
  | _ => none }
def SlotsBackWrongFalsely : Prop := slotsBackRow.holds Try.pinned (OpenSpec.ofChange slotsBackWrong)

/-- 'ecdysislaw11.SlotsStale': WHATEVER THE INPUT: true; the input reads as it did. -/
def slotsStaleSpec : ChangeSpec := { name := "slotsStale", fn := fun _ => fun
  | [d1, d2] => { results := [.lit (.bool true)], args := [d1, d2] }
  | _ => none }
def slotsStaleRow : OpenClaim := { program := "ytbogfjadmiodkaa", sum := "7beec1edfc622ab047e1c9c4aa11600cc05fe1f6601f74eae396e7fa31a2460f", func := "ecdysis/ecdysislaw11.SlotsStale", spec := "slotsStale", unfollowed := true, recurses := true, apart := false }
def SlotsStaleSaid : Prop := slotsStaleRow.holds Try.pinned (OpenSpec.ofChange slotsStaleSpec)

/-- ITS FALSE NEIGHBOUR: 'it returns false'. Refute it at one input. -/
def slotsStaleWrong : ChangeSpec := { name := "slotsStale", fn := fun _ => fun
  | [d1, d2] => { results := [.lit (.bool false)], args := [d1, d2] }
  | _ => none }
def SlotsStaleWrongFalsely : Prop := slotsStaleRow.holds Try.pinned (OpenSpec.ofChange slotsStaleWrong)

/-- 'ecdysislaw11.SlotsMade': WHATEVER THE INPUT: true; the input reads as it did. -/
def slotsMadeSpec : ChangeSpec := { name := "slotsMade", fn := fun _ => fun
  | [d1, d2] => { results := [.lit (.bool true)], args := [d1, d2] }
  | _ => none }
def slotsMadeRow : OpenClaim := { program := "ytbogfjadmiodkaa", sum := "7beec1edfc622ab047e1c9c4aa11600cc05fe1f6601f74eae396e7fa31a2460f", func := "ecdysis/ecdysislaw11.SlotsMade", spec := "slotsMade", unfollowed := true, recurses := true, apart := false }
def SlotsMadeSaid : Prop := slotsMadeRow.holds Try.pinned (OpenSpec.ofChange slotsMadeSpec)

/-- ITS FALSE NEIGHBOUR: 'it returns false'. Refute it at one input. -/
def slotsMadeWrong : ChangeSpec := { name := "slotsMade", fn := fun _ => fun
  | [d1, d2] => { results := [.lit (.bool false)], args := [d1, d2] }
  | _ => none }
def SlotsMadeWrongFalsely : Prop := slotsMadeRow.holds Try.pinned (OpenSpec.ofChange slotsMadeWrong)

/-- 'ecdysislaw11.SlotsSwings': WHATEVER THE INPUT: true; the input reads as it did. -/
def slotsSwingsSpec : ChangeSpec := { name := "slotsSwings", fn := fun _ => fun
  | [d1, d2, d3] => { results := [.lit (.bool true)], args := [d1, d2, d3] }
  | _ => none }
def slotsSwingsRow : OpenClaim := { program := "ytbogfjadmiodkaa", sum := "7beec1edfc622ab047e1c9c4aa11600cc05fe1f6601f74eae396e7fa31a2460f", func := "ecdysis/ecdysislaw11.SlotsSwings", spec := "slotsSwings", unfollowed := true, recurses := true, apart := false }
def SlotsSwingsSaid : Prop := slotsSwingsRow.holds Try.pinned (OpenSpec.ofChange slotsSwingsSpec)

/-- ITS FALSE NEIGHBOUR: 'it returns false'. Refute it at one input. -/
def slotsSwingsWrong : ChangeSpec := { name := "slotsSwings", fn := fun _ => fun
  | [d1, d2, d3] => { results := [.lit (.bool false)], args := [d1, d2, d3] }
  | _ => none }
def SlotsSwingsWrongFalsely : Prop := slotsSwingsRow.holds Try.pinned (OpenSpec.ofChange slotsSwingsWrong)

/-- 'ecdysislaw11.SlotsFirst': WHATEVER THE INPUT: true; the input reads as it did. -/
def slotsFirstSpec : ChangeSpec := { name := "slotsFirst", fn := fun _ => fun
  | [d] => { results := [.lit (.bool true)], args := [d] }
  | _ => none }
def slotsFirstRow : OpenClaim := { program := "ytbogfjadmiodkaa", sum := "7beec1edfc622ab047e1c9c4aa11600cc05fe1f6601f74eae396e7fa31a2460f", func := "ecdysis/ecdysislaw11.SlotsFirst", spec := "slotsFirst", unfollowed := true, recurses := true, apart := false }
def SlotsFirstSaid : Prop := slotsFirstRow.holds Try.pinned (OpenSpec.ofChange slotsFirstSpec)

/-- ITS FALSE NEIGHBOUR: 'it returns false'. Refute it at one input. -/
def slotsFirstWrong : ChangeSpec := { name := "slotsFirst", fn := fun _ => fun
  | [d] => { results := [.lit (.bool false)], args := [d] }
  | _ => none }
def SlotsFirstWrongFalsely : Prop := slotsFirstRow.holds Try.pinned (OpenSpec.ofChange slotsFirstWrong)

/-- 'ecdysislaw11.SlotsCopies': WHATEVER THE INPUT: true; the input reads as it did. -/
def slotsCopiesSpec : ChangeSpec := { name := "slotsCopies", fn := fun _ => fun
  | [d1, d2] => { results := [.lit (.bool true)], args := [d1, d2] }
  | _ => none }
def slotsCopiesRow : OpenClaim := { program := "ytbogfjadmiodkaa", sum := "7beec1edfc622ab047e1c9c4aa11600cc05fe1f6601f74eae396e7fa31a2460f", func := "ecdysis/ecdysislaw11.SlotsCopies", spec := "slotsCopies", unfollowed := true, recurses := true, apart := false }
def SlotsCopiesSaid : Prop := slotsCopiesRow.holds Try.pinned (OpenSpec.ofChange slotsCopiesSpec)

/-- ITS FALSE NEIGHBOUR: 'it returns false'. Refute it at one input. -/
def slotsCopiesWrong : ChangeSpec := { name := "slotsCopies", fn := fun _ => fun
  | [d1, d2] => { results := [.lit (.bool false)], args := [d1, d2] }
  | _ => none }
def SlotsCopiesWrongFalsely : Prop := slotsCopiesRow.holds Try.pinned (OpenSpec.ofChange slotsCopiesWrong)

/- THE SECOND FORM. 'bulk': how many values and letters a reading holds, each counted each time it is reached (what is shared counts as often as it is met; a slice's spare places count too). A statement '..UptoSaid' is the law's where the arguments, and the package variables that the reading takes, are together of bulk at most 1048576: NARROWER than '..Said'. Prove '..Said' where nothing that the law and all that it calls make is longer than what came in: it says more and counts as full. Else prove '..UptoSaid'. A law counts once. -/
mutual
def uptoBulk {H : Type} : DataW H → Nat
  | .lit (.string bytes) => bytes.length + 1
  | .lit _ => 1
  | .nil => 1
  | .ptr d => uptoBulk d + 1
  | .slice elems spare => uptoBulkAll elems + uptoBulkAll spare + 1
  | .agg parts => uptoBulkAll parts + 1
  | .iface _ d => uptoBulk d + 1
  | .map entries => uptoBulkEntries entries + 1
  | .held _ => 1
def uptoBulkAll {H : Type} : List (DataW H) → Nat
  | [] => 0
  | d :: r => uptoBulk d + uptoBulkAll r
def uptoBulkEntries {H : Type} : List (Lit × DataW H) → Nat
  | [] => 0
  | x :: r => uptoBulkEntry x + uptoBulkEntries r
def uptoBulkEntry {H : Type} : Lit × DataW H → Nat
  | (.string bytes, d) => bytes.length + uptoBulk d + 1
  | (_, d) => uptoBulk d + 1
 end
def uptoSmall : (H : Type) → List (DataW H) → Bool := fun _ ds => decide (uptoBulkAll ds ≤ 1048576)
def OpenSpec.upto (s : _root_.Go.ChangeSpec) : _root_.Go.OpenSpec := { _root_.Go.OpenSpec.ofChange s with cond := some uptoSmall }

/-- 'ecdysislaw11.SlotsPack', WHERE WHAT IT READS IS OF BULK AT MOST 1048576: true; the input reads as it did. -/
def slotsPackUptoRow : OpenClaim := { program := "ytbogfjadmiodkaa", sum := "7beec1edfc622ab047e1c9c4aa11600cc05fe1f6601f74eae396e7fa31a2460f", func := "ecdysis/ecdysislaw11.SlotsPack", spec := "slotsPack", unfollowed := true, recurses := true, apart := false, narrowed := true }
def SlotsPackUptoSaid : Prop := slotsPackUptoRow.holds Try.pinned (OpenSpec.upto slotsPackSpec)

/-- 'ecdysislaw11.SlotsNew', WHERE WHAT IT READS IS OF BULK AT MOST 1048576: true; the input reads as it did. -/
def slotsNewUptoRow : OpenClaim := { program := "ytbogfjadmiodkaa", sum := "7beec1edfc622ab047e1c9c4aa11600cc05fe1f6601f74eae396e7fa31a2460f", func := "ecdysis/ecdysislaw11.SlotsNew", spec := "slotsNew", unfollowed := true, recurses := true, apart := false, narrowed := true }
def SlotsNewUptoSaid : Prop := slotsNewUptoRow.holds Try.pinned (OpenSpec.upto slotsNewSpec)

/-- 'ecdysislaw11.SlotsAll', WHERE WHAT IT READS IS OF BULK AT MOST 1048576: true; the input reads as it did. -/
def slotsAllUptoRow : OpenClaim := { program := "ytbogfjadmiodkaa", sum := "7beec1edfc622ab047e1c9c4aa11600cc05fe1f6601f74eae396e7fa31a2460f", func := "ecdysis/ecdysislaw11.SlotsAll", spec := "slotsAll", unfollowed := true, recurses := true, apart := false, narrowed := true }
def SlotsAllUptoSaid : Prop := slotsAllUptoRow.holds Try.pinned (OpenSpec.upto slotsAllSpec)

/-- 'ecdysislaw11.SlotsBack', WHERE WHAT IT READS IS OF BULK AT MOST 1048576: true; the input reads as it did. -/
def slotsBackUptoRow : OpenClaim := { program := "ytbogfjadmiodkaa", sum := "7beec1edfc622ab047e1c9c4aa11600cc05fe1f6601f74eae396e7fa31a2460f", func := "ecdysis/ecdysislaw11.SlotsBack", spec := "slotsBack", unfollowed := true, recurses := true, apart := false, narrowed := true }
def SlotsBackUptoSaid : Prop := slotsBackUptoRow.holds Try.pinned (OpenSpec.upto slotsBackSpec)

/-- 'ecdysislaw11.SlotsStale', WHERE WHAT IT READS IS OF BULK AT MOST 1048576: true; the input reads as it did. -/
def slotsStaleUptoRow : OpenClaim := { program := "ytbogfjadmiodkaa", sum := "7beec1edfc622ab047e1c9c4aa11600cc05fe1f6601f74eae396e7fa31a2460f", func := "ecdysis/ecdysislaw11.SlotsStale", spec := "slotsStale", unfollowed := true, recurses := true, apart := false, narrowed := true }
def SlotsStaleUptoSaid : Prop := slotsStaleUptoRow.holds Try.pinned (OpenSpec.upto slotsStaleSpec)

/-- 'ecdysislaw11.SlotsMade', WHERE WHAT IT READS IS OF BULK AT MOST 1048576: true; the input reads as it did. -/
def slotsMadeUptoRow : OpenClaim := { program := "ytbogfjadmiodkaa", sum := "7beec1edfc622ab047e1c9c4aa11600cc05fe1f6601f74eae396e7fa31a2460f", func := "ecdysis/ecdysislaw11.SlotsMade", spec := "slotsMade", unfollowed := true, recurses := true, apart := false, narrowed := true }
def SlotsMadeUptoSaid : Prop := slotsMadeUptoRow.holds Try.pinned (OpenSpec.upto slotsMadeSpec)

/-- 'ecdysislaw11.SlotsSwings', WHERE WHAT IT READS IS OF BULK AT MOST 1048576: true; the input reads as it did. -/
def slotsSwingsUptoRow : OpenClaim := { program := "ytbogfjadmiodkaa", sum := "7beec1edfc622ab047e1c9c4aa11600cc05fe1f6601f74eae396e7fa31a2460f", func := "ecdysis/ecdysislaw11.SlotsSwings", spec := "slotsSwings", unfollowed := true, recurses := true, apart := false, narrowed := true }
def SlotsSwingsUptoSaid : Prop := slotsSwingsUptoRow.holds Try.pinned (OpenSpec.upto slotsSwingsSpec)

/-- 'ecdysislaw11.SlotsFirst', WHERE WHAT IT READS IS OF BULK AT MOST 1048576: true; the input reads as it did. -/
def slotsFirstUptoRow : OpenClaim := { program := "ytbogfjadmiodkaa", sum := "7beec1edfc622ab047e1c9c4aa11600cc05fe1f6601f74eae396e7fa31a2460f", func := "ecdysis/ecdysislaw11.SlotsFirst", spec := "slotsFirst", unfollowed := true, recurses := true, apart := false, narrowed := true }
def SlotsFirstUptoSaid : Prop := slotsFirstUptoRow.holds Try.pinned (OpenSpec.upto slotsFirstSpec)

/-- 'ecdysislaw11.SlotsCopies', WHERE WHAT IT READS IS OF BULK AT MOST 1048576: true; the input reads as it did. -/
def slotsCopiesUptoRow : OpenClaim := { program := "ytbogfjadmiodkaa", sum := "7beec1edfc622ab047e1c9c4aa11600cc05fe1f6601f74eae396e7fa31a2460f", func := "ecdysis/ecdysislaw11.SlotsCopies", spec := "slotsCopies", unfollowed := true, recurses := true, apart := false, narrowed := true }
def SlotsCopiesUptoSaid : Prop := slotsCopiesUptoRow.holds Try.pinned (OpenSpec.upto slotsCopiesSpec)

end Rows
end Go.Proofs.Ytbogfjadmiodkaa
