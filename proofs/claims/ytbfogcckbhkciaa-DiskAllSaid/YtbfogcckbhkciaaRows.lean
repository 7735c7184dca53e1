/-
  No cell of these rows narrows 'for every input' (looked for: loops, veiled, ifaces, maps, wideKeys, modest, calm, conditions, laid).
  DERIVED. THE GIVEN ROWS OF THIS SEAT. 17 by the template 'for every input the law returns true; each argument reads behind the call as it read before'; 0 by the template 'total and deterministic' (their statements: YtbfogcckbhkciaaTotals.lean).
  GIVEN WITH THE SEED: the statements are not yours to turn. If you find one false, say at which input.
  Laid BY PROGRAM, IN A SANDBOX (cutbox-rows.mjs): the forced cells as the released guide's own fill.sh prints them over the translation ef292b32f9c94dce… (all of the seat's roots in one cut). By AI agents, Wed Nov 11 2026. No macro, syntax, notation, axiom, sorry.
-/
import Derived.Test.YtbfogcckbhkciaaChecked
import GoSem.Claim
import GoSem.ClaimJoined
import GoSem.ClaimMapViews
import Derived.JoinedTies
import Derived.KernelRfl
namespace Go.Proofs.Ytbfogcckbhkciaa
/- THE CELL 'sum', in the pinned program and in every row, IS THE sha256 OF THE DUMP (.gsa) THAT YtbfogcckbhkciaaProg.lean LOADS. Nothing in Lean hashes anything: it is a label: what it is worth is what the hold of that sum in a sandbox is worth. -/
noncomputable def Try.pinned : Pinned := { name := "ytbfogcckbhkciaa", sum := "ef292b32f9c94dce50bbf55163745c04806251525f48810436e3afab1be21601", checked := Try.checked }
namespace Rows
def none {H : Type} : Left H := { results := [], args := [] }

/-- 'ecdysislaw03.PmemWrites': WHATEVER THE INPUT: true; the input reads as it did. -/
def pmemWritesSpec : ChangeSpec := { name := "pmemWrites", fn := fun _ => fun
  | [d1, d2] => { results := [.lit (.bool true)], args := [d1, d2] }
  | _ => none }
def pmemWritesRow : OpenClaim := { program := "ytbfogcckbhkciaa", sum := "ef292b32f9c94dce50bbf55163745c04806251525f48810436e3afab1be21601", func := "ecdysis/ecdysislaw03.PmemWrites", spec := "pmemWrites", unfollowed := true, recurses := true, apart := false }
def PmemWritesSaid : Prop := pmemWritesRow.holds Try.pinned (OpenSpec.ofChange pmemWritesSpec)

/-- ITS FALSE NEIGHBOUR: 'it returns false'. Refute it at one input. -/
def pmemWritesWrong : ChangeSpec := { name := "pmemWrites", fn := fun _ => fun
  | [d1, d2] => { results := [.lit (.bool false)], args := [d1, d2] }
  | _ => none }
def PmemWritesWrongFalsely : Prop := pmemWritesRow.holds Try.pinned (OpenSpec.ofChange pmemWritesWrong)

/-- 'ecdysislaw03.PmemFences': WHATEVER THE INPUT: true; the input reads as it did. -/
def pmemFencesSpec : ChangeSpec := { name := "pmemFences", fn := fun _ => fun
  | [d] => { results := [.lit (.bool true)], args := [d] }
  | _ => none }
def pmemFencesRow : OpenClaim := { program := "ytbfogcckbhkciaa", sum := "ef292b32f9c94dce50bbf55163745c04806251525f48810436e3afab1be21601", func := "ecdysis/ecdysislaw03.PmemFences", spec := "pmemFences", unfollowed := true, recurses := true, apart := false }
def PmemFencesSaid : Prop := pmemFencesRow.holds Try.pinned (OpenSpec.ofChange pmemFencesSpec)

/-- ITS FALSE NEIGHBOUR: 'it returns false'. Refute it at one input. -/
def pmemFencesWrong : ChangeSpec := { name := "pmemFences", fn := fun _ => fun
  | [d] => { results := [.lit (.bool false)], args := [d] }
  | _ => none }
def PmemFencesWrongFalsely : Prop := pmemFencesRow.holds Try.pinned (OpenSpec.ofChange pmemFencesWrong)

/-- 'ecdysislaw03.PmemNew': WHATEVER THE INPUT: true; the input reads as it did. -/
def pmemNewSpec : ChangeSpec := { name := "pmemNew", fn := fun _ => fun
  | [d] => { results := [.lit (.bool true)], args := [d] }
  | _ => none }
def pmemNewRow : OpenClaim := { program := "ytbfogcckbhkciaa", sum := "ef292b32f9c94dce50bbf55163745c04806251525f48810436e3afab1be21601", func := "ecdysis/ecdysislaw03.PmemNew", spec := "pmemNew", unfollowed := true, recurses := true, apart := false }
def PmemNewSaid : Prop := pmemNewRow.holds Try.pinned (OpenSpec.ofChange pmemNewSpec)

/-- ITS FALSE NEIGHBOUR: 'it returns false'. Refute it at one input. -/
def pmemNewWrong : ChangeSpec := { name := "pmemNew", fn := fun _ => fun
  | [d] => { results := [.lit (.bool false)], args := [d] }
  | _ => none }
def PmemNewWrongFalsely : Prop := pmemNewRow.holds Try.pinned (OpenSpec.ofChange pmemNewWrong)

/-- 'ecdysislaw03.PmemSafe': WHATEVER THE INPUT: true; the input reads as it did. -/
def pmemSafeSpec : ChangeSpec := { name := "pmemSafe", fn := fun _ => fun
  | [d1, d2, d3] => { results := [.lit (.bool true)], args := [d1, d2, d3] }
  | _ => none }
def pmemSafeRow : OpenClaim := { program := "ytbfogcckbhkciaa", sum := "ef292b32f9c94dce50bbf55163745c04806251525f48810436e3afab1be21601", func := "ecdysis/ecdysislaw03.PmemSafe", spec := "pmemSafe", inPlace := ["maps.clone"], unfollowed := true, recurses := true, apart := false }
def PmemSafeSaid : Prop := pmemSafeRow.holds Try.pinned (OpenSpec.ofChange pmemSafeSpec)

/-- ITS FALSE NEIGHBOUR: 'it returns false'. Refute it at one input. -/
def pmemSafeWrong : ChangeSpec := { name := "pmemSafe", fn := fun _ => fun
  | [d1, d2, d3] => { results := [.lit (.bool false)], args := [d1, d2, d3] }
  | _ => none }
def PmemSafeWrongFalsely : Prop := pmemSafeRow.holds Try.pinned (OpenSpec.ofChange pmemSafeWrong)

/-- 'ecdysislaw03.PmemCopies': WHATEVER THE INPUT: true; the input reads as it did. -/
def pmemCopiesSpec : ChangeSpec := { name := "pmemCopies", fn := fun _ => fun
  | [d1, d2] => { results := [.lit (.bool true)], args := [d1, d2] }
  | _ => none }
def pmemCopiesRow : OpenClaim := { program := "ytbfogcckbhkciaa", sum := "ef292b32f9c94dce50bbf55163745c04806251525f48810436e3afab1be21601", func := "ecdysis/ecdysislaw03.PmemCopies", spec := "pmemCopies", inPlace := ["maps.clone"], unfollowed := true, recurses := true, apart := false }
def PmemCopiesSaid : Prop := pmemCopiesRow.holds Try.pinned (OpenSpec.ofChange pmemCopiesSpec)

/-- ITS FALSE NEIGHBOUR: 'it returns false'. Refute it at one input. -/
def pmemCopiesWrong : ChangeSpec := { name := "pmemCopies", fn := fun _ => fun
  | [d1, d2] => { results := [.lit (.bool false)], args := [d1, d2] }
  | _ => none }
def PmemCopiesWrongFalsely : Prop := pmemCopiesRow.holds Try.pinned (OpenSpec.ofChange pmemCopiesWrong)

/-- 'ecdysislaw04.WalRecovers': WHATEVER THE INPUT: true; the input reads as it did. -/
def walRecoversSpec : ChangeSpec := { name := "walRecovers", fn := fun _ => fun
  | [d] => { results := [.lit (.bool true)], args := [d] }
  | _ => none }
def walRecoversRow : OpenClaim := { program := "ytbfogcckbhkciaa", sum := "ef292b32f9c94dce50bbf55163745c04806251525f48810436e3afab1be21601", func := "ecdysis/ecdysislaw04.WalRecovers", spec := "walRecovers", unfollowed := true, recurses := true, apart := false }
def WalRecoversSaid : Prop := walRecoversRow.holds Try.pinned (OpenSpec.ofChange walRecoversSpec)

/-- ITS FALSE NEIGHBOUR: 'it returns false'. Refute it at one input. -/
def walRecoversWrong : ChangeSpec := { name := "walRecovers", fn := fun _ => fun
  | [d] => { results := [.lit (.bool false)], args := [d] }
  | _ => none }
def WalRecoversWrongFalsely : Prop := walRecoversRow.holds Try.pinned (OpenSpec.ofChange walRecoversWrong)

/-- 'ecdysislaw04.WalSeqs': WHATEVER THE INPUT: true; the input reads as it did. -/
def walSeqsSpec : ChangeSpec := { name := "walSeqs", fn := fun _ => fun
  | [d] => { results := [.lit (.bool true)], args := [d] }
  | _ => none }
def walSeqsRow : OpenClaim := { program := "ytbfogcckbhkciaa", sum := "ef292b32f9c94dce50bbf55163745c04806251525f48810436e3afab1be21601", func := "ecdysis/ecdysislaw04.WalSeqs", spec := "walSeqs", unfollowed := true, recurses := true, apart := false }
def WalSeqsSaid : Prop := walSeqsRow.holds Try.pinned (OpenSpec.ofChange walSeqsSpec)

/-- ITS FALSE NEIGHBOUR: 'it returns false'. Refute it at one input. -/
def walSeqsWrong : ChangeSpec := { name := "walSeqs", fn := fun _ => fun
  | [d] => { results := [.lit (.bool false)], args := [d] }
  | _ => none }
def WalSeqsWrongFalsely : Prop := walSeqsRow.holds Try.pinned (OpenSpec.ofChange walSeqsWrong)

/-- 'ecdysislaw04.WalRooms': WHATEVER THE INPUT: true; the input reads as it did. -/
def walRoomsSpec : ChangeSpec := { name := "walRooms", fn := fun _ => fun
  | [d] => { results := [.lit (.bool true)], args := [d] }
  | _ => none }
def walRoomsRow : OpenClaim := { program := "ytbfogcckbhkciaa", sum := "ef292b32f9c94dce50bbf55163745c04806251525f48810436e3afab1be21601", func := "ecdysis/ecdysislaw04.WalRooms", spec := "walRooms", unfollowed := true, recurses := true, apart := false }
def WalRoomsSaid : Prop := walRoomsRow.holds Try.pinned (OpenSpec.ofChange walRoomsSpec)

/-- ITS FALSE NEIGHBOUR: 'it returns false'. Refute it at one input. -/
def walRoomsWrong : ChangeSpec := { name := "walRooms", fn := fun _ => fun
  | [d] => { results := [.lit (.bool false)], args := [d] }
  | _ => none }
def WalRoomsWrongFalsely : Prop := walRoomsRow.holds Try.pinned (OpenSpec.ofChange walRoomsWrong)

/-- 'ecdysislaw04.WalNothing': WHATEVER THE INPUT: true; the input reads as it did. -/
def walNothingSpec : ChangeSpec := { name := "walNothing", fn := fun _ => fun
  | [d] => { results := [.lit (.bool true)], args := [d] }
  | _ => none }
def walNothingRow : OpenClaim := { program := "ytbfogcckbhkciaa", sum := "ef292b32f9c94dce50bbf55163745c04806251525f48810436e3afab1be21601", func := "ecdysis/ecdysislaw04.WalNothing", spec := "walNothing", unfollowed := true, recurses := true, apart := false }
def WalNothingSaid : Prop := walNothingRow.holds Try.pinned (OpenSpec.ofChange walNothingSpec)

/-- ITS FALSE NEIGHBOUR: 'it returns false'. Refute it at one input. -/
def walNothingWrong : ChangeSpec := { name := "walNothing", fn := fun _ => fun
  | [d] => { results := [.lit (.bool false)], args := [d] }
  | _ => none }
def WalNothingWrongFalsely : Prop := walNothingRow.holds Try.pinned (OpenSpec.ofChange walNothingWrong)

/-- 'ecdysislaw04.WalTorn': WHATEVER THE INPUT: true; the input reads as it did. -/
def walTornSpec : ChangeSpec := { name := "walTorn", fn := fun _ => fun
  | [d1, d2, d3] => { results := [.lit (.bool true)], args := [d1, d2, d3] }
  | _ => none }
def walTornRow : OpenClaim := { program := "ytbfogcckbhkciaa", sum := "ef292b32f9c94dce50bbf55163745c04806251525f48810436e3afab1be21601", func := "ecdysis/ecdysislaw04.WalTorn", spec := "walTorn", unfollowed := true, recurses := true, apart := false }
def WalTornSaid : Prop := walTornRow.holds Try.pinned (OpenSpec.ofChange walTornSpec)

/-- ITS FALSE NEIGHBOUR: 'it returns false'. Refute it at one input. -/
def walTornWrong : ChangeSpec := { name := "walTorn", fn := fun _ => fun
  | [d1, d2, d3] => { results := [.lit (.bool false)], args := [d1, d2, d3] }
  | _ => none }
def WalTornWrongFalsely : Prop := walTornRow.holds Try.pinned (OpenSpec.ofChange walTornWrong)

/-- 'ecdysislaw04.WalAtomic': WHATEVER THE INPUT: true; the input reads as it did. -/
def walAtomicSpec : ChangeSpec := { name := "walAtomic", fn := fun _ => fun
  | [d1, d2, d3] => { results := [.lit (.bool true)], args := [d1, d2, d3] }
  | _ => none }
def walAtomicRow : OpenClaim := { program := "ytbfogcckbhkciaa", sum := "ef292b32f9c94dce50bbf55163745c04806251525f48810436e3afab1be21601", func := "ecdysis/ecdysislaw04.WalAtomic", spec := "walAtomic", inPlace := ["maps.clone"], unfollowed := true, recurses := true, apart := false }
def WalAtomicSaid : Prop := walAtomicRow.holds Try.pinned (OpenSpec.ofChange walAtomicSpec)

/-- ITS FALSE NEIGHBOUR: 'it returns false'. Refute it at one input. -/
def walAtomicWrong : ChangeSpec := { name := "walAtomic", fn := fun _ => fun
  | [d1, d2, d3] => { results := [.lit (.bool false)], args := [d1, d2, d3] }
  | _ => none }
def WalAtomicWrongFalsely : Prop := walAtomicRow.holds Try.pinned (OpenSpec.ofChange walAtomicWrong)

/-- 'ecdysislaw19.DiskRows': WHATEVER THE INPUT: true; the input reads as it did. -/
def diskRowsSpec : ChangeSpec := { name := "diskRows", fn := fun _ => fun
  | [d1, d2] => { results := [.lit (.bool true)], args := [d1, d2] }
  | _ => none }
def diskRowsRow : OpenClaim := { program := "ytbfogcckbhkciaa", sum := "ef292b32f9c94dce50bbf55163745c04806251525f48810436e3afab1be21601", func := "ecdysis/ecdysislaw19.DiskRows", spec := "diskRows", unfollowed := true, recurses := true, apart := false }
def DiskRowsSaid : Prop := diskRowsRow.holds Try.pinned (OpenSpec.ofChange diskRowsSpec)

/-- ITS FALSE NEIGHBOUR: 'it returns false'. Refute it at one input. -/
def diskRowsWrong : ChangeSpec := { name := "diskRows", fn := fun _ => fun
  | [d1, d2] => { results := [.lit (.bool false)], args := [d1, d2] }
  | _ => none }
def DiskRowsWrongFalsely : Prop := diskRowsRow.holds Try.pinned (OpenSpec.ofChange diskRowsWrong)

/-- 'ecdysislaw19.DiskTorn': WHATEVER THE INPUT: true; the input reads as it did. -/
def diskTornSpec : ChangeSpec := { name := "diskTorn", fn := fun _ => fun
  | [d1, d2, d3] => { results := [.lit (.bool true)], args := [d1, d2, d3] }
  | _ => none }
def diskTornRow : OpenClaim := { program := "ytbfogcckbhkciaa", sum := "ef292b32f9c94dce50bbf55163745c04806251525f48810436e3afab1be21601", func := "ecdysis/ecdysislaw19.DiskTorn", spec := "diskTorn", unfollowed := true, recurses := true, apart := false }
def DiskTornSaid : Prop := diskTornRow.holds Try.pinned (OpenSpec.ofChange diskTornSpec)

/-- ITS FALSE NEIGHBOUR: 'it returns false'. Refute it at one input. -/
def diskTornWrong : ChangeSpec := { name := "diskTorn", fn := fun _ => fun
  | [d1, d2, d3] => { results := [.lit (.bool false)], args := [d1, d2, d3] }
  | _ => none }
def DiskTornWrongFalsely : Prop := diskTornRow.holds Try.pinned (OpenSpec.ofChange diskTornWrong)

/-- 'ecdysislaw19.DiskBoth': WHATEVER THE INPUT: true; the input reads as it did. -/
def diskBothSpec : ChangeSpec := { name := "diskBoth", fn := fun _ => fun
  | [d1, d2] => { results := [.lit (.bool true)], args := [d1, d2] }
  | _ => none }
def diskBothRow : OpenClaim := { program := "ytbfogcckbhkciaa", sum := "ef292b32f9c94dce50bbf55163745c04806251525f48810436e3afab1be21601", func := "ecdysis/ecdysislaw19.DiskBoth", spec := "diskBoth", unfollowed := true, recurses := true, apart := false }
def DiskBothSaid : Prop := diskBothRow.holds Try.pinned (OpenSpec.ofChange diskBothSpec)

/-- ITS FALSE NEIGHBOUR: 'it returns false'. Refute it at one input. -/
def diskBothWrong : ChangeSpec := { name := "diskBoth", fn := fun _ => fun
  | [d1, d2] => { results := [.lit (.bool false)], args := [d1, d2] }
  | _ => none }
def DiskBothWrongFalsely : Prop := diskBothRow.holds Try.pinned (OpenSpec.ofChange diskBothWrong)

/-- 'ecdysislaw19.DiskFull': WHATEVER THE INPUT: true; the input reads as it did. -/
def diskFullSpec : ChangeSpec := { name := "diskFull", fn := fun _ => fun
  | [d1, d2] => { results := [.lit (.bool true)], args := [d1, d2] }
  | _ => none }
def diskFullRow : OpenClaim := { program := "ytbfogcckbhkciaa", sum := "ef292b32f9c94dce50bbf55163745c04806251525f48810436e3afab1be21601", func := "ecdysis/ecdysislaw19.DiskFull", spec := "diskFull", unfollowed := true, recurses := true, apart := false }
def DiskFullSaid : Prop := diskFullRow.holds Try.pinned (OpenSpec.ofChange diskFullSpec)

/-- ITS FALSE NEIGHBOUR: 'it returns false'. Refute it at one input. -/
def diskFullWrong : ChangeSpec := { name := "diskFull", fn := fun _ => fun
  | [d1, d2] => { results := [.lit (.bool false)], args := [d1, d2] }
  | _ => none }
def DiskFullWrongFalsely : Prop := diskFullRow.holds Try.pinned (OpenSpec.ofChange diskFullWrong)

/-- 'ecdysislaw19.DiskCrashes': WHATEVER THE INPUT: true; the input reads as it did. -/
def diskCrashesSpec : ChangeSpec := { name := "diskCrashes", fn := fun _ => fun
  | [d1, d2, d3] => { results := [.lit (.bool true)], args := [d1, d2, d3] }
  | _ => none }
def diskCrashesRow : OpenClaim := { program := "ytbfogcckbhkciaa", sum := "ef292b32f9c94dce50bbf55163745c04806251525f48810436e3afab1be21601", func := "ecdysis/ecdysislaw19.DiskCrashes", spec := "diskCrashes", inPlace := ["maps.clone"], unfollowed := true, recurses := true, apart := false }
def DiskCrashesSaid : Prop := diskCrashesRow.holds Try.pinned (OpenSpec.ofChange diskCrashesSpec)

/-- ITS FALSE NEIGHBOUR: 'it returns false'. Refute it at one input. -/
def diskCrashesWrong : ChangeSpec := { name := "diskCrashes", fn := fun _ => fun
  | [d1, d2, d3] => { results := [.lit (.bool false)], args := [d1, d2, d3] }
  | _ => none }
def DiskCrashesWrongFalsely : Prop := diskCrashesRow.holds Try.pinned (OpenSpec.ofChange diskCrashesWrong)

/-- 'ecdysislaw19.DiskAll': WHATEVER THE INPUT: true; the input reads as it did. -/
def diskAllSpec : ChangeSpec := { name := "diskAll", fn := fun _ => fun
  | [d1, d2, d3] => { results := [.lit (.bool true)], args := [d1, d2, d3] }
  | _ => none }
def diskAllRow : OpenClaim := { program := "ytbfogcckbhkciaa", sum := "ef292b32f9c94dce50bbf55163745c04806251525f48810436e3afab1be21601", func := "ecdysis/ecdysislaw19.DiskAll", spec := "diskAll", unfollowed := true, recurses := true, apart := false }
def DiskAllSaid : Prop := diskAllRow.holds Try.pinned (OpenSpec.ofChange diskAllSpec)

/-- ITS FALSE NEIGHBOUR: 'it returns false'. Refute it at one input. -/
def diskAllWrong : ChangeSpec := { name := "diskAll", fn := fun _ => fun
  | [d1, d2, d3] => { results := [.lit (.bool false)], args := [d1, d2, d3] }
  | _ => none }
def DiskAllWrongFalsely : Prop := diskAllRow.holds Try.pinned (OpenSpec.ofChange diskAllWrong)

/- THE SECOND FORM. 'bulk': how many values and letters a reading holds, each counted each time it is reached (what is shared counts as often as it is met; a slice's spare places count too). A statement '..UptoSaid' is the law's where the arguments, and the package variables that the reading takes, are together of bulk at most 1048576: NARROWER than '..Said'. Prove '..Said' where nothing that the law and all that it calls make is longer than what came in: it says more and counts as full. Else prove '..UptoSaid'. A law counts once. -/
mutual
def uptoBulk {H : Type} : DataW H → Nat
  | .lit (.string bytes) => bytes.length + 1
  | .lit _ => 1
  | .nil => 1
  | .ptr d => uptoBulk d + 1
  | .slice elems spare => uptoBulkAll elems + uptoBulkAll spare + 1
  | .agg parts => uptoBulkAll parts + 1
  | .iface _ d => uptoBulk d + 1
  | .map entries => uptoBulkEntries entries + 1
  | .held _ => 1
def uptoBulkAll {H : Type} : List (DataW H) → Nat
  | [] => 0
  | d :: r => uptoBulk d + uptoBulkAll r
def uptoBulkEntries {H : Type} : List (Lit × DataW H) → Nat
  | [] => 0
  | x :: r => uptoBulkEntry x + uptoBulkEntries r
def uptoBulkEntry {H : Type} : Lit × DataW H → Nat
  | (.string bytes, d) => bytes.length + uptoBulk d + 1
  | (_, d) => uptoBulk d + 1
 end
def uptoSmall : (H : Type) → List (DataW H) → Bool := fun _ ds => decide (uptoBulkAll ds ≤ 1048576)
def OpenSpec.upto (s : _root_.Go.ChangeSpec) : _root_.Go.OpenSpec := { _root_.Go.OpenSpec.ofChange s with cond := some uptoSmall }

/-- 'ecdysislaw03.PmemWrites', WHERE WHAT IT READS IS OF BULK AT MOST 1048576: true; the input reads as it did. -/
def pmemWritesUptoRow : OpenClaim := { program := "ytbfogcckbhkciaa", sum := "ef292b32f9c94dce50bbf55163745c04806251525f48810436e3afab1be21601", func := "ecdysis/ecdysislaw03.PmemWrites", spec := "pmemWrites", unfollowed := true, recurses := true, apart := false, narrowed := true }
def PmemWritesUptoSaid : Prop := pmemWritesUptoRow.holds Try.pinned (OpenSpec.upto pmemWritesSpec)

/-- 'ecdysislaw03.PmemFences', WHERE WHAT IT READS IS OF BULK AT MOST 1048576: true; the input reads as it did. -/
def pmemFencesUptoRow : OpenClaim := { program := "ytbfogcckbhkciaa", sum := "ef292b32f9c94dce50bbf55163745c04806251525f48810436e3afab1be21601", func := "ecdysis/ecdysislaw03.PmemFences", spec := "pmemFences", unfollowed := true, recurses := true, apart := false, narrowed := true }
def PmemFencesUptoSaid : Prop := pmemFencesUptoRow.holds Try.pinned (OpenSpec.upto pmemFencesSpec)

/-- 'ecdysislaw03.PmemNew', WHERE WHAT IT READS IS OF BULK AT MOST 1048576: true; the input reads as it did. -/
def pmemNewUptoRow : OpenClaim := { program := "ytbfogcckbhkciaa", sum := "ef292b32f9c94dce50bbf55163745c04806251525f48810436e3afab1be21601", func := "ecdysis/ecdysislaw03.PmemNew", spec := "pmemNew", unfollowed := true, recurses := true, apart := false, narrowed := true }
def PmemNewUptoSaid : Prop := pmemNewUptoRow.holds Try.pinned (OpenSpec.upto pmemNewSpec)

/-- 'ecdysislaw03.PmemSafe', WHERE WHAT IT READS IS OF BULK AT MOST 1048576: true; the input reads as it did. -/
def pmemSafeUptoRow : OpenClaim := { program := "ytbfogcckbhkciaa", sum := "ef292b32f9c94dce50bbf55163745c04806251525f48810436e3afab1be21601", func := "ecdysis/ecdysislaw03.PmemSafe", spec := "pmemSafe", inPlace := ["maps.clone"], unfollowed := true, recurses := true, apart := false, narrowed := true }
def PmemSafeUptoSaid : Prop := pmemSafeUptoRow.holds Try.pinned (OpenSpec.upto pmemSafeSpec)

/-- 'ecdysislaw03.PmemCopies', WHERE WHAT IT READS IS OF BULK AT MOST 1048576: true; the input reads as it did. -/
def pmemCopiesUptoRow : OpenClaim := { program := "ytbfogcckbhkciaa", sum := "ef292b32f9c94dce50bbf55163745c04806251525f48810436e3afab1be21601", func := "ecdysis/ecdysislaw03.PmemCopies", spec := "pmemCopies", inPlace := ["maps.clone"], unfollowed := true, recurses := true, apart := false, narrowed := true }
def PmemCopiesUptoSaid : Prop := pmemCopiesUptoRow.holds Try.pinned (OpenSpec.upto pmemCopiesSpec)

/-- 'ecdysislaw04.WalRecovers', WHERE WHAT IT READS IS OF BULK AT MOST 1048576: true; the input reads as it did. -/
def walRecoversUptoRow : OpenClaim := { program := "ytbfogcckbhkciaa", sum := "ef292b32f9c94dce50bbf55163745c04806251525f48810436e3afab1be21601", func := "ecdysis/ecdysislaw04.WalRecovers", spec := "walRecovers", unfollowed := true, recurses := true, apart := false, narrowed := true }
def WalRecoversUptoSaid : Prop := walRecoversUptoRow.holds Try.pinned (OpenSpec.upto walRecoversSpec)

/-- 'ecdysislaw04.WalSeqs', WHERE WHAT IT READS IS OF BULK AT MOST 1048576: true; the input reads as it did. -/
def walSeqsUptoRow : OpenClaim := { program := "ytbfogcckbhkciaa", sum := "ef292b32f9c94dce50bbf55163745c04806251525f48810436e3afab1be21601", func := "ecdysis/ecdysislaw04.WalSeqs", spec := "walSeqs", unfollowed := true, recurses := true, apart := false, narrowed := true }
def WalSeqsUptoSaid : Prop := walSeqsUptoRow.holds Try.pinned (OpenSpec.upto walSeqsSpec)

/-- 'ecdysislaw04.WalRooms', WHERE WHAT IT READS IS OF BULK AT MOST 1048576: true; the input reads as it did. -/
def walRoomsUptoRow : OpenClaim := { program := "ytbfogcckbhkciaa", sum := "ef292b32f9c94dce50bbf55163745c04806251525f48810436e3afab1be21601", func := "ecdysis/ecdysislaw04.WalRooms", spec := "walRooms", unfollowed := true, recurses := true, apart := false, narrowed := true }
def WalRoomsUptoSaid : Prop := walRoomsUptoRow.holds Try.pinned (OpenSpec.upto walRoomsSpec)

/-- 'ecdysislaw04.WalNothing', WHERE WHAT IT READS IS OF BULK AT MOST 1048576: true; the input reads as it did. -/
def walNothingUptoRow : OpenClaim := { program := "ytbfogcckbhkciaa", sum := "ef292b32f9c94dce50bbf55163745c04806251525f48810436e3afab1be21601", func := "ecdysis/ecdysislaw04.WalNothing", spec := "walNothing", unfollowed := true, recurses := true, apart := false, narrowed := true }
def WalNothingUptoSaid : Prop := walNothingUptoRow.holds Try.pinned (OpenSpec.upto walNothingSpec)

/-- 'ecdysislaw04.WalTorn', WHERE WHAT IT READS IS OF BULK AT MOST 1048576: true; the input reads as it did. -/
def walTornUptoRow : OpenClaim := { program := "ytbfogcckbhkciaa", sum := "ef292b32f9c94dce50bbf55163745c04806251525f48810436e3afab1be21601", func := "ecdysis/ecdysislaw04.WalTorn", spec := "walTorn", unfollowed := true, recurses := true, apart := false, narrowed := true }
def WalTornUptoSaid : Prop := walTornUptoRow.holds Try.pinned (OpenSpec.upto walTornSpec)

/-- 'ecdysislaw04.WalAtomic', WHERE WHAT IT READS IS OF BULK AT MOST 1048576: true; the input reads as it did. -/
def walAtomicUptoRow : OpenClaim := { program := "ytbfogcckbhkciaa", sum := "ef292b32f9c94dce50bbf55163745c04806251525f48810436e3afab1be21601", func := "ecdysis/ecdysislaw04.WalAtomic", spec := "walAtomic", inPlace := ["maps.clone"], unfollowed := true, recurses := true, apart := false, narrowed := true }
def WalAtomicUptoSaid : Prop := walAtomicUptoRow.holds Try.pinned (OpenSpec.upto walAtomicSpec)

/-- 'ecdysislaw19.DiskRows', WHERE WHAT IT READS IS OF BULK AT MOST 1048576: true; the input reads as it did. -/
def diskRowsUptoRow : OpenClaim := { program := "ytbfogcckbhkciaa", sum := "ef292b32f9c94dce50bbf55163745c04806251525f48810436e3afab1be21601", func := "ecdysis/ecdysislaw19.DiskRows", spec := "diskRows", unfollowed := true, recurses := true, apart := false, narrowed := true }
def DiskRowsUptoSaid : Prop := diskRowsUptoRow.holds Try.pinned (OpenSpec.upto diskRowsSpec)

/-- 'ecdysislaw19.DiskTorn', WHERE WHAT IT READS IS OF BULK AT MOST 1048576: true; the input reads as it did. -/
def diskTornUptoRow : OpenClaim := { program := "ytbfogcckbhkciaa", sum := "ef292b32f9c94dce50bbf55163745c04806251525f48810436e3afab1be21601", func := "ecdysis/ecdysislaw19.DiskTorn", spec := "diskTorn", unfollowed := true, recurses := true, apart := false, narrowed := true }
def DiskTornUptoSaid : Prop := diskTornUptoRow.holds Try.pinned (OpenSpec.upto diskTornSpec)

/-- 'ecdysislaw19.DiskBoth', WHERE WHAT IT READS IS OF BULK AT MOST 1048576: true; the input reads as it did. -/
def diskBothUptoRow : OpenClaim := { program := "ytbfogcckbhkciaa", sum := "ef292b32f9c94dce50bbf55163745c04806251525f48810436e3afab1be21601", func := "ecdysis/ecdysislaw19.DiskBoth", spec := "diskBoth", unfollowed := true, recurses := true, apart := false, narrowed := true }
def DiskBothUptoSaid : Prop := diskBothUptoRow.holds Try.pinned (OpenSpec.upto diskBothSpec)

/-- 'ecdysislaw19.DiskFull', WHERE WHAT IT READS IS OF BULK AT MOST 1048576: true; the input reads as it did. -/
def diskFullUptoRow : OpenClaim := { program := "ytbfogcckbhkciaa", sum := "ef292b32f9c94dce50bbf55163745c04806251525f48810436e3afab1be21601", func := "ecdysis/ecdysislaw19.DiskFull", spec := "diskFull", unfollowed := true, recurses := true, apart := false, narrowed := true }
def DiskFullUptoSaid : Prop := diskFullUptoRow.holds Try.pinned (OpenSpec.upto diskFullSpec)

/-- 'ecdysislaw19.DiskCrashes', WHERE WHAT IT READS IS OF BULK AT MOST 1048576: true; the input reads as it did. -/
def diskCrashesUptoRow : OpenClaim := { program := "ytbfogcckbhkciaa", sum := "ef292b32f9c94dce50bbf55163745c04806251525f48810436e3afab1be21601", func := "ecdysis/ecdysislaw19.DiskCrashes", spec := "diskCrashes", inPlace := ["maps.clone"], unfollowed := true, recurses := true, apart := false, narrowed := true }
def DiskCrashesUptoSaid : Prop := diskCrashesUptoRow.holds Try.pinned (OpenSpec.upto diskCrashesSpec)

/-- 'ecdysislaw19.DiskAll', WHERE WHAT IT READS IS OF BULK AT MOST 1048576: true; the input reads as it did. -/
def diskAllUptoRow : OpenClaim := { program := "ytbfogcckbhkciaa", sum := "ef292b32f9c94dce50bbf55163745c04806251525f48810436e3afab1be21601", func := "ecdysis/ecdysislaw19.DiskAll", spec := "diskAll", unfollowed := true, recurses := true, apart := false, narrowed := true }
def DiskAllUptoSaid : Prop := diskAllUptoRow.holds Try.pinned (OpenSpec.upto diskAllSpec)

end Rows
end Go.Proofs.Ytbfogcckbhkciaa
