/-
  No cell of these rows narrows 'for every input' (looked for: loops, veiled, ifaces, maps, wideKeys, modest, calm, conditions, laid).
  DERIVED. THE GIVEN ROWS OF THIS SEAT. 7 by the template 'for every input the law returns true; each argument reads behind the call as it read before'; 0 by the template 'total and deterministic' (their statements: YtgkkboanbjkimaaTotals.lean).
  GIVEN WITH THE SEED: the statements are not yours to turn. If you find one false, say at which input.
  Laid BY PROGRAM, IN A SANDBOX (cutbox-rows.mjs): the forced cells as the released guide's own fill.sh prints them over the translation 1d7dff582391b9e6… (all of the seat's roots in one cut). By AI agents, Wed Nov 11 2026. No macro, syntax, notation, axiom, sorry.
-/
import Derived.Test.YtgkkboanbjkimaaChecked
import GoSem.Claim
import GoSem.ClaimJoined
import GoSem.ClaimMapViews
import Derived.JoinedTies
import Derived.KernelRfl
namespace Go.Proofs.Ytgkkboanbjkimaa
/- THE CELL 'sum', in the pinned program and in every row, IS THE sha256 OF THE DUMP (.gsa) THAT YtgkkboanbjkimaaProg.lean LOADS. Nothing in Lean hashes anything: it is a label: what it is worth is what the hold of that sum in a sandbox is worth. -/
noncomputable def Try.pinned : Pinned := { name := "ytgkkboanbjkimaa", sum := "1d7dff582391b9e6c60ff803467855040ee08aed6d214c060385c0142c092c66", checked := Try.checked }
namespace Rows
def none {H : Type} : Left H := { results := [], args := [] }

/-- 'ecdysislaw01.WordGets': WHATEVER THE INPUT: true; the input reads as it did. -/
def wordGetsSpec : ChangeSpec := { name := "wordGets", fn := fun _ => fun
  | [d1, d2, d3] => { results := [.lit (.bool true)], args := [d1, d2, d3] }
  | _ => none }
def wordGetsRow : OpenClaim := { program := "ytgkkboanbjkimaa", sum := "1d7dff582391b9e6c60ff803467855040ee08aed6d214c060385c0142c092c66", func := "ecdysis/ecdysislaw01.WordGets", spec := "wordGets", unfollowed := true, recurses := true, apart := false }
def WordGetsSaid : Prop := wordGetsRow.holds Try.pinned (OpenSpec.ofChange wordGetsSpec)

/-- ITS FALSE NEIGHBOUR: 'it returns false'. Refute it at one input. -/
def wordGetsWrong : ChangeSpec := { name := "wordGets", fn := fun _ => fun
  | [d1, d2, d3] => { results := [.lit (.bool false)], args := [d1, d2, d3] }
  | _ => none }
def WordGetsWrongFalsely : Prop := wordGetsRow.holds Try.pinned (OpenSpec.ofChange wordGetsWrong)

/-- 'ecdysislaw01.WordOrder': WHATEVER THE INPUT: true; the input reads as it did. -/
def wordOrderSpec : ChangeSpec := { name := "wordOrder", fn := fun _ => fun
  | [d1, d2, d3] => { results := [.lit (.bool true)], args := [d1, d2, d3] }
  | _ => none }
def wordOrderRow : OpenClaim := { program := "ytgkkboanbjkimaa", sum := "1d7dff582391b9e6c60ff803467855040ee08aed6d214c060385c0142c092c66", func := "ecdysis/ecdysislaw01.WordOrder", spec := "wordOrder", unfollowed := true, recurses := true, apart := false }
def WordOrderSaid : Prop := wordOrderRow.holds Try.pinned (OpenSpec.ofChange wordOrderSpec)

/-- ITS FALSE NEIGHBOUR: 'it returns false'. Refute it at one input. -/
def wordOrderWrong : ChangeSpec := { name := "wordOrder", fn := fun _ => fun
  | [d1, d2, d3] => { results := [.lit (.bool false)], args := [d1, d2, d3] }
  | _ => none }
def WordOrderWrongFalsely : Prop := wordOrderRow.holds Try.pinned (OpenSpec.ofChange wordOrderWrong)

/-- 'ecdysislaw01.WordPads': WHATEVER THE INPUT: true; the input reads as it did. -/
def wordPadsSpec : ChangeSpec := { name := "wordPads", fn := fun _ => fun
  | [d] => { results := [.lit (.bool true)], args := [d] }
  | _ => none }
def wordPadsRow : OpenClaim := { program := "ytgkkboanbjkimaa", sum := "1d7dff582391b9e6c60ff803467855040ee08aed6d214c060385c0142c092c66", func := "ecdysis/ecdysislaw01.WordPads", spec := "wordPads", unfollowed := true, recurses := true, apart := false }
def WordPadsSaid : Prop := wordPadsRow.holds Try.pinned (OpenSpec.ofChange wordPadsSpec)

/-- ITS FALSE NEIGHBOUR: 'it returns false'. Refute it at one input. -/
def wordPadsWrong : ChangeSpec := { name := "wordPads", fn := fun _ => fun
  | [d] => { results := [.lit (.bool false)], args := [d] }
  | _ => none }
def WordPadsWrongFalsely : Prop := wordPadsRow.holds Try.pinned (OpenSpec.ofChange wordPadsWrong)

/-- 'ecdysislaw01.WordWide': WHATEVER THE INPUT: true; the input reads as it did. -/
def wordWideSpec : ChangeSpec := { name := "wordWide", fn := fun _ => fun
  | [d] => { results := [.lit (.bool true)], args := [d] }
  | _ => none }
def wordWideRow : OpenClaim := { program := "ytgkkboanbjkimaa", sum := "1d7dff582391b9e6c60ff803467855040ee08aed6d214c060385c0142c092c66", func := "ecdysis/ecdysislaw01.WordWide", spec := "wordWide", unfollowed := true, recurses := true, apart := false }
def WordWideSaid : Prop := wordWideRow.holds Try.pinned (OpenSpec.ofChange wordWideSpec)

/-- ITS FALSE NEIGHBOUR: 'it returns false'. Refute it at one input. -/
def wordWideWrong : ChangeSpec := { name := "wordWide", fn := fun _ => fun
  | [d] => { results := [.lit (.bool false)], args := [d] }
  | _ => none }
def WordWideWrongFalsely : Prop := wordWideRow.holds Try.pinned (OpenSpec.ofChange wordWideWrong)

/-- 'ecdysislaw01.WordPuts': WHATEVER THE INPUT: true; the input reads as it did. -/
def wordPutsSpec : ChangeSpec := { name := "wordPuts", fn := fun _ => fun
  | [d1, d2, d3] => { results := [.lit (.bool true)], args := [d1, d2, d3] }
  | _ => none }
def wordPutsRow : OpenClaim := { program := "ytgkkboanbjkimaa", sum := "1d7dff582391b9e6c60ff803467855040ee08aed6d214c060385c0142c092c66", func := "ecdysis/ecdysislaw01.WordPuts", spec := "wordPuts", unfollowed := true, recurses := true, apart := false }
def WordPutsSaid : Prop := wordPutsRow.holds Try.pinned (OpenSpec.ofChange wordPutsSpec)

/-- ITS FALSE NEIGHBOUR: 'it returns false'. Refute it at one input. -/
def wordPutsWrong : ChangeSpec := { name := "wordPuts", fn := fun _ => fun
  | [d1, d2, d3] => { results := [.lit (.bool false)], args := [d1, d2, d3] }
  | _ => none }
def WordPutsWrongFalsely : Prop := wordPutsRow.holds Try.pinned (OpenSpec.ofChange wordPutsWrong)

/-- 'ecdysislaw01.WordBack': WHATEVER THE INPUT: true; the input reads as it did. -/
def wordBackSpec : ChangeSpec := { name := "wordBack", fn := fun _ => fun
  | [d1, d2, d3] => { results := [.lit (.bool true)], args := [d1, d2, d3] }
  | _ => none }
def wordBackRow : OpenClaim := { program := "ytgkkboanbjkimaa", sum := "1d7dff582391b9e6c60ff803467855040ee08aed6d214c060385c0142c092c66", func := "ecdysis/ecdysislaw01.WordBack", spec := "wordBack", unfollowed := true, recurses := true, apart := false }
def WordBackSaid : Prop := wordBackRow.holds Try.pinned (OpenSpec.ofChange wordBackSpec)

/-- ITS FALSE NEIGHBOUR: 'it returns false'. Refute it at one input. -/
def wordBackWrong : ChangeSpec := { name := "wordBack", fn := fun _ => fun
  | [d1, d2, d3] => { results := [.lit (.bool false)], args := [d1, d2, d3] }
  | _ => none }
def WordBackWrongFalsely : Prop := wordBackRow.holds Try.pinned (OpenSpec.ofChange wordBackWrong)

/-- 'ecdysislaw01.WordSigns': WHATEVER THE INPUT: true; the input reads as it did. -/
def wordSignsSpec : ChangeSpec := { name := "wordSigns", fn := fun _ => fun
  | [d1, d2, d3] => { results := [.lit (.bool true)], args := [d1, d2, d3] }
  | _ => none }
def wordSignsRow : OpenClaim := { program := "ytgkkboanbjkimaa", sum := "1d7dff582391b9e6c60ff803467855040ee08aed6d214c060385c0142c092c66", func := "ecdysis/ecdysislaw01.WordSigns", spec := "wordSigns", unfollowed := true, recurses := true, apart := false }
def WordSignsSaid : Prop := wordSignsRow.holds Try.pinned (OpenSpec.ofChange wordSignsSpec)

/-- ITS FALSE NEIGHBOUR: 'it returns false'. Refute it at one input. -/
def wordSignsWrong : ChangeSpec := { name := "wordSigns", fn := fun _ => fun
  | [d1, d2, d3] => { results := [.lit (.bool false)], args := [d1, d2, d3] }
  | _ => none }
def WordSignsWrongFalsely : Prop := wordSignsRow.holds Try.pinned (OpenSpec.ofChange wordSignsWrong)

/- THE SECOND FORM. 'bulk': how many values and letters a reading holds, each counted each time it is reached (what is shared counts as often as it is met; a slice's spare places count too). A statement '..UptoSaid' is the law's where the arguments, and the package variables that the reading takes, are together of bulk at most 1048576: NARROWER than '..Said'. Prove '..Said' where nothing that the law and all that it calls make is longer than what came in: it says more and counts as full. Else prove '..UptoSaid'. A law counts once. -/
mutual
def uptoBulk {H : Type} : DataW H → Nat
  | .lit (.string bytes) => bytes.length + 1
  | .lit _ => 1
  | .nil => 1
  | .ptr d => uptoBulk d + 1
  | .slice elems spare => uptoBulkAll elems + uptoBulkAll spare + 1
  | .agg parts => uptoBulkAll parts + 1
  | .iface _ d => uptoBulk d + 1
  | .map entries => uptoBulkEntries entries + 1
  | .held _ => 1
def uptoBulkAll {H : Type} : List (DataW H) → Nat
  | [] => 0
  | d :: r => uptoBulk d + uptoBulkAll r
def uptoBulkEntries {H : Type} : List (Lit × DataW H) → Nat
  | [] => 0
  | x :: r => uptoBulkEntry x + uptoBulkEntries r
def uptoBulkEntry {H : Type} : Lit × DataW H → Nat
  | (.string bytes, d) => bytes.length + uptoBulk d + 1
  | (_, d) => uptoBulk d + 1
 end
def uptoSmall : (H : Type) → List (DataW H) → Bool := fun _ ds => decide (uptoBulkAll ds ≤ 1048576)
def OpenSpec.upto (s : _root_.Go.ChangeSpec) : _root_.Go.OpenSpec := { _root_.Go.OpenSpec.ofChange s with cond := some uptoSmall }

/-- 'ecdysislaw01.WordGets', WHERE WHAT IT READS IS OF BULK AT MOST 1048576: true; the input reads as it did. -/
def wordGetsUptoRow : OpenClaim := { program := "ytgkkboanbjkimaa", sum := "1d7dff582391b9e6c60ff803467855040ee08aed6d214c060385c0142c092c66", func := "ecdysis/ecdysislaw01.WordGets", spec := "wordGets", unfollowed := true, recurses := true, apart := false, narrowed := true }
def WordGetsUptoSaid : Prop := wordGetsUptoRow.holds Try.pinned (OpenSpec.upto wordGetsSpec)

/-- 'ecdysislaw01.WordOrder', WHERE WHAT IT READS IS OF BULK AT MOST 1048576: true; the input reads as it did. -/
def wordOrderUptoRow : OpenClaim := { program := "ytgkkboanbjkimaa", sum := "1d7dff582391b9e6c60ff803467855040ee08aed6d214c060385c0142c092c66", func := "ecdysis/ecdysislaw01.WordOrder", spec := "wordOrder", unfollowed := true, recurses := true, apart := false, narrowed := true }
def WordOrderUptoSaid : Prop := wordOrderUptoRow.holds Try.pinned (OpenSpec.upto wordOrderSpec)

/-- 'ecdysislaw01.WordPads', WHERE WHAT IT READS IS OF BULK AT MOST 1048576: true; the input reads as it did. -/
def wordPadsUptoRow : OpenClaim := { program := "ytgkkboanbjkimaa", sum := "1d7dff582391b9e6c60ff803467855040ee08aed6d214c060385c0142c092c66", func := "ecdysis/ecdysislaw01.WordPads", spec := "wordPads", unfollowed := true, recurses := true, apart := false, narrowed := true }
def WordPadsUptoSaid : Prop := wordPadsUptoRow.holds Try.pinned (OpenSpec.upto wordPadsSpec)

/-- 'ecdysislaw01.WordWide', WHERE WHAT IT READS IS OF BULK AT MOST 1048576: true; the input reads as it did. -/
def wordWideUptoRow : OpenClaim := { program := "ytgkkboanbjkimaa", sum := "1d7dff582391b9e6c60ff803467855040ee08aed6d214c060385c0142c092c66", func := "ecdysis/ecdysislaw01.WordWide", spec := "wordWide", unfollowed := true, recurses := true, apart := false, narrowed := true }
def WordWideUptoSaid : Prop := wordWideUptoRow.holds Try.pinned (OpenSpec.upto wordWideSpec)

/-- 'ecdysislaw01.WordPuts', WHERE WHAT IT READS IS OF BULK AT MOST 1048576: true; the input reads as it did. -/
def wordPutsUptoRow : OpenClaim := { program := "ytgkkboanbjkimaa", sum := "1d7dff582391b9e6c60ff803467855040ee08aed6d214c060385c0142c092c66", func := "ecdysis/ecdysislaw01.WordPuts", spec := "wordPuts", unfollowed := true, recurses := true, apart := false, narrowed := true }
def WordPutsUptoSaid : Prop := wordPutsUptoRow.holds Try.pinned (OpenSpec.upto wordPutsSpec)

/-- 'ecdysislaw01.WordBack', WHERE WHAT IT READS IS OF BULK AT MOST 1048576: true; the input reads as it did. -/
def wordBackUptoRow : OpenClaim := { program := "ytgkkboanbjkimaa", sum := "1d7dff582391b9e6c60ff803467855040ee08aed6d214c060385c0142c092c66", func := "ecdysis/ecdysislaw01.WordBack", spec := "wordBack", unfollowed := true, recurses := true, apart := false, narrowed := true }
def WordBackUptoSaid : Prop := wordBackUptoRow.holds Try.pinned (OpenSpec.upto wordBackSpec)

/-- 'ecdysislaw01.WordSigns', WHERE WHAT IT READS IS OF BULK AT MOST 1048576: true; the input reads as it did. -/
def wordSignsUptoRow : OpenClaim := { program := "ytgkkboanbjkimaa", sum := "1d7dff582391b9e6c60ff803467855040ee08aed6d214c060385c0142c092c66", func := "ecdysis/ecdysislaw01.WordSigns", spec := "wordSigns", unfollowed := true, recurses := true, apart := false, narrowed := true }
def WordSignsUptoSaid : Prop := wordSignsUptoRow.holds Try.pinned (OpenSpec.upto wordSignsSpec)

end Rows
end Go.Proofs.Ytgkkboanbjkimaa
