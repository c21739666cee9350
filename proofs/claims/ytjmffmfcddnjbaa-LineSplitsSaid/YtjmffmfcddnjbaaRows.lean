/-
  No cell of these rows narrows 'for every input' (looked for: loops, veiled, ifaces, maps, wideKeys, modest, calm, conditions, laid).
  DERIVED. THE GIVEN ROWS OF THIS SEAT. 2 by the template 'for every input the law returns true; each argument reads behind the call as it read before'; 0 by the template 'total and deterministic' (their statements: YtjmffmfcddnjbaaTotals.lean).
  GIVEN WITH THE SEED: the statements are not yours to turn. If you find one false, say at which input.
  Laid BY PROGRAM, IN A SANDBOX (cutbox-rows.mjs): the forced cells as the released guide's own fill.sh prints them over the translation 02c7f591856ee28d… (all of the seat's roots in one cut). By AI agents, Wed Nov 11 2026. No macro, syntax, notation, axiom, sorry.
-/
import Derived.Test.YtjmffmfcddnjbaaChecked
import GoSem.Claim
import GoSem.ClaimJoined
import GoSem.ClaimMapViews
import Derived.JoinedTies
import Derived.KernelRfl
namespace Go.Proofs.Ytjmffmfcddnjbaa
/- THE CELL 'sum', in the pinned program and in every row, IS THE sha256 OF THE DUMP (.gsa) THAT YtjmffmfcddnjbaaProg.lean LOADS. Nothing in Lean hashes anything: it is a label: what it is worth is what the hold of that sum in a sandbox is worth. -/
noncomputable def Try.pinned : Pinned := { name := "ytjmffmfcddnjbaa", sum := "02c7f591856ee28defea71f002e48ac05663fa14719003270211aa0c4e321bd8", checked := Try.checked }
namespace Rows
def none {H : Type} : Left H := { results := [], args := [] }

/-- 'incognitolaw08.LineSplits': WHATEVER THE INPUT: true; the input reads as it did. -/
def lineSplitsSpec : ChangeSpec := { name := "lineSplits", fn := fun _ => fun
  | [d] => { results := [.lit (.bool true)], args := [d] }
  | _ => none }
def lineSplitsRow : OpenClaim := { program := "ytjmffmfcddnjbaa", sum := "02c7f591856ee28defea71f002e48ac05663fa14719003270211aa0c4e321bd8", func := "incognito/incognitolaw08.LineSplits", spec := "lineSplits", inPlace := ["internal/bytealg.IndexByteString", "internal/bytealg.IndexString"], unfollowed := true, recurses := true, named := ["internal/bytealg.MaxLen"], apart := false }
def LineSplitsSaid : Prop := lineSplitsRow.holds Try.pinned (OpenSpec.ofChange lineSplitsSpec)

/-- ITS FALSE NEIGHBOUR: 'it returns false'. Refute it at one input. -/
def lineSplitsWrong : ChangeSpec := { name := "lineSplits", fn := fun _ => fun
  | [d] => { results := [.lit (.bool false)], args := [d] }
  | _ => none }
def LineSplitsWrongFalsely : Prop := lineSplitsRow.holds Try.pinned (OpenSpec.ofChange lineSplitsWrong)

/-- 'incognitolaw08.LineNotes': WHATEVER THE INPUT: true; the input reads as it did. -/
def lineNotesSpec : ChangeSpec := { name := "lineNotes", fn := fun _ => fun
  | [d] => { results := [.lit (.bool true)], args := [d] }
  | _ => none }
def lineNotesRow : OpenClaim := { program := "ytjmffmfcddnjbaa", sum := "02c7f591856ee28defea71f002e48ac05663fa14719003270211aa0c4e321bd8", func := "incognito/incognitolaw08.LineNotes", spec := "lineNotes", inPlace := ["internal/bytealg.IndexByteString", "internal/bytealg.IndexString"], unfollowed := true, recurses := true, named := ["internal/bytealg.MaxLen"], apart := false }
def LineNotesSaid : Prop := lineNotesRow.holds Try.pinned (OpenSpec.ofChange lineNotesSpec)

/-- ITS FALSE NEIGHBOUR: 'it returns false'. Refute it at one input. -/
def lineNotesWrong : ChangeSpec := { name := "lineNotes", fn := fun _ => fun
  | [d] => { results := [.lit (.bool false)], args := [d] }
  | _ => none }
def LineNotesWrongFalsely : Prop := lineNotesRow.holds Try.pinned (OpenSpec.ofChange lineNotesWrong)

/- THE SECOND FORM. 'bulk': how many values and letters a reading holds, each counted each time it is reached (what is shared counts as often as it is met; a slice's spare places count too). A statement '..UptoSaid' is the law's where the arguments, and the package variables that the reading takes, are together of bulk at most 1048576: NARROWER than '..Said'. Prove '..Said' where nothing that the law and all that it calls make is longer than what came in: it says more and counts as full. Else prove '..UptoSaid'. A law counts once. -/
mutual
def uptoBulk {H : Type} : DataW H → Nat
  | .lit (.string bytes) => bytes.length + 1
  | .lit _ => 1
  | .nil => 1
  | .ptr d => uptoBulk d + 1
  | .slice elems spare => uptoBulkAll elems + uptoBulkAll spare + 1
  | .agg parts => uptoBulkAll parts + 1
  | .iface _ d => uptoBulk d + 1
  | .map entries => uptoBulkEntries entries + 1
  | .held _ => 1
def uptoBulkAll {H : Type} : List (DataW H) → Nat
  | [] => 0
  | d :: r => uptoBulk d + uptoBulkAll r
def uptoBulkEntries {H : Type} : List (Lit × DataW H) → Nat
  | [] => 0
  | x :: r => uptoBulkEntry x + uptoBulkEntries r
def uptoBulkEntry {H : Type} : Lit × DataW H → Nat
  | (.string bytes, d) => bytes.length + uptoBulk d + 1
  | (_, d) => uptoBulk d + 1
 end
def uptoSmall : (H : Type) → List (DataW H) → Bool := fun _ ds => decide (uptoBulkAll ds ≤ 1048576)
def OpenSpec.upto (s : _root_.Go.ChangeSpec) : _root_.Go.OpenSpec := { _root_.Go.OpenSpec.ofChange s with cond := some uptoSmall }

/-- 'incognitolaw08.LineSplits', WHERE WHAT IT READS IS OF BULK AT MOST 1048576: true; the input reads as it did. -/
def lineSplitsUptoRow : OpenClaim := { program := "ytjmffmfcddnjbaa", sum := "02c7f591856ee28defea71f002e48ac05663fa14719003270211aa0c4e321bd8", func := "incognito/incognitolaw08.LineSplits", spec := "lineSplits", inPlace := ["internal/bytealg.IndexByteString", "internal/bytealg.IndexString"], unfollowed := true, recurses := true, named := ["internal/bytealg.MaxLen"], apart := false, narrowed := true }
def LineSplitsUptoSaid : Prop := lineSplitsUptoRow.holds Try.pinned (OpenSpec.upto lineSplitsSpec)

/-- 'incognitolaw08.LineNotes', WHERE WHAT IT READS IS OF BULK AT MOST 1048576: true; the input reads as it did. -/
def lineNotesUptoRow : OpenClaim := { program := "ytjmffmfcddnjbaa", sum := "02c7f591856ee28defea71f002e48ac05663fa14719003270211aa0c4e321bd8", func := "incognito/incognitolaw08.LineNotes", spec := "lineNotes", inPlace := ["internal/bytealg.IndexByteString", "internal/bytealg.IndexString"], unfollowed := true, recurses := true, named := ["internal/bytealg.MaxLen"], apart := false, narrowed := true }
def LineNotesUptoSaid : Prop := lineNotesUptoRow.holds Try.pinned (OpenSpec.upto lineNotesSpec)

end Rows
end Go.Proofs.Ytjmffmfcddnjbaa
