/-
  No cell of these rows narrows 'for every input' (looked for: loops, veiled, ifaces, maps, wideKeys, modest, calm, conditions, laid).
  DERIVED. THE GIVEN ROWS OF THIS SEAT. 4 by the template 'for every input the law returns true; each argument reads behind the call as it read before'; 0 by the template 'total and deterministic' (their statements: YtdhldmmabhaknaaTotals.lean).
  GIVEN WITH THE SEED: the statements are not yours to turn. If you find one false, say at which input.
  Laid BY PROGRAM, IN A SANDBOX (cutbox-rows.mjs): the forced cells as the released guide's own fill.sh prints them over the translation 6d2eed95711d0ad5… (all of the seat's roots in one cut). By AI agents, Wed Nov 11 2026. No macro, syntax, notation, axiom, sorry.
-/
import Derived.Test.YtdhldmmabhaknaaChecked
import GoSem.Claim
import GoSem.ClaimJoined
import GoSem.ClaimMapViews
import Derived.JoinedTies
import Derived.KernelRfl
namespace Go.Proofs.Ytdhldmmabhaknaa
/- THE CELL 'sum', in the pinned program and in every row, IS THE sha256 OF THE DUMP (.gsa) THAT YtdhldmmabhaknaaProg.lean LOADS. Nothing in Lean hashes anything: it is a label: what it is worth is what the hold of that sum in a sandbox is worth. -/
noncomputable def Try.pinned : Pinned := { name := "ytdhldmmabhaknaa", sum := "6d2eed95711d0ad5cb0f63f8934b9276762858d43d33416360b265e682a39a84", checked := Try.checked }
namespace Rows
def none {H : Type} : Left H := { results := [], args := [] }

/-- 'incognitolaw26.AdmitAdmits': WHATEVER THE INPUT: true; the input reads as it did. -/
def admitAdmitsSpec : ChangeSpec := { name := "admitAdmits", fn := fun _ => fun
  | [d1, d2] => { results := [.lit (.bool true)], args := [d1, d2] }
  | _ => none }
def admitAdmitsRow : OpenClaim := { program := "ytdhldmmabhaknaa", sum := "6d2eed95711d0ad5cb0f63f8934b9276762858d43d33416360b265e682a39a84", func := "incognito/incognitolaw26.AdmitAdmits", spec := "admitAdmits", apart := false }
def AdmitAdmitsSaid : Prop := admitAdmitsRow.holds Try.pinned (OpenSpec.ofChange admitAdmitsSpec)

/-- ITS FALSE NEIGHBOUR: 'it returns false'. Refute it at one input. -/
def admitAdmitsWrong : ChangeSpec := { name := "admitAdmits", fn := fun _ => fun
  | [d1, d2] => { results := [.lit (.bool false)], args := [d1, d2] }
  | _ => none }
def AdmitAdmitsWrongFalsely : Prop := admitAdmitsRow.holds Try.pinned (OpenSpec.ofChange admitAdmitsWrong)

/-- 'incognitolaw26.AdmitMore': WHATEVER THE INPUT: true; the input reads as it did. -/
def admitMoreSpec : ChangeSpec := { name := "admitMore", fn := fun _ => fun
  | [d1, d2, d3] => { results := [.lit (.bool true)], args := [d1, d2, d3] }
  | _ => none }
def admitMoreRow : OpenClaim := { program := "ytdhldmmabhaknaa", sum := "6d2eed95711d0ad5cb0f63f8934b9276762858d43d33416360b265e682a39a84", func := "incognito/incognitolaw26.AdmitMore", spec := "admitMore", apart := false }
def AdmitMoreSaid : Prop := admitMoreRow.holds Try.pinned (OpenSpec.ofChange admitMoreSpec)

/-- ITS FALSE NEIGHBOUR: 'it returns false'. Refute it at one input. -/
def admitMoreWrong : ChangeSpec := { name := "admitMore", fn := fun _ => fun
  | [d1, d2, d3] => { results := [.lit (.bool false)], args := [d1, d2, d3] }
  | _ => none }
def AdmitMoreWrongFalsely : Prop := admitMoreRow.holds Try.pinned (OpenSpec.ofChange admitMoreWrong)

/-- 'incognitolaw06.NumCounts': WHATEVER THE INPUT: true; the input reads as it did. -/
def numCountsSpec : ChangeSpec := { name := "numCounts", fn := fun _ => fun
  | [d1, d2] => { results := [.lit (.bool true)], args := [d1, d2] }
  | _ => none }
def numCountsRow : OpenClaim := { program := "ytdhldmmabhaknaa", sum := "6d2eed95711d0ad5cb0f63f8934b9276762858d43d33416360b265e682a39a84", func := "incognito/incognitolaw06.NumCounts", spec := "numCounts", unfollowed := true, recurses := true, apart := false }
def NumCountsSaid : Prop := numCountsRow.holds Try.pinned (OpenSpec.ofChange numCountsSpec)

/-- ITS FALSE NEIGHBOUR: 'it returns false'. Refute it at one input. -/
def numCountsWrong : ChangeSpec := { name := "numCounts", fn := fun _ => fun
  | [d1, d2] => { results := [.lit (.bool false)], args := [d1, d2] }
  | _ => none }
def NumCountsWrongFalsely : Prop := numCountsRow.holds Try.pinned (OpenSpec.ofChange numCountsWrong)

/-- 'incognitolaw26.AdmitModels': WHATEVER THE INPUT: true; the input reads as it did. -/
def admitModelsSpec : ChangeSpec := { name := "admitModels", fn := fun _ => fun
  | [d] => { results := [.lit (.bool true)], args := [d] }
  | _ => none }
def admitModelsRow : OpenClaim := { program := "ytdhldmmabhaknaa", sum := "6d2eed95711d0ad5cb0f63f8934b9276762858d43d33416360b265e682a39a84", func := "incognito/incognitolaw26.AdmitModels", spec := "admitModels", apart := false }
def AdmitModelsSaid : Prop := admitModelsRow.holds Try.pinned (OpenSpec.ofChange admitModelsSpec)

/-- ITS FALSE NEIGHBOUR: 'it returns false'. Refute it at one input. -/
def admitModelsWrong : ChangeSpec := { name := "admitModels", fn := fun _ => fun
  | [d] => { results := [.lit (.bool false)], args := [d] }
  | _ => none }
def AdmitModelsWrongFalsely : Prop := admitModelsRow.holds Try.pinned (OpenSpec.ofChange admitModelsWrong)

/- THE SECOND FORM. 'bulk': how many values and letters a reading holds, each counted each time it is reached (what is shared counts as often as it is met; a slice's spare places count too). A statement '..UptoSaid' is the law's where the arguments, and the package variables that the reading takes, are together of bulk at most 1048576: NARROWER than '..Said'. Prove '..Said' where nothing that the law and all that it calls make is longer than what came in: it says more and counts as full. Else prove '..UptoSaid'. A law counts once. -/
mutual
def uptoBulk {H : Type} : DataW H → Nat
  | .lit (.string bytes) => bytes.length + 1
  | .lit _ => 1
  | .nil => 1
  | .ptr d => uptoBulk d + 1
  | .slice elems spare => uptoBulkAll elems + uptoBulkAll spare + 1
  | .agg parts => uptoBulkAll parts + 1
  | .iface _ d => uptoBulk d + 1
  | .map entries => uptoBulkEntries entries + 1
  | .held _ => 1
def uptoBulkAll {H : Type} : List (DataW H) → Nat
  | [] => 0
  | d :: r => uptoBulk d + uptoBulkAll r
def uptoBulkEntries {H : Type} : List (Lit × DataW H) → Nat
  | [] => 0
  | x :: r => uptoBulkEntry x + uptoBulkEntries r
def uptoBulkEntry {H : Type} : Lit × DataW H → Nat
  | (.string bytes, d) => bytes.length + uptoBulk d + 1
  | (_, d) => uptoBulk d + 1
 end
def uptoSmall : (H : Type) → List (DataW H) → Bool := fun _ ds => decide (uptoBulkAll ds ≤ 1048576)
def OpenSpec.upto (s : _root_.Go.ChangeSpec) : _root_.Go.OpenSpec := { _root_.Go.OpenSpec.ofChange s with cond := some uptoSmall }

/-- 'incognitolaw26.AdmitAdmits', WHERE WHAT IT READS IS OF BULK AT MOST 1048576: true; the input reads as it did. -/
def admitAdmitsUptoRow : OpenClaim := { program := "ytdhldmmabhaknaa", sum := "6d2eed95711d0ad5cb0f63f8934b9276762858d43d33416360b265e682a39a84", func := "incognito/incognitolaw26.AdmitAdmits", spec := "admitAdmits", apart := false, narrowed := true }
def AdmitAdmitsUptoSaid : Prop := admitAdmitsUptoRow.holds Try.pinned (OpenSpec.upto admitAdmitsSpec)

/-- 'incognitolaw26.AdmitMore', WHERE WHAT IT READS IS OF BULK AT MOST 1048576: true; the input reads as it did. -/
def admitMoreUptoRow : OpenClaim := { program := "ytdhldmmabhaknaa", sum := "6d2eed95711d0ad5cb0f63f8934b9276762858d43d33416360b265e682a39a84", func := "incognito/incognitolaw26.AdmitMore", spec := "admitMore", apart := false, narrowed := true }
def AdmitMoreUptoSaid : Prop := admitMoreUptoRow.holds Try.pinned (OpenSpec.upto admitMoreSpec)

/-- 'incognitolaw06.NumCounts', WHERE WHAT IT READS IS OF BULK AT MOST 1048576: true; the input reads as it did. -/
def numCountsUptoRow : OpenClaim := { program := "ytdhldmmabhaknaa", sum := "6d2eed95711d0ad5cb0f63f8934b9276762858d43d33416360b265e682a39a84", func := "incognito/incognitolaw06.NumCounts", spec := "numCounts", unfollowed := true, recurses := true, apart := false, narrowed := true }
def NumCountsUptoSaid : Prop := numCountsUptoRow.holds Try.pinned (OpenSpec.upto numCountsSpec)

/-- 'incognitolaw26.AdmitModels', WHERE WHAT IT READS IS OF BULK AT MOST 1048576: true; the input reads as it did. -/
def admitModelsUptoRow : OpenClaim := { program := "ytdhldmmabhaknaa", sum := "6d2eed95711d0ad5cb0f63f8934b9276762858d43d33416360b265e682a39a84", func := "incognito/incognitolaw26.AdmitModels", spec := "admitModels", apart := false, narrowed := true }
def AdmitModelsUptoSaid : Prop := admitModelsUptoRow.holds Try.pinned (OpenSpec.upto admitModelsSpec)

end Rows
end Go.Proofs.Ytdhldmmabhaknaa
