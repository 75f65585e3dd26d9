/-
  No cell of these rows narrows 'for every input' (looked for: loops, veiled, ifaces, maps, wideKeys, modest, calm, conditions, laid).
  DERIVED. THE GIVEN ROWS OF THIS SEAT. 3 by the template 'for every input the law returns true; each argument reads behind the call as it read before'; 0 by the template 'total and deterministic' (their statements: YtbkdccamimakoaaTotals.lean).
  GIVEN WITH THE SEED: the statements are not yours to turn. If you find one false, say at which input.
  Laid BY PROGRAM, IN A SANDBOX (cutbox-rows.mjs): the forced cells as the released guide's own fill.sh prints them over the translation eebd9b80abcdaf98… (all of the seat's roots in one cut). By AI agents, Wed Nov 11 2026. No macro, syntax, notation, axiom, sorry.
-/
import Derived.Test.YtbkdccamimakoaaChecked
import GoSem.Claim
import GoSem.ClaimJoined
import GoSem.ClaimMapViews
import Derived.JoinedTies
import Derived.KernelRfl
namespace Go.Proofs.Ytbkdccamimakoaa
/- THE CELL 'sum', in the pinned program and in every row, IS THE sha256 OF THE DUMP (.gsa) THAT YtbkdccamimakoaaProg.lean LOADS. Nothing in Lean hashes anything: it is a label: what it is worth is what the hold of that sum in a sandbox is worth. -/
noncomputable def Try.pinned : Pinned := { name := "ytbkdccamimakoaa", sum := "eebd9b80abcdaf98d0465f2322e4654d210befd819e837319b5db3eba775ba96", checked := Try.checked }
namespace Rows
def none {H : Type} : Left H := { results := [], args := [] }

/-- 'deponentlaw18.RequestFields': WHATEVER THE INPUT: true; the input reads as it did. -/
def requestFieldsSpec : ChangeSpec := { name := "requestFields", fn := fun _ => fun
  | [d1, d2] => { results := [.lit (.bool true)], args := [d1, d2] }
  | _ => none }
def requestFieldsRow : OpenClaim := { program := "ytbkdccamimakoaa", sum := "eebd9b80abcdaf98d0465f2322e4654d210befd819e837319b5db3eba775ba96", func := "deponent/deponentlaw18.RequestFields", spec := "requestFields", unfollowed := true, recurses := true, apart := false }
def RequestFieldsSaid : Prop := requestFieldsRow.holds Try.pinned (OpenSpec.ofChange requestFieldsSpec)

/-- ITS FALSE NEIGHBOUR: 'it returns false'. Refute it at one input. -/
def requestFieldsWrong : ChangeSpec := { name := "requestFields", fn := fun _ => fun
  | [d1, d2] => { results := [.lit (.bool false)], args := [d1, d2] }
  | _ => none }
def RequestFieldsWrongFalsely : Prop := requestFieldsRow.holds Try.pinned (OpenSpec.ofChange requestFieldsWrong)

/-- 'deponentlaw18.RequestSizes': WHATEVER THE INPUT: true; the input reads as it did. -/
def requestSizesSpec : ChangeSpec := { name := "requestSizes", fn := fun _ => fun
  | [d1, d2, d3] => { results := [.lit (.bool true)], args := [d1, d2, d3] }
  | _ => none }
def requestSizesRow : OpenClaim := { program := "ytbkdccamimakoaa", sum := "eebd9b80abcdaf98d0465f2322e4654d210befd819e837319b5db3eba775ba96", func := "deponent/deponentlaw18.RequestSizes", spec := "requestSizes", unfollowed := true, recurses := true, apart := false }
def RequestSizesSaid : Prop := requestSizesRow.holds Try.pinned (OpenSpec.ofChange requestSizesSpec)

/-- ITS FALSE NEIGHBOUR: 'it returns false'. Refute it at one input. -/
def requestSizesWrong : ChangeSpec := { name := "requestSizes", fn := fun _ => fun
  | [d1, d2, d3] => { results := [.lit (.bool false)], args := [d1, d2, d3] }
  | _ => none }
def RequestSizesWrongFalsely : Prop := requestSizesRow.holds Try.pinned (OpenSpec.ofChange requestSizesWrong)

/-- 'deponentlaw18.RequestWrites': WHATEVER THE INPUT: true; the input reads as it did. -/
def requestWritesSpec : ChangeSpec := { name := "requestWrites", fn := fun _ => fun
  | [d] => { results := [.lit (.bool true)], args := [d] }
  | _ => none }
def requestWritesRow : OpenClaim := { program := "ytbkdccamimakoaa", sum := "eebd9b80abcdaf98d0465f2322e4654d210befd819e837319b5db3eba775ba96", func := "deponent/deponentlaw18.RequestWrites", spec := "requestWrites", unfollowed := true, recurses := true, apart := false }
def RequestWritesSaid : Prop := requestWritesRow.holds Try.pinned (OpenSpec.ofChange requestWritesSpec)

/-- ITS FALSE NEIGHBOUR: 'it returns false'. Refute it at one input. -/
def requestWritesWrong : ChangeSpec := { name := "requestWrites", fn := fun _ => fun
  | [d] => { results := [.lit (.bool false)], args := [d] }
  | _ => none }
def RequestWritesWrongFalsely : Prop := requestWritesRow.holds Try.pinned (OpenSpec.ofChange requestWritesWrong)

/- THE SECOND FORM. 'bulk': how many values and letters a reading holds, each counted each time it is reached (what is shared counts as often as it is met; a slice's spare places count too). A statement '..UptoSaid' is the law's where the arguments, and the package variables that the reading takes, are together of bulk at most 1048576: NARROWER than '..Said'. Prove '..Said' where nothing that the law and all that it calls make is longer than what came in: it says more and counts as full. Else prove '..UptoSaid'. A law counts once. -/
mutual
def uptoBulk {H : Type} : DataW H → Nat
  | .lit (.string bytes) => bytes.length + 1
  | .lit _ => 1
  | .nil => 1
  | .ptr d => uptoBulk d + 1
  | .slice elems spare => uptoBulkAll elems + uptoBulkAll spare + 1
  | .agg parts => uptoBulkAll parts + 1
  | .iface _ d => uptoBulk d + 1
  | .map entries => uptoBulkEntries entries + 1
  | .held _ => 1
def uptoBulkAll {H : Type} : List (DataW H) → Nat
  | [] => 0
  | d :: r => uptoBulk d + uptoBulkAll r
def uptoBulkEntries {H : Type} : List (Lit × DataW H) → Nat
  | [] => 0
  | x :: r => uptoBulkEntry x + uptoBulkEntries r
def uptoBulkEntry {H : Type} : Lit × DataW H → Nat
  | (.string bytes, d) => bytes.length + uptoBulk d + 1
  | (_, d) => uptoBulk d + 1
 end
def uptoSmall : (H : Type) → List (DataW H) → Bool := fun _ ds => decide (uptoBulkAll ds ≤ 1048576)
def OpenSpec.upto (s : _root_.Go.ChangeSpec) : _root_.Go.OpenSpec := { _root_.Go.OpenSpec.ofChange s with cond := some uptoSmall }

/-- 'deponentlaw18.RequestFields', WHERE WHAT IT READS IS OF BULK AT MOST 1048576: true; the input reads as it did. -/
def requestFieldsUptoRow : OpenClaim := { program := "ytbkdccamimakoaa", sum := "eebd9b80abcdaf98d0465f2322e4654d210befd819e837319b5db3eba775ba96", func := "deponent/deponentlaw18.RequestFields", spec := "requestFields", unfollowed := true, recurses := true, apart := false, narrowed := true }
def RequestFieldsUptoSaid : Prop := requestFieldsUptoRow.holds Try.pinned (OpenSpec.upto requestFieldsSpec)

/-- 'deponentlaw18.RequestSizes', WHERE WHAT IT READS IS OF BULK AT MOST 1048576: true; the input reads as it did. -/
def requestSizesUptoRow : OpenClaim := { program := "ytbkdccamimakoaa", sum := "eebd9b80abcdaf98d0465f2322e4654d210befd819e837319b5db3eba775ba96", func := "deponent/deponentlaw18.RequestSizes", spec := "requestSizes", unfollowed := true, recurses := true, apart := false, narrowed := true }
def RequestSizesUptoSaid : Prop := requestSizesUptoRow.holds Try.pinned (OpenSpec.upto requestSizesSpec)

/-- 'deponentlaw18.RequestWrites', WHERE WHAT IT READS IS OF BULK AT MOST 1048576: true; the input reads as it did. -/
def requestWritesUptoRow : OpenClaim := { program := "ytbkdccamimakoaa", sum := "eebd9b80abcdaf98d0465f2322e4654d210befd819e837319b5db3eba775ba96", func := "deponent/deponentlaw18.RequestWrites", spec := "requestWrites", unfollowed := true, recurses := true, apart := false, narrowed := true }
def RequestWritesUptoSaid : Prop := requestWritesUptoRow.holds Try.pinned (OpenSpec.upto requestWritesSpec)

end Rows
end Go.Proofs.Ytbkdccamimakoaa
