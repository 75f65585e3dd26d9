/-
  NARROWER THAN 'FOR EVERY INPUT', by the rows' own cells (each row's printed sentence says how): TokenNarrows: laid · TokenOrders: laid · TokenMints: laid · TokenKept: laid · TokenCodes: laid · TokenNumbers: laid.
  DERIVED. THE GIVEN ROWS OF THIS SEAT. 6 by the template 'for every input the law returns true; each argument reads behind the call as it read before'; 0 by the template 'total and deterministic' (their statements: YtamhggndcegndaaDoorTotals.lean).
  GIVEN WITH THE SEED: the statements are not yours to turn. If you find one false, say at which input.
  Laid BY PROGRAM, IN A SANDBOX (cutbox-rows.mjs): the forced cells as the released guide's own fill.sh prints them over the translation aebe9607c6037b69… (all of the seat's roots in one cut). By AI agents, Wed Nov 11 2026. No macro, syntax, notation, axiom, sorry.
-/
import Derived.Test.YtamhggndcegndaaDoorChecked
import GoSem.Claim
import GoSem.ClaimJoined
import GoSem.ClaimMapViews
import Derived.JoinedTies
import Derived.KernelRfl
namespace Go.Proofs.YtamhggndcegndaaDoor
/- THE CELL 'sum', in the pinned program and in every row, IS THE sha256 OF THE DUMP (.gsa) THAT YtamhggndcegndaaDoorProg.lean LOADS. Nothing in Lean hashes anything: it is a label: what it is worth is what the hold of that sum in a sandbox is worth. -/
noncomputable def Tryd.pinned : Pinned := { name := "ytamhggndcegndaadoor", sum := "aebe9607c6037b6926ab7912b552718b974e3d4c4fafd2700f69ca056d40f45b", checked := Tryd.checked }
namespace Rows
def none {H : Type} : Left H := { results := [], args := [] }

/- WHAT THE LISTED PACKAGE-LEVEL VARIABLES READ AS WHEN THE CALL BEGINS. Each datum BY PROGRAM (the guide's laid-datum.mjs) off the statement by which the dump's own 'gosem.cut.vars' lays the variable. In a bare row this is a premise. The card (YtamhggndcegndaaDoorCards.lean) ties it to the program's text. -/
def laid_deponent_sha_start {H : Type} : DataW H := .agg [.lit (.int .u32 1779033703), .lit (.int .u32 3144134277), .lit (.int .u32 1013904242), .lit (.int .u32 2773480762), .lit (.int .u32 1359893119), .lit (.int .u32 2600822924), .lit (.int .u32 528734635), .lit (.int .u32 1541459225)]
def laid_deponent_sha_words {H : Type} : DataW H := .agg [.lit (.int .u32 1116352408), .lit (.int .u32 1899447441), .lit (.int .u32 3049323471), .lit (.int .u32 3921009573), .lit (.int .u32 961987163), .lit (.int .u32 1508970993), .lit (.int .u32 2453635748), .lit (.int .u32 2870763221), .lit (.int .u32 3624381080), .lit (.int .u32 310598401), .lit (.int .u32 607225278), .lit (.int .u32 1426881987), .lit (.int .u32 1925078388), .lit (.int .u32 2162078206), .lit (.int .u32 2614888103), .lit (.int .u32 3248222580), .lit (.int .u32 3835390401), .lit (.int .u32 4022224774), .lit (.int .u32 264347078), .lit (.int .u32 604807628), .lit (.int .u32 770255983), .lit (.int .u32 1249150122), .lit (.int .u32 1555081692), .lit (.int .u32 1996064986), .lit (.int .u32 2554220882), .lit (.int .u32 2821834349), .lit (.int .u32 2952996808), .lit (.int .u32 3210313671), .lit (.int .u32 3336571891), .lit (.int .u32 3584528711), .lit (.int .u32 113926993), .lit (.int .u32 338241895), .lit (.int .u32 666307205), .lit (.int .u32 773529912), .lit (.int .u32 1294757372), .lit (.int .u32 1396182291), .lit (.int .u32 1695183700), .lit (.int .u32 1986661051), .lit (.int .u32 2177026350), .lit (.int .u32 2456956037), .lit (.int .u32 2730485921), .lit (.int .u32 2820302411), .lit (.int .u32 3259730800), .lit (.int .u32 3345764771), .lit (.int .u32 3516065817), .lit (.int .u32 3600352804), .lit (.int .u32 4094571909), .lit (.int .u32 275423344), .lit (.int .u32 430227734), .lit (.int .u32 506948616), .lit (.int .u32 659060556), .lit (.int .u32 883997877), .lit (.int .u32 958139571), .lit (.int .u32 1322822218), .lit (.int .u32 1537002063), .lit (.int .u32 1747873779), .lit (.int .u32 1955562222), .lit (.int .u32 2024104815), .lit (.int .u32 2227730452), .lit (.int .u32 2361852424), .lit (.int .u32 2428436474), .lit (.int .u32 2756734187), .lit (.int .u32 3204031479), .lit (.int .u32 3329325298)]
def laid_errors_errorType {H : Type} : DataW H := .iface "internal/reflectlite.rtype" (.agg [.ptr (.lit (.string [101, 114, 114, 111, 114]))])

/-- 'deponentlaw12.TokenNarrows': WHATEVER THE INPUT: true; the input reads as it did. -/
def tokenNarrowsSpec : ChangeSpec := { name := "tokenNarrows", fn := fun _ => fun
  | [d1, d2, d3, d4, d5, d6] => { results := [.lit (.bool true)], args := [d1, d2, d3, d4, d5, d6] }
  | _ => none }
def tokenNarrowsRow : OpenClaim := { program := "ytamhggndcegndaadoor", sum := "aebe9607c6037b6926ab7912b552718b974e3d4c4fafd2700f69ca056d40f45b", func := "deponent/deponentlaw12.TokenNarrows", spec := "tokenNarrows", named := ["deponent/sha.start", "deponent/sha.words"], apart := false, laid := [("deponent/sha.start", laid_deponent_sha_start), ("deponent/sha.words", laid_deponent_sha_words)] }
def TokenNarrowsSaid : Prop := tokenNarrowsRow.holds Tryd.pinned (OpenSpec.ofChange tokenNarrowsSpec)

/-- ITS FALSE NEIGHBOUR: 'it returns false'. Refute it at one input. -/
def tokenNarrowsWrong : ChangeSpec := { name := "tokenNarrows", fn := fun _ => fun
  | [d1, d2, d3, d4, d5, d6] => { results := [.lit (.bool false)], args := [d1, d2, d3, d4, d5, d6] }
  | _ => none }
def TokenNarrowsWrongFalsely : Prop := tokenNarrowsRow.holds Tryd.pinned (OpenSpec.ofChange tokenNarrowsWrong)

/-- 'deponentlaw12.TokenOrders': WHATEVER THE INPUT: true; the input reads as it did. -/
def tokenOrdersSpec : ChangeSpec := { name := "tokenOrders", fn := fun _ => fun
  | [d1, d2, d3, d4, d5, d6] => { results := [.lit (.bool true)], args := [d1, d2, d3, d4, d5, d6] }
  | _ => none }
def tokenOrdersRow : OpenClaim := { program := "ytamhggndcegndaadoor", sum := "aebe9607c6037b6926ab7912b552718b974e3d4c4fafd2700f69ca056d40f45b", func := "deponent/deponentlaw12.TokenOrders", spec := "tokenOrders", named := ["deponent/sha.start", "deponent/sha.words"], apart := false, laid := [("deponent/sha.start", laid_deponent_sha_start), ("deponent/sha.words", laid_deponent_sha_words)] }
def TokenOrdersSaid : Prop := tokenOrdersRow.holds Tryd.pinned (OpenSpec.ofChange tokenOrdersSpec)

/-- ITS FALSE NEIGHBOUR: 'it returns false'. Refute it at one input. -/
def tokenOrdersWrong : ChangeSpec := { name := "tokenOrders", fn := fun _ => fun
  | [d1, d2, d3, d4, d5, d6] => { results := [.lit (.bool false)], args := [d1, d2, d3, d4, d5, d6] }
  | _ => none }
def TokenOrdersWrongFalsely : Prop := tokenOrdersRow.holds Tryd.pinned (OpenSpec.ofChange tokenOrdersWrong)

/-- 'deponentlaw12.TokenMints': WHATEVER THE INPUT: true; the input reads as it did. -/
def tokenMintsSpec : ChangeSpec := { name := "tokenMints", fn := fun _ => fun
  | [d1, d2, d3, d4, d5, d6, d7, d8] => { results := [.lit (.bool true)], args := [d1, d2, d3, d4, d5, d6, d7, d8] }
  | _ => none }
def tokenMintsRow : OpenClaim := { program := "ytamhggndcegndaadoor", sum := "aebe9607c6037b6926ab7912b552718b974e3d4c4fafd2700f69ca056d40f45b", func := "deponent/deponentlaw12.TokenMints", spec := "tokenMints", named := ["deponent/sha.start", "deponent/sha.words"], apart := false, laid := [("deponent/sha.start", laid_deponent_sha_start), ("deponent/sha.words", laid_deponent_sha_words)] }
def TokenMintsSaid : Prop := tokenMintsRow.holds Tryd.pinned (OpenSpec.ofChange tokenMintsSpec)

/-- ITS FALSE NEIGHBOUR: 'it returns false'. Refute it at one input. -/
def tokenMintsWrong : ChangeSpec := { name := "tokenMints", fn := fun _ => fun
  | [d1, d2, d3, d4, d5, d6, d7, d8] => { results := [.lit (.bool false)], args := [d1, d2, d3, d4, d5, d6, d7, d8] }
  | _ => none }
def TokenMintsWrongFalsely : Prop := tokenMintsRow.holds Tryd.pinned (OpenSpec.ofChange tokenMintsWrong)

/-- 'deponentlaw12.TokenKept': WHATEVER THE INPUT: true; the input reads as it did. -/
def tokenKeptSpec : ChangeSpec := { name := "tokenKept", fn := fun _ => fun
  | [d1, d2] => { results := [.lit (.bool true)], args := [d1, d2] }
  | _ => none }
def tokenKeptRow : OpenClaim := { program := "ytamhggndcegndaadoor", sum := "aebe9607c6037b6926ab7912b552718b974e3d4c4fafd2700f69ca056d40f45b", func := "deponent/deponentlaw12.TokenKept", spec := "tokenKept", inPlace := ["internal/reflectlite.ValueOf", "(internal/reflectlite.Value).Type", "(internal/reflectlite.Value).IsNil", "internal/reflectlite.TypeOf", "(internal/reflectlite.Value).Elem", "(internal/reflectlite.Value).Set"], unfollowed := true, recurses := true, named := ["deponent/sha.start", "deponent/sha.words", "errors.errorType"], apart := false, laid := [("deponent/sha.start", laid_deponent_sha_start), ("deponent/sha.words", laid_deponent_sha_words), ("errors.errorType", laid_errors_errorType)] }
def TokenKeptSaid : Prop := tokenKeptRow.holds Tryd.pinned (OpenSpec.ofChange tokenKeptSpec)

/-- ITS FALSE NEIGHBOUR: 'it returns false'. Refute it at one input. -/
def tokenKeptWrong : ChangeSpec := { name := "tokenKept", fn := fun _ => fun
  | [d1, d2] => { results := [.lit (.bool false)], args := [d1, d2] }
  | _ => none }
def TokenKeptWrongFalsely : Prop := tokenKeptRow.holds Tryd.pinned (OpenSpec.ofChange tokenKeptWrong)

/-- 'deponentlaw12.TokenCodes': WHATEVER THE INPUT: true; the input reads as it did. -/
def tokenCodesSpec : ChangeSpec := { name := "tokenCodes", fn := fun _ => fun
  | [d1, d2] => { results := [.lit (.bool true)], args := [d1, d2] }
  | _ => none }
def tokenCodesRow : OpenClaim := { program := "ytamhggndcegndaadoor", sum := "aebe9607c6037b6926ab7912b552718b974e3d4c4fafd2700f69ca056d40f45b", func := "deponent/deponentlaw12.TokenCodes", spec := "tokenCodes", inPlace := ["internal/reflectlite.ValueOf", "(internal/reflectlite.Value).Type", "(internal/reflectlite.Value).IsNil", "internal/reflectlite.TypeOf", "(internal/reflectlite.Value).Elem", "(internal/reflectlite.Value).Set"], unfollowed := true, recurses := true, named := ["errors.errorType", "deponent/sha.start", "deponent/sha.words"], apart := false, laid := [("deponent/sha.start", laid_deponent_sha_start), ("deponent/sha.words", laid_deponent_sha_words), ("errors.errorType", laid_errors_errorType)] }
def TokenCodesSaid : Prop := tokenCodesRow.holds Tryd.pinned (OpenSpec.ofChange tokenCodesSpec)

/-- ITS FALSE NEIGHBOUR: 'it returns false'. Refute it at one input. -/
def tokenCodesWrong : ChangeSpec := { name := "tokenCodes", fn := fun _ => fun
  | [d1, d2] => { results := [.lit (.bool false)], args := [d1, d2] }
  | _ => none }
def TokenCodesWrongFalsely : Prop := tokenCodesRow.holds Tryd.pinned (OpenSpec.ofChange tokenCodesWrong)

/-- 'deponentlaw12.TokenNumbers': WHATEVER THE INPUT: true; the input reads as it did. -/
def tokenNumbersSpec : ChangeSpec := { name := "tokenNumbers", fn := fun _ => fun
  | [] => { results := [.lit (.bool true)], args := [] }
  | _ => none }
def tokenNumbersRow : OpenClaim := { program := "ytamhggndcegndaadoor", sum := "aebe9607c6037b6926ab7912b552718b974e3d4c4fafd2700f69ca056d40f45b", func := "deponent/deponentlaw12.TokenNumbers", spec := "tokenNumbers", inPlace := ["internal/reflectlite.ValueOf", "(internal/reflectlite.Value).Type", "(internal/reflectlite.Value).IsNil", "internal/reflectlite.TypeOf", "(internal/reflectlite.Value).Elem", "(internal/reflectlite.Value).Set"], unfollowed := true, recurses := true, named := ["deponent/sha.start", "deponent/sha.words", "errors.errorType"], apart := false, laid := [("deponent/sha.start", laid_deponent_sha_start), ("deponent/sha.words", laid_deponent_sha_words), ("errors.errorType", laid_errors_errorType)] }
def TokenNumbersSaid : Prop := tokenNumbersRow.holds Tryd.pinned (OpenSpec.ofChange tokenNumbersSpec)

/-- ITS FALSE NEIGHBOUR: 'it returns false'. Refute it at one input. -/
def tokenNumbersWrong : ChangeSpec := { name := "tokenNumbers", fn := fun _ => fun
  | [] => { results := [.lit (.bool false)], args := [] }
  | _ => none }
def TokenNumbersWrongFalsely : Prop := tokenNumbersRow.holds Tryd.pinned (OpenSpec.ofChange tokenNumbersWrong)

/- THE SECOND FORM. 'bulk': how many values and letters a reading holds, each counted each time it is reached (what is shared counts as often as it is met; a slice's spare places count too). A statement '..UptoSaid' is the law's where the arguments, and the package variables that the reading takes, are together of bulk at most 1048576: NARROWER than '..Said'. Prove '..Said' where nothing that the law and all that it calls make is longer than what came in: it says more and counts as full. Else prove '..UptoSaid'. A law counts once. -/
mutual
def uptoBulk {H : Type} : DataW H → Nat
  | .lit (.string bytes) => bytes.length + 1
  | .lit _ => 1
  | .nil => 1
  | .ptr d => uptoBulk d + 1
  | .slice elems spare => uptoBulkAll elems + uptoBulkAll spare + 1
  | .agg parts => uptoBulkAll parts + 1
  | .iface _ d => uptoBulk d + 1
  | .map entries => uptoBulkEntries entries + 1
  | .held _ => 1
def uptoBulkAll {H : Type} : List (DataW H) → Nat
  | [] => 0
  | d :: r => uptoBulk d + uptoBulkAll r
def uptoBulkEntries {H : Type} : List (Lit × DataW H) → Nat
  | [] => 0
  | x :: r => uptoBulkEntry x + uptoBulkEntries r
def uptoBulkEntry {H : Type} : Lit × DataW H → Nat
  | (.string bytes, d) => bytes.length + uptoBulk d + 1
  | (_, d) => uptoBulk d + 1
 end
def uptoSmall : (H : Type) → List (DataW H) → Bool := fun _ ds => decide (uptoBulkAll ds ≤ 1048576)
def OpenSpec.upto (s : _root_.Go.ChangeSpec) : _root_.Go.OpenSpec := { _root_.Go.OpenSpec.ofChange s with cond := some uptoSmall }

/-- 'deponentlaw12.TokenNarrows', WHERE WHAT IT READS IS OF BULK AT MOST 1048576: true; the input reads as it did. -/
def tokenNarrowsUptoRow : OpenClaim := { program := "ytamhggndcegndaadoor", sum := "aebe9607c6037b6926ab7912b552718b974e3d4c4fafd2700f69ca056d40f45b", func := "deponent/deponentlaw12.TokenNarrows", spec := "tokenNarrows", named := ["deponent/sha.start", "deponent/sha.words"], apart := false, laid := [("deponent/sha.start", laid_deponent_sha_start), ("deponent/sha.words", laid_deponent_sha_words)], narrowed := true }
def TokenNarrowsUptoSaid : Prop := tokenNarrowsUptoRow.holds Tryd.pinned (OpenSpec.upto tokenNarrowsSpec)

/-- 'deponentlaw12.TokenOrders', WHERE WHAT IT READS IS OF BULK AT MOST 1048576: true; the input reads as it did. -/
def tokenOrdersUptoRow : OpenClaim := { program := "ytamhggndcegndaadoor", sum := "aebe9607c6037b6926ab7912b552718b974e3d4c4fafd2700f69ca056d40f45b", func := "deponent/deponentlaw12.TokenOrders", spec := "tokenOrders", named := ["deponent/sha.start", "deponent/sha.words"], apart := false, laid := [("deponent/sha.start", laid_deponent_sha_start), ("deponent/sha.words", laid_deponent_sha_words)], narrowed := true }
def TokenOrdersUptoSaid : Prop := tokenOrdersUptoRow.holds Tryd.pinned (OpenSpec.upto tokenOrdersSpec)

/-- 'deponentlaw12.TokenMints', WHERE WHAT IT READS IS OF BULK AT MOST 1048576: true; the input reads as it did. -/
def tokenMintsUptoRow : OpenClaim := { program := "ytamhggndcegndaadoor", sum := "aebe9607c6037b6926ab7912b552718b974e3d4c4fafd2700f69ca056d40f45b", func := "deponent/deponentlaw12.TokenMints", spec := "tokenMints", named := ["deponent/sha.start", "deponent/sha.words"], apart := false, laid := [("deponent/sha.start", laid_deponent_sha_start), ("deponent/sha.words", laid_deponent_sha_words)], narrowed := true }
def TokenMintsUptoSaid : Prop := tokenMintsUptoRow.holds Tryd.pinned (OpenSpec.upto tokenMintsSpec)

/-- 'deponentlaw12.TokenKept', WHERE WHAT IT READS IS OF BULK AT MOST 1048576: true; the input reads as it did. -/
def tokenKeptUptoRow : OpenClaim := { program := "ytamhggndcegndaadoor", sum := "aebe9607c6037b6926ab7912b552718b974e3d4c4fafd2700f69ca056d40f45b", func := "deponent/deponentlaw12.TokenKept", spec := "tokenKept", inPlace := ["internal/reflectlite.ValueOf", "(internal/reflectlite.Value).Type", "(internal/reflectlite.Value).IsNil", "internal/reflectlite.TypeOf", "(internal/reflectlite.Value).Elem", "(internal/reflectlite.Value).Set"], unfollowed := true, recurses := true, named := ["deponent/sha.start", "deponent/sha.words", "errors.errorType"], apart := false, laid := [("deponent/sha.start", laid_deponent_sha_start), ("deponent/sha.words", laid_deponent_sha_words), ("errors.errorType", laid_errors_errorType)], narrowed := true }
def TokenKeptUptoSaid : Prop := tokenKeptUptoRow.holds Tryd.pinned (OpenSpec.upto tokenKeptSpec)

/-- 'deponentlaw12.TokenCodes', WHERE WHAT IT READS IS OF BULK AT MOST 1048576: true; the input reads as it did. -/
def tokenCodesUptoRow : OpenClaim := { program := "ytamhggndcegndaadoor", sum := "aebe9607c6037b6926ab7912b552718b974e3d4c4fafd2700f69ca056d40f45b", func := "deponent/deponentlaw12.TokenCodes", spec := "tokenCodes", inPlace := ["internal/reflectlite.ValueOf", "(internal/reflectlite.Value).Type", "(internal/reflectlite.Value).IsNil", "internal/reflectlite.TypeOf", "(internal/reflectlite.Value).Elem", "(internal/reflectlite.Value).Set"], unfollowed := true, recurses := true, named := ["errors.errorType", "deponent/sha.start", "deponent/sha.words"], apart := false, laid := [("deponent/sha.start", laid_deponent_sha_start), ("deponent/sha.words", laid_deponent_sha_words), ("errors.errorType", laid_errors_errorType)], narrowed := true }
def TokenCodesUptoSaid : Prop := tokenCodesUptoRow.holds Tryd.pinned (OpenSpec.upto tokenCodesSpec)

/-- 'deponentlaw12.TokenNumbers', WHERE WHAT IT READS IS OF BULK AT MOST 1048576: true; the input reads as it did. -/
def tokenNumbersUptoRow : OpenClaim := { program := "ytamhggndcegndaadoor", sum := "aebe9607c6037b6926ab7912b552718b974e3d4c4fafd2700f69ca056d40f45b", func := "deponent/deponentlaw12.TokenNumbers", spec := "tokenNumbers", inPlace := ["internal/reflectlite.ValueOf", "(internal/reflectlite.Value).Type", "(internal/reflectlite.Value).IsNil", "internal/reflectlite.TypeOf", "(internal/reflectlite.Value).Elem", "(internal/reflectlite.Value).Set"], unfollowed := true, recurses := true, named := ["deponent/sha.start", "deponent/sha.words", "errors.errorType"], apart := false, laid := [("deponent/sha.start", laid_deponent_sha_start), ("deponent/sha.words", laid_deponent_sha_words), ("errors.errorType", laid_errors_errorType)], narrowed := true }
def TokenNumbersUptoSaid : Prop := tokenNumbersUptoRow.holds Tryd.pinned (OpenSpec.upto tokenNumbersSpec)

end Rows
end Go.Proofs.YtamhggndcegndaaDoor
