/-
  NARROWER THAN 'FOR EVERY INPUT', by the rows' own cells (each row's printed sentence says how): ModelAsks: laid · ModelTurns: laid · ModelNumbers: laid · ModelStays: laid · ModelLooks: laid · ModelWritten: laid · ModelPlays: laid · ModelFrom: laid · ModelRefused: laid.
  DERIVED. THE GIVEN ROWS OF THIS SEAT. 9 by the template 'for every input the law returns true; each argument reads behind the call as it read before'; 0 by the template 'total and deterministic' (their statements: YthomgopipiomhaaGreatDoorTotals.lean).
  GIVEN WITH THE SEED: the statements are not yours to turn. If you find one false, say at which input.
  Laid BY PROGRAM, IN A SANDBOX (cutbox-rows.mjs): the forced cells as the released guide's own fill.sh prints them over the translation 87e9d09c0f5515ad… (all of the seat's roots in one cut). By AI agents, Wed Nov 11 2026. No macro, syntax, notation, axiom, sorry.
-/
import Derived.Test.YthomgopipiomhaaGreatDoorChecked
import GoSem.Claim
import GoSem.ClaimJoined
import GoSem.ClaimMapViews
import Derived.JoinedTies
import Derived.KernelRfl
namespace Go.Proofs.YthomgopipiomhaaGreatDoor
/- THE CELL 'sum', in the pinned program and in every row, IS THE sha256 OF THE DUMP (.gsa) THAT YthomgopipiomhaaGreatDoorProg.lean LOADS. Nothing in Lean hashes anything: it is a label: what it is worth is what the hold of that sum in a sandbox is worth. -/
noncomputable def Tryz.pinned : Pinned := { name := "ythomgopipiomhaagreatdoor", sum := "87e9d09c0f5515ada18deda99e53e40670589c2794d225a223007dc5e91f90ca", checked := Tryz.checked }
namespace Rows
def none {H : Type} : Left H := { results := [], args := [] }

/- WHAT THE LISTED PACKAGE-LEVEL VARIABLES READ AS WHEN THE CALL BEGINS. Each datum BY PROGRAM (the guide's laid-datum.mjs) off the statement by which the dump's own 'gosem.cut.vars' lays the variable. In a bare row this is a premise. The card (YthomgopipiomhaaGreatDoorCards.lean) ties it to the program's text. -/
def laid_deponent_sha_start {H : Type} : DataW H := .agg [.lit (.int .u32 1779033703), .lit (.int .u32 3144134277), .lit (.int .u32 1013904242), .lit (.int .u32 2773480762), .lit (.int .u32 1359893119), .lit (.int .u32 2600822924), .lit (.int .u32 528734635), .lit (.int .u32 1541459225)]
def laid_deponent_sha_words {H : Type} : DataW H := .agg [.lit (.int .u32 1116352408), .lit (.int .u32 1899447441), .lit (.int .u32 3049323471), .lit (.int .u32 3921009573), .lit (.int .u32 961987163), .lit (.int .u32 1508970993), .lit (.int .u32 2453635748), .lit (.int .u32 2870763221), .lit (.int .u32 3624381080), .lit (.int .u32 310598401), .lit (.int .u32 607225278), .lit (.int .u32 1426881987), .lit (.int .u32 1925078388), .lit (.int .u32 2162078206), .lit (.int .u32 2614888103), .lit (.int .u32 3248222580), .lit (.int .u32 3835390401), .lit (.int .u32 4022224774), .lit (.int .u32 264347078), .lit (.int .u32 604807628), .lit (.int .u32 770255983), .lit (.int .u32 1249150122), .lit (.int .u32 1555081692), .lit (.int .u32 1996064986), .lit (.int .u32 2554220882), .lit (.int .u32 2821834349), .lit (.int .u32 2952996808), .lit (.int .u32 3210313671), .lit (.int .u32 3336571891), .lit (.int .u32 3584528711), .lit (.int .u32 113926993), .lit (.int .u32 338241895), .lit (.int .u32 666307205), .lit (.int .u32 773529912), .lit (.int .u32 1294757372), .lit (.int .u32 1396182291), .lit (.int .u32 1695183700), .lit (.int .u32 1986661051), .lit (.int .u32 2177026350), .lit (.int .u32 2456956037), .lit (.int .u32 2730485921), .lit (.int .u32 2820302411), .lit (.int .u32 3259730800), .lit (.int .u32 3345764771), .lit (.int .u32 3516065817), .lit (.int .u32 3600352804), .lit (.int .u32 4094571909), .lit (.int .u32 275423344), .lit (.int .u32 430227734), .lit (.int .u32 506948616), .lit (.int .u32 659060556), .lit (.int .u32 883997877), .lit (.int .u32 958139571), .lit (.int .u32 1322822218), .lit (.int .u32 1537002063), .lit (.int .u32 1747873779), .lit (.int .u32 1955562222), .lit (.int .u32 2024104815), .lit (.int .u32 2227730452), .lit (.int .u32 2361852424), .lit (.int .u32 2428436474), .lit (.int .u32 2756734187), .lit (.int .u32 3204031479), .lit (.int .u32 3329325298)]
def laid_errors_errorType {H : Type} : DataW H := .iface "internal/reflectlite.rtype" (.agg [.ptr (.lit (.string [101, 114, 114, 111, 114]))])

/-- 'deponentlaw20.ModelAsks': WHATEVER THE INPUT: true; the input reads as it did. -/
def modelAsksSpec : ChangeSpec := { name := "modelAsks", fn := fun _ => fun
  | [d1, d2, d3] => { results := [.lit (.bool true)], args := [d1, d2, d3] }
  | _ => none }
def modelAsksRow : OpenClaim := { program := "ythomgopipiomhaagreatdoor", sum := "87e9d09c0f5515ada18deda99e53e40670589c2794d225a223007dc5e91f90ca", func := "deponent/deponentlaw20.ModelAsks", spec := "modelAsks", inPlace := ["internal/reflectlite.ValueOf", "(internal/reflectlite.Value).Type", "(internal/reflectlite.Value).IsNil", "internal/reflectlite.TypeOf", "(internal/reflectlite.Value).Elem", "(internal/reflectlite.Value).Set"], unfollowed := true, recurses := true, named := ["deponent/sha.start", "deponent/sha.words", "errors.errorType"], apart := false, laid := [("deponent/sha.start", laid_deponent_sha_start), ("deponent/sha.words", laid_deponent_sha_words), ("errors.errorType", laid_errors_errorType)] }
def ModelAsksSaid : Prop := modelAsksRow.holds Tryz.pinned (OpenSpec.ofChange modelAsksSpec)

/-- ITS FALSE NEIGHBOUR: 'it returns false'. Refute it at one input. -/
def modelAsksWrong : ChangeSpec := { name := "modelAsks", fn := fun _ => fun
  | [d1, d2, d3] => { results := [.lit (.bool false)], args := [d1, d2, d3] }
  | _ => none }
def ModelAsksWrongFalsely : Prop := modelAsksRow.holds Tryz.pinned (OpenSpec.ofChange modelAsksWrong)

/-- 'deponentlaw20.ModelTurns': WHATEVER THE INPUT: true; the input reads as it did. -/
def modelTurnsSpec : ChangeSpec := { name := "modelTurns", fn := fun _ => fun
  | [d1, d2, d3] => { results := [.lit (.bool true)], args := [d1, d2, d3] }
  | _ => none }
def modelTurnsRow : OpenClaim := { program := "ythomgopipiomhaagreatdoor", sum := "87e9d09c0f5515ada18deda99e53e40670589c2794d225a223007dc5e91f90ca", func := "deponent/deponentlaw20.ModelTurns", spec := "modelTurns", inPlace := ["internal/reflectlite.ValueOf", "(internal/reflectlite.Value).Type", "(internal/reflectlite.Value).IsNil", "internal/reflectlite.TypeOf", "(internal/reflectlite.Value).Elem", "(internal/reflectlite.Value).Set"], unfollowed := true, recurses := true, named := ["deponent/sha.start", "deponent/sha.words", "errors.errorType"], apart := false, laid := [("deponent/sha.start", laid_deponent_sha_start), ("deponent/sha.words", laid_deponent_sha_words), ("errors.errorType", laid_errors_errorType)] }
def ModelTurnsSaid : Prop := modelTurnsRow.holds Tryz.pinned (OpenSpec.ofChange modelTurnsSpec)

/-- ITS FALSE NEIGHBOUR: 'it returns false'. Refute it at one input. -/
def modelTurnsWrong : ChangeSpec := { name := "modelTurns", fn := fun _ => fun
  | [d1, d2, d3] => { results := [.lit (.bool false)], args := [d1, d2, d3] }
  | _ => none }
def ModelTurnsWrongFalsely : Prop := modelTurnsRow.holds Tryz.pinned (OpenSpec.ofChange modelTurnsWrong)

/-- 'deponentlaw20.ModelNumbers': WHATEVER THE INPUT: true; the input reads as it did. -/
def modelNumbersSpec : ChangeSpec := { name := "modelNumbers", fn := fun _ => fun
  | [] => { results := [.lit (.bool true)], args := [] }
  | _ => none }
def modelNumbersRow : OpenClaim := { program := "ythomgopipiomhaagreatdoor", sum := "87e9d09c0f5515ada18deda99e53e40670589c2794d225a223007dc5e91f90ca", func := "deponent/deponentlaw20.ModelNumbers", spec := "modelNumbers", inPlace := ["internal/reflectlite.ValueOf", "(internal/reflectlite.Value).Type", "(internal/reflectlite.Value).IsNil", "internal/reflectlite.TypeOf", "(internal/reflectlite.Value).Elem", "(internal/reflectlite.Value).Set"], unfollowed := true, recurses := true, named := ["deponent/sha.start", "deponent/sha.words", "errors.errorType"], apart := false, laid := [("deponent/sha.start", laid_deponent_sha_start), ("deponent/sha.words", laid_deponent_sha_words), ("errors.errorType", laid_errors_errorType)] }
def ModelNumbersSaid : Prop := modelNumbersRow.holds Tryz.pinned (OpenSpec.ofChange modelNumbersSpec)

/-- ITS FALSE NEIGHBOUR: 'it returns false'. Refute it at one input. -/
def modelNumbersWrong : ChangeSpec := { name := "modelNumbers", fn := fun _ => fun
  | [] => { results := [.lit (.bool false)], args := [] }
  | _ => none }
def ModelNumbersWrongFalsely : Prop := modelNumbersRow.holds Tryz.pinned (OpenSpec.ofChange modelNumbersWrong)

/-- 'deponentlaw20.ModelStays': WHATEVER THE INPUT: true; the input reads as it did. -/
def modelStaysSpec : ChangeSpec := { name := "modelStays", fn := fun _ => fun
  | [d1, d2] => { results := [.lit (.bool true)], args := [d1, d2] }
  | _ => none }
def modelStaysRow : OpenClaim := { program := "ythomgopipiomhaagreatdoor", sum := "87e9d09c0f5515ada18deda99e53e40670589c2794d225a223007dc5e91f90ca", func := "deponent/deponentlaw20.ModelStays", spec := "modelStays", inPlace := ["internal/reflectlite.ValueOf", "(internal/reflectlite.Value).Type", "(internal/reflectlite.Value).IsNil", "internal/reflectlite.TypeOf", "(internal/reflectlite.Value).Elem", "(internal/reflectlite.Value).Set"], unfollowed := true, recurses := true, named := ["deponent/sha.start", "deponent/sha.words", "errors.errorType"], apart := false, laid := [("deponent/sha.start", laid_deponent_sha_start), ("deponent/sha.words", laid_deponent_sha_words), ("errors.errorType", laid_errors_errorType)] }
def ModelStaysSaid : Prop := modelStaysRow.holds Tryz.pinned (OpenSpec.ofChange modelStaysSpec)

/-- ITS FALSE NEIGHBOUR: 'it returns false'. Refute it at one input. -/
def modelStaysWrong : ChangeSpec := { name := "modelStays", fn := fun _ => fun
  | [d1, d2] => { results := [.lit (.bool false)], args := [d1, d2] }
  | _ => none }
def ModelStaysWrongFalsely : Prop := modelStaysRow.holds Tryz.pinned (OpenSpec.ofChange modelStaysWrong)

/-- 'deponentlaw20.ModelLooks': WHATEVER THE INPUT: true; the input reads as it did. -/
def modelLooksSpec : ChangeSpec := { name := "modelLooks", fn := fun _ => fun
  | [d1, d2, d3] => { results := [.lit (.bool true)], args := [d1, d2, d3] }
  | _ => none }
def modelLooksRow : OpenClaim := { program := "ythomgopipiomhaagreatdoor", sum := "87e9d09c0f5515ada18deda99e53e40670589c2794d225a223007dc5e91f90ca", func := "deponent/deponentlaw20.ModelLooks", spec := "modelLooks", inPlace := ["internal/reflectlite.ValueOf", "(internal/reflectlite.Value).Type", "(internal/reflectlite.Value).IsNil", "internal/reflectlite.TypeOf", "(internal/reflectlite.Value).Elem", "(internal/reflectlite.Value).Set"], unfollowed := true, recurses := true, named := ["deponent/sha.start", "deponent/sha.words", "errors.errorType"], apart := false, laid := [("deponent/sha.start", laid_deponent_sha_start), ("deponent/sha.words", laid_deponent_sha_words), ("errors.errorType", laid_errors_errorType)] }
def ModelLooksSaid : Prop := modelLooksRow.holds Tryz.pinned (OpenSpec.ofChange modelLooksSpec)

/-- ITS FALSE NEIGHBOUR: 'it returns false'. Refute it at one input. -/
def modelLooksWrong : ChangeSpec := { name := "modelLooks", fn := fun _ => fun
  | [d1, d2, d3] => { results := [.lit (.bool false)], args := [d1, d2, d3] }
  | _ => none }
def ModelLooksWrongFalsely : Prop := modelLooksRow.holds Tryz.pinned (OpenSpec.ofChange modelLooksWrong)

/-- 'deponentlaw20.ModelWritten': WHATEVER THE INPUT: true; the input reads as it did. -/
def modelWrittenSpec : ChangeSpec := { name := "modelWritten", fn := fun _ => fun
  | [d1, d2] => { results := [.lit (.bool true)], args := [d1, d2] }
  | _ => none }
def modelWrittenRow : OpenClaim := { program := "ythomgopipiomhaagreatdoor", sum := "87e9d09c0f5515ada18deda99e53e40670589c2794d225a223007dc5e91f90ca", func := "deponent/deponentlaw20.ModelWritten", spec := "modelWritten", inPlace := ["internal/reflectlite.ValueOf", "(internal/reflectlite.Value).Type", "(internal/reflectlite.Value).IsNil", "internal/reflectlite.TypeOf", "(internal/reflectlite.Value).Elem", "(internal/reflectlite.Value).Set"], unfollowed := true, recurses := true, named := ["deponent/sha.start", "deponent/sha.words", "errors.errorType"], apart := false, laid := [("deponent/sha.start", laid_deponent_sha_start), ("deponent/sha.words", laid_deponent_sha_words), ("errors.errorType", laid_errors_errorType)] }
def ModelWrittenSaid : Prop := modelWrittenRow.holds Tryz.pinned (OpenSpec.ofChange modelWrittenSpec)

/-- ITS FALSE NEIGHBOUR: 'it returns false'. Refute it at one input. -/
def modelWrittenWrong : ChangeSpec := { name := "modelWritten", fn := fun _ => fun
  | [d1, d2] => { results := [.lit (.bool false)], args := [d1, d2] }
  | _ => none }
def ModelWrittenWrongFalsely : Prop := modelWrittenRow.holds Tryz.pinned (OpenSpec.ofChange modelWrittenWrong)

/-- 'deponentlaw20.ModelPlays': WHATEVER THE INPUT: true; the input reads as it did. -/
def modelPlaysSpec : ChangeSpec := { name := "modelPlays", fn := fun _ => fun
  | [d1, d2] => { results := [.lit (.bool true)], args := [d1, d2] }
  | _ => none }
def modelPlaysRow : OpenClaim := { program := "ythomgopipiomhaagreatdoor", sum := "87e9d09c0f5515ada18deda99e53e40670589c2794d225a223007dc5e91f90ca", func := "deponent/deponentlaw20.ModelPlays", spec := "modelPlays", inPlace := ["internal/reflectlite.ValueOf", "(internal/reflectlite.Value).Type", "(internal/reflectlite.Value).IsNil", "internal/reflectlite.TypeOf", "(internal/reflectlite.Value).Elem", "(internal/reflectlite.Value).Set"], unfollowed := true, recurses := true, named := ["deponent/sha.start", "deponent/sha.words", "errors.errorType"], apart := false, laid := [("deponent/sha.start", laid_deponent_sha_start), ("deponent/sha.words", laid_deponent_sha_words), ("errors.errorType", laid_errors_errorType)] }
def ModelPlaysSaid : Prop := modelPlaysRow.holds Tryz.pinned (OpenSpec.ofChange modelPlaysSpec)

/-- ITS FALSE NEIGHBOUR: 'it returns false'. Refute it at one input. -/
def modelPlaysWrong : ChangeSpec := { name := "modelPlays", fn := fun _ => fun
  | [d1, d2] => { results := [.lit (.bool false)], args := [d1, d2] }
  | _ => none }
def ModelPlaysWrongFalsely : Prop := modelPlaysRow.holds Tryz.pinned (OpenSpec.ofChange modelPlaysWrong)

/-- 'deponentlaw20.ModelFrom': WHATEVER THE INPUT: true; the input reads as it did. -/
def modelFromSpec : ChangeSpec := { name := "modelFrom", fn := fun _ => fun
  | [d1, d2, d3] => { results := [.lit (.bool true)], args := [d1, d2, d3] }
  | _ => none }
def modelFromRow : OpenClaim := { program := "ythomgopipiomhaagreatdoor", sum := "87e9d09c0f5515ada18deda99e53e40670589c2794d225a223007dc5e91f90ca", func := "deponent/deponentlaw20.ModelFrom", spec := "modelFrom", inPlace := ["internal/reflectlite.ValueOf", "(internal/reflectlite.Value).Type", "(internal/reflectlite.Value).IsNil", "internal/reflectlite.TypeOf", "(internal/reflectlite.Value).Elem", "(internal/reflectlite.Value).Set"], unfollowed := true, recurses := true, named := ["deponent/sha.start", "deponent/sha.words", "errors.errorType"], apart := false, laid := [("deponent/sha.start", laid_deponent_sha_start), ("deponent/sha.words", laid_deponent_sha_words), ("errors.errorType", laid_errors_errorType)] }
def ModelFromSaid : Prop := modelFromRow.holds Tryz.pinned (OpenSpec.ofChange modelFromSpec)

/-- ITS FALSE NEIGHBOUR: 'it returns false'. Refute it at one input. -/
def modelFromWrong : ChangeSpec := { name := "modelFrom", fn := fun _ => fun
  | [d1, d2, d3] => { results := [.lit (.bool false)], args := [d1, d2, d3] }
  | _ => none }
def ModelFromWrongFalsely : Prop := modelFromRow.holds Tryz.pinned (OpenSpec.ofChange modelFromWrong)

/-- 'deponentlaw20.ModelRefused': WHATEVER THE INPUT: true; the input reads as it did. -/
def modelRefusedSpec : ChangeSpec := { name := "modelRefused", fn := fun _ => fun
  | [d1, d2] => { results := [.lit (.bool true)], args := [d1, d2] }
  | _ => none }
def modelRefusedRow : OpenClaim := { program := "ythomgopipiomhaagreatdoor", sum := "87e9d09c0f5515ada18deda99e53e40670589c2794d225a223007dc5e91f90ca", func := "deponent/deponentlaw20.ModelRefused", spec := "modelRefused", inPlace := ["internal/reflectlite.ValueOf", "(internal/reflectlite.Value).Type", "(internal/reflectlite.Value).IsNil", "internal/reflectlite.TypeOf", "(internal/reflectlite.Value).Elem", "(internal/reflectlite.Value).Set"], unfollowed := true, recurses := true, named := ["deponent/sha.start", "deponent/sha.words", "errors.errorType"], apart := false, laid := [("deponent/sha.start", laid_deponent_sha_start), ("deponent/sha.words", laid_deponent_sha_words), ("errors.errorType", laid_errors_errorType)] }
def ModelRefusedSaid : Prop := modelRefusedRow.holds Tryz.pinned (OpenSpec.ofChange modelRefusedSpec)

/-- ITS FALSE NEIGHBOUR: 'it returns false'. Refute it at one input. -/
def modelRefusedWrong : ChangeSpec := { name := "modelRefused", fn := fun _ => fun
  | [d1, d2] => { results := [.lit (.bool false)], args := [d1, d2] }
  | _ => none }
def ModelRefusedWrongFalsely : Prop := modelRefusedRow.holds Tryz.pinned (OpenSpec.ofChange modelRefusedWrong)

/- THE SECOND FORM. 'bulk': how many values and letters a reading holds, each counted each time it is reached (what is shared counts as often as it is met; a slice's spare places count too). A statement '..UptoSaid' is the law's where the arguments, and the package variables that the reading takes, are together of bulk at most 1048576: NARROWER than '..Said'. Prove '..Said' where nothing that the law and all that it calls make is longer than what came in: it says more and counts as full. Else prove '..UptoSaid'. A law counts once. -/
mutual
def uptoBulk {H : Type} : DataW H → Nat
  | .lit (.string bytes) => bytes.length + 1
  | .lit _ => 1
  | .nil => 1
  | .ptr d => uptoBulk d + 1
  | .slice elems spare => uptoBulkAll elems + uptoBulkAll spare + 1
  | .agg parts => uptoBulkAll parts + 1
  | .iface _ d => uptoBulk d + 1
  | .map entries => uptoBulkEntries entries + 1
  | .held _ => 1
def uptoBulkAll {H : Type} : List (DataW H) → Nat
  | [] => 0
  | d :: r => uptoBulk d + uptoBulkAll r
def uptoBulkEntries {H : Type} : List (Lit × DataW H) → Nat
  | [] => 0
  | x :: r => uptoBulkEntry x + uptoBulkEntries r
def uptoBulkEntry {H : Type} : Lit × DataW H → Nat
  | (.string bytes, d) => bytes.length + uptoBulk d + 1
  | (_, d) => uptoBulk d + 1
 end
def uptoSmall : (H : Type) → List (DataW H) → Bool := fun _ ds => decide (uptoBulkAll ds ≤ 1048576)
def OpenSpec.upto (s : _root_.Go.ChangeSpec) : _root_.Go.OpenSpec := { _root_.Go.OpenSpec.ofChange s with cond := some uptoSmall }

/-- 'deponentlaw20.ModelAsks', WHERE WHAT IT READS IS OF BULK AT MOST 1048576: true; the input reads as it did. -/
def modelAsksUptoRow : OpenClaim := { program := "ythomgopipiomhaagreatdoor", sum := "87e9d09c0f5515ada18deda99e53e40670589c2794d225a223007dc5e91f90ca", func := "deponent/deponentlaw20.ModelAsks", spec := "modelAsks", inPlace := ["internal/reflectlite.ValueOf", "(internal/reflectlite.Value).Type", "(internal/reflectlite.Value).IsNil", "internal/reflectlite.TypeOf", "(internal/reflectlite.Value).Elem", "(internal/reflectlite.Value).Set"], unfollowed := true, recurses := true, named := ["deponent/sha.start", "deponent/sha.words", "errors.errorType"], apart := false, laid := [("deponent/sha.start", laid_deponent_sha_start), ("deponent/sha.words", laid_deponent_sha_words), ("errors.errorType", laid_errors_errorType)], narrowed := true }
def ModelAsksUptoSaid : Prop := modelAsksUptoRow.holds Tryz.pinned (OpenSpec.upto modelAsksSpec)

/-- 'deponentlaw20.ModelTurns', WHERE WHAT IT READS IS OF BULK AT MOST 1048576: true; the input reads as it did. -/
def modelTurnsUptoRow : OpenClaim := { program := "ythomgopipiomhaagreatdoor", sum := "87e9d09c0f5515ada18deda99e53e40670589c2794d225a223007dc5e91f90ca", func := "deponent/deponentlaw20.ModelTurns", spec := "modelTurns", inPlace := ["internal/reflectlite.ValueOf", "(internal/reflectlite.Value).Type", "(internal/reflectlite.Value).IsNil", "internal/reflectlite.TypeOf", "(internal/reflectlite.Value).Elem", "(internal/reflectlite.Value).Set"], unfollowed := true, recurses := true, named := ["deponent/sha.start", "deponent/sha.words", "errors.errorType"], apart := false, laid := [("deponent/sha.start", laid_deponent_sha_start), ("deponent/sha.words", laid_deponent_sha_words), ("errors.errorType", laid_errors_errorType)], narrowed := true }
def ModelTurnsUptoSaid : Prop := modelTurnsUptoRow.holds Tryz.pinned (OpenSpec.upto modelTurnsSpec)

/-- 'deponentlaw20.ModelNumbers', WHERE WHAT IT READS IS OF BULK AT MOST 1048576: true; the input reads as it did. -/
def modelNumbersUptoRow : OpenClaim := { program := "ythomgopipiomhaagreatdoor", sum := "87e9d09c0f5515ada18deda99e53e40670589c2794d225a223007dc5e91f90ca", func := "deponent/deponentlaw20.ModelNumbers", spec := "modelNumbers", inPlace := ["internal/reflectlite.ValueOf", "(internal/reflectlite.Value).Type", "(internal/reflectlite.Value).IsNil", "internal/reflectlite.TypeOf", "(internal/reflectlite.Value).Elem", "(internal/reflectlite.Value).Set"], unfollowed := true, recurses := true, named := ["deponent/sha.start", "deponent/sha.words", "errors.errorType"], apart := false, laid := [("deponent/sha.start", laid_deponent_sha_start), ("deponent/sha.words", laid_deponent_sha_words), ("errors.errorType", laid_errors_errorType)], narrowed := true }
def ModelNumbersUptoSaid : Prop := modelNumbersUptoRow.holds Tryz.pinned (OpenSpec.upto modelNumbersSpec)

/-- 'deponentlaw20.ModelStays', WHERE WHAT IT READS IS OF BULK AT MOST 1048576: true; the input reads as it did. -/
def modelStaysUptoRow : OpenClaim := { program := "ythomgopipiomhaagreatdoor", sum := "87e9d09c0f5515ada18deda99e53e40670589c2794d225a223007dc5e91f90ca", func := "deponent/deponentlaw20.ModelStays", spec := "modelStays", inPlace := ["internal/reflectlite.ValueOf", "(internal/reflectlite.Value).Type", "(internal/reflectlite.Value).IsNil", "internal/reflectlite.TypeOf", "(internal/reflectlite.Value).Elem", "(internal/reflectlite.Value).Set"], unfollowed := true, recurses := true, named := ["deponent/sha.start", "deponent/sha.words", "errors.errorType"], apart := false, laid := [("deponent/sha.start", laid_deponent_sha_start), ("deponent/sha.words", laid_deponent_sha_words), ("errors.errorType", laid_errors_errorType)], narrowed := true }
def ModelStaysUptoSaid : Prop := modelStaysUptoRow.holds Tryz.pinned (OpenSpec.upto modelStaysSpec)

/-- 'deponentlaw20.ModelLooks', WHERE WHAT IT READS IS OF BULK AT MOST 1048576: true; the input reads as it did. -/
def modelLooksUptoRow : OpenClaim := { program := "ythomgopipiomhaagreatdoor", sum := "87e9d09c0f5515ada18deda99e53e40670589c2794d225a223007dc5e91f90ca", func := "deponent/deponentlaw20.ModelLooks", spec := "modelLooks", inPlace := ["internal/reflectlite.ValueOf", "(internal/reflectlite.Value).Type", "(internal/reflectlite.Value).IsNil", "internal/reflectlite.TypeOf", "(internal/reflectlite.Value).Elem", "(internal/reflectlite.Value).Set"], unfollowed := true, recurses := true, named := ["deponent/sha.start", "deponent/sha.words", "errors.errorType"], apart := false, laid := [("deponent/sha.start", laid_deponent_sha_start), ("deponent/sha.words", laid_deponent_sha_words), ("errors.errorType", laid_errors_errorType)], narrowed := true }
def ModelLooksUptoSaid : Prop := modelLooksUptoRow.holds Tryz.pinned (OpenSpec.upto modelLooksSpec)

/-- 'deponentlaw20.ModelWritten', WHERE WHAT IT READS IS OF BULK AT MOST 1048576: true; the input reads as it did. -/
def modelWrittenUptoRow : OpenClaim := { program := "ythomgopipiomhaagreatdoor", sum := "87e9d09c0f5515ada18deda99e53e40670589c2794d225a223007dc5e91f90ca", func := "deponent/deponentlaw20.ModelWritten", spec := "modelWritten", inPlace := ["internal/reflectlite.ValueOf", "(internal/reflectlite.Value).Type", "(internal/reflectlite.Value).IsNil", "internal/reflectlite.TypeOf", "(internal/reflectlite.Value).Elem", "(internal/reflectlite.Value).Set"], unfollowed := true, recurses := true, named := ["deponent/sha.start", "deponent/sha.words", "errors.errorType"], apart := false, laid := [("deponent/sha.start", laid_deponent_sha_start), ("deponent/sha.words", laid_deponent_sha_words), ("errors.errorType", laid_errors_errorType)], narrowed := true }
def ModelWrittenUptoSaid : Prop := modelWrittenUptoRow.holds Tryz.pinned (OpenSpec.upto modelWrittenSpec)

/-- 'deponentlaw20.ModelPlays', WHERE WHAT IT READS IS OF BULK AT MOST 1048576: true; the input reads as it did. -/
def modelPlaysUptoRow : OpenClaim := { program := "ythomgopipiomhaagreatdoor", sum := "87e9d09c0f5515ada18deda99e53e40670589c2794d225a223007dc5e91f90ca", func := "deponent/deponentlaw20.ModelPlays", spec := "modelPlays", inPlace := ["internal/reflectlite.ValueOf", "(internal/reflectlite.Value).Type", "(internal/reflectlite.Value).IsNil", "internal/reflectlite.TypeOf", "(internal/reflectlite.Value).Elem", "(internal/reflectlite.Value).Set"], unfollowed := true, recurses := true, named := ["deponent/sha.start", "deponent/sha.words", "errors.errorType"], apart := false, laid := [("deponent/sha.start", laid_deponent_sha_start), ("deponent/sha.words", laid_deponent_sha_words), ("errors.errorType", laid_errors_errorType)], narrowed := true }
def ModelPlaysUptoSaid : Prop := modelPlaysUptoRow.holds Tryz.pinned (OpenSpec.upto modelPlaysSpec)

/-- 'deponentlaw20.ModelFrom', WHERE WHAT IT READS IS OF BULK AT MOST 1048576: true; the input reads as it did. -/
def modelFromUptoRow : OpenClaim := { program := "ythomgopipiomhaagreatdoor", sum := "87e9d09c0f5515ada18deda99e53e40670589c2794d225a223007dc5e91f90ca", func := "deponent/deponentlaw20.ModelFrom", spec := "modelFrom", inPlace := ["internal/reflectlite.ValueOf", "(internal/reflectlite.Value).Type", "(internal/reflectlite.Value).IsNil", "internal/reflectlite.TypeOf", "(internal/reflectlite.Value).Elem", "(internal/reflectlite.Value).Set"], unfollowed := true, recurses := true, named := ["deponent/sha.start", "deponent/sha.words", "errors.errorType"], apart := false, laid := [("deponent/sha.start", laid_deponent_sha_start), ("deponent/sha.words", laid_deponent_sha_words), ("errors.errorType", laid_errors_errorType)], narrowed := true }
def ModelFromUptoSaid : Prop := modelFromUptoRow.holds Tryz.pinned (OpenSpec.upto modelFromSpec)

/-- 'deponentlaw20.ModelRefused', WHERE WHAT IT READS IS OF BULK AT MOST 1048576: true; the input reads as it did. -/
def modelRefusedUptoRow : OpenClaim := { program := "ythomgopipiomhaagreatdoor", sum := "87e9d09c0f5515ada18deda99e53e40670589c2794d225a223007dc5e91f90ca", func := "deponent/deponentlaw20.ModelRefused", spec := "modelRefused", inPlace := ["internal/reflectlite.ValueOf", "(internal/reflectlite.Value).Type", "(internal/reflectlite.Value).IsNil", "internal/reflectlite.TypeOf", "(internal/reflectlite.Value).Elem", "(internal/reflectlite.Value).Set"], unfollowed := true, recurses := true, named := ["deponent/sha.start", "deponent/sha.words", "errors.errorType"], apart := false, laid := [("deponent/sha.start", laid_deponent_sha_start), ("deponent/sha.words", laid_deponent_sha_words), ("errors.errorType", laid_errors_errorType)], narrowed := true }
def ModelRefusedUptoSaid : Prop := modelRefusedUptoRow.holds Tryz.pinned (OpenSpec.upto modelRefusedSpec)

end Rows
end Go.Proofs.YthomgopipiomhaaGreatDoor
