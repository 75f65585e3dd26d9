/-
  No cell of these rows narrows 'for every input' (looked for: loops, veiled, ifaces, maps, wideKeys, modest, calm, conditions, laid).
  DERIVED. THE GIVEN ROWS OF THIS SEAT. 8 by the template 'for every input the law returns true; each argument reads behind the call as it read before'; 0 by the template 'total and deterministic' (their statements: YtfgmhapbanbmfaaTotals.lean).
  GIVEN WITH THE SEED: the statements are not yours to turn. If you find one false, say at which input.
  Laid BY PROGRAM, IN A SANDBOX (cutbox-rows.mjs): the forced cells as the released guide's own fill.sh prints them over the translation f3c487ee83a41d2f… (all of the seat's roots in one cut). By AI agents, Wed Nov 11 2026. No macro, syntax, notation, axiom, sorry.
-/
import Derived.Test.YtfgmhapbanbmfaaChecked
import GoSem.Claim
import GoSem.ClaimJoined
import GoSem.ClaimMapViews
import Derived.JoinedTies
import Derived.KernelRfl
namespace Go.Proofs.Ytfgmhapbanbmfaa
/- THE CELL 'sum', in the pinned program and in every row, IS THE sha256 OF THE DUMP (.gsa) THAT YtfgmhapbanbmfaaProg.lean LOADS. Nothing in Lean hashes anything: it is a label: what it is worth is what the hold of that sum in a sandbox is worth. -/
noncomputable def Try.pinned : Pinned := { name := "ytfgmhapbanbmfaa", sum := "f3c487ee83a41d2faf18b4f8a18d23685879409fffc59de2663edeaa7a8fcded", checked := Try.checked }
namespace Rows
def none {H : Type} : Left H := { results := [], args := [] }

/-- 'deponentlaw17.LifePaths': WHATEVER THE INPUT: true; the input reads as it did. -/
def lifePathsSpec : ChangeSpec := { name := "lifePaths", fn := fun _ => fun
  | [d1, d2] => { results := [.lit (.bool true)], args := [d1, d2] }
  | _ => none }
def lifePathsRow : OpenClaim := { program := "ytfgmhapbanbmfaa", sum := "f3c487ee83a41d2faf18b4f8a18d23685879409fffc59de2663edeaa7a8fcded", func := "deponent/deponentlaw17.LifePaths", spec := "lifePaths", apart := false }
def LifePathsSaid : Prop := lifePathsRow.holds Try.pinned (OpenSpec.ofChange lifePathsSpec)

/-- ITS FALSE NEIGHBOUR: 'it returns false'. Refute it at one input. -/
def lifePathsWrong : ChangeSpec := { name := "lifePaths", fn := fun _ => fun
  | [d1, d2] => { results := [.lit (.bool false)], args := [d1, d2] }
  | _ => none }
def LifePathsWrongFalsely : Prop := lifePathsRow.holds Try.pinned (OpenSpec.ofChange lifePathsWrong)

/-- 'deponentlaw17.LifeMay': WHATEVER THE INPUT: true; the input reads as it did. -/
def lifeMaySpec : ChangeSpec := { name := "lifeMay", fn := fun _ => fun
  | [d1, d2, d3] => { results := [.lit (.bool true)], args := [d1, d2, d3] }
  | _ => none }
def lifeMayRow : OpenClaim := { program := "ytfgmhapbanbmfaa", sum := "f3c487ee83a41d2faf18b4f8a18d23685879409fffc59de2663edeaa7a8fcded", func := "deponent/deponentlaw17.LifeMay", spec := "lifeMay", apart := false }
def LifeMaySaid : Prop := lifeMayRow.holds Try.pinned (OpenSpec.ofChange lifeMaySpec)

/-- ITS FALSE NEIGHBOUR: 'it returns false'. Refute it at one input. -/
def lifeMayWrong : ChangeSpec := { name := "lifeMay", fn := fun _ => fun
  | [d1, d2, d3] => { results := [.lit (.bool false)], args := [d1, d2, d3] }
  | _ => none }
def LifeMayWrongFalsely : Prop := lifeMayRow.holds Try.pinned (OpenSpec.ofChange lifeMayWrong)

/-- 'deponentlaw17.LifeNumbers': WHATEVER THE INPUT: true; the input reads as it did. -/
def lifeNumbersSpec : ChangeSpec := { name := "lifeNumbers", fn := fun _ => fun
  | [] => { results := [.lit (.bool true)], args := [] }
  | _ => none }
def lifeNumbersRow : OpenClaim := { program := "ytfgmhapbanbmfaa", sum := "f3c487ee83a41d2faf18b4f8a18d23685879409fffc59de2663edeaa7a8fcded", func := "deponent/deponentlaw17.LifeNumbers", spec := "lifeNumbers", apart := false }
def LifeNumbersSaid : Prop := lifeNumbersRow.holds Try.pinned (OpenSpec.ofChange lifeNumbersSpec)

/-- ITS FALSE NEIGHBOUR: 'it returns false'. Refute it at one input. -/
def lifeNumbersWrong : ChangeSpec := { name := "lifeNumbers", fn := fun _ => fun
  | [] => { results := [.lit (.bool false)], args := [] }
  | _ => none }
def LifeNumbersWrongFalsely : Prop := lifeNumbersRow.holds Try.pinned (OpenSpec.ofChange lifeNumbersWrong)

/-- 'deponentlaw17.LifeEnds': WHATEVER THE INPUT: true; the input reads as it did. -/
def lifeEndsSpec : ChangeSpec := { name := "lifeEnds", fn := fun _ => fun
  | [d1, d2] => { results := [.lit (.bool true)], args := [d1, d2] }
  | _ => none }
def lifeEndsRow : OpenClaim := { program := "ytfgmhapbanbmfaa", sum := "f3c487ee83a41d2faf18b4f8a18d23685879409fffc59de2663edeaa7a8fcded", func := "deponent/deponentlaw17.LifeEnds", spec := "lifeEnds", apart := false }
def LifeEndsSaid : Prop := lifeEndsRow.holds Try.pinned (OpenSpec.ofChange lifeEndsSpec)

/-- ITS FALSE NEIGHBOUR: 'it returns false'. Refute it at one input. -/
def lifeEndsWrong : ChangeSpec := { name := "lifeEnds", fn := fun _ => fun
  | [d1, d2] => { results := [.lit (.bool false)], args := [d1, d2] }
  | _ => none }
def LifeEndsWrongFalsely : Prop := lifeEndsRow.holds Try.pinned (OpenSpec.ofChange lifeEndsWrong)

/-- 'deponentlaw14.QuotaNumbers': WHATEVER THE INPUT: true; the input reads as it did. -/
def quotaNumbersSpec : ChangeSpec := { name := "quotaNumbers", fn := fun _ => fun
  | [] => { results := [.lit (.bool true)], args := [] }
  | _ => none }
def quotaNumbersRow : OpenClaim := { program := "ytfgmhapbanbmfaa", sum := "f3c487ee83a41d2faf18b4f8a18d23685879409fffc59de2663edeaa7a8fcded", func := "deponent/deponentlaw14.QuotaNumbers", spec := "quotaNumbers", apart := false }
def QuotaNumbersSaid : Prop := quotaNumbersRow.holds Try.pinned (OpenSpec.ofChange quotaNumbersSpec)

/-- ITS FALSE NEIGHBOUR: 'it returns false'. Refute it at one input. -/
def quotaNumbersWrong : ChangeSpec := { name := "quotaNumbers", fn := fun _ => fun
  | [] => { results := [.lit (.bool false)], args := [] }
  | _ => none }
def QuotaNumbersWrongFalsely : Prop := quotaNumbersRow.holds Try.pinned (OpenSpec.ofChange quotaNumbersWrong)

/-- 'deponentlaw14.QuotaReckons': WHATEVER THE INPUT: true; the input reads as it did. -/
def quotaReckonsSpec : ChangeSpec := { name := "quotaReckons", fn := fun _ => fun
  | [d1, d2, d3, d4, d5, d6, d7] => { results := [.lit (.bool true)], args := [d1, d2, d3, d4, d5, d6, d7] }
  | _ => none }
def quotaReckonsRow : OpenClaim := { program := "ytfgmhapbanbmfaa", sum := "f3c487ee83a41d2faf18b4f8a18d23685879409fffc59de2663edeaa7a8fcded", func := "deponent/deponentlaw14.QuotaReckons", spec := "quotaReckons", apart := false }
def QuotaReckonsSaid : Prop := quotaReckonsRow.holds Try.pinned (OpenSpec.ofChange quotaReckonsSpec)

/-- ITS FALSE NEIGHBOUR: 'it returns false'. Refute it at one input. -/
def quotaReckonsWrong : ChangeSpec := { name := "quotaReckons", fn := fun _ => fun
  | [d1, d2, d3, d4, d5, d6, d7] => { results := [.lit (.bool false)], args := [d1, d2, d3, d4, d5, d6, d7] }
  | _ => none }
def QuotaReckonsWrongFalsely : Prop := quotaReckonsRow.holds Try.pinned (OpenSpec.ofChange quotaReckonsWrong)

/-- 'deponentlaw14.QuotaTicks': WHATEVER THE INPUT: true; the input reads as it did. -/
def quotaTicksSpec : ChangeSpec := { name := "quotaTicks", fn := fun _ => fun
  | [d1, d2, d3, d4] => { results := [.lit (.bool true)], args := [d1, d2, d3, d4] }
  | _ => none }
def quotaTicksRow : OpenClaim := { program := "ytfgmhapbanbmfaa", sum := "f3c487ee83a41d2faf18b4f8a18d23685879409fffc59de2663edeaa7a8fcded", func := "deponent/deponentlaw14.QuotaTicks", spec := "quotaTicks", apart := false }
def QuotaTicksSaid : Prop := quotaTicksRow.holds Try.pinned (OpenSpec.ofChange quotaTicksSpec)

/-- ITS FALSE NEIGHBOUR: 'it returns false'. Refute it at one input. -/
def quotaTicksWrong : ChangeSpec := { name := "quotaTicks", fn := fun _ => fun
  | [d1, d2, d3, d4] => { results := [.lit (.bool false)], args := [d1, d2, d3, d4] }
  | _ => none }
def QuotaTicksWrongFalsely : Prop := quotaTicksRow.holds Try.pinned (OpenSpec.ofChange quotaTicksWrong)

/-- 'deponentlaw14.QuotaRate': WHATEVER THE INPUT: true; the input reads as it did. -/
def quotaRateSpec : ChangeSpec := { name := "quotaRate", fn := fun _ => fun
  | [d1, d2, d3] => { results := [.lit (.bool true)], args := [d1, d2, d3] }
  | _ => none }
def quotaRateRow : OpenClaim := { program := "ytfgmhapbanbmfaa", sum := "f3c487ee83a41d2faf18b4f8a18d23685879409fffc59de2663edeaa7a8fcded", func := "deponent/deponentlaw14.QuotaRate", spec := "quotaRate", apart := false }
def QuotaRateSaid : Prop := quotaRateRow.holds Try.pinned (OpenSpec.ofChange quotaRateSpec)

/-- ITS FALSE NEIGHBOUR: 'it returns false'. Refute it at one input. -/
def quotaRateWrong : ChangeSpec := { name := "quotaRate", fn := fun _ => fun
  | [d1, d2, d3] => { results := [.lit (.bool false)], args := [d1, d2, d3] }
  | _ => none }
def QuotaRateWrongFalsely : Prop := quotaRateRow.holds Try.pinned (OpenSpec.ofChange quotaRateWrong)

/- THE SECOND FORM. 'bulk': how many values and letters a reading holds, each counted each time it is reached (what is shared counts as often as it is met; a slice's spare places count too). A statement '..UptoSaid' is the law's where the arguments, and the package variables that the reading takes, are together of bulk at most 1048576: NARROWER than '..Said'. Prove '..Said' where nothing that the law and all that it calls make is longer than what came in: it says more and counts as full. Else prove '..UptoSaid'. A law counts once. -/
mutual
def uptoBulk {H : Type} : DataW H → Nat
  | .lit (.string bytes) => bytes.length + 1
  | .lit _ => 1
  | .nil => 1
  | .ptr d => uptoBulk d + 1
  | .slice elems spare => uptoBulkAll elems + uptoBulkAll spare + 1
  | .agg parts => uptoBulkAll parts + 1
  | .iface _ d => uptoBulk d + 1
  | .map entries => uptoBulkEntries entries + 1
  | .held _ => 1
def uptoBulkAll {H : Type} : List (DataW H) → Nat
  | [] => 0
  | d :: r => uptoBulk d + uptoBulkAll r
def uptoBulkEntries {H : Type} : List (Lit × DataW H) → Nat
  | [] => 0
  | x :: r => uptoBulkEntry x + uptoBulkEntries r
def uptoBulkEntry {H : Type} : Lit × DataW H → Nat
  | (.string bytes, d) => bytes.length + uptoBulk d + 1
  | (_, d) => uptoBulk d + 1
 end
def uptoSmall : (H : Type) → List (DataW H) → Bool := fun _ ds => decide (uptoBulkAll ds ≤ 1048576)
def OpenSpec.upto (s : _root_.Go.ChangeSpec) : _root_.Go.OpenSpec := { _root_.Go.OpenSpec.ofChange s with cond := some uptoSmall }

/-- 'deponentlaw17.LifePaths', WHERE WHAT IT READS IS OF BULK AT MOST 1048576: true; the input reads as it did. -/
def lifePathsUptoRow : OpenClaim := { program := "ytfgmhapbanbmfaa", sum := "f3c487ee83a41d2faf18b4f8a18d23685879409fffc59de2663edeaa7a8fcded", func := "deponent/deponentlaw17.LifePaths", spec := "lifePaths", apart := false, narrowed := true }
def LifePathsUptoSaid : Prop := lifePathsUptoRow.holds Try.pinned (OpenSpec.upto lifePathsSpec)

/-- 'deponentlaw17.LifeMay', WHERE WHAT IT READS IS OF BULK AT MOST 1048576: true; the input reads as it did. -/
def lifeMayUptoRow : OpenClaim := { program := "ytfgmhapbanbmfaa", sum := "f3c487ee83a41d2faf18b4f8a18d23685879409fffc59de2663edeaa7a8fcded", func := "deponent/deponentlaw17.LifeMay", spec := "lifeMay", apart := false, narrowed := true }
def LifeMayUptoSaid : Prop := lifeMayUptoRow.holds Try.pinned (OpenSpec.upto lifeMaySpec)

/-- 'deponentlaw17.LifeNumbers', WHERE WHAT IT READS IS OF BULK AT MOST 1048576: true; the input reads as it did. -/
def lifeNumbersUptoRow : OpenClaim := { program := "ytfgmhapbanbmfaa", sum := "f3c487ee83a41d2faf18b4f8a18d23685879409fffc59de2663edeaa7a8fcded", func := "deponent/deponentlaw17.LifeNumbers", spec := "lifeNumbers", apart := false, narrowed := true }
def LifeNumbersUptoSaid : Prop := lifeNumbersUptoRow.holds Try.pinned (OpenSpec.upto lifeNumbersSpec)

/-- 'deponentlaw17.LifeEnds', WHERE WHAT IT READS IS OF BULK AT MOST 1048576: true; the input reads as it did. -/
def lifeEndsUptoRow : OpenClaim := { program := "ytfgmhapbanbmfaa", sum := "f3c487ee83a41d2faf18b4f8a18d23685879409fffc59de2663edeaa7a8fcded", func := "deponent/deponentlaw17.LifeEnds", spec := "lifeEnds", apart := false, narrowed := true }
def LifeEndsUptoSaid : Prop := lifeEndsUptoRow.holds Try.pinned (OpenSpec.upto lifeEndsSpec)

/-- 'deponentlaw14.QuotaNumbers', WHERE WHAT IT READS IS OF BULK AT MOST 1048576: true; the input reads as it did. -/
def quotaNumbersUptoRow : OpenClaim := { program := "ytfgmhapbanbmfaa", sum := "f3c487ee83a41d2faf18b4f8a18d23685879409fffc59de2663edeaa7a8fcded", func := "deponent/deponentlaw14.QuotaNumbers", spec := "quotaNumbers", apart := false, narrowed := true }
def QuotaNumbersUptoSaid : Prop := quotaNumbersUptoRow.holds Try.pinned (OpenSpec.upto quotaNumbersSpec)

/-- 'deponentlaw14.QuotaReckons', WHERE WHAT IT READS IS OF BULK AT MOST 1048576: true; the input reads as it did. -/
def quotaReckonsUptoRow : OpenClaim := { program := "ytfgmhapbanbmfaa", sum := "f3c487ee83a41d2faf18b4f8a18d23685879409fffc59de2663edeaa7a8fcded", func := "deponent/deponentlaw14.QuotaReckons", spec := "quotaReckons", apart := false, narrowed := true }
def QuotaReckonsUptoSaid : Prop := quotaReckonsUptoRow.holds Try.pinned (OpenSpec.upto quotaReckonsSpec)

/-- 'deponentlaw14.QuotaTicks', WHERE WHAT IT READS IS OF BULK AT MOST 1048576: true; the input reads as it did. -/
def quotaTicksUptoRow : OpenClaim := { program := "ytfgmhapbanbmfaa", sum := "f3c487ee83a41d2faf18b4f8a18d23685879409fffc59de2663edeaa7a8fcded", func := "deponent/deponentlaw14.QuotaTicks", spec := "quotaTicks", apart := false, narrowed := true }
def QuotaTicksUptoSaid : Prop := quotaTicksUptoRow.holds Try.pinned (OpenSpec.upto quotaTicksSpec)

/-- 'deponentlaw14.QuotaRate', WHERE WHAT IT READS IS OF BULK AT MOST 1048576: true; the input reads as it did. -/
def quotaRateUptoRow : OpenClaim := { program := "ytfgmhapbanbmfaa", sum := "f3c487ee83a41d2faf18b4f8a18d23685879409fffc59de2663edeaa7a8fcded", func := "deponent/deponentlaw14.QuotaRate", spec := "quotaRate", apart := false, narrowed := true }
def QuotaRateUptoSaid : Prop := quotaRateUptoRow.holds Try.pinned (OpenSpec.upto quotaRateSpec)

end Rows
end Go.Proofs.Ytfgmhapbanbmfaa
