/-
  errors.errorType, out of what a row lists.
-/
import Derived.Test.YtamhggndcegndaaDoorRows
import Derived.Test.YtamhggndcegndaaDoorChecked
import Derived.RowKit
import Derived.RowKitTokens
import Derived.LaidLaws
import Derived.LaidHandle
import Derived.Stop.Joined
import Derived.Lib.LaidTab
namespace Go.Proofs.YtamhggndcegndaaDoor
open Go.RowKit
set_option linter.unusedVariables false
set_option maxRecDepth 100000

/-- Other cells in a block. -/
def layCells (cs : Array Value) : Obj → Obj
  | .cells _ t frozen => .cells cs t frozen
  | o => o

theorem etGlobal : Tryd.prog.globalNamed "errors.errorType" = some 0 := by kernel_rfl

theorem rtType : (Tryd.prog.cutTypes.find? (·.1 == "internal/reflectlite.rtype")).map (·.2) = some 152 := by kernel_rfl

theorem etRow : ((List.range 198).filter fun t => Tryd.prog.rowNamed t [101, 114, 114, 111, 114]) = [61] := by kernel_rfl

theorem etSize : Tryd.prog.types.size = 198 := by kernel_rfl

theorem handle_of {r : List (String × DataW Unit)} {W : World} (h : handlesMet Tryd.prog (("errors.errorType", Rows.laid_errors_errorType) :: r) W) : W.cell? ⟨0, 0, none⟩ = some (.iface 152 (.agg #[.pointer (some ⟨3, 61, none⟩)])) := by
  obtain ⟨name, u, ty, e1, e2, e3, e4, e5⟩ := h _ (List.mem_cons_self ..)
  have en : name = [101, 114, 114, 111, 114] := (Option.some.inj e1).symm
  subst en
  obtain rfl := Option.some.inj (rtType.symm.trans e2)
  have hm : ty ∈ (List.range 198).filter fun t => Tryd.prog.rowNamed t [101, 114, 114, 111, 114] := List.mem_filter.2 ⟨List.mem_range.2 (by rw [← etSize]; exact e3), e4⟩
  rw [etRow] at hm
  obtain rfl := List.mem_singleton.1 hm
  have hh : typeHandle Tryd.prog 61 = .pointer (some ⟨3, 61, none⟩) := by kernel_rfl
  rw [hh] at e5
  simpa using World.var?_cell etGlobal e5 0

theorem handle_of_laid1 {W : World} (h : laidMetH Tryd.prog [("errors.errorType", Rows.laid_errors_errorType)] W) : W.cell? ⟨0, 0, none⟩ = some (.iface 152 (.agg #[.pointer (some ⟨3, 61, none⟩)])) := by
  have h' : laidMet Tryd.prog [] W ∧ handlesMet Tryd.prog [("errors.errorType", Rows.laid_errors_errorType)] W := h
  exact handle_of h'.2

end Go.Proofs.YtamhggndcegndaaDoor
