/-
  sha's two tables, out of what a row lists.
-/
import Derived.Test.YtamhggndcegndaaDoorRows
import Derived.Test.YtamhggndcegndaaDoorMix
import Derived.Lib.LaidTab
import Derived.Stop.LaidErr
import Derived.LaidHandle
namespace Go.Proofs.YtamhggndcegndaaDoor
open Go.RowKit
set_option linter.unusedVariables false
set_option maxRecDepth 100000

theorem gStart : Tryd.prog.globalNamed "deponent/sha.start" = some 1 := by kernel_rfl

theorem gStartType : (Tryd.prog.globals[1]?).map (·.type) = some 76 := by kernel_rfl

theorem gWords : Tryd.prog.globalNamed "deponent/sha.words" = some 2 := by kernel_rfl

theorem gWordsType : (Tryd.prog.globals[2]?).map (·.type) = some 75 := by kernel_rfl

theorem cells8 : Tryd.prog.cellsOf 76 = 8 := by kernel_rfl

theorem cells64 : Tryd.prog.cellsOf 75 = 64 := by kernel_rfl

theorem cellsU32 : Tryd.prog.cellsOf 22 = 1 := by kernel_rfl

/-- Other cells in a block. -/
def layCells (cs : Array Value) : Obj → Obj
  | .cells _ t frozen => .cells cs t frozen
  | o => o

/-- The two tables stand first on the row's list. -/
theorem tabs_of_met {W : World} {r : List (String × DataW Unit)} (h : laidMet Tryd.prog (("deponent/sha.start", Rows.laid_deponent_sha_start) :: ("deponent/sha.words", Rows.laid_deponent_sha_words) :: r) W) : Tabs W := by
  have h1 : Lib.TabIs Tryd.prog W "deponent/sha.start" .u32 (start0.list.map fun n : Nat => (n : Int)) := Lib.tabIs_of_head gStart gStartType Tryd.underlying76 Tryd.underlying22 cellsU32 cells8 h
  have h2 : Lib.TabIs Tryd.prog W "deponent/sha.words" .u32 (Kt.map fun n : Nat => (n : Int)) := Lib.tabIs_of_head gWords gWordsType Tryd.underlying75 Tryd.underlying22 cellsU32 cells64 (laidMet.tail h)
  have c1 : ∀ i, i < 8 → W.cell? ⟨1, i, none⟩ = some (.int .u32 ((start0.list.getD i 0 : Nat) : Int)) := fun i hi => by
    have := h1.cell gStart i (by simpa [St.list] using hi)
    rw [this]
    congr 2
    simp only [List.getD_eq_getElem?_getD, List.getElem?_map]
    cases start0.list[i]? <;> rfl
  have c2 : ∀ i, i < 64 → W.cell? ⟨2, i, none⟩ = some (.int .u32 ((Kt.getD i 0 : Nat) : Int)) := fun i hi => by
    have := h2.cell gWords i (by simpa [Kt] using hi)
    rw [this]
    congr 2
    simp only [List.getD_eq_getElem?_getD, List.getElem?_map]
    cases Kt[i]? <;> rfl
  refine ⟨World.block_lt_of_cell? _ _ (c2 0 (by decide)), fun i hi => ?_, c2⟩
  rw [c1 i hi, St.vals_list, list_cell (by simpa [St.list] using hi)]

theorem tabs_of_laid {W : World} (h : laidMetH Tryd.prog [("deponent/sha.start", Rows.laid_deponent_sha_start), ("deponent/sha.words", Rows.laid_deponent_sha_words)] W) : Tabs W := tabs_of_met (r := []) h

theorem etGlobal : Tryd.prog.globalNamed "errors.errorType" = some 0 := by kernel_rfl

theorem rtType : (Tryd.prog.cutTypes.find? (·.1 == "internal/reflectlite.rtype")).map (·.2) = some 152 := by kernel_rfl

theorem etRow : ((List.range 198).filter fun t => Tryd.prog.rowNamed t [101, 114, 114, 111, 114]) = [61] := by kernel_rfl

theorem etSize : Tryd.prog.types.size = 198 := by kernel_rfl

theorem handle_of {r : List (String × DataW Unit)} {W : World} (h : handlesMet Tryd.prog (("errors.errorType", Rows.laid_errors_errorType) :: r) W) : W.cell? ⟨0, 0, none⟩ = some (.iface 152 (.agg #[.pointer (some ⟨3, 61, none⟩)])) := by
  obtain ⟨name, u, ty, e1, e2, e3, e4, e5⟩ := h _ (List.mem_cons_self ..)
  have en : name = [101, 114, 114, 111, 114] := (Option.some.inj e1).symm
  subst en
  obtain rfl := Option.some.inj (rtType.symm.trans e2)
  have hm : ty ∈ (List.range 198).filter fun t => Tryd.prog.rowNamed t [101, 114, 114, 111, 114] := List.mem_filter.2 ⟨List.mem_range.2 (by rw [← etSize]; exact e3), e4⟩
  rw [etRow] at hm
  obtain rfl := List.mem_singleton.1 hm
  have hh : typeHandle Tryd.prog 61 = .pointer (some ⟨3, 61, none⟩) := by kernel_rfl
  rw [hh] at e5
  simpa using World.var?_cell etGlobal e5 0

theorem tabs_of_laid3 {W : World} (h : laidMetH Tryd.prog [("deponent/sha.start", Rows.laid_deponent_sha_start), ("deponent/sha.words", Rows.laid_deponent_sha_words), ("errors.errorType", Rows.laid_errors_errorType)] W) :
    Tabs W ∧ W.cell? ⟨0, 0, none⟩ = some (.iface 152 (.agg #[.pointer (some ⟨3, 61, none⟩)])) := by
  have h' : laidMet Tryd.prog [("deponent/sha.start", Rows.laid_deponent_sha_start), ("deponent/sha.words", Rows.laid_deponent_sha_words)] W ∧ handlesMet Tryd.prog [("errors.errorType", Rows.laid_errors_errorType)] W := h
  exact ⟨tabs_of_met (r := []) h'.1, handle_of h'.2⟩

end Go.Proofs.YtamhggndcegndaaDoor
