/-
  sha's two tables, out of what a row lists.
-/
import Derived.Test.YtamhggndcegndaaDoorRows
import Derived.Test.YtamhggndcegndaaDoorMix
import Derived.Test.YtamhggndcegndaaDoorLaidE
import Derived.Lib.LaidTab
import Derived.Stop.LaidErr
import Derived.LaidHandle
namespace Go.Proofs.YtamhggndcegndaaDoor
open Go.RowKit
set_option linter.unusedVariables false
set_option maxRecDepth 100000

theorem gStart : Tryd.prog.globalNamed "deponent/sha.start" = some 1 := by kernel_rfl

theorem gStartType : (Tryd.prog.globals[1]?).map (·.type) = some 76 := by kernel_rfl

theorem gWords : Tryd.prog.globalNamed "deponent/sha.words" = some 2 := by kernel_rfl

theorem gWordsType : (Tryd.prog.globals[2]?).map (·.type) = some 75 := by kernel_rfl

theorem cells8 : Tryd.prog.cellsOf 76 = 8 := by kernel_rfl

theorem cells64 : Tryd.prog.cellsOf 75 = 64 := by kernel_rfl

theorem cellsU32 : Tryd.prog.cellsOf 22 = 1 := by kernel_rfl

/-- The two tables stand first on the row's list. -/
theorem tabs_of_met {W : World} {r : List (String × DataW Unit)} (h : laidMet Tryd.prog (("deponent/sha.start", Rows.laid_deponent_sha_start) :: ("deponent/sha.words", Rows.laid_deponent_sha_words) :: r) W) : Tabs W := by
  have h1 : Lib.TabIs Tryd.prog W "deponent/sha.start" .u32 (start0.list.map fun n : Nat => (n : Int)) := Lib.tabIs_of_head gStart gStartType Tryd.underlying76 Tryd.underlying22 cellsU32 cells8 h
  have h2 : Lib.TabIs Tryd.prog W "deponent/sha.words" .u32 (Kt.map fun n : Nat => (n : Int)) := Lib.tabIs_of_head gWords gWordsType Tryd.underlying75 Tryd.underlying22 cellsU32 cells64 (laidMet.tail h)
  have c1 : ∀ i, i < 8 → W.cell? ⟨1, i, none⟩ = some (.int .u32 ((start0.list.getD i 0 : Nat) : Int)) := fun i hi => by
    have := h1.cell gStart i (by simpa [St.list] using hi)
    rw [this]
    congr 2
    simp only [List.getD_eq_getElem?_getD, List.getElem?_map]
    cases start0.list[i]? <;> rfl
  have c2 : ∀ i, i < 64 → W.cell? ⟨2, i, none⟩ = some (.int .u32 ((Kt.getD i 0 : Nat) : Int)) := fun i hi => by
    have := h2.cell gWords i (by simpa [Kt] using hi)
    rw [this]
    congr 2
    simp only [List.getD_eq_getElem?_getD, List.getElem?_map]
    cases Kt[i]? <;> rfl
  refine ⟨World.block_lt_of_cell? _ _ (c2 0 (by decide)), fun i hi => ?_, c2⟩
  rw [c1 i hi, St.vals_list, list_cell (by simpa [St.list] using hi)]

theorem tabs_of_laid {W : World} (h : laidMetH Tryd.prog [("deponent/sha.start", Rows.laid_deponent_sha_start), ("deponent/sha.words", Rows.laid_deponent_sha_words)] W) : Tabs W := tabs_of_met (r := []) h

theorem tabs_of_laid3 {W : World} (h : laidMetH Tryd.prog [("deponent/sha.start", Rows.laid_deponent_sha_start), ("deponent/sha.words", Rows.laid_deponent_sha_words), ("errors.errorType", Rows.laid_errors_errorType)] W) :
    Tabs W ∧ W.cell? ⟨0, 0, none⟩ = some (.iface 152 (.agg #[.pointer (some ⟨3, 61, none⟩)])) := by
  have h' : laidMet Tryd.prog [("deponent/sha.start", Rows.laid_deponent_sha_start), ("deponent/sha.words", Rows.laid_deponent_sha_words)] W ∧ handlesMet Tryd.prog [("errors.errorType", Rows.laid_errors_errorType)] W := h
  exact ⟨tabs_of_met (r := []) h'.1, handle_of h'.2⟩

end Go.Proofs.YtamhggndcegndaaDoor
