/-
  A slice literal of one byte that nobody looks at.
-/
import Derived.Test.YtamhggndcegndaaDoorOwn
import Derived.Great.BuildSlice
namespace Go.Proofs.YtamhggndcegndaaDoor
open Go.RowKit
set_option linter.unusedVariables false

theorem fill_byte (b : Int) (cells : Array Value) (hc : cells.size = 1) : Instr.fill (fun i => some (i * 1, 1)) cells [(0, .int .u8 b)] = some #[.int .u8 b] := by
  obtain ⟨l⟩ := cells
  cases l with
  | nil => simp at hc
  | cons x l =>
    cases l with
    | nil => simp [Instr.fill, Value.cells]
    | cons y l => simp at hc

theorem wp_build_byte {o : Oper} {a : Act} {w : World} {K : Act → World → Prop} {Q : Exit → Act → World → Prop} (x : Operand) (ho : o.op = .buildSlice 57 1 #[(0, x)])
    (b : Int) (hx : a.eval x = .int .u8 b)
    (h : K (a.put o.dst (.slice (some ⟨w.heap.size, 0, none⟩) 1 1)) (w.alloc (.cells #[.int .u8 b] 5))) : o.wp Tryd.prog a w K Q := by
  obtain ⟨i0, hi0, hz0, hz1, hz2⟩ := info_parts Tryd.u8_info
  refine wp_buildSlice 57 5 1 #[(0, x)] ho #[.int .u8 b] i0 _ Tryd.underlying57 hi0 hz0 (by rw [hz1]; omega) (by rw [hz1]; omega) ?_ h
  rw [hz1]
  simp only [List.map_toArray, List.map_cons, List.map_nil, hx]
  exact fill_byte b _ (by simp)

theorem reads_blk1 {w : World} {g : Nat} {b : Nat} (h : Blk w g 5 #[.int .u8 (b : Int)]) : Reads w w.heap.size 1 (some ⟨g, 0, none⟩) 1 (byv [b]) := by
  refine ⟨rfl, fun _ => ⟨_, rfl, h.lt, fun j u hu => ?_⟩⟩
  rw [Addr.add_mid, h.cell (0 + j)]
  simpa [byv] using hu

end Go.Proofs.YtamhggndcegndaaDoor
