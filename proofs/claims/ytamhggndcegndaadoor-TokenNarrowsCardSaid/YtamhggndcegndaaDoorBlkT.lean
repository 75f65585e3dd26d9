/-
  deponentref1.turn, and the plain part of a block.
-/
import Derived.Test.YtamhggndcegndaaDoorRootU
namespace Go.Proofs.YtamhggndcegndaaDoor
open Go.RowKit
set_option linter.unusedVariables false
set_option maxRecDepth 100000

theorem ref1_turn (x a : Nat) (w : World) (h : x < 4294967296) (a1 : 1 ≤ a) (a2 : a ≤ 31) :
    Calls Tryd.prog 88 #[.int .u32 x, .int .u64 a] w fun e w' => e = .returned (.int .u32 (rotr x a)) ∧ w = w' := by
  obtain ⟨s, hs⟩ : ∃ s, 32 - a = s := ⟨_, rfl⟩
  have hb : IntKind.u64.wrap (32 - (a : Int)) = (s : Int) := by rw [show (32 - (a : Int)) = (s : Int) by omega]; exact IntWalk.u64_in _ (by omega)
  have hs2 : s ≤ 31 := by omega
  have hs3 : 1 ≤ s := by omega
  have hm : min s 32 = s := Nat.min_eq_left (by omega)
  have ha : min a 32 = a := Nat.min_eq_left (by omega)
  have HS := Lib.hid hs
  clear hs
  go_enter Tryd.func88, Tryd.ntmps88
  go_wp2
  go_ret
  refine ⟨?_, rfl⟩
  have HS' : 32 - a = s := HS
  have e1 : ((x : Int) * 2 ^ s % 4294967296) = ((x * 2 ^ s % 4294967296 : Nat) : Int) := by
    rw [Int.natCast_emod, Int.natCast_mul, Int.natCast_pow]; rfl
  have e3 : ((x : Int) / 2 ^ a) = ((x / 2 ^ a : Nat) : Int) := by push_cast; rfl
  first
    | rw [e1, e3, u32_or_nat]
    | rw [hm, ha, e1, e3, u32_or_nat]
  · unfold rotr; rw [HS']; rfl
  · exact Nat.lt_of_le_of_lt (Nat.div_le_self _ _) h
  · exact Nat.mod_lt _ (by decide)

theorem tab_words {w : World} {g k : Nat} (h : RTab w g) (hk : k < 64) : w.cell? ⟨g, k, none⟩ = some (.int .u32 (Kt.getD k 0 : Nat)) := by
  rw [Blk.cell h, list_cell (by rw [tab72_length]; omega)]
  unfold tab72
  rw [List.getD_eq_getElem?_getD, List.getElem?_append_left (by rw [show Kt.length = 64 from by decide]; omega), ← List.getD_eq_getElem?_getD]

theorem tab_start {w : World} {g i : Nat} (h : RTab w g) (hi : i < 8) : w.cell? ⟨g, 64 + i, none⟩ = start0.vals[i]? := by
  rw [Blk.cell h, list_cell (by rw [tab72_length]; omega), St.vals_list, list_cell (by simpa [St.list] using hi)]
  unfold tab72
  have l : Kt.length = 64 := by decide
  rw [List.getD_eq_getElem?_getD, List.getElem?_append_right (by rw [l]; omega), l, show 64 + i - 64 = i by omega, ← List.getD_eq_getElem?_getD]

end Go.Proofs.YtamhggndcegndaaDoor
