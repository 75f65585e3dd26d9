/-
  What RequestNumbers asks, reckoned.
-/
import Derived.Test.YtbkdccamimakoaaDoorKnown18
import Derived.Test.YtbkdccamimakoaaDoorEnc
import Derived.Test.YtbkdccamimakoaaDoorReqSpec
import Derived.Test.YtbkdccamimakoaaDoorRspSpec
namespace Go.Proofs.YtbkdccamimakoaaDoor
open Go.RowKit
set_option linter.unusedVariables false
set_option maxRecDepth 100000

theorem noReq_fit2 (op tree : Int) (l : List (Int × Nat)) (leaf : List Nat) (ht : tree ≤ 300) : ({ noReq with op := op, tree := tree, cavs := l, leaf := leaf } : Req).Fit :=
  ⟨rfl, fun o => Int.lt_of_le_of_lt (num_le _ 300 (by decide) ht (by simp [noReq]) (by simp [noReq]) (by simp [noReq]) (by simp [noReq]) (by simp [noReq]) (by simp [noReq]) (by simp [noReq]) (by simp [noReq]) (by simp [noReq]) (by simp [noReq]) (by simp [noReq]) o) (by decide)⟩

theorem rn_1 : bodyRes { noReq with op := 13 } = (1, []) := by decide +kernel

theorem rn_2 : bodyRes { noReq with op := 2, tree := 256 } = (1, []) := by decide +kernel

theorem rn_3 : bodyRes { noReq with op := 1, leaf := List.replicate 257 0 } = (3, []) := by decide +kernel

theorem rn_4 : encRes { noReq with op := 2, cavs := List.replicate 5 (0, 0) } = (4, []) := by decide +kernel

theorem rn_5 : ansRes { zeroRsp with why := 12 } = (0, [12, 0, 0, 0, 0, 0, 0, 0, 0, 0, 0, 0, 0]) := by decide +kernel

theorem rn_6 : (reqDec []).1 = some (0, 10) := by decide +kernel

/-- The bytes of a request to look. -/
def lookB : List Nat := (encRes { noReq with op := 2 }).2

theorem rn_7 : encRes { noReq with op := 2 } = (0, lookB) := by decide +kernel

theorem rn_7l : lookB.length = 41 := by decide +kernel

theorem rn_7b : ∀ x ∈ lookB, x < 256 := by decide +kernel

theorem rn_8 : (reqDec (lookB ++ [0])).1 = some (41, 11) := by decide +kernel

theorem rn_9 : ansRes { zeroRsp with hashes := List.replicate 256 (List.replicate 32 0) } = (4, []) := by decide +kernel

theorem built_rn1 (op : Int) : Tryd.prog.built 32 [(0, .int .i64 op)] = some (reqv { noReq with op := op } (.slice none 0 0) (.slice none 0 0)).toArray := by kernel_rfl

theorem built_rn2 (op tree : Int) : Tryd.prog.built 32 [(0, .int .i64 op), (2, .int .i64 tree)] = some (reqv { noReq with op := op, tree := tree } (.slice none 0 0) (.slice none 0 0)).toArray := by kernel_rfl

theorem built_rn3 (op : Int) (l : List Nat) (A : Addr) (n c : Nat) : Tryd.prog.built 32 [(0, .int .i64 op), (14, .slice (some A) n c)] = some (reqv { noReq with op := op, leaf := l } (.slice none 0 0) (.slice (some A) n c)).toArray := by kernel_rfl

theorem built_rn4t (A : Addr) (n c : Nat) : Tryd.prog.built 29 [(1, .slice (some A) n c)] = some (tokv 0 (.slice (some A) n c) (List.replicate 32 0)).toArray := by kernel_rfl

theorem built_rn4 (op : Int) (l : List (Int × Nat)) (A : Addr) (n c : Nat) : Tryd.prog.built 32 [(0, .int .i64 op), (1, .agg (tokv 0 (.slice (some A) n c) (List.replicate 32 0)).toArray)] = some (reqv { noReq with op := op, cavs := l } (.slice (some A) n c) (.slice none 0 0)).toArray := by kernel_rfl

theorem built_rn5 (y : Int) : Tryd.prog.built 57 [(0, .int .i64 y)] = some (rspv { zeroRsp with why := y } (.slice none 0 0) (.slice none 0 0) (.slice none 0 0)).toArray := by kernel_rfl

theorem built_rn9 (l : List (List Nat)) (A : Addr) (n c : Nat) : Tryd.prog.built 57 [(3, .slice (some A) n c)] = some (rspv { zeroRsp with hashes := l } (.slice none 0 0) (.slice (some A) n c) (.slice none 0 0)).toArray := by kernel_rfl

theorem req_admin9 (w : World) : Calls Tryd.prog 24 #[.int .i64 9] w fun e w' => e = .returned (.bool true) ∧ w = w' := by
  go_enter Tryd.func24, Tryd.ntmps24
  go_wp2
  go_ret
  exact ⟨rfl, rfl⟩

theorem req_admin5 (w : World) : Calls Tryd.prog 24 #[.int .i64 5] w fun e w' => e = .returned (.bool false) ∧ w = w' := by
  go_enter Tryd.func24, Tryd.ntmps24
  go_wp2
  go_ret
  exact ⟨rfl, rfl⟩

end Go.Proofs.YtbkdccamimakoaaDoor
