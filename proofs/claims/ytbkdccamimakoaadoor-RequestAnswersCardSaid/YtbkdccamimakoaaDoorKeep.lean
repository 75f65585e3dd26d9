/-
  deponentkeep, deponentbook: requests copied, requests that are the same.
-/
import Derived.Test.YtbkdccamimakoaaDoorEnc
import Derived.Test.YtbkdccamimakoaaDoorCav
import Derived.Stop.BytesEq
import Derived.Laws.CopyOwn
namespace Go.Proofs.YtbkdccamimakoaaDoor
open Go.RowKit
open Go.Extern.Stop (cell)
set_option linter.unusedVariables false

theorem reqv_splice (R : Req) (cav cav' leafv : Value) (ht : R.tag.length = 32) : (reqv R cav leafv).take 1 ++ (tokv R.tid cav' R.tag ++ (reqv R cav leafv).drop (1 + (tokv R.tid cav' R.tag).length)) = reqv R cav' leafv := by
  have h : (Value.int .i64 R.op :: tokv R.tid cav R.tag).length = 35 := by rw [List.length_cons, tokv_len _ _ _ ht]
  rw [tokv_len _ _ _ ht]
  have hd : (reqv R cav leafv).drop (1 + 34) = R.rest leafv := by
    unfold reqv
    rw [List.drop_left' h]
  rw [hd]
  rfl

theorem reqv_set (R : Req) (cav leafv leafv' : Value) (ht : R.tag.length = 32) : (reqv R cav leafv).set 47 leafv' = reqv R cav leafv' := by
  have h : (Value.int .i64 R.op :: tokv R.tid cav R.tag).length = 35 := by rw [List.length_cons, tokv_len _ _ _ ht]
  unfold reqv
  rw [List.set_append_right _ _ (by rw [h]; omega), h]
  rfl

theorem reqv_one (R : Req) (cav leafv : Value) (hc : cav.oneCell' = true) (hl : leafv.oneCell' = true) : ∀ u ∈ reqv R cav leafv, u.oneCell' = true := by
  intro u hu
  unfold reqv at hu
  rcases List.mem_append.1 hu with hu | hu
  · rcases List.mem_cons.1 hu with rfl | hu
    · rfl
    · exact tokv_one _ _ hc _ u hu
  · simp [Req.rest] at hu
    rcases hu with rfl | rfl | rfl | rfl | rfl | rfl | rfl | rfl | rfl | rfl | rfl | rfl | rfl <;> first | rfl | exact hl

end Go.Proofs.YtbkdccamimakoaaDoor
