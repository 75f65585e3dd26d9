/-
  The law QuotaNumbers: it returns true for every input, and leaves what was there as it was. (The frame is written by program, wip/frame.py, after the kit's skeleton.)
-/
import Derived.Test.YtfgmhapbanbmfaaRows
import Derived.WalkKit
import Derived.ProofKit
import Derived.OpenShut
import Derived.ShutString
import Derived.ChangeOld
import Derived.Below
import Derived.Lib.SmallJoins
import Derived.Test.YtfgmhapbanbmfaaQuota
import Derived.Deep.RegionHeld3
import Derived.Deep.DrawnRows

namespace Go.Proofs.Ytfgmhapbanbmfaa.quotaNumbers
open Go.ChangeShapes Go.WideShapes Go.ChangeAt Go.RowKit
open Go.ChangeMaps (open_string shut_string)
set_option linter.unusedVariables false

theorem own : ownKnob Try.prog.godebug = none := by kernel_rfl

theorem laidOut : laidOutB Try.prog = true := by kernel_rfl

-- BY HAND
theorem tick_full (w : World) : Calls Try.prog 23 #[.agg #[.int .u32 1, .int .u32 9, .int .u32 0], .int .u64 18446744073709551615] w fun e w' => e = .returned (.agg #[.int .u32 1, .int .u32 9, .int .u32 9]) ∧ Below w.heap.size w w' :=
  quota_tick 1 9 0 18446744073709551615 w (by omega) (by omega) (by omega) (by omega) (by omega) (by omega) (by omega) (by omega)

theorem cost_most (w : World) : Calls Try.prog 24 #[.int .i64 1, .int .i64 1099511627776] w fun e w' => e = .returned (.int .u32 16385) ∧ w = w' := quota_cost 1 1099511627776 w

theorem sum_most (w : World) : Calls Try.prog 25 #[.int .u64 18446744073709551615, .int .u64 1] w fun e w' => e = .returned (.int .u64 18446744073709551615) ∧ w = w' :=
  quota_sum 18446744073709551615 1 w (by omega) (by omega) (by omega) (by omega)

theorem sum_five (w : World) : Calls Try.prog 25 #[.int .u64 2, .int .u64 3] w fun e w' => e = .returned (.int .u64 5) ∧ w = w' :=
  quota_sum 2 3 w (by omega) (by omega) (by omega) (by omega)

theorem cost_one (op n : Int) (w : World) (h : op = 1 ∧ n = 63 ∨ op = 2 ∧ n = 999 ∨ op = 1 ∧ n = -5) : Calls Try.prog 24 #[.int .i64 op, .int .i64 n] w fun e w' => e = .returned (.int .u32 1) ∧ w = w' := by
  rcases h with ⟨rfl, rfl⟩ | ⟨rfl, rfl⟩ | ⟨rfl, rfl⟩ <;> exact quota_cost _ _ w

set_option maxRecDepth 100000 in
set_option maxHeartbeats 2000000 in
theorem numbers_walk (W : World) :
    Calls Try.prog 7 #[] W fun e w' => e = .returned (.bool true) ∧ Below W.heap.size W w' := by
  have heq : ∀ w : World, (binOp .eql 32 (.agg #[.int .u32 1, .int .u32 9, .int .u32 9]) (.agg #[.int .u32 1, .int .u32 9, .int .u32 9])).run Try.prog w = .ok (.bool true) w := fun _ => by kernel_rfl
  go_enter Try.func7, Try.ntmps7
  go_wp2_with fail
  refine (quota_new_no _ _ _ (by omega)).mono ?_
  rintro e w1 ⟨rfl, hb1⟩
  go_wp2_with fail
  refine (quota_new_no _ _ _ (by omega)).mono ?_
  rintro e w2 ⟨rfl, hb2⟩
  go_wp2_with fail
  refine (quota_new_yes _ _ _ (by omega) (by omega)).mono ?_
  rintro e w3 ⟨rfl, hb3⟩
  go_wp2_with fail
  refine (quota_take_no _ _ _ _ _ (by omega)).mono ?_
  rintro e w4 ⟨rfl, hb4⟩
  have B4 := below_call (below_new (below_call (below_new (below_call (below_new hb1 _) hb2) _) hb3) _) hb4
  have c4 : w4.cell? ⟨w3.heap.size, 0, none⟩ = some (.int .u32 1) := cell_call (cell_made ..) hb4
  have c5 : w4.cell? ⟨w3.heap.size, 1, none⟩ = some (.int .u32 9) := cell_call (cell_made ..) hb4
  have c6 : w4.cell? ⟨w3.heap.size, 2, none⟩ = some (.int .u32 9) := cell_call (cell_made ..) hb4
  have z4 : w3.heap.size < w4.heap.size := by have := hb4.size; simp at this; omega
  clear hb1 hb2 hb3 hb4
  go_wp2_with fail
  refine (quota_take_yes _ _ _ _ _ (by omega) (by omega) (by omega)).mono ?_
  rintro e w5 ⟨rfl, hb5⟩
  have B5 := below_call (below_new B4 _) hb5
  have z5 : w4.heap.size < w5.heap.size := by have := hb5.size; simp at this; omega
  have d0 : w5.cell? ⟨w4.heap.size, 0, none⟩ = some (.int .u32 1) := cell_call (cell_made ..) hb5
  have d1 : w5.cell? ⟨w4.heap.size, 1, none⟩ = some (.int .u32 9) := cell_call (cell_made ..) hb5
  have d2 : w5.cell? ⟨w4.heap.size, 2, none⟩ = some (.int .u32 9) := cell_call (cell_made ..) hb5
  replace c4 := cell_call (cell_new c4 _) hb5
  replace c5 := cell_call (cell_new c5 _) hb5
  replace c6 := cell_call (cell_new c6 _) hb5
  clear hb5 B4
  have B6 : Below W.heap.size W (w5.alloc (.cells #[.int .u32 1, .int .u32 9, .int .u32 0] 32)).drew := (below_new B5 _).drew
  clear B5
  go_wp2_with fail
  go_region_held3 (fun w' => w'.cell? ⟨w3.heap.size, 0, none⟩ = some (.int .u32 1) ∧ w'.cell? ⟨w3.heap.size, 1, none⟩ = some (.int .u32 9) ∧ w'.cell? ⟨w3.heap.size, 2, none⟩ = some (.int .u32 9) ∧ w'.cell? ⟨w4.heap.size, 0, none⟩ = some (.int .u32 1) ∧ w'.cell? ⟨w4.heap.size, 1, none⟩ = some (.int .u32 9) ∧ w'.cell? ⟨w4.heap.size, 2, none⟩ = some (.int .u32 9) ∧ w'.cell? ⟨w5.heap.size, 0, none⟩ = some (.int .u32 1) ∧ w'.cell? ⟨w5.heap.size, 1, none⟩ = some (.int .u32 9) ∧ w'.cell? ⟨w5.heap.size, 2, none⟩ = some (.int .u32 0) ∧ Below W.heap.size W w')
    (first | go_keep | (go_split_ands; refine ⟨?_, ?_, ?_, ?_, ?_, ?_, ?_, ?_, ?_, ?_⟩ <;> (first | exact below_call (by assumption) (by assumption) | exact cell_call (by assumption) (by assumption))))
    (first | (go_at_call 23; (with_reducible refine (tick_full _).mono ?_); rintro e w6 ⟨rfl, hb6⟩) | (go_at_call 24; (with_reducible refine (cost_one _ _ _ (by omega)).mono ?_); rintro e w' ⟨rfl, rfl⟩) | (go_at_call 24; (with_reducible refine (cost_most _).mono ?_); rintro e w' ⟨rfl, rfl⟩) | (go_at_call 25; (with_reducible refine (sum_five _).mono ?_); rintro e w' ⟨rfl, rfl⟩) | (go_at_call 25; (with_reducible refine (sum_most _).mono ?_); rintro e w' ⟨rfl, rfl⟩) | (go_at_call 26; (with_reducible refine (quota_known _).mono ?_); rintro e w7 ⟨rfl, hb7⟩))
  all_goals
    go_split_ands
    go_wp2
    go_ret
    exact ⟨rfl, by assumption⟩

theorem law_calls {H : Type} {enc : TypeId × Value → H} {base : Nat} (W : World) 
     :
    Calls Try.prog 7 #[] W fun e w' => e = .returned (.bool true) ∧ Below W.heap.size W w' := by
  exact numbers_walk W
-- END BY HAND

set_option maxRecDepth 100000 in
theorem lifted (os : Os) (started : os.Started) (H : Type) (enc : TypeId × Value → H) :
    ReturnsInHanded {} Try.checked os 7 .any (Rows.quotaNumbersSpec.pre6 enc Try.prog Try.f7 Rows.quotaNumbersRow.domain false) (Rows.quotaNumbersSpec.post enc Try.prog Try.f7 false true false false) := by
  refine returnsInHanded_of_change (C := Try.checked) own started (by kernel_rfl) Try.func7
    (ChangeSpec.witness6 (enc := enc) (C := Try.checked) false ⟨#[], #[], []⟩ 8 (by kernel_rfl) (by kernel_rfl) (by kernel_rfl) (by kernel_rfl)) ?_
  intro W base args ds gs before hval0 hW hcnd _
  have hval : ∀ (j : Nat) t v, Try.f7.params[j]? = some t → args[j]? = some v → Value.okWide Try.prog W .any base t v := hval0
  have hW' := hW
  obtain ⟨p, q, hA0, hV, rfl, hfz, hnd⟩ := hW
  have hA : DataW.TrodAll enc Try.prog W 0 (fun _ => true) true Try.f7.params.toList args.toList ds p := hA0
  rw [Try.params7] at hA hval
  obtain ⟨hargs, rfl, rfl⟩ := trodAll_nil hA
  obtain rfl : args = #[] := by cases args; simp_all
  obtain ⟨rfl, rfl⟩ := trodVars_none hV
  clear hA0 hval0
  refine (law_calls (H := H) (enc := enc) (base := base) W).mono fun e W' ⟨he, bel⟩ => ?_
  subst he
  exact ⟨_, rfl, _, _, _, [], _, [], hW', trodAll_mk1 (shut_bool Try.underlying4 _), trodAll_mk0, rfl, bel.frame _, fun h => by cases h⟩

theorem over : Rows.quotaNumbersRow.holds Try.pinned (OpenSpec.ofChange Rows.quotaNumbersSpec) :=
  OpenClaim.holds_of_wide 7 Try.f7 rfl rfl rfl rfl rfl rfl rfl ⟨rfl, rfl, rfl, rfl, rfl⟩ rfl rfl rfl rfl rfl (by kernel_rfl) Try.func7 (by kernel_rfl)
    (of_decide_eq_true (by kernel_rfl)) (by unfold Func.isWrapper; first | (rw [if_pos (by decide +kernel)]; kernel_rfl) | (rw [if_neg (by decide +kernel)]; exact ⟨rfl, rfl⟩))
    (fun os started H enc _ => lifted os started H enc)

/-- The statement. -/
theorem proved : Rows.QuotaNumbersSaid := over

#print axioms proved

end Go.Proofs.Ytfgmhapbanbmfaa.quotaNumbers
