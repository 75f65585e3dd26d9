/-
  deponentref12.Holds: as token.Holds.
-/
import Derived.Test.YtamhggndcegndaaDoorHolds
namespace Go.Proofs.YtamhggndcegndaaDoor
open Go.RowKit
set_option linter.unusedVariables false
set_option maxRecDepth 100000

-- END BY HAND
set_option maxHeartbeats 4000000 in
theorem ref12_holds (op tree : Int) (clock : Nat) (t : Tok) (A : Option Addr) (n c : Nat) (w : World) (hr : Reads w w.heap.size 2 A n (cavv t.2.1)) (hnc : n ≤ c) (hn : n ≤ 8796093022000) (ht : t.Ok) (hop : op < 9223372036854775808) (htr : tree < 9223372036854775808) :
    Calls Tryd.prog 22 #[.agg (tokv t.1 (.slice A n c) t.2.2).toArray, .int .i64 op, .int .i64 tree, .int .u64 clock] w fun e w' => e = .returned (.bool (holdsB op tree clock t.2.1)) ∧ Below w.heap.size w w' := by
  have hl : t.2.1.length = n := by have := hr.1; rw [cavv_length] at this; omega
  have d1 : (tokv t.1 (.slice A n c) t.2.2)[1]? = some (.slice A n c) := rfl
  obtain ⟨D, hD⟩ : ∃ D, tokv t.1 (.slice A n c) t.2.2 = D := ⟨_, rfl⟩
  rw [hD] at d1 ⊢
  obtain ⟨W0, hW0⟩ : ∃ x, x = w.alloc (.cells D.toArray 30) := ⟨_, rfl⟩
  have c1 : W0.cell? ⟨w.heap.size, 1, none⟩ = some (.slice A n c) := by rw [hW0, cell_made, List.getElem?_toArray, d1]
  have B0 : Below w.heap.size w W0 := by rw [hW0]; exact below_new (Below.refl _ _) _
  have HR := Lib.hid hr
  have Hl := Lib.hid hl
  have HtO := Lib.hid ht
  have HB0 := Lib.hid B0
  have HW0 := Lib.hid hW0
  clear hD d1 hr hl ht B0 hW0
  go_enter Tryd.func22, Tryd.ntmps22
  go_upto_region 2 with (fail)
  rw [← HW0.out]
  go_loopw [9, 10, 11] (fun i _ _ wr => ∃ k : Nat, k ≤ n ∧ i = .int .i64 k ∧ Hid (holdsB op tree clock (t.2.1.take k) = true) ∧ wr = W0) (fun i _ _ _ => n - (intOf i).toNat)
  case atStart => exact ⟨0, by omega, rfl, by rw [List.take_zero]; exact rfl, rfl⟩
  case round =>
    obtain ⟨k, hk, rfl, hg, rfl⟩ := hrel
    by_cases hkn : k < n
    · have qk : (k : Int) < n := by omega
      obtain ⟨cav, hcav⟩ : ∃ c, t.2.1[k]? = some c := ⟨_, List.getElem?_eq_getElem (by rw [Hl.out]; exact hkn)⟩
      obtain ⟨gb, go, hA, hgb, hrd⟩ := HR.out.mid (by omega) (by omega)
      obtain ⟨e0, e1⟩ := cavv_at t.2.1 k cav hcav
      have m0 := (HB0.out.cell (p := ⟨gb, go + k * 2, none⟩) hgb).trans (hrd _ _ e0)
      have m1 := (HB0.out.cell (p := ⟨gb, go + (k * 2 + 1), none⟩) hgb).trans (hrd _ _ e1)
      subst hA
      obtain ⟨kk, NN⟩ := cav
      dsimp only at m0 m1
      rw [← Nat.add_assoc] at m1
      have HC := Lib.hid hcav
      have hN : NN < 4294967296 := HtO.out.2.1 (kk, NN) (List.mem_of_getElem? HC.out)
      have n1 : IntKind.i64.wrap (NN : Int) = NN := IntWalk.i64_in _ (by omega)
      have n2 : IntKind.u64.wrap (NN : Int) = NN := IntWalk.u64_in _ (by omega)
      clear e0 e1 hrd hcav
      by_cases q1 : kk = 1
      · subst q1
        by_cases ht0 : tree < 0
        · have Hh : Hid (holds1 op tree clock (1, NN) = false) := by
            have : ¬ tree = (NN : Int) := by omega
            simp [Hid, holds1, this]
          have ht1 : ¬ tree ≥ 0 := by omega
          have ht2 : ¬ 0 ≤ tree := by omega
          go_wp2_with fail
          go_ret
          exact ⟨by rw [holds_none HC.out Hh.out]; rfl, HB0.out⟩
        · have ht1 : tree ≥ 0 := by omega
          have ht2 : 0 ≤ tree := by omega
          have ht3 : IntKind.u64.wrap tree = tree := IntWalk.u64_in _ (by omega)
          by_cases hh : tree = NN
          · have Hh : Hid (holds1 op tree clock (1, NN) = true) := by simp [Hid, holds1, hh]
            subst hh
            go_wp2_with fail
            go_roundw
            case rel => exact ⟨k + 1, by omega, by go_num, holds_step HC.out hg.out Hh.out, by trivial⟩
            case measure => simp [intOf]; omega
          · have Hh : Hid (holds1 op tree clock (1, NN) = false) := by simp [Hid, holds1, hh]
            have hh2 : (tree == (NN : Int)) = false := by simpa using hh
            go_wp2_with fail
            go_ret
            exact ⟨by rw [holds_none HC.out Hh.out]; rfl, HB0.out⟩
      · by_cases q2 : kk = 2
        · subst q2
          by_cases ho0 : op < 0
          · have Hh : Hid (holds1 op tree clock (2, NN) = true) := by
              have : op < (NN : Int) := by omega
              simp [Hid, holds1, this]
            go_wp2_with fail
            go_roundw
            case rel => exact ⟨k + 1, by omega, by go_num, holds_step HC.out hg.out Hh.out, by trivial⟩
            case measure => simp [intOf]; omega
          · have ho3 : IntKind.u64.wrap op = op := IntWalk.u64_in _ (by omega)
            by_cases hh : op < NN
            · have Hh : Hid (holds1 op tree clock (2, NN) = true) := by simp [Hid, holds1, hh]
              go_wp2_with fail
              go_roundw
              case rel => exact ⟨k + 1, by omega, by go_num, holds_step HC.out hg.out Hh.out, by trivial⟩
              case measure => simp [intOf]; omega
            · have Hh : Hid (holds1 op tree clock (2, NN) = false) := by simp [Hid, holds1, hh]
              go_wp2_with fail
              go_ret
              exact ⟨by rw [holds_none HC.out Hh.out]; rfl, HB0.out⟩
        · by_cases q3 : kk = 3
          · subst q3
            by_cases hh : clock < NN
            · have Hh : Hid (holds1 op tree clock (3, NN) = true) := by simp [Hid, holds1, hh]
              have hh' : (clock : Int) < NN := by omega
              go_wp2_with fail
              go_roundw
              case rel => exact ⟨k + 1, by omega, by go_num, holds_step HC.out hg.out Hh.out, by trivial⟩
              case measure => simp [intOf]; omega
            · have Hh : Hid (holds1 op tree clock (3, NN) = false) := by simp [Hid, holds1, hh]
              have hh' : ¬ (clock : Int) < NN := by omega
              go_wp2_with fail
              go_ret
              exact ⟨by rw [holds_none HC.out Hh.out]; rfl, HB0.out⟩
          · have Hh : Hid (holds1 op tree clock (kk, NN) = false) := by simp [Hid, holds1, q1, q2, q3]
            go_wp2_with fail
            go_ret
            exact ⟨by rw [holds_none HC.out Hh.out]; rfl, HB0.out⟩
    · have qk : ¬ (k : Int) < n := by omega
      have hg' := hg.out
      rw [List.take_of_length_le (by rw [Hl.out]; omega)] at hg'
      have HG := Lib.hid hg'
      clear hg'
      go_wp2_with fail
      go_ret
      exact ⟨by rw [HG.out]; rfl, HB0.out⟩

end Go.Proofs.YtamhggndcegndaaDoor
