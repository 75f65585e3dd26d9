/-
  deponentref1: root, primes, New.
-/
import Derived.Test.YtamhggndcegndaaDoorRootB
import Derived.Test.YtamhggndcegndaaDoorSum
namespace Go.Proofs.YtamhggndcegndaaDoor
open Go.RowKit
set_option linter.unusedVariables false
set_option maxRecDepth 100000

theorem belowB_zero (p : Nat) (cube : Bool) : belowB 0 p cube = true := by unfold belowB; cases cube <;> simp

theorem belowB_top (p : Nat) (cube : Bool) (hp : p < 1000) : belowB 171798691840 p cube = false := by
  unfold belowB
  cases cube with
  | true =>
    have e : (171798691840 : Nat) ^ 3 = 64000 * 2 ^ 96 := by decide
    simp only [if_true, decide_eq_false_iff_not]
    rw [e]
    intro h
    have := Nat.le_of_mul_le_mul_right h (by decide)
    omega
  | false =>
    have e : (171798691840 : Nat) ^ 2 = 1600 * 2 ^ 64 := by decide
    simp only [Bool.false_eq_true, if_false, decide_eq_false_iff_not]
    rw [e]
    intro h
    have := Nat.le_of_mul_le_mul_right h (by decide)
    omega

set_option maxHeartbeats 2000000 in
theorem ref1_root (p : Nat) (cube : Bool) (w : World) (hp : p < 1000) :
    Calls Tryd.prog 35 #[.int .u64 p, .bool cube] w fun e w' => (∃ r : Nat, IsRoot r p cube ∧ e = .returned (.int .u32 ((r % 4294967296 : Nat) : Int))) ∧ Below w.heap.size w w' := by
  have H0 := Lib.hid (belowB_zero p cube)
  have HT := Lib.hid (belowB_top p cube hp)
  go_enter Tryd.func35, Tryd.ntmps35
  go_wp2_with fail
  go_loopw [5, 6] (fun a b wr => ∃ lo hi : Nat, lo < hi ∧ hi ≤ 171798691840 ∧ a = .int .u64 lo ∧ b = .int .u64 hi ∧ Hid (belowB lo p cube = true) ∧ Hid (belowB hi p cube = false) ∧ Hid (Below w.heap.size w wr)) (fun a b _ => (intOf b - intOf a).toNat)
  case atStart => exact ⟨0, 171798691840, by omega, by omega, rfl, rfl, H0.out, HT.out, Below.refl _ _⟩
  case round =>
    obtain ⟨lo, hi, hlt, htop, rfl, rfl, hlo, hhi, hbe⟩ := hrel
    by_cases h1 : 1 < hi - lo
    · obtain ⟨m, hm⟩ : ∃ m, (lo + hi) / 2 = m := ⟨_, rfl⟩
      have m1 : lo < m := by omega
      have m2 : m < hi := by omega
      have q1 : (1 : Int) < hi - lo := by omega
      have q2 : ((lo : Int) + hi) / 2 = m := by omega
      have q3 : (0 : Int) ≤ hi - lo := by omega
      clear hm h1
      go_wp2_with fail
      refine (ref1_below m p cube _ (by omega) (by omega)).mono ?_
      rintro e w2 ⟨rfl, b2⟩
      have B2 := Lib.hid (hbe.out.trans (b2.mono hbe.out.size))
      obtain ⟨b, hb⟩ : ∃ b, belowB m p cube = b := ⟨_, rfl⟩
      have HBm := Lib.hid hb
      rw [hb]
      clear hb b2 hbe
      cases b with
      | true =>
        go_wp2
        go_roundw
        case rel => exact ⟨m, hi, by omega, by omega, rfl, rfl, HBm, hhi, B2⟩
        case measure => simp [intOf]; omega
      | false =>
        go_wp2
        go_roundw
        case rel => exact ⟨lo, m, by omega, by omega, rfl, rfl, hlo, HBm, B2⟩
        case measure => simp [intOf]; omega
    · obtain rfl : hi = lo + 1 := by omega
      have q1 : ¬ (1 : Int) < ((lo + 1 : Nat) : Int) - lo := by omega
      have q3 : (0 : Int) ≤ ((lo + 1 : Nat) : Int) - lo := by omega
      have hw : IntKind.u32.wrap (lo : Int) = ((lo % 4294967296 : Nat) : Int) := by rw [IntKind.wrap_u32]; omega
      clear h1
      go_wp2
      go_ret
      exact ⟨⟨lo, ⟨hlo.out, hhi.out⟩, rfl⟩, hbe.out⟩

end Go.Proofs.YtamhggndcegndaaDoor
