/-
  deponentbook.Within.
-/
import Derived.Test.YtamhggndcegndaaDoorWords
import Derived.Test.YtamhggndcegndaaDoorCodec
namespace Go.Proofs.YtamhggndcegndaaDoor
open Go.RowKit
set_option linter.unusedVariables false

theorem tmod_facts (n m : Int) (hm : 0 < m) (hn : n < 0) : (n.tmod m = 0 ∧ n % m = 0) ∨ (-m < n.tmod m ∧ n.tmod m < 0 ∧ n % m = n.tmod m + m) := by
  have h1 : n.tmod m = n % m - ((if 0 ≤ n ∨ m ∣ n then 0 else m.natAbs : Nat) : Int) := Int.tmod_eq_emod
  have h2 := Int.emod_nonneg n (b := m) (by omega)
  have h3 := Int.emod_lt_of_pos n hm
  by_cases hd : m ∣ n
  · left
    have h4 := Int.emod_eq_zero_of_dvd hd
    rw [if_pos (.inr hd)] at h1
    omega
  · right
    have h4 : n % m ≠ 0 := fun h => hd (Int.dvd_of_emod_eq_zero h)
    rw [if_neg (by omega)] at h1
    omega

/-- A number brought into lo .. hi. -/
def within (n lo hi : Int) : Int := lo + n % (hi - lo + 1)

theorem within_bd (n lo hi : Int) (h : lo ≤ hi) : lo ≤ within n lo hi ∧ within n lo hi ≤ hi := by
  unfold within
  have h1 := Int.emod_nonneg n (b := hi - lo + 1) (by omega)
  have h2 := Int.emod_lt_of_pos n (show 0 < hi - lo + 1 by omega)
  omega

theorem book_within (n lo hi : Int) (w : World) (h0 : 0 ≤ lo) (h1 : lo ≤ hi) (h2 : hi ≤ 1000000) (n1 : -9223372036854775808 ≤ n) (n2 : n ≤ 9223372036854775807) :
    Calls Tryd.prog 17 #[.int .i64 n, .int .i64 lo, .int .i64 hi] w fun e w' => e = .returned (.int .i64 (within n lo hi)) ∧ w = w' := by
  have H : Hid (within n lo hi = lo + n % (hi - lo + 1)) := rfl
  by_cases hn : 0 ≤ n
  · have a1 := Int.emod_nonneg n (b := hi - lo + 1) (by omega)
    have a2 := Int.emod_lt_of_pos n (show 0 < hi - lo + 1 by omega)
    have hnn : ¬ n % (hi - lo + 1) < 0 := by omega
    go_enter Tryd.func17, Tryd.ntmps17
    go_wp2
    go_ret
    exact ⟨ret_num (by rw [H.out]), rfl⟩
  · have hm : 0 < hi - lo + 1 := by omega
    rcases tmod_facts n (hi - lo + 1) hm (by omega) with ⟨e1, e2⟩ | ⟨e1, e2, e3⟩
    · have E2 := Lib.hid e2
      clear e2
      go_enter Tryd.func17, Tryd.ntmps17
      go_wp2
      go_ret
      exact ⟨ret_num (by rw [H.out, E2.out]; omega), rfl⟩
    · have E3 := Lib.hid e3
      clear e3
      go_enter Tryd.func17, Tryd.ntmps17
      go_wp2
      go_ret
      exact ⟨ret_num (by rw [H.out, E3.out]; omega), rfl⟩


end Go.Proofs.YtamhggndcegndaaDoor
