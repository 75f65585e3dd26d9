/-
  Contracts of package life and its reference (deponentref17), and of deponentbook.Within: each returns the number or truth value that the plain functions below name; the world is as it was.
-/
import Derived.Test.YtfgmhapbanbmfaaChecked
import Derived.WalkKit
import Derived.Lib.Hide
import Derived.Deep.QuietTactic
import Derived.BigQuiet
namespace Go.Proofs.Ytfgmhapbanbmfaa
open Go.RowKit
set_option linter.unusedVariables false


/-- Which state may follow (chapter 17). Not reducible: the walk must not take it apart. -/
def mayB (f t w : Int) : Bool := if f = 1 then t == 2 || t == 3 else if f = 2 then t == 1 || t == 3 || t == 4 else if f = 3 then t == 2 || (t == 4 && w == 0) else false

def doesI (s : Int) : Int := if s = 1 then 3 else if s = 3 then 2 else if s = 2 then 1 else 0

def servesB (s : Int) : Bool := s == 1 || s == 2 || s == 3

def runsB (s : Int) : Bool := s == 1 || s == 3

def addsB (s : Int) : Bool := s == 1

/-- A number brought into lo .. hi. -/
def within (n lo hi : Int) : Int := lo + n % (hi - lo + 1)


theorem ret_bool {a b : Bool} (h : a = b) : Ending.returned (.bool a) = .returned (.bool b) := by rw [h]

theorem ret_int {k : IntKind} {a b : Int} (h : a = b) : Ending.returned (.int k a) = .returned (.int k b) := by rw [h]


theorem life_may (f t n : Int) (w : World) :
    Calls Try.prog 14 #[.int .i64 f, .int .i64 t, .int .i64 n] w fun e w' => e = .returned (.bool (mayB f t n)) ∧ w = w' := by
  go_enter Try.func14, Try.ntmps14
  go_wp2
  all_goals (go_ret; exact ⟨ret_bool (by simp_all [mayB]), rfl⟩)

theorem ref17_may (f t n : Int) (w : World) :
    Calls Try.prog 16 #[.int .i64 f, .int .i64 t, .int .i64 n] w fun e w' => e = .returned (.bool (mayB f t n)) ∧ w = w' := by
  go_enter Try.func16, Try.ntmps16
  go_wp2
  all_goals (go_ret; exact ⟨ret_bool (by simp_all [mayB]), rfl⟩)

theorem life_does (s : Int) (w : World) :
    Calls Try.prog 32 #[.int .i64 s] w fun e w' => e = .returned (.int .i64 (doesI s)) ∧ w = w' := by
  go_enter Try.func32, Try.ntmps32
  go_wp2
  all_goals (go_ret; exact ⟨ret_int (by simp_all [doesI]), rfl⟩)

theorem does_serves (s : Int) : decide (1 ≤ doesI s) = servesB s := by
  unfold doesI servesB
  by_cases h1 : s = 1 <;> by_cases h2 : s = 2 <;> by_cases h3 : s = 3 <;> simp_all

theorem does_runs (s : Int) : decide (2 ≤ doesI s) = runsB s := by
  unfold doesI runsB
  by_cases h1 : s = 1 <;> by_cases h2 : s = 2 <;> by_cases h3 : s = 3 <;> simp_all

theorem does_adds (s : Int) : decide (3 ≤ doesI s) = addsB s := by
  unfold doesI addsB
  by_cases h1 : s = 1 <;> by_cases h2 : s = 2 <;> by_cases h3 : s = 3 <;> simp_all

theorem life_serves (s : Int) (w : World) :
    Calls Try.prog 13 #[.int .i64 s] w fun e w' => e = .returned (.bool (servesB s)) ∧ w = w' := by
  go_enter Try.func13, Try.ntmps13
  go_wp2_with (go_at_call 32; refine (life_does _ _).mono ?_; rintro e w' ⟨rfl, rfl⟩)
  go_ret
  exact ⟨ret_bool (does_serves s), rfl⟩

theorem life_runs (s : Int) (w : World) :
    Calls Try.prog 18 #[.int .i64 s] w fun e w' => e = .returned (.bool (runsB s)) ∧ w = w' := by
  go_enter Try.func18, Try.ntmps18
  go_wp2_with (go_at_call 32; refine (life_does _ _).mono ?_; rintro e w' ⟨rfl, rfl⟩)
  go_ret
  exact ⟨ret_bool (does_runs s), rfl⟩

theorem life_adds (s : Int) (w : World) :
    Calls Try.prog 20 #[.int .i64 s] w fun e w' => e = .returned (.bool (addsB s)) ∧ w = w' := by
  go_enter Try.func20, Try.ntmps20
  go_wp2_with (go_at_call 32; refine (life_does _ _).mono ?_; rintro e w' ⟨rfl, rfl⟩)
  go_ret
  exact ⟨ret_bool (does_adds s), rfl⟩

theorem ref17_serves (s : Int) (w : World) :
    Calls Try.prog 17 #[.int .i64 s] w fun e w' => e = .returned (.bool (servesB s)) ∧ w = w' := by
  go_enter Try.func17, Try.ntmps17
  go_wp2
  all_goals (go_ret; exact ⟨ret_bool (by simp_all [servesB]), rfl⟩)

theorem ref17_runs (s : Int) (w : World) :
    Calls Try.prog 19 #[.int .i64 s] w fun e w' => e = .returned (.bool (runsB s)) ∧ w = w' := by
  go_enter Try.func19, Try.ntmps19
  go_wp2
  all_goals (go_ret; exact ⟨ret_bool (by simp_all [runsB]), rfl⟩)

theorem tmod_facts (n k : Int) (hk : 0 < k) : -k < n.tmod k ∧ n.tmod k < k ∧ (n.tmod k < 0 → n.tmod k + k = n % k) ∧ (0 ≤ n.tmod k → n.tmod k = n % k) := by
  have h := Int.tmod_eq_emod (a := n) (b := k)
  have h0 := Int.emod_nonneg n (by omega : k ≠ 0)
  have h1 := Int.emod_lt_of_pos n hk
  have ha : (k.natAbs : Int) = k := by omega
  split at h
  · omega
  · rename_i hne
    have : n % k ≠ 0 := fun e => hne (.inr (Int.dvd_of_emod_eq_zero e))
    omega

/-- Within lo .. hi, both within 32 bits. -/
theorem book_within (n lo hi : Int) (w : World) (h0 : -9223372036854775808 ≤ n) (h1 : n ≤ 9223372036854775807) (hl : -2147483648 ≤ lo) (hh : lo ≤ hi) (hu : hi ≤ 2147483647) :
    Calls Try.prog 11 #[.int .i64 n, .int .i64 lo, .int .i64 hi] w fun e w' => e = .returned (.int .i64 (within n lo hi)) ∧ w = w' := by
  obtain ⟨t0, t1, t2, t3⟩ := tmod_facts n (hi - lo + 1) (by omega)
  have T2 := Lib.hid t2
  have T3 := Lib.hid t3
  clear t2 t3
  go_enter Try.func11, Try.ntmps11
  go_wp2
  · have := T2.out ‹_›
    go_ret
    exact ⟨ret_int (by unfold within; omega), rfl⟩
  · have := T3.out ‹_›
    go_ret
    exact ⟨ret_int (by unfold within; omega), rfl⟩

theorem within_bd (n lo hi : Int) (hh : lo ≤ hi) : lo ≤ within n lo hi ∧ within n lo hi ≤ hi := by
  unfold within
  have h0 := Int.emod_nonneg n (by omega : hi - lo + 1 ≠ 0)
  have h1 := Int.emod_lt_of_pos n (by omega : 0 < hi - lo + 1)
  omega

end Go.Proofs.Ytfgmhapbanbmfaa
