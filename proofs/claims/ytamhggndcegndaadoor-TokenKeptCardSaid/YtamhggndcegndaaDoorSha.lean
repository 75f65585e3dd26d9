/-
  sha: words turned and shifted.
-/
import Derived.Test.YtamhggndcegndaaDoorChecked
import Derived.Test.YtamhggndcegndaaDoorWords
import Derived.Test.YtamhggndcegndaaDoorSeq
import Derived.Laws.BitsAllLaws
import Derived.Laws.BitsLemmas
import Derived.BigQuiet
import Derived.Deep.QuietTactic
import Derived.Deep.RegionHeld3
namespace Go.Proofs.YtamhggndcegndaaDoor
open Go.RowKit
set_option linter.unusedVariables false

/-- A word turned right by a (1 to 31). -/
def rotr (x a : Nat) : Nat := (x / 2 ^ a) ||| (x * 2 ^ (32 - a) % 4294967296)

theorem rotr_lt (x a : Nat) (h : x < 4294967296) : rotr x a < 4294967296 := by
  unfold rotr
  have h1 : x / 2 ^ a < 2 ^ 32 := Nat.lt_of_le_of_lt (Nat.div_le_self _ _) (by simpa using h)
  have h2 : x * 2 ^ (32 - a) % 4294967296 < 2 ^ 32 := Nat.mod_lt _ (by decide)
  exact Nat.or_lt_two_pow h1 h2

theorem and_31 (a : Nat) (a1 : 1 ≤ a) (a2 : a ≤ 31) : bits .and .u64 (IntKind.u64.wrap (-(a : Int))) 31 = ((32 - a : Nat) : Int) := by
  have h : a = 1 ∨ a = 2 ∨ a = 3 ∨ a = 4 ∨ a = 5 ∨ a = 6 ∨ a = 7 ∨ a = 8 ∨ a = 9 ∨ a = 10 ∨ a = 11 ∨ a = 12 ∨ a = 13 ∨ a = 14 ∨ a = 15 ∨ a = 16 ∨ a = 17 ∨ a = 18 ∨ a = 19 ∨ a = 20 ∨ a = 21 ∨ a = 22 ∨ a = 23 ∨ a = 24 ∨ a = 25 ∨ a = 26 ∨ a = 27 ∨ a = 28 ∨ a = 29 ∨ a = 30 ∨ a = 31 := by omega
  rcases h with rfl | rfl | rfl | rfl | rfl | rfl | rfl | rfl | rfl | rfl | rfl | rfl | rfl | rfl | rfl | rfl | rfl | rfl | rfl | rfl | rfl | rfl | rfl | rfl | rfl | rfl | rfl | rfl | rfl | rfl | rfl <;> decide

theorem bits_rot (x a : Nat) (w : World) (h : x < 4294967296) (a1 : 1 ≤ a) (a2 : a ≤ 31) :
    Calls Tryd.prog 89 #[.int .u32 x, .int .i64 (-(a : Int))] w fun e w' => e = .returned (.int .u32 (rotr x a)) ∧ w = w' := by
  obtain ⟨s, hs⟩ : ∃ s, 32 - a = s := ⟨_, rfl⟩
  have hb : bits .and .u64 (IntKind.u64.wrap (-(a : Int))) 31 = (s : Int) := by rw [← hs]; exact and_31 a a1 a2
  have hs2 : s ≤ 31 := by omega
  have hs3 : 1 ≤ s := by omega
  have HS := Lib.hid hs
  clear hs
  go_enter Tryd.func89, Tryd.ntmps89
  go_wp2
  go_ret
  refine ⟨?_, rfl⟩
  have HS' : 32 - a = s := HS
  have e1 : ((x : Int) * 2 ^ s % 4294967296) = ((x * 2 ^ s % 4294967296 : Nat) : Int) := by
    rw [Int.natCast_emod, Int.natCast_mul, Int.natCast_pow]; rfl
  have e2 : 32 - s = a := by omega
  have e3 : ((x : Int) / 2 ^ (32 - s)) = ((x / 2 ^ a : Nat) : Int) := by rw [e2]; push_cast; rfl
  rw [e1, e3, u32_or_nat]
  · unfold rotr; rw [HS', Nat.or_comm]; rfl
  · exact Nat.mod_lt _ (by decide)
  · exact Nat.lt_of_le_of_lt (Nat.div_le_self _ _) h

theorem sha_turned (x a b c : Nat) (w : World) (h : x < 4294967296) (a1 : 1 ≤ a) (a2 : a ≤ 31) (b1 : 1 ≤ b) (b2 : b ≤ 31) (c1 : 1 ≤ c) (c2 : c ≤ 31) :
    Calls Tryd.prog 87 #[.int .u32 x, .int .i64 a, .int .i64 b, .int .i64 c] w fun e w' => e = .returned (.int .u32 (rotr x a ^^^ rotr x b ^^^ rotr x c : Nat)) ∧ w = w' := by
  go_enter Tryd.func87, Tryd.ntmps87
  go_wp2_with ((with_reducible refine (bits_rot _ _ _ h (by assumption) (by assumption)).mono ?_); (rintro _ _ ⟨rfl, rfl⟩))
  have ha := rotr_lt x a h
  have hb := rotr_lt x b h
  have hc := rotr_lt x c h
  go_ret
  refine ⟨?_, rfl⟩
  rw [u32_xor_nat _ _ ha hb, u32_xor_nat _ _ (Nat.xor_lt_two_pow (n := 32) ha hb) hc]; rfl

theorem sha_shifted (x a b c : Nat) (w : World) (h : x < 4294967296) (a1 : 1 ≤ a) (a2 : a ≤ 31) (b1 : 1 ≤ b) (b2 : b ≤ 31) (c1 : 1 ≤ c) (c2 : c ≤ 31) :
    Calls Tryd.prog 86 #[.int .u32 x, .int .i64 a, .int .i64 b, .int .i64 c] w fun e w' => e = .returned (.int .u32 (rotr x a ^^^ rotr x b ^^^ x / 2 ^ c : Nat)) ∧ ∃ m, w' = w.drewN m := by
  go_enter Tryd.func86, Tryd.ntmps86
  go_wp2_with fail
  go_quiet ((go_at_call 89; exact Calls.quiet_of_same ((bits_rot _ _ _ h (by assumption) (by assumption)).mono (by rintro _ _ ⟨rfl, rfl⟩; exact ⟨rfl, rfl⟩))))
  go_wp2
  have ha := rotr_lt x a h
  have hb := rotr_lt x b h
  have hc : x / 2 ^ c < 4294967296 := Nat.lt_of_le_of_lt (Nat.div_le_self _ _) h
  have e3 : ((x : Int) / 2 ^ c) = ((x / 2 ^ c : Nat) : Int) := by rw [Int.natCast_ediv, Int.natCast_pow]; rfl
  go_ret
  refine ⟨?_, _, rfl⟩
  rw [e3, u32_xor_nat _ _ ha hb, u32_xor_nat _ _ (Nat.xor_lt_two_pow (n := 32) ha hb) hc]; rfl

end Go.Proofs.YtamhggndcegndaaDoor
