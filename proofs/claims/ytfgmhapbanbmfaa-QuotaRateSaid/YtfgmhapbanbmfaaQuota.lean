/-
  Contracts of package quota and its reference (deponentref14): the numbers as plain functions on Int; structs are handed back by value; what was there stays as it was.
-/
import Derived.Test.YtfgmhapbanbmfaaWords
import Derived.Test.YtfgmhapbanbmfaaLife
import Derived.Test.YtfgmhapbanbmfaaShelf
import Derived.OpenShut
namespace Go.Proofs.Ytfgmhapbanbmfaa
open Go.RowKit
set_option linter.unusedVariables false

/-- A bucket's tokens behind n ticks. -/
def tickI (r b t n : Int) : Int := if b < t + n * r then b else t + n * r

def sumI (a b : Int) : Int := if 18446744073709551615 < a + b then 18446744073709551615 else a + b

theorem quota_sum (a b : Int) (w : World) (a0 : 0 ≤ a) (a1 : a ≤ 18446744073709551615) (b0 : 0 ≤ b) (b1 : b ≤ 18446744073709551615) :
    Calls Try.prog 25 #[.int .u64 a, .int .u64 b] w fun e w' => e = .returned (.int .u64 (sumI a b)) ∧ w = w' := by
  by_cases h : 18446744073709551615 - b < a
  · go_enter Try.func25, Try.ntmps25
    go_wp2
    go_ret
    exact ⟨ret_int (by unfold sumI; omega), rfl⟩
  · go_enter Try.func25, Try.ntmps25
    go_wp2
    go_ret
    exact ⟨ret_int (by unfold sumI; omega), rfl⟩

theorem mul64_i (x y : Int) (w : World) (x0 : 0 ≤ x) (x1 : x ≤ 18446744073709551615) (y0 : 0 ≤ y) (y1 : y ≤ 18446744073709551615) :
    Calls Try.prog 34 #[.int .u64 x, .int .u64 y] w fun e w' => e = .returned (.tuple #[.int .u64 (x * y / 18446744073709551616), .int .u64 (x * y % 18446744073709551616)]) ∧ w = w' := by
  obtain ⟨a, rfl⟩ := Int.eq_ofNat_of_zero_le x0
  obtain ⟨b, rfl⟩ := Int.eq_ofNat_of_zero_le y0
  refine (Try.bits_Mul64 a b (by omega) (by omega) w).mono ?_
  rintro e w' ⟨rfl, rfl⟩
  refine ⟨?_, rfl⟩
  rw [← Int.natCast_mul]
  congr 1

/-- The way of quota.Tick behind the product m = n * r, its halves taken apart. -/
theorem tick_of {r b t n m hi lo : Int} (hm : n * r = m) (h0 : 0 ≤ hi) (l0 : 0 ≤ lo) (l1 : lo ≤ 18446744073709551615) (e : m = hi * 18446744073709551616 + lo) (b1 : b ≤ 4294967295) (t0 : 0 ≤ t) :
    tickI r b t n = if 0 < hi ∨ b < sumI lo t then b else sumI lo t := by
  unfold tickI sumI
  rw [hm, e]
  split <;> split <;> split <;> omega

theorem quota_tick (r b t n : Int) (w : World) (r0 : 0 ≤ r) (r1 : r ≤ 4294967295) (b0 : 0 ≤ b) (b1 : b ≤ 4294967295) (t0 : 0 ≤ t) (t1 : t ≤ 4294967295) (n0 : 0 ≤ n) (n1 : n ≤ 18446744073709551615) :
    Calls Try.prog 23 #[.agg #[.int .u32 r, .int .u32 b, .int .u32 t], .int .u64 n] w fun e w' => e = .returned (.agg #[.int .u32 r, .int .u32 b, .int .u32 (tickI r b t n)]) ∧ Below w.heap.size w w' := by
  have hm0 : 0 ≤ n * r := Int.mul_nonneg n0 r0
  have ht := tick_of (r := r) (b := b) (t := t) (n := n) (m := n * r) (hi := n * r / 18446744073709551616) (lo := n * r % 18446744073709551616) rfl (by omega) (by omega) (by omega) (by omega) b1 t0
  have l0 : 0 ≤ n * r % 18446744073709551616 := by omega
  have l1 : n * r % 18446744073709551616 ≤ 18446744073709551615 := by omega
  have h0 : 0 ≤ n * r / 18446744073709551616 := by omega
  have H := Lib.hid ht
  clear ht hm0
  go_enter Try.func23, Try.ntmps23
  go_wp2_with fail
  refine (mul64_i _ _ _ n0 n1 r0 (by omega)).mono ?_
  rintro e w' ⟨rfl, rfl⟩
  generalize n * r % 18446744073709551616 = lo at *
  generalize n * r / 18446744073709551616 = hi at *
  go_wp2_with fail
  refine (quota_sum _ _ _ l0 l1 t0 (by omega)).mono ?_
  rintro e w' ⟨rfl, rfl⟩
  have s0 : 0 ≤ sumI lo t := by unfold sumI; split <;> omega
  have s1 : sumI lo t ≤ 18446744073709551615 := by unfold sumI; split <;> omega
  generalize sumI lo t = s at *
  by_cases hh : 0 < hi
  · go_wp2
    exact bodyPost_ret (v := .agg #[.int .u32 r, .int .u32 b, .int .u32 b]) (by simp [results, Try.results23, go_sem]) rfl ⟨by rw [H.out, if_pos (.inl hh)], ((Below.refl _ _).alloc (Nat.le_refl _) _).alloc (by simp) _⟩
  · by_cases hs : b < s
    · go_wp2
      exact bodyPost_ret (v := .agg #[.int .u32 r, .int .u32 b, .int .u32 b]) (by simp [results, Try.results23, go_sem]) rfl ⟨by rw [H.out, if_pos (.inr hs)], ((Below.refl _ _).alloc (Nat.le_refl _) _).alloc (by simp) _⟩
    · go_wp2
      exact bodyPost_ret (v := .agg #[.int .u32 r, .int .u32 b, .int .u32 s]) (by simp [results, Try.results23, go_sem]) rfl ⟨by rw [H.out, if_neg (by omega)], ((Below.refl _ _).alloc (Nat.le_refl _) _).alloc (by simp) _⟩

theorem quota_take_no (r b t n : Int) (w : World) (h : t < n) :
    Calls Try.prog 22 #[.agg #[.int .u32 r, .int .u32 b, .int .u32 t], .int .u32 n] w fun e w' => e = .returned (.tuple #[.agg #[.int .u32 r, .int .u32 b, .int .u32 t], .bool false]) ∧ Below w.heap.size w w' := by
  go_enter Try.func22, Try.ntmps22
  go_wp2
  exact bodyPost_ret (v := .tuple #[.agg #[.int .u32 r, .int .u32 b, .int .u32 t], .bool false]) (by simp [results, Try.results22, go_sem]) rfl ⟨rfl, ((Below.refl _ _).alloc (Nat.le_refl _) _).alloc (by simp) _⟩

theorem quota_take_yes (r b t n : Int) (w : World) (h : n ≤ t) (n0 : 0 ≤ n) (t1 : t ≤ 4294967295) :
    Calls Try.prog 22 #[.agg #[.int .u32 r, .int .u32 b, .int .u32 t], .int .u32 n] w fun e w' => e = .returned (.tuple #[.agg #[.int .u32 r, .int .u32 b, .int .u32 (t - n)], .bool true]) ∧ Below w.heap.size w w' := by
  go_enter Try.func22, Try.ntmps22
  go_wp2
  exact bodyPost_ret (v := .tuple #[.agg #[.int .u32 r, .int .u32 b, .int .u32 (t - n)], .bool true]) (by simp [results, Try.results22, go_sem]) rfl ⟨rfl, ((Below.refl _ _).alloc (Nat.le_refl _) _).alloc (by simp) _⟩

theorem quota_new_yes (r b : Int) (w : World) (hr : r ≤ 1048576) (hb : b ≤ 1048576) :
    Calls Try.prog 21 #[.int .u32 r, .int .u32 b] w fun e w' => e = .returned (.tuple #[.agg #[.int .u32 r, .int .u32 b, .int .u32 b], .int .i64 0]) ∧ Below w.heap.size w w' := by
  go_enter Try.func21, Try.ntmps21
  go_wp2
  exact bodyPost_ret (v := .tuple #[.agg #[.int .u32 r, .int .u32 b, .int .u32 b], .int .i64 0]) (by simp [results, Try.results21, go_sem]) rfl ⟨rfl, (Below.refl _ _).alloc (Nat.le_refl _) _⟩

theorem quota_new_no (r b : Int) (w : World) (h : 1048576 < r ∨ r ≤ 1048576 ∧ 1048576 < b) :
    Calls Try.prog 21 #[.int .u32 r, .int .u32 b] w fun e w' => e = .returned (.tuple #[.agg #[.int .u32 0, .int .u32 0, .int .u32 0], .int .i64 1]) ∧ Below w.heap.size w w' := by
  rcases h with h | ⟨h, h2⟩
  all_goals
    go_enter Try.func21, Try.ntmps21
    go_wp2
    exact bodyPost_ret (v := .tuple #[.agg #[.int .u32 0, .int .u32 0, .int .u32 0], .int .i64 1]) (by simp [results, Try.results21, go_sem]) rfl ⟨rfl, (Below.refl _ _).alloc (Nat.le_refl _) _⟩

/-- What an operation costs. -/
def costI (op n : Int) : Int := if op = 1 then 1 + (if n < 0 then 0 else if 1048576 < n then 1048576 else n) / 64 else 1

theorem quota_cost (op n : Int) (w : World) :
    Calls Try.prog 24 #[.int .i64 op, .int .i64 n] w fun e w' => e = .returned (.int .u32 (costI op n)) ∧ w = w' := by
  by_cases ho : op = 1
  · subst ho
    by_cases h0 : n < 0
    · have H := Lib.hid (show costI 1 n = 1 from by simp [costI, h0])
      go_enter Try.func24, Try.ntmps24
      go_wp2
      go_ret
      exact ⟨ret_int H.out.symm, rfl⟩
    · by_cases h1 : 1048576 < n
      · have H := Lib.hid (show costI 1 n = 16385 from by simp [costI, h0, h1])
        go_enter Try.func24, Try.ntmps24
        go_wp2
        go_ret
        exact ⟨ret_int H.out.symm, rfl⟩
      · have H := Lib.hid (show costI 1 n = 1 + n / 64 from by simp [costI, h0, h1])
        go_enter Try.func24, Try.ntmps24
        go_wp2
        go_ret
        exact ⟨ret_int H.out.symm, rfl⟩
  · have H := Lib.hid (show costI op n = 1 from by simp [costI, ho])
    go_enter Try.func24, Try.ntmps24
    go_wp2
    go_ret
    exact ⟨ret_int H.out.symm, rfl⟩

theorem ref14_cost (op n : Int) (w : World) :
    Calls Try.prog 31 #[.int .i64 op, .int .i64 n] w fun e w' => e = .returned (.int .u32 (costI op n)) ∧ w = w' := by
  by_cases ho : op = 1
  · subst ho
    by_cases h0 : n < 0
    · have H := Lib.hid (show costI 1 n = 1 from by simp [costI, h0])
      go_enter Try.func31, Try.ntmps31
      go_wp2
      go_ret
      exact ⟨ret_int H.out.symm, rfl⟩
    · by_cases h1 : 1048576 < n
      · have H := Lib.hid (show costI 1 n = 16385 from by simp [costI, h0, h1])
        go_enter Try.func31, Try.ntmps31
        go_wp2
        go_ret
        exact ⟨ret_int H.out.symm, rfl⟩
      · have H := Lib.hid (show costI 1 n = 1 + n / 64 from by simp [costI, h0, h1])
        go_enter Try.func31, Try.ntmps31
        go_wp2
        go_ret
        exact ⟨ret_int H.out.symm, rfl⟩
  · have H := Lib.hid (show costI op n = 1 from by simp [costI, ho])
    go_enter Try.func31, Try.ntmps31
    go_wp2
    go_ret
    exact ⟨ret_int H.out.symm, rfl⟩

theorem ref14_take_no (r b t n : Int) (w : World) (h : t < n) :
    Calls Try.prog 27 #[.agg #[.int .u32 r, .int .u32 b, .int .u32 t], .int .u32 n] w fun e w' => e = .returned (.tuple #[.agg #[.int .u32 r, .int .u32 b, .int .u32 t], .bool false]) ∧ Below w.heap.size w w' := by
  go_enter Try.func27, Try.ntmps27
  go_wp2
  exact bodyPost_ret (v := .tuple #[.agg #[.int .u32 r, .int .u32 b, .int .u32 t], .bool false]) (by simp [results, Try.results27, go_sem]) rfl ⟨rfl, ((Below.refl _ _).alloc (Nat.le_refl _) _).alloc (by simp) _⟩

theorem ref14_take_yes (r b t n : Int) (w : World) (h : n ≤ t) (n0 : 0 ≤ n) (t1 : t ≤ 4294967295) :
    Calls Try.prog 27 #[.agg #[.int .u32 r, .int .u32 b, .int .u32 t], .int .u32 n] w fun e w' => e = .returned (.tuple #[.agg #[.int .u32 r, .int .u32 b, .int .u32 (t - n)], .bool true]) ∧ Below w.heap.size w w' := by
  go_enter Try.func27, Try.ntmps27
  go_wp2
  exact bodyPost_ret (v := .tuple #[.agg #[.int .u32 r, .int .u32 b, .int .u32 (t - n)], .bool true]) (by simp [results, Try.results27, go_sem]) rfl ⟨rfl, ((Below.refl _ _).alloc (Nat.le_refl _) _).alloc (by simp) _⟩

theorem quota_plain (r b t : Int) (w : World) :
    Calls Try.prog 28 #[.agg #[.int .u32 r, .int .u32 b, .int .u32 t]] w fun e w' => e = .returned (.agg #[.int .u32 r, .int .u32 b, .int .u32 t]) ∧ Below w.heap.size w w' := by
  go_enter Try.func28, Try.ntmps28
  go_wp2
  exact bodyPost_ret (v := .agg #[.int .u32 r, .int .u32 b, .int .u32 t]) (by simp [results, Try.results28, go_sem]) rfl ⟨rfl, ((Below.refl _ _).alloc (Nat.le_refl _) _).alloc (by simp) _⟩

theorem quota_same (r b t : Int) (w : World) :
    Calls Try.prog 29 #[.agg #[.int .u32 r, .int .u32 b, .int .u32 t], .agg #[.int .u32 r, .int .u32 b, .int .u32 t]] w fun e w' => e = .returned (.bool true) ∧ Below w.heap.size w w' := by
  go_enter Try.func29, Try.ntmps29
  go_wp2
  go_ret
  exact ⟨rfl, ((Below.refl _ _).alloc (Nat.le_refl _) _).alloc (by simp) _⟩

theorem ref14_tick (r b t n : Int) (w : World) (r0 : 0 ≤ r) (r1 : r ≤ 4294967295) (b0 : 0 ≤ b) (b1 : b ≤ 4294967295) (t0 : 0 ≤ t) (t1 : t ≤ 4294967295) (n0 : 0 ≤ n) (n1 : n ≤ 18446744073709551615) :
    Calls Try.prog 30 #[.agg #[.int .u32 r, .int .u32 b, .int .u32 t], .int .u64 n] w fun e w' => e = .returned (.agg #[.int .u32 r, .int .u32 b, .int .u32 (tickI r b t n)]) ∧ Below w.heap.size w w' := by
  by_cases h1 : b ≤ t
  · have H : Hid (tickI r b t n = b) := by unfold Hid tickI; have := Int.mul_nonneg n0 r0; split <;> omega
    go_enter Try.func30, Try.ntmps30
    go_wp2
    exact bodyPost_ret (v := .agg #[.int .u32 r, .int .u32 b, .int .u32 b]) (by simp [results, Try.results30, go_sem]) rfl ⟨by rw [H.out], ((Below.refl _ _).alloc (Nat.le_refl _) _).alloc (by simp) _⟩
  · by_cases hr : r = 0
    · subst hr
      have H : Hid (tickI 0 b t n = t) := by unfold Hid tickI; simp; omega
      go_enter Try.func30, Try.ntmps30
      go_wp2
      exact bodyPost_ret (v := .agg #[.int .u32 0, .int .u32 b, .int .u32 t]) (by simp [results, Try.results30, go_sem]) rfl ⟨by rw [H.out], ((Below.refl _ _).alloc (Nat.le_refl _) _).alloc (by simp) _⟩
    · have hr0 : 0 < r := by omega
      have hq0 : 0 ≤ (b - t + r - 1) / r := Int.ediv_nonneg (by omega) r0
      by_cases hq : (b - t + r - 1) / r ≤ n
      · have H : Hid (tickI r b t n = b) := by
          unfold Hid tickI
          have h2 : b - t + r - 1 < (n + 1) * r := by
            have := Int.lt_ediv_add_one_mul_self (b - t + r - 1) hr0
            have h3 : ((b - t + r - 1) / r + 1) * r ≤ (n + 1) * r := Int.mul_le_mul_of_nonneg_right (by omega) r0
            omega
          rw [Int.add_mul] at h2
          split <;> omega
        go_enter Try.func30, Try.ntmps30
        go_wp2
        exact bodyPost_ret (v := .agg #[.int .u32 r, .int .u32 b, .int .u32 b]) (by simp [results, Try.results30, go_sem]) rfl ⟨by rw [H.out], ((Below.refl _ _).alloc (Nat.le_refl _) _).alloc (by simp) _⟩
      · have h2 : n * r ≤ b - t - 1 := by
          have := Int.ediv_mul_le (b - t + r - 1) (by omega : r ≠ 0)
          have h3 : (n + 1) * r ≤ ((b - t + r - 1) / r) * r := Int.mul_le_mul_of_nonneg_right (by omega) r0
          rw [Int.add_mul] at h3
          omega
        have h3 : n ≤ n * r := by
          have := Int.mul_le_mul_of_nonneg_left (show 1 ≤ r by omega) n0
          omega
        have h4 : 0 ≤ n * r := by omega
        have H : Hid (tickI r b t n = t + n * r) := by
          unfold Hid tickI
          split <;> omega
        go_enter Try.func30, Try.ntmps30
        go_wp2
        exact bodyPost_ret (v := .agg #[.int .u32 r, .int .u32 b, .int .u32 (t + n * r)]) (by simp [results, Try.results30, go_sem]) rfl ⟨by rw [H.out], ((Below.refl _ _).alloc (Nat.le_refl _) _).alloc (by simp) _⟩

/-- deponentlaw14.known. -/
theorem quota_known (w : World) :
    Calls Try.prog 26 #[] w fun e w' => e = .returned (.bool true) ∧ Below w.heap.size w w' := by
  go_enter Try.func26, Try.ntmps26
  go_wp2_with fail
  refine (quota_new_yes _ _ _ (by omega) (by omega)).mono ?_
  rintro e w1 ⟨rfl, hb1⟩
  have hfd : ∀ (x y z : Value) (w : World), (Instr.field 32 (.agg #[x, y, z]) 2).run Try.prog w = .ok z w := fun _ _ _ _ => by kernel_rfl
  have k1 : tickI 2 5 1 1 = 3 := rfl
  have k2 : costI 1 64 = 2 := rfl
  go_wp2_with fail
  refine (quota_take_yes _ _ _ _ _ (by omega) (by omega) (by omega)).mono ?_
  rintro e w2 ⟨rfl, hb2⟩
  go_wp2_with fail
  refine (quota_tick _ _ _ _ _ (by omega) (by omega) (by omega) (by omega) (by omega) (by omega) (by omega) (by omega)).mono ?_
  rintro e w3 ⟨rfl, hb3⟩
  go_wp2_with fail
  refine (quota_cost _ _ _).mono ?_
  rintro e w' ⟨rfl, rfl⟩
  go_wp2
  go_ret
  simp at hb2 hb3
  have z1 := hb1.size
  have z2 := hb2.size
  have z3 := hb3.size
  simp at z2 z3
  exact ⟨rfl, ((hb1.alloc hb1.size _).trans (hb2.mono (by omega))).trans (((Below.refl _ _).alloc (by omega) _).trans (hb3.mono (by omega)))⟩

end Go.Proofs.Ytfgmhapbanbmfaa
