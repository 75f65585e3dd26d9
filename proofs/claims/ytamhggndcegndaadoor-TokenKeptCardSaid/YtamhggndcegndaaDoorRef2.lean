/-
  deponentref2: numbers and texts as bytes.
-/
import Derived.Test.YtamhggndcegndaaDoorOwn
import Derived.Test.YtamhggndcegndaaDoorCodec
namespace Go.Proofs.YtamhggndcegndaaDoor
open Go.RowKit
set_option linter.unusedVariables false

theorem ref2_width (k : Int) (w : World) :
    Calls Tryd.prog 68 #[.int .i64 k] w fun e w' => e = .returned (.int .i64 (sizeN k)) ∧ w = w' := by
  by_cases h1 : k < 1
  · have H : Hid (((sizeN k : Nat) : Int) = 1) := by unfold Hid sizeN; omega
    go_enter Tryd.func68, Tryd.ntmps68
    go_wp2
    go_ret
    exact ⟨ret_num H.out.symm, rfl⟩
  · by_cases h8 : 8 < k
    · have H : Hid (((sizeN k : Nat) : Int) = 8) := by unfold Hid sizeN; omega
      go_enter Tryd.func68, Tryd.ntmps68
      go_wp2
      go_ret
      exact ⟨ret_num H.out.symm, rfl⟩
    · have H : Hid (((sizeN k : Nat) : Int) = k) := by unfold Hid sizeN; omega
      go_enter Tryd.func68, Tryd.ntmps68
      go_wp2
      go_ret
      exact ⟨ret_num H.out.symm, rfl⟩

set_option maxHeartbeats 800000 in
theorem ref2_number (A : Option Addr) (L c n : Nat) (k : Int) (bs : List Nat) (w : World) (hr : Reads w w.heap.size 1 A L (byv bs)) (hl : bs.length ≤ 4294967296) (hn : n < 18446744073709551616) :
    Calls Tryd.prog 45 #[.slice A L c, .int .u64 n, .int .i64 k] w fun e w' => ∃ v, e = .returned v ∧ OwnB w' w.heap.size v (bs ++ be n (sizeN k)) ∧ Below w.heap.size w w' := by
  obtain ⟨hs1, hs8⟩ := sizeN_bd k
  have hr0 := hr.laid (.cells #[] 5)
  have hL := reads_bytes_le hr
  rw [hL] at hl
  have HL := Lib.hid hL
  clear hL hr
  go_enter Tryd.func45, Tryd.ntmps45
  go_wp2_with (at_builtin; refine append_bytes rfl (.tmp 9) (.tmp 10) rfl w.heap.size _ [] rfl (OwnB.made w [] (by simp [maxLen])) A L c bs rfl hr0 (by simp; omega) (by simp) ?_)
  intro v1 w1 hown1 hb1 hg1
  have hB1 : Below w.heap.size w w1 := ((Below.refl _ _).alloc (Nat.le_refl _) _).trans hb1
  go_wp2_with fail
  refine (ref2_width _ _).mono ?_
  rintro e w2 ⟨rfl, rfl⟩
  obtain ⟨s, hs⟩ : ∃ s, sizeN k = s := ⟨_, rfl⟩
  have Hs := Lib.hid hs
  rw [hs] at hs1 hs8 ⊢
  clear hs hb1 hg1 hr0
  go_wp2
  go_loopw [7, 8] (fun out i wr => ∃ j m : Nat, s = j + m ∧ i = .int .i64 ((m : Int) - 1) ∧ OwnB wr w.heap.size out (bs ++ (be n s).take j) ∧ Below w.heap.size w wr) (fun _ i _ => (intOf i + 1).toNat)
  case atStart => exact ⟨0, s, by omega, rfl, by simpa using hown1, hB1⟩
  case round =>
    obtain ⟨j, m, hjm, rfl, hown, hb⟩ := hrel
    clear hown1 hB1
    cases m with
    | zero =>
      obtain rfl : j = s := by omega
      rw [List.take_of_length_le (by rw [be_length]; omega)] at hown
      go_wp2
      go_ret
      exact ⟨_, rfl, by rw [Hs.out]; exact hown, hb⟩
    | succ m =>
      have em : ((m + 1 : Nat) : Int) - 1 = m := by omega
      rw [em]
      clear em
      have hlj : (bs ++ (be n s).take j).length ≤ 4294967296 + 8 := by have := HL.out; rw [List.length_append, List.length_take, be_length]; omega
      have Hjm := Lib.hid hjm
      clear hjm
      have hm8 : m ≤ 7 := by have := Hjm.out; omega
      go_wp2_with (at_builtin; refine append_bytes rfl (.tmp 19) (.tmp 26) rfl w.heap.size _ _ rfl (hown.alloc _) _ 1 1 [n / 2 ^ (8 * m) % 256] rfl (by simpa using reads_one wr (n / 2 ^ (8 * m) % 256)) (by omega) (by have := hb.size; simp; omega) ?_)
      intro v1 w1 hown1 hb1 hg1
      have HW : Hid (OwnB w1 w.heap.size v1 (bs ++ (be n s).take (j + 1))) := by
        have e : s - 1 - j = m := by have := Hjm.out; omega
        rw [be_take n s j (by have := Hjm.out; omega), e]
        rw [show byteAt n m = n / 2 ^ (8 * m) % 256 from by unfold byteAt; rw [Nat.pow_mul]]
        exact hown1
      have HB := Lib.hid ((hb.alloc hb.size (.cells #[.int .u8 ((n / 2 ^ (8 * m) % 256 : Nat) : Int)] 5)).trans hb1)
      clear hown1 hb1 hg1 hb hown
      go_wp2
      go_roundw
      case rel => exact ⟨j + 1, m, by have := Hjm.out; omega, rfl, HW.out, HB.out⟩
      case measure => simp [intOf]

end Go.Proofs.YtamhggndcegndaaDoor
