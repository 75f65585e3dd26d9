/-
  deponentbook.Roomy, Intact: bytes with room behind them.
-/
import Derived.Test.YtbkdccamimakoaaDoorCopy
import Derived.Test.YtbkdccamimakoaaDoorSameT
import Derived.Test.YtbkdccamimakoaaDoorDecode
import Derived.Laws.MakeOwn
import Derived.Laws.OwnMore
namespace Go.Proofs.YtbkdccamimakoaaDoor
open Go.RowKit
set_option linter.unusedVariables false
set_option maxRecDepth 100000

theorem make_bytes (n : Nat) (hn : n ≤ 8589934592) (w : World) : (Instr.makeSlice 22 (.int .i64 (n : Int)) (.int .i64 (n : Int))).run Tryd.prog w = .ok (.slice (some ⟨w.heap.size, 0, none⟩) n n) (w.alloc (.cells (byv (List.replicate n 0)).toArray 5)) := by
  obtain ⟨i0, hi0, hz0, hz1, hz2⟩ := info_parts Tryd.u8_info
  have h := run_make (P := Tryd.prog) w 22 5 i0 _ Tryd.underlying22 hi0 hz0 .i64 .i64 n n (by omega) (Int.le_refl _) (by rw [hz2]; omega) (by omega)
  rw [h, hz1]
  have e : madeCells (Value.int .u8 0).cells ((n : Int).toNat * 1) = (byv (List.replicate n 0)).toArray := by
    apply Array.ext'
    rw [show (Value.int .u8 0).cells = #[Value.int .u8 0] from rfl, toList_madeCells_one]
    simp [byv]
  rw [e]
  simp

/-- With k of the room filled. -/
def roomyK (bs : List Nat) (m k : Nat) : List Nat := (bs ++ List.replicate k m) ++ List.replicate (80 - k) 0

theorem roomyK_length (bs : List Nat) (m k : Nat) (h : k ≤ 80) : (roomyK bs m k).length = bs.length + 80 := by simp [roomyK]; omega

set_option maxHeartbeats 2000000 in
theorem roomy (bs : List Nat) (A : Option Addr) (n c m : Nat) (w : World) (hr : Reads w w.heap.size 1 A n (byv bs)) (hn : n ≤ 1000000) :
    Calls Tryd.prog 7 #[.slice A n c, .int .u8 m] w fun e w' => e = .returned (.slice (some ⟨w.heap.size, 0, none⟩) (n + 80) (n + 80)) ∧ Blk w' w.heap.size 5 (byv (bs ++ List.replicate 80 m)).toArray ∧ Below w.heap.size w w' := by
  have hl := reads_bytes_le hr
  have hmk := fun w => make_bytes (n + 80) (by omega) w
  obtain ⟨N, hN⟩ : ∃ N, n + 80 = N := ⟨_, rfl⟩
  rw [hN] at hmk ⊢
  have hNi : (n : Int) + 80 = N := by omega
  have HL := Lib.hid hl
  have HR := Lib.hid (hr.laid (.cells (byv (List.replicate N 0)).toArray 5))
  have hz := Blk.new w 5 (byv (List.replicate N 0)).toArray
  obtain ⟨W0, hW0⟩ : ∃ x, x = w.alloc (.cells (byv (List.replicate N 0)).toArray 5) := ⟨_, rfl⟩
  rw [← hW0] at hz HR
  have b0 : Below w.heap.size w W0 := by rw [hW0]; exact below_new (Below.refl _ _) _
  have HW0 := Lib.hid hW0
  have Z0 := Lib.hid hz
  have B0 := Lib.hid b0
  have HN := Lib.hid hN
  clear hl hr hz hW0 b0 hN
  go_enter Tryd.func7, Tryd.ntmps7
  go_upto_region 2 with (fail)
  rw [← HW0.out]
  refine wp_region_lit ?_
  iterate 2 (refine wpList_read rfl ⟨?_, ?_, ?_⟩; rotate_left; (focus (go_simp; (try go_bits); try rfl)); simp only [Act.put, List.setIfInBounds_toArray, List.set_cons_zero, List.set_cons_succ])
  refine wpList_copy_grown rfl (.tmp 11) (.tmp 12) 22 22 rfl 5 (by kernel_rfl) (by kernel_rfl) _ _ _ _ _ _ rfl rfl w.heap.size 0 (byv (List.replicate N 0)) 5 Z0.out (byv bs) (by rw [byv_length, HL.out]; show n = min n N; omega) (fun h0 => ⟨rfl, ?_⟩) (by rw [byv_length, byv_length, HL.out, List.length_replicate]; omega) (byv_one _) ?_
  · obtain ⟨ad, e, -, hc⟩ := HR.out.2 (by rw [byv_length, HL.out] at h0; exact h0)
    exact ⟨ad, e, hc⟩
  intro w2 HG2 hG2
  rw [show (byv bs).length = n by rw [byv_length, HL.out]]
  try simp only [Act.put, List.setIfInBounds_toArray, List.set_cons_zero, List.set_cons_succ]
  have i2 : Blk w2 w.heap.size 5 (byv (roomyK bs m 0)).toArray := by
    have h := HG2.out
    rw [byv_splice0, HL.out, show N - n = 80 by omega] at h
    rw [show roomyK bs m 0 = bs ++ List.replicate 80 0 by simp [roomyK]]
    exact h
  have bl2 : Below w.heap.size w w2 := adv B0.out hG2 (Nat.le_refl _) Z0.out.lt
  have I2 := Lib.hid i2
  have BL2 := Lib.hid bl2
  clear i2 bl2 HG2 hG2
  go_wp2
  go_loopw [6] (fun i wr => ∃ k : Nat, k ≤ 80 ∧ i = .int .i64 ((n + k : Nat) : Int) ∧ Hid (Blk wr w.heap.size 5 (byv (roomyK bs m k)).toArray) ∧ Hid (Below w.heap.size w wr)) (fun i _ => N - (intOf i).toNat)
  case atStart => exact ⟨0, by omega, by simp, I2.out, BL2.out⟩
  case round =>
    obtain ⟨k, hk, rfl, hb, hbl⟩ := hrel
    by_cases hk80 : k < 80
    · obtain ⟨J, hJ⟩ : ∃ J, n + k = J := ⟨_, rfl⟩
      rw [hJ]
      have qk : (J : Int) < N := by omega
      have hat : (byv (roomyK bs m k)).toArray[J]? = some (.int .u8 (0 : Int)) := by
        unfold roomyK
        rw [show 80 - k = (80 - k - 1) + 1 by omega, List.replicate_succ]
        exact byv_at (x := 0) (by rw [List.length_append, List.length_replicate, HL.out]; omega)
      have hc := hb.out.cell J
      rw [hat] at hc
      have hf := hb.out.frozen J
      have hset : (byv (roomyK bs m k)).toArray.setIfInBounds J (.int .u8 (m : Int)) = (byv (roomyK bs m (k + 1))).toArray := by
        unfold roomyK
        rw [show 80 - k = (80 - k - 1) + 1 by omega, List.replicate_succ]
        have := byv_set (bs ++ List.replicate k m) (List.replicate (80 - k - 1) 0) 0 m
        rw [List.length_append, List.length_replicate, HL.out, hJ] at this
        rw [this, List.replicate_succ', show 80 - (k + 1) = 80 - k - 1 by omega]
        simp
      have HJ := Lib.hid hJ
      have HSET := Lib.hid hset
      have hk79 : k ≤ 79 := by omega
      clear hat hset hJ
      go_wp2
      go_roundw
      case rel =>
        refine ⟨k + 1, by omega, ?_, ?_, hbl.out.setCell (Nat.le_refl _) _⟩
        · rw [show n + (k + 1) = J + 1 by have := HJ.out; omega]
          go_num
        · have := hb.out.set_ J (.int .u8 (m : Int))
          rw [HSET.out] at this
          exact this
      case measure => simp [intOf]; omega
    · obtain rfl : k = 80 := by omega
      have qk : ¬ ((n + 80 : Nat) : Int) < N := by omega
      have e80 : roomyK bs m 80 = bs ++ List.replicate 80 m := by simp [roomyK]
      rw [e80] at hb
      go_wp2
      go_ret
      exact ⟨rfl, hb.out, hbl.out⟩

/-- What Roomy made is as it was. -/
theorem intact (bs : List Nat) (A : Option Addr) (n c g d m : Nat) (w : World) (hr : Reads w w.heap.size 1 A n (byv bs)) (hg : Blk w g 5 (byv (bs ++ List.replicate 80 m)).toArray) (hn : n ≤ 1000000) (hd : n + 80 ≤ d) :
    Calls Tryd.prog 12 #[.slice (some ⟨g, 0, none⟩) (n + 80) d, .slice A n c, .int .u8 m] w fun e w' => e = .returned (.bool true) ∧ Below w.heap.size w w' := by
  have hl := reads_bytes_le hr
  have hrg : Reads w w.heap.size 1 (some ⟨g, 0, none⟩) n (byv bs) := reads_mid (o := 0) hg (by rw [byv_length]; exact hl) (fun j u hu => by
    rw [Nat.zero_add, byv_append, List.getElem?_append_left (List.getElem?_eq_some_iff.1 hu).1]
    exact hu)
  obtain ⟨N, hN⟩ : ∃ N, n + 80 = N := ⟨_, rfl⟩
  rw [hN] at hd ⊢
  have hNi : (n : Int) + 80 = N := by omega
  have HL := Lib.hid hl
  have HN := Lib.hid hN
  have HS := Lib.hid (same_bytes (some ⟨g, 0, none⟩) A n d c bs w hrg hr (by omega))
  have HG := Lib.hid hg
  clear hl hN hrg hr hg
  go_enter Tryd.func12, Tryd.ntmps12
  go_wp2_with fail
  refine HS.out.mono ?_
  rintro e w1 ⟨rfl, b1⟩
  have G1 := Lib.hid (HG.out.below b1 HG.out.lt)
  have B1 := Lib.hid b1
  clear b1 HG
  go_wp2
  obtain ⟨wo, rfl⟩ : ∃ x, x = w1 := ⟨_, rfl⟩
  go_loopw [7] (fun i wr => ∃ k : Nat, n ≤ k ∧ k ≤ N ∧ i = .int .i64 k ∧ wr = wo) (fun i _ => N - (intOf i).toNat)
  case atStart => exact ⟨n, by omega, by omega, rfl, rfl⟩
  case round =>
    obtain ⟨k, hk1, hk2, rfl, rfl⟩ := hrel
    by_cases hkN : k < N
    · have qk : (k : Int) < N := by omega
      have hc := G1.out.cell k
      rw [List.getElem?_toArray, byv_append, List.getElem?_append_right (by rw [byv_length, HL.out]; exact hk1), byv_length, HL.out] at hc
      rw [show (byv (List.replicate 80 m))[k - n]? = some (.int .u8 (m : Int)) by
        have := HN.out
        rw [byv, List.getElem?_map, List.getElem?_replicate, if_pos (by omega)]
        rfl] at hc
      have hk9 : k < 1000080 := by have := HN.out; omega
      go_wp2
      go_roundw
      case rel => exact ⟨k + 1, by omega, by omega, by go_num, by first | rfl | trivial⟩
      case measure => simp [intOf]; omega
    · obtain rfl : k = N := by omega
      have qk : ¬ (k : Int) < k := by omega
      go_wp2
      go_ret
      exact ⟨rfl, B1.out⟩

end Go.Proofs.YtbkdccamimakoaaDoor
