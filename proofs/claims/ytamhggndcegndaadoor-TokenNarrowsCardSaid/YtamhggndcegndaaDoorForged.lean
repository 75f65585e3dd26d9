/-
  slices.Index, slices.Contains at uint32; token.Forged.
-/
import Derived.Test.YtamhggndcegndaaDoorGen
namespace Go.Proofs.YtamhggndcegndaaDoor
open Go.RowKit
set_option linter.unusedVariables false
set_option maxRecDepth 100000

/-- Numbers as cells. -/
def u32v (l : List Nat) : List Value := l.map fun b : Nat => Value.int .u32 (b : Int)

theorem u32v_length (l : List Nat) : (u32v l).length = l.length := by simp [u32v]

theorem contains_take (ms : List Nat) (x k y : Nat) (h : (ms.take k).contains x = false) (hy : ms[k]? = some y) (hne : x ≠ y) : (ms.take (k + 1)).contains x = false := by
  rw [List.take_add_one, hy]
  simp only [List.contains_eq_mem, Option.toList_some, List.mem_append, List.mem_singleton, decide_eq_false_iff_not] at h ⊢
  rintro (hm | hm)
  · exact h hm
  · exact hne hm

set_option maxHeartbeats 1000000 in
theorem slices_index (ms : List Nat) (x : Nat) (A : Option Addr) (n c : Nat) (w : World) (hr : Reads w w.heap.size 1 A n (u32v ms)) (hn : n ≤ 4611686018427387903) :
    Calls Tryd.prog 69 #[.slice A n c, .int .u32 x] w fun e w' => ∃ i : Int, e = .returned (.int .i64 i) ∧ decide (0 ≤ i) = ms.contains x ∧ w = w' := by
  have hl : ms.length = n := by have := hr.1; rw [u32v_length] at this; omega
  have HL := Lib.hid hl
  have HR := Lib.hid hr
  clear hl hr
  go_enter Tryd.func69, Tryd.ntmps69
  go_wp2
  obtain ⟨wo, rfl⟩ : ∃ v, v = w := ⟨_, rfl⟩
  go_loopw [8] (fun i wr => ∃ k : Nat, k ≤ n ∧ i = .int .i64 k ∧ Hid ((ms.take k).contains x = false) ∧ wr = wo) (fun i _ => n - (intOf i).toNat)
  case atStart => exact ⟨0, by omega, rfl, by simp [Hid], rfl⟩
  case round =>
    obtain ⟨k, hk, rfl, hc, rfl⟩ := hrel
    by_cases hkn : k < n
    · have qk : (k : Int) < n := by omega
      obtain ⟨y, hy⟩ : ∃ y, ms[k]? = some y := ⟨_, List.getElem?_eq_getElem (by rw [HL.out]; exact hkn)⟩
      obtain ⟨gb, go, hA, hgb, hrd⟩ := HR.out.mid (by omega) (by omega)
      have m0 := hrd k (.int .u32 y) (by simp [u32v, hy])
      subst hA
      have HY := Lib.hid hy
      clear hrd hy
      by_cases hxy : x = y
      · subst hxy
        have hct : ms.contains x = true := by simpa using List.mem_of_getElem? HY.out
        have HCT := Lib.hid hct
        clear hct
        go_wp2
        go_ret
        exact ⟨k, rfl, by rw [HCT.out]; simp, rfl⟩
      · have hxi : ¬ (x : Int) = y := by omega
        have HN := Lib.hid (contains_take ms x k y hc.out HY.out hxy)
        go_wp2
        go_roundw
        case rel => exact ⟨k + 1, by omega, by go_num, HN.out, by first | rfl | trivial⟩
        case measure => simp [intOf]; omega
    · have qk : ¬ (k : Int) < n := by omega
      have hc' := hc.out
      rw [List.take_of_length_le (by rw [HL.out]; omega)] at hc'
      have HC := Lib.hid hc'
      clear hc'
      go_wp2
      go_ret
      exact ⟨-1, rfl, by simpa using HC.out, rfl⟩

theorem slices_contains (ms : List Nat) (x : Nat) (A : Option Addr) (n c : Nat) (w : World) (hr : Reads w w.heap.size 1 A n (u32v ms)) (hn : n ≤ 4611686018427387903) :
    Calls Tryd.prog 48 #[.slice A n c, .int .u32 x] w fun e w' => e = .returned (.bool (ms.contains x)) ∧ w = w' := by
  go_enter Tryd.func48, Tryd.ntmps48
  go_wp2_with fail
  refine (slices_index ms x A n c w hr hn).mono ?_
  rintro e w' ⟨i, rfl, hi, rfl⟩
  have HI := Lib.hid hi
  clear hi
  go_wp2
  go_ret
  refine ⟨ret_bool' ?_, rfl⟩
  rw [← HI.out]

set_option maxHeartbeats 4000000 in
theorem token_forged (root : List Nat) (ms : List Nat) (t : Tok) (B : Option Addr) (k d : Nat) (A : Option Addr) (n c : Nat) (w : World) (hrl : root.length = 32) (hrb : ∀ x ∈ root, x < 256)
    (hm : Reads w w.heap.size 1 B k (u32v ms)) (hk : k ≤ 4611686018427387903) (hr : Reads w w.heap.size 2 A n (cavv t.2.1)) (hnc : n ≤ c) (hn : n ≤ 8796093022000) (ht : t.Ok) (hT : Tabs w) :
    Calls Tryd.prog 23 #[.agg (byv root).toArray, .slice B k d, .agg (tokv t.1 (.slice A n c) t.2.2).toArray] w fun e w' => e = .returned (.bool (genuineB root t && !ms.contains t.1)) ∧ Below w.heap.size w w' := by
  have lR : (byv root).length = 32 := by rw [byv_length]; exact hrl
  have lD := tokv_len t.1 (.slice A n c) t.2.2 ht.2.2.1
  have d0 : (tokv t.1 (.slice A n c) t.2.2)[0]? = some (.int .u32 (t.1 : Int)) := rfl
  have GE := fun w a h => token_genuine root t A n c w hrl hrb a hnc hn ht h
  obtain ⟨V, hV⟩ : ∃ V, byv root = V := ⟨_, rfl⟩
  obtain ⟨D, hD⟩ : ∃ D, tokv t.1 (.slice A n c) t.2.2 = D := ⟨_, rfl⟩
  rw [hV] at lR ⊢
  rw [hD] at lD d0 ⊢
  simp only [hV, hD] at GE
  obtain ⟨W0, hW0⟩ : ∃ x, x = (w.alloc (.cells V.toArray 28)).alloc (.cells D.toArray 30) := ⟨_, rfl⟩
  have k0 : Blk W0 w.heap.size 28 V.toArray := by rw [hW0]; exact (Blk.new w _ _).alloc _
  have t0 : Blk W0 (w.heap.size + 1) 30 D.toArray := by
    have h := Blk.new (w.alloc (.cells V.toArray 28)) 30 D.toArray
    rw [alloc_size] at h
    rw [hW0]
    exact h
  have b0 : Below w.heap.size w W0 := by rw [hW0]; exact below_new (below_new (Below.refl _ _) _) _
  have RGV := Lib.hid (rangeAt_blk k0 0 V (fun j u h => by simpa using h))
  have RGD := Lib.hid (rangeAt_blk t0 0 D (fun j u h => by simpa using h))
  have IV := Lib.hid (show (Tryd.prog.info? 28).map (·.size) = some V.length by rw [lR]; exact Tryd.dig_info)
  have ID := Lib.hid (show (Tryd.prog.info? 30).map (·.size) = some D.length by rw [lD]; exact Tryd.tok_info)
  have HG := Lib.hid (GE W0 (hr.call b0) (hT.below b0 hT.size))
  have HM := Lib.hid (hm.call b0)
  have T0 := Lib.hid t0
  have B0 := Lib.hid b0
  have HW0 := Lib.hid hW0
  have D0 := Lib.hid d0
  clear hW0 k0 t0 b0 GE hr hT hm hD hV lR lD d0
  go_enter Tryd.func23, Tryd.ntmps23
  go_upto_region 1 with (fail)
  rw [← HW0.out]
  go_wp2_with (first
    | (refine load_mid_want rfl 28 (.tmp 3) rfl w.heap.size 0 rfl V _ RGV.out Tryd.underlying28 rfl IV.out ?_)
    | (refine load_mid_want rfl 30 (.tmp 5) rfl (w.heap.size + 1) 0 rfl D _ RGD.out Tryd.underlying30 rfl ID.out ?_))
  refine HG.out.mono ?_
  rintro e w1 ⟨rfl, b1⟩
  have t1 := T0.out.below b1 T0.out.lt
  have t10 := t1.cell 0
  rw [List.getElem?_toArray, D0.out] at t10
  have HC := Lib.hid (slices_contains ms t.1 B k d w1 (HM.out.call b1) hk)
  have B1 := Lib.hid (B0.out.trans (b1.mono B0.out.size))
  clear b1 t1
  cases hg : genuineB root t with
  | true =>
    go_wp2_with fail
    refine HC.out.mono ?_
    rintro e w2 ⟨rfl, rfl⟩
    go_wp2
    go_ret
    exact ⟨by simp [hg], B1.out⟩
  | false =>
    go_wp2_with fail
    go_ret
    exact ⟨by simp [hg], B1.out⟩

end Go.Proofs.YtamhggndcegndaaDoor
