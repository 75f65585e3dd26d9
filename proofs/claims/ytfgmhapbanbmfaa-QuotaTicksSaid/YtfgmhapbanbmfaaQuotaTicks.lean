/-
  The law QuotaTicks: it returns true for every input, and leaves what was there as it was. (The frame is written by program, wip/frame.py, after the kit's skeleton.)
-/
import Derived.Test.YtfgmhapbanbmfaaRows
import Derived.WalkKit
import Derived.ProofKit
import Derived.OpenShut
import Derived.ShutString
import Derived.ChangeOld
import Derived.Below
import Derived.Lib.SmallJoins
import Derived.Test.YtfgmhapbanbmfaaQuota
import Derived.Deep.RegionHeld3
import Derived.Deep.DrawnRows

namespace Go.Proofs.Ytfgmhapbanbmfaa.quotaTicks
open Go.ChangeShapes Go.WideShapes Go.ChangeAt Go.RowKit
open Go.ChangeMaps (open_string shut_string)
set_option linter.unusedVariables false

theorem own : ownKnob Try.prog.godebug = none := by kernel_rfl

theorem laidOut : laidOutB Try.prog = true := by kernel_rfl

-- BY HAND
theorem tick_tick (r b t m n : Int) (r0 : 0 ≤ r) (m0 : 0 ≤ m) (n0 : 0 ≤ n) : tickI r b (tickI r b t m) n = tickI r b t (m + n) := by
  unfold tickI
  have h1 := Int.mul_nonneg m0 r0
  have h2 := Int.mul_nonneg n0 r0
  rw [Int.add_mul]
  split <;> split <;> split <;> omega

theorem tick_le (r b t n : Int) : tickI r b t n ≤ b := by
  unfold tickI
  split <;> omega

theorem tick_ge (r b t n : Int) (r0 : 0 ≤ r) (n0 : 0 ≤ n) (h : t ≤ b) : t ≤ tickI r b t n := by
  have h2 := Int.mul_nonneg n0 r0
  unfold tickI
  split <;> omega

theorem tick_nn (r b t n : Int) (r0 : 0 ≤ r) (n0 : 0 ≤ n) (b0 : 0 ≤ b) (t0 : 0 ≤ t) : 0 ≤ tickI r b t n := by
  have h2 := Int.mul_nonneg n0 r0
  unfold tickI
  split <;> omega

set_option maxRecDepth 100000 in
set_option maxHeartbeats 4000000 in
theorem ticks_walk (r b t m n k : Int) (W : World) (r0 : 0 ≤ r) (r1 : r ≤ 4294967295) (b0 : 0 ≤ b) (b1 : b ≤ 4294967295) (t0 : 0 ≤ t) (t1 : t ≤ 4294967295) (m0 : 0 ≤ m) (m1 : m ≤ 4294967295) (n0 : 0 ≤ n) (n1 : n ≤ 4294967295) (k0 : 0 ≤ k) (k1 : k ≤ 4294967295) :
    Calls Try.prog 9 #[.agg #[.int .u32 r, .int .u32 b, .int .u32 t], .int .u32 m, .int .u32 n, .int .u32 k] W fun e w' => e = .returned (.bool true) ∧ Below W.heap.size W w' := by
  have HT := Lib.hid (tick_tick r b t m n r0 m0 n0)
  have u1 := tick_le r b t m
  have u2 := tick_nn r b t m r0 m0 b0 t0
  have v1 := tick_le r b t (m + n)
  have v2 := tick_nn r b t (m + n) r0 (by omega) b0 t0
  have HV := Lib.hid (tick_ge r b t (m + n) r0 (by omega))
  go_enter Try.func9, Try.ntmps9
  go_wp2_with fail
  refine (quota_tick _ _ _ _ _ r0 r1 b0 b1 t0 t1 m0 (by omega)).mono ?_
  rintro e w1 ⟨rfl, hb1⟩
  have B1 := below_call (below_new (Below.refl W.heap.size W) _) hb1
  have a0 : w1.cell? ⟨W.heap.size, 0, none⟩ = some (.int .u32 r) := cell_call (cell_made ..) hb1
  have a1 : w1.cell? ⟨W.heap.size, 1, none⟩ = some (.int .u32 b) := cell_call (cell_made ..) hb1
  have a2 : w1.cell? ⟨W.heap.size, 2, none⟩ = some (.int .u32 t) := cell_call (cell_made ..) hb1
  have z1 : W.heap.size < w1.heap.size := by have := hb1.size; simp at this; omega
  clear hb1
  go_wp2_with fail
  refine (quota_tick _ _ _ _ _ r0 r1 b0 b1 u2 (by omega) n0 (by omega)).mono ?_
  rintro e w2 ⟨rfl, hb2⟩
  rw [HT.out]
  have B2 := below_call B1 hb2
  replace a0 := cell_call a0 hb2
  replace a1 := cell_call a1 hb2
  replace a2 := cell_call a2 hb2
  have z2 : W.heap.size < w2.heap.size := by have := hb2.size; omega
  clear hb2 B1 u1 u2
  go_wp2_with fail
  refine (quota_tick _ _ _ _ _ r0 r1 b0 b1 t0 t1 (by omega) (by omega)).mono ?_
  rintro e w3 ⟨rfl, hb3⟩
  generalize hT : tickI r b t (m + n) = T at *
  clear hT
  have B3 := below_call (below_new B2 _) hb3
  have c0 : w3.cell? ⟨w2.heap.size, 0, none⟩ = some (.int .u32 r) := cell_call (cell_made ..) hb3
  have c1 : w3.cell? ⟨w2.heap.size, 1, none⟩ = some (.int .u32 b) := cell_call (cell_made ..) hb3
  have c2 : w3.cell? ⟨w2.heap.size, 2, none⟩ = some (.int .u32 T) := cell_call (cell_made ..) hb3
  replace a0 := cell_call (cell_new a0 _) hb3
  replace a1 := cell_call (cell_new a1 _) hb3
  replace a2 := cell_call (cell_new a2 _) hb3
  have z3 : w2.heap.size < w3.heap.size := by have := hb3.size; simp at this; omega
  clear hb3 B2
  have z4 : W.heap.size < w3.heap.size := by omega
  by_cases hk : k ≤ t
  · have hk2 : (t - k + k == t) = true := by simp
    by_cases htb : t ≤ b
    · have hv := HV.out htb
      go_wp2_with fail
      refine (quota_take_yes r b t k _ hk k0 t1).mono ?_
      rintro e w4 ⟨rfl, hb4⟩
      have B4 := below_new (below_call (below_new B3 _) hb4) (.cells #[.int .u32 r, .int .u32 b, .int .u32 (t - k)] 32)
      replace a0 := cell_call (cell_new a0 _) hb4
      replace a1 := cell_call (cell_new a1 _) hb4
      replace a2 := cell_call (cell_new a2 _) hb4
      have z5 : W.heap.size < w4.heap.size := by have := hb4.size; simp at this; omega
      clear hb4 B3
      go_wp2_with fail
      refine (quota_known _).mono ?_
      rintro e w7 ⟨rfl, hb7⟩
      go_wp2
      go_ret
      exact ⟨rfl, below_call B4 hb7⟩
    · clear hk2
      have hk2 : (t - k + k == t) = true := by simp
      go_wp2_with fail
      refine (quota_take_yes r b t k _ hk k0 t1).mono ?_
      rintro e w4 ⟨rfl, hb4⟩
      have B4 := below_new (below_call (below_new B3 _) hb4) (.cells #[.int .u32 r, .int .u32 b, .int .u32 (t - k)] 32)
      replace a0 := cell_call (cell_new a0 _) hb4
      replace a1 := cell_call (cell_new a1 _) hb4
      replace a2 := cell_call (cell_new a2 _) hb4
      have z5 : W.heap.size < w4.heap.size := by have := hb4.size; simp at this; omega
      clear hb4 B3
      go_wp2_with fail
      refine (quota_known _).mono ?_
      rintro e w7 ⟨rfl, hb7⟩
      go_wp2
      go_ret
      exact ⟨rfl, below_call B4 hb7⟩
  · have hk1 : t < k := by omega
    by_cases htb : t ≤ b
    · have hv := HV.out htb
      go_wp2_with fail
      refine (quota_take_no r b t k _ hk1).mono ?_
      rintro e w4 ⟨rfl, hb4⟩
      have B4 := below_new (below_call (below_new B3 _) hb4) (.cells #[.int .u32 r, .int .u32 b, .int .u32 (t)] 32)
      replace a0 := cell_call (cell_new a0 _) hb4
      replace a1 := cell_call (cell_new a1 _) hb4
      replace a2 := cell_call (cell_new a2 _) hb4
      have z5 : W.heap.size < w4.heap.size := by have := hb4.size; simp at this; omega
      clear hb4 B3
      go_wp2_with fail
      refine (quota_known _).mono ?_
      rintro e w7 ⟨rfl, hb7⟩
      go_wp2
      go_ret
      exact ⟨ret_bool (by simp; omega), below_call B4 hb7⟩
    · have hk2 : True := trivial
      go_wp2_with fail
      refine (quota_take_no r b t k _ hk1).mono ?_
      rintro e w4 ⟨rfl, hb4⟩
      have B4 := below_new (below_call (below_new B3 _) hb4) (.cells #[.int .u32 r, .int .u32 b, .int .u32 (t)] 32)
      replace a0 := cell_call (cell_new a0 _) hb4
      replace a1 := cell_call (cell_new a1 _) hb4
      replace a2 := cell_call (cell_new a2 _) hb4
      have z5 : W.heap.size < w4.heap.size := by have := hb4.size; simp at this; omega
      clear hb4 B3
      go_wp2_with fail
      refine (quota_known _).mono ?_
      rintro e w7 ⟨rfl, hb7⟩
      go_wp2
      go_ret
      exact ⟨ret_bool (by simp; omega), below_call B4 hb7⟩

theorem law_calls {H : Type} {enc : TypeId × Value → H} {base : Nat} (W : World) (v0 : Value) (d0 : DataW H) (p0 : List MemPlace) (v1 : Value) (d1 : DataW H) (p1 : List MemPlace) (v2 : Value) (d2 : DataW H) (p2 : List MemPlace) (v3 : Value) (d3 : DataW H) (p3 : List MemPlace)
    (o0 : Value.okWide Try.prog W .any base 32 v0) (h0 : DataW.Trod enc Try.prog W 0 (fun _ => true) true 32 v0 d0 p0) (o1 : Value.okWide Try.prog W .any base 30 v1) (h1 : DataW.Trod enc Try.prog W 0 (fun _ => true) true 30 v1 d1 p1) (o2 : Value.okWide Try.prog W .any base 30 v2) (h2 : DataW.Trod enc Try.prog W 0 (fun _ => true) true 30 v2 d2 p2) (o3 : Value.okWide Try.prog W .any base 30 v3) (h3 : DataW.Trod enc Try.prog W 0 (fun _ => true) true 30 v3 d3 p3) :
    Calls Try.prog 9 #[v0, v1, v2, v3] W fun e w' => e = .returned (.bool true) ∧ Below W.heap.size W w' := by
  obtain ⟨c0, c1, c2, y0, y1, y2, n, rfl, -, -, g0, g1, g2⟩ := Go.Joins.open_agg3 Try.underlying32 (by kernel_rfl) (by kernel_rfl) o0 h0
  obtain ⟨r, e0, -, wr⟩ := DataW.trod_int Try.underlying30 g0
  obtain ⟨b, e1, -, wb⟩ := DataW.trod_int Try.underlying30 g1
  obtain ⟨t, e2, -, wt⟩ := DataW.trod_int Try.underlying30 g2
  simp at e0 e1 e2
  subst e0 e1 e2
  obtain ⟨a1, rfl, -, -, w1⟩ := open_int Try.underlying30 o1 h1
  obtain ⟨a2, rfl, -, -, w2⟩ := open_int Try.underlying30 o2 h2
  obtain ⟨a3, rfl, -, -, w3⟩ := open_int Try.underlying30 o3 h3
  obtain ⟨r0, r1⟩ := bounds_u32 wr
  obtain ⟨b0, b1⟩ := bounds_u32 wb
  obtain ⟨t0, t1⟩ := bounds_u32 wt
  obtain ⟨m0, m1⟩ := bounds_u32 w1
  obtain ⟨n0, n1⟩ := bounds_u32 w2
  obtain ⟨k0, k1⟩ := bounds_u32 w3
  exact ticks_walk r b t a1 a2 a3 W r0 r1 b0 b1 t0 t1 m0 m1 n0 n1 k0 k1
-- END BY HAND

set_option maxRecDepth 100000 in
theorem lifted (os : Os) (started : os.Started) (H : Type) (enc : TypeId × Value → H) :
    ReturnsInHanded {} Try.checked os 9 .any (Rows.quotaTicksSpec.pre6 enc Try.prog Try.f9 Rows.quotaTicksRow.domain false) (Rows.quotaTicksSpec.post enc Try.prog Try.f9 false true false false) := by
  refine returnsInHanded_of_change (C := Try.checked) own started (by kernel_rfl) Try.func9
    (ChangeSpec.witness6 (enc := enc) (C := Try.checked) false ⟨#[], #[.agg #[.int .u32 0, .int .u32 0, .int .u32 0], .int .u32 0, .int .u32 0, .int .u32 0], []⟩ 8 (by kernel_rfl) (by kernel_rfl) (by kernel_rfl) (by kernel_rfl)) ?_
  intro W base args ds gs before hval0 hW hcnd _
  have hval : ∀ (j : Nat) t v, Try.f9.params[j]? = some t → args[j]? = some v → Value.okWide Try.prog W .any base t v := hval0
  have hW' := hW
  obtain ⟨p, q, hA0, hV, rfl, hfz, hnd⟩ := hW
  have hA : DataW.TrodAll enc Try.prog W 0 (fun _ => true) true Try.f9.params.toList args.toList ds p := hA0
  rw [Try.params9] at hA hval
  obtain ⟨v0, vs0, d0, ds0, p0, q0, hargs, rfl, rfl, h0, r0⟩ := trodAll_cons hA
  obtain ⟨v1, vs1, d1, ds1, p1, q1, rfl, rfl, rfl, h1, r1⟩ := trodAll_cons r0
  obtain ⟨v2, vs2, d2, ds2, p2, q2, rfl, rfl, rfl, h2, r2⟩ := trodAll_cons r1
  obtain ⟨v3, vs3, d3, ds3, p3, q3, rfl, rfl, rfl, h3, r3⟩ := trodAll_cons r2
  obtain ⟨rfl, rfl, rfl⟩ := trodAll_nil r3
  obtain rfl : args = #[v0, v1, v2, v3] := by cases args; simp_all
  obtain ⟨rfl, rfl⟩ := trodVars_none hV
  have lt0 : ∀ x ∈ p0, x.block < W.heap.size := by obtain ⟨m, hm⟩ := h0; exact DataW.trod_lt m _ _ _ hm
  have lt1 : ∀ x ∈ p1, x.block < W.heap.size := by obtain ⟨m, hm⟩ := h1; exact DataW.trod_lt m _ _ _ hm
  have lt2 : ∀ x ∈ p2, x.block < W.heap.size := by obtain ⟨m, hm⟩ := h2; exact DataW.trod_lt m _ _ _ hm
  have lt3 : ∀ x ∈ p3, x.block < W.heap.size := by obtain ⟨m, hm⟩ := h3; exact DataW.trod_lt m _ _ _ hm
  clear hA0 hval0
  refine (law_calls (enc := enc) (base := base) W v0 d0 p0 v1 d1 p1 v2 d2 p2 v3 d3 p3 (hval 0 32 v0 rfl rfl) h0 (hval 1 30 v1 rfl rfl) h1 (hval 2 30 v2 rfl rfl) h2 (hval 3 30 v3 rfl rfl) h3).mono fun e W' ⟨he, bel⟩ => ?_
  subst he
  exact ⟨_, rfl, _, _, _, [], _, [], hW', trodAll_mk1 (shut_bool Try.underlying4 _), (trodAll_cons_mk (Below.trod laidOut (by kernel_rfl) (of_decide_eq_true (by kernel_rfl)) h0 bel lt0) (trodAll_cons_mk (Below.trod laidOut (by kernel_rfl) (of_decide_eq_true (by kernel_rfl)) h1 bel lt1) (trodAll_cons_mk (Below.trod laidOut (by kernel_rfl) (of_decide_eq_true (by kernel_rfl)) h2 bel lt2) (trodAll_cons_mk (Below.trod laidOut (by kernel_rfl) (of_decide_eq_true (by kernel_rfl)) h3 bel lt3) trodAll_mk0)))), rfl, bel.frame _, fun h => by cases h⟩

theorem over : Rows.quotaTicksRow.holds Try.pinned (OpenSpec.ofChange Rows.quotaTicksSpec) :=
  OpenClaim.holds_of_wide 9 Try.f9 rfl rfl rfl rfl rfl rfl rfl ⟨rfl, rfl, rfl, rfl, rfl⟩ rfl rfl rfl rfl rfl (by kernel_rfl) Try.func9 (by kernel_rfl)
    (of_decide_eq_true (by kernel_rfl)) (by unfold Func.isWrapper; first | (rw [if_pos (by decide +kernel)]; kernel_rfl) | (rw [if_neg (by decide +kernel)]; exact ⟨rfl, rfl⟩))
    (fun os started H enc _ => lifted os started H enc)

/-- The statement. -/
theorem proved : Rows.QuotaTicksSaid := over

#print axioms proved

end Go.Proofs.Ytfgmhapbanbmfaa.quotaTicks
