/-
  The law QuotaReckons: it returns true for every input, and leaves what was there as it was. (The frame is written by program, wip/frame.py, after the kit's skeleton.)
-/
import Derived.Test.YtfgmhapbanbmfaaRows
import Derived.WalkKit
import Derived.ProofKit
import Derived.OpenShut
import Derived.ShutString
import Derived.ChangeOld
import Derived.Below
import Derived.Lib.SmallJoins
import Derived.Test.YtfgmhapbanbmfaaQuota
import Derived.Deep.RegionHeld3
import Derived.Deep.DrawnRows

namespace Go.Proofs.Ytfgmhapbanbmfaa.quotaReckons
open Go.ChangeShapes Go.WideShapes Go.ChangeAt Go.RowKit
open Go.ChangeMaps (open_string shut_string)
set_option linter.unusedVariables false

theorem own : ownKnob Try.prog.godebug = none := by kernel_rfl

theorem laidOut : laidOutB Try.prog = true := by kernel_rfl

-- BY HAND
set_option maxRecDepth 100000 in
set_option maxHeartbeats 4000000 in
theorem reckons_lo (r b t n k op y0 x y t' : Int) (ok : Bool) (W : World) (r0 : 0 ≤ r) (r1 : r ≤ 4294967295) (b0 : 0 ≤ b) (b1 : b ≤ 4294967295) (t0 : 0 ≤ t) (t1 : t ≤ 4294967295) (n0 : 0 ≤ n) (n1 : n ≤ 18446744073709551615)
    (h1 : ∀ w, Calls Try.prog 22 #[.agg #[.int .u32 r, .int .u32 b, .int .u32 t], .int .u32 k] w fun e w' => e = .returned (.tuple #[.agg #[.int .u32 r, .int .u32 b, .int .u32 t'], .bool ok]) ∧ Below w.heap.size w w')
    (h2 : ∀ w, Calls Try.prog 27 #[.agg #[.int .u32 r, .int .u32 b, .int .u32 t], .int .u32 k] w fun e w' => e = .returned (.tuple #[.agg #[.int .u32 r, .int .u32 b, .int .u32 t'], .bool ok]) ∧ Below w.heap.size w w')
    (x0 : 0 ≤ x) (y0' : 0 ≤ y) (h : x + y ≤ 18446744073709551615) :
    Calls Try.prog 8 #[.agg #[.int .u32 r, .int .u32 b, .int .u32 t], .int .u64 n, .int .u32 k, .int .i64 op, .int .i64 y0, .int .u64 x, .int .u64 y] W fun e w' => e = .returned (.bool true) ∧ Below W.heap.size W w' := by
  have H1 := Lib.hid h1
  have H2 := Lib.hid h2
  have hsum : ∀ w, Calls Try.prog 25 #[.int .u64 x, .int .u64 y] w fun e w' => e = .returned (.int .u64 (x + y)) ∧ w = w' := fun w =>
    (quota_sum x y w x0 (by omega) y0' (by omega)).mono fun e w' ⟨he, hw⟩ => ⟨by rw [he, sumI, if_neg (by omega)], hw⟩
  have HSUM := Lib.hid hsum
  clear h1 h2 hsum
  go_enter Try.func8, Try.ntmps8
  go_wp2_with fail
  refine (H1.out _).mono ?_
  rintro e w1 ⟨rfl, hb1⟩
  have B1 := below_call (below_new (Below.refl W.heap.size W) _) hb1
  have a0 : w1.cell? ⟨W.heap.size, 0, none⟩ = some (.int .u32 r) := cell_call (cell_made ..) hb1
  have a1 : w1.cell? ⟨W.heap.size, 1, none⟩ = some (.int .u32 b) := cell_call (cell_made ..) hb1
  have a2 : w1.cell? ⟨W.heap.size, 2, none⟩ = some (.int .u32 t) := cell_call (cell_made ..) hb1
  have z1 : W.heap.size < w1.heap.size := by have := hb1.size; simp at this; omega
  clear hb1
  go_wp2_with fail
  refine (quota_plain _ _ _ _).mono ?_
  rintro e w2 ⟨rfl, hb2⟩
  have B2 := below_call (below_new B1 _) hb2
  have c0 : w2.cell? ⟨w1.heap.size, 0, none⟩ = some (.int .u32 r) := cell_call (cell_made ..) hb2
  have c1 : w2.cell? ⟨w1.heap.size, 1, none⟩ = some (.int .u32 b) := cell_call (cell_made ..) hb2
  have c2 : w2.cell? ⟨w1.heap.size, 2, none⟩ = some (.int .u32 t') := cell_call (cell_made ..) hb2
  replace a0 := cell_call (cell_new a0 _) hb2
  replace a1 := cell_call (cell_new a1 _) hb2
  replace a2 := cell_call (cell_new a2 _) hb2
  have z2 : w1.heap.size < w2.heap.size := by have := hb2.size; simp at this; omega
  clear hb2
  go_wp2_with fail
  refine (H2.out _).mono ?_
  rintro e w3 ⟨rfl, hb3⟩
  have B3 := (below_new (below_call B2 hb3) (.cells #[.int .u32 r, .int .u32 b, .int .u32 t'] 42)).drew
  replace a0 := cell_call a0 hb3
  replace a1 := cell_call a1 hb3
  replace a2 := cell_call a2 hb3
  replace c0 := cell_call c0 hb3
  replace c1 := cell_call c1 hb3
  replace c2 := cell_call c2 hb3
  have z3 := hb3.size
  clear hb3 B1 B2
  go_wp2_with fail
  go_region_held3 (fun w' => w'.cell? ⟨W.heap.size, 0, none⟩ = some (.int .u32 r) ∧ w'.cell? ⟨W.heap.size, 1, none⟩ = some (.int .u32 b) ∧ w'.cell? ⟨W.heap.size, 2, none⟩ = some (.int .u32 t) ∧ w'.cell? ⟨w1.heap.size, 0, none⟩ = some (.int .u32 r) ∧ w'.cell? ⟨w1.heap.size, 1, none⟩ = some (.int .u32 b) ∧ w'.cell? ⟨w1.heap.size, 2, none⟩ = some (.int .u32 t') ∧ w'.cell? ⟨w3.heap.size, 0, none⟩ = some (.int .u32 r) ∧ w'.cell? ⟨w3.heap.size, 1, none⟩ = some (.int .u32 b) ∧ w'.cell? ⟨w3.heap.size, 2, none⟩ = some (.int .u32 t') ∧ Below W.heap.size W w')
    (first | go_keep | (go_split_ands; refine ⟨?_, ?_, ?_, ?_, ?_, ?_, ?_, ?_, ?_, ?_⟩ <;> (first | exact below_call (by assumption) (by assumption) | exact cell_call (by assumption) (by assumption))))
    (first | (go_at_call 23; (with_reducible refine (quota_tick _ _ _ _ _ r0 r1 b0 b1 t0 t1 n0 n1).mono ?_); rintro e w6 ⟨rfl, hb6⟩) | (go_at_call 28; (with_reducible refine (quota_plain _ _ _ _).mono ?_); rintro e w6 ⟨rfl, hb6⟩) | (go_at_call 30; (with_reducible refine (ref14_tick _ _ _ _ _ r0 r1 b0 b1 t0 t1 n0 n1).mono ?_); rintro e w6 ⟨rfl, hb6⟩) | (go_at_call 29; (with_reducible refine (quota_same _ _ _ _).mono ?_); rintro e w6 ⟨rfl, hb6⟩) | (go_at_call 24; (with_reducible refine (quota_cost _ _ _).mono ?_); rintro e w' ⟨rfl, rfl⟩) | (go_at_call 31; (with_reducible refine (ref14_cost _ _ _).mono ?_); rintro e w' ⟨rfl, rfl⟩) | (go_at_call 25; (with_reducible refine (HSUM.out _).mono ?_); rintro e w' ⟨rfl, rfl⟩) | (go_at_call 26; (with_reducible refine (quota_known _).mono ?_); rintro e w7 ⟨rfl, hb7⟩))
  all_goals
    go_split_ands
    go_wp2
    go_ret
    exact ⟨rfl, by assumption⟩

set_option maxRecDepth 100000 in
set_option maxHeartbeats 4000000 in
theorem reckons_hi (r b t n k op y0 x y t' : Int) (ok : Bool) (W : World) (r0 : 0 ≤ r) (r1 : r ≤ 4294967295) (b0 : 0 ≤ b) (b1 : b ≤ 4294967295) (t0 : 0 ≤ t) (t1 : t ≤ 4294967295) (n0 : 0 ≤ n) (n1 : n ≤ 18446744073709551615)
    (h1 : ∀ w, Calls Try.prog 22 #[.agg #[.int .u32 r, .int .u32 b, .int .u32 t], .int .u32 k] w fun e w' => e = .returned (.tuple #[.agg #[.int .u32 r, .int .u32 b, .int .u32 t'], .bool ok]) ∧ Below w.heap.size w w')
    (h2 : ∀ w, Calls Try.prog 27 #[.agg #[.int .u32 r, .int .u32 b, .int .u32 t], .int .u32 k] w fun e w' => e = .returned (.tuple #[.agg #[.int .u32 r, .int .u32 b, .int .u32 t'], .bool ok]) ∧ Below w.heap.size w w')
    (x0 : 0 ≤ x) (y0' : 0 ≤ y) (x1 : x ≤ 18446744073709551615) (y1 : y ≤ 18446744073709551615) (h : 18446744073709551615 < x + y) :
    Calls Try.prog 8 #[.agg #[.int .u32 r, .int .u32 b, .int .u32 t], .int .u64 n, .int .u32 k, .int .i64 op, .int .i64 y0, .int .u64 x, .int .u64 y] W fun e w' => e = .returned (.bool true) ∧ Below W.heap.size W w' := by
  have H1 := Lib.hid h1
  have H2 := Lib.hid h2
  have hsum : ∀ w, Calls Try.prog 25 #[.int .u64 x, .int .u64 y] w fun e w' => e = .returned (.int .u64 18446744073709551615) ∧ w = w' := fun w =>
    (quota_sum x y w x0 x1 y0' y1).mono fun e w' ⟨he, hw⟩ => ⟨by rw [he, sumI, if_pos (by omega)], hw⟩
  have hlt : IntKind.u64.wrap (x + y) < x := by rw [IntKind.wrap_u64]; omega
  have HSUM := Lib.hid hsum
  clear h1 h2 hsum h x1 y1 y0'
  go_enter Try.func8, Try.ntmps8
  go_wp2_with fail
  refine (H1.out _).mono ?_
  rintro e w1 ⟨rfl, hb1⟩
  have B1 := below_call (below_new (Below.refl W.heap.size W) _) hb1
  have a0 : w1.cell? ⟨W.heap.size, 0, none⟩ = some (.int .u32 r) := cell_call (cell_made ..) hb1
  have a1 : w1.cell? ⟨W.heap.size, 1, none⟩ = some (.int .u32 b) := cell_call (cell_made ..) hb1
  have a2 : w1.cell? ⟨W.heap.size, 2, none⟩ = some (.int .u32 t) := cell_call (cell_made ..) hb1
  have z1 : W.heap.size < w1.heap.size := by have := hb1.size; simp at this; omega
  clear hb1
  go_wp2_with fail
  refine (quota_plain _ _ _ _).mono ?_
  rintro e w2 ⟨rfl, hb2⟩
  have B2 := below_call (below_new B1 _) hb2
  have c0 : w2.cell? ⟨w1.heap.size, 0, none⟩ = some (.int .u32 r) := cell_call (cell_made ..) hb2
  have c1 : w2.cell? ⟨w1.heap.size, 1, none⟩ = some (.int .u32 b) := cell_call (cell_made ..) hb2
  have c2 : w2.cell? ⟨w1.heap.size, 2, none⟩ = some (.int .u32 t') := cell_call (cell_made ..) hb2
  replace a0 := cell_call (cell_new a0 _) hb2
  replace a1 := cell_call (cell_new a1 _) hb2
  replace a2 := cell_call (cell_new a2 _) hb2
  have z2 : w1.heap.size < w2.heap.size := by have := hb2.size; simp at this; omega
  clear hb2
  go_wp2_with fail
  refine (H2.out _).mono ?_
  rintro e w3 ⟨rfl, hb3⟩
  have B3 := (below_new (below_call B2 hb3) (.cells #[.int .u32 r, .int .u32 b, .int .u32 t'] 42)).drew
  replace a0 := cell_call a0 hb3
  replace a1 := cell_call a1 hb3
  replace a2 := cell_call a2 hb3
  replace c0 := cell_call c0 hb3
  replace c1 := cell_call c1 hb3
  replace c2 := cell_call c2 hb3
  have z3 := hb3.size
  clear hb3 B1 B2
  go_wp2_with fail
  go_region_held3 (fun w' => w'.cell? ⟨W.heap.size, 0, none⟩ = some (.int .u32 r) ∧ w'.cell? ⟨W.heap.size, 1, none⟩ = some (.int .u32 b) ∧ w'.cell? ⟨W.heap.size, 2, none⟩ = some (.int .u32 t) ∧ w'.cell? ⟨w1.heap.size, 0, none⟩ = some (.int .u32 r) ∧ w'.cell? ⟨w1.heap.size, 1, none⟩ = some (.int .u32 b) ∧ w'.cell? ⟨w1.heap.size, 2, none⟩ = some (.int .u32 t') ∧ w'.cell? ⟨w3.heap.size, 0, none⟩ = some (.int .u32 r) ∧ w'.cell? ⟨w3.heap.size, 1, none⟩ = some (.int .u32 b) ∧ w'.cell? ⟨w3.heap.size, 2, none⟩ = some (.int .u32 t') ∧ Below W.heap.size W w')
    (first | go_keep | (go_split_ands; refine ⟨?_, ?_, ?_, ?_, ?_, ?_, ?_, ?_, ?_, ?_⟩ <;> (first | exact below_call (by assumption) (by assumption) | exact cell_call (by assumption) (by assumption))))
    (first | (go_at_call 23; (with_reducible refine (quota_tick _ _ _ _ _ r0 r1 b0 b1 t0 t1 n0 n1).mono ?_); rintro e w6 ⟨rfl, hb6⟩) | (go_at_call 28; (with_reducible refine (quota_plain _ _ _ _).mono ?_); rintro e w6 ⟨rfl, hb6⟩) | (go_at_call 30; (with_reducible refine (ref14_tick _ _ _ _ _ r0 r1 b0 b1 t0 t1 n0 n1).mono ?_); rintro e w6 ⟨rfl, hb6⟩) | (go_at_call 29; (with_reducible refine (quota_same _ _ _ _).mono ?_); rintro e w6 ⟨rfl, hb6⟩) | (go_at_call 24; (with_reducible refine (quota_cost _ _ _).mono ?_); rintro e w' ⟨rfl, rfl⟩) | (go_at_call 31; (with_reducible refine (ref14_cost _ _ _).mono ?_); rintro e w' ⟨rfl, rfl⟩) | (go_at_call 25; (with_reducible refine (HSUM.out _).mono ?_); rintro e w' ⟨rfl, rfl⟩) | (go_at_call 26; (with_reducible refine (quota_known _).mono ?_); rintro e w7 ⟨rfl, hb7⟩))
  all_goals
    go_split_ands
    go_wp2
    go_ret
    exact ⟨rfl, by assumption⟩

theorem law_calls {H : Type} {enc : TypeId × Value → H} {base : Nat} (W : World) (v0 : Value) (d0 : DataW H) (p0 : List MemPlace) (v1 : Value) (d1 : DataW H) (p1 : List MemPlace) (v2 : Value) (d2 : DataW H) (p2 : List MemPlace) (v3 : Value) (d3 : DataW H) (p3 : List MemPlace) (v4 : Value) (d4 : DataW H) (p4 : List MemPlace) (v5 : Value) (d5 : DataW H) (p5 : List MemPlace) (v6 : Value) (d6 : DataW H) (p6 : List MemPlace)
    (o0 : Value.okWide Try.prog W .any base 32 v0) (h0 : DataW.Trod enc Try.prog W 0 (fun _ => true) true 32 v0 d0 p0) (o1 : Value.okWide Try.prog W .any base 39 v1) (h1 : DataW.Trod enc Try.prog W 0 (fun _ => true) true 39 v1 d1 p1) (o2 : Value.okWide Try.prog W .any base 30 v2) (h2 : DataW.Trod enc Try.prog W 0 (fun _ => true) true 30 v2 d2 p2) (o3 : Value.okWide Try.prog W .any base 3 v3) (h3 : DataW.Trod enc Try.prog W 0 (fun _ => true) true 3 v3 d3 p3) (o4 : Value.okWide Try.prog W .any base 3 v4) (h4 : DataW.Trod enc Try.prog W 0 (fun _ => true) true 3 v4 d4 p4) (o5 : Value.okWide Try.prog W .any base 39 v5) (h5 : DataW.Trod enc Try.prog W 0 (fun _ => true) true 39 v5 d5 p5) (o6 : Value.okWide Try.prog W .any base 39 v6) (h6 : DataW.Trod enc Try.prog W 0 (fun _ => true) true 39 v6 d6 p6) :
    Calls Try.prog 8 #[v0, v1, v2, v3, v4, v5, v6] W fun e w' => e = .returned (.bool true) ∧ Below W.heap.size W w' := by
  obtain ⟨c0, c1, c2, y0, y1, y2, n, rfl, -, -, g0, g1, g2⟩ := Go.Joins.open_agg3 Try.underlying32 (by kernel_rfl) (by kernel_rfl) o0 h0
  obtain ⟨r, e0, -, wr⟩ := DataW.trod_int Try.underlying30 g0
  obtain ⟨b, e1, -, wb⟩ := DataW.trod_int Try.underlying30 g1
  obtain ⟨t, e2, -, wt⟩ := DataW.trod_int Try.underlying30 g2
  simp at e0 e1 e2
  subst e0 e1 e2
  obtain ⟨a1, rfl, -, -, w1⟩ := open_int Try.underlying39 o1 h1
  obtain ⟨a2, rfl, -, -, w2⟩ := open_int Try.underlying30 o2 h2
  obtain ⟨a3, rfl, -, -, w3⟩ := open_int Try.underlying3 o3 h3
  obtain ⟨a4, rfl, -, -, w4⟩ := open_int Try.underlying3 o4 h4
  obtain ⟨a5, rfl, -, -, w5⟩ := open_int Try.underlying39 o5 h5
  obtain ⟨a6, rfl, -, -, w6⟩ := open_int Try.underlying39 o6 h6
  obtain ⟨r0, r1⟩ := bounds_u32 wr
  obtain ⟨b0, b1⟩ := bounds_u32 wb
  obtain ⟨t0, t1⟩ := bounds_u32 wt
  obtain ⟨n0, n1⟩ := bounds_u64 w1
  obtain ⟨k0, k1⟩ := bounds_u32 w2
  obtain ⟨x0, x1⟩ := bounds_u64 w5
  obtain ⟨y0, y1⟩ := bounds_u64 w6
  clear h0 h1 h2 h3 h4 h5 h6 o0 o1 o2 o3 o4 o5 o6 g0 g1 g2
  by_cases hk : a2 ≤ t
  · by_cases hs : a5 + a6 ≤ 18446744073709551615
    · exact reckons_lo r b t a1 a2 a3 a4 a5 a6 (t - a2) true W r0 r1 b0 b1 t0 t1 n0 n1 (fun w => quota_take_yes _ _ _ _ w hk k0 t1) (fun w => ref14_take_yes _ _ _ _ w hk k0 t1) x0 y0 hs
    · exact reckons_hi r b t a1 a2 a3 a4 a5 a6 (t - a2) true W r0 r1 b0 b1 t0 t1 n0 n1 (fun w => quota_take_yes _ _ _ _ w hk k0 t1) (fun w => ref14_take_yes _ _ _ _ w hk k0 t1) x0 y0 x1 y1 (by omega)
  · by_cases hs : a5 + a6 ≤ 18446744073709551615
    · exact reckons_lo r b t a1 a2 a3 a4 a5 a6 t false W r0 r1 b0 b1 t0 t1 n0 n1 (fun w => quota_take_no _ _ _ _ w (by omega)) (fun w => ref14_take_no _ _ _ _ w (by omega)) x0 y0 hs
    · exact reckons_hi r b t a1 a2 a3 a4 a5 a6 t false W r0 r1 b0 b1 t0 t1 n0 n1 (fun w => quota_take_no _ _ _ _ w (by omega)) (fun w => ref14_take_no _ _ _ _ w (by omega)) x0 y0 x1 y1 (by omega)
-- END BY HAND

set_option maxRecDepth 100000 in
theorem lifted (os : Os) (started : os.Started) (H : Type) (enc : TypeId × Value → H) :
    ReturnsInHanded {} Try.checked os 8 .any (Rows.quotaReckonsSpec.pre6 enc Try.prog Try.f8 Rows.quotaReckonsRow.domain false) (Rows.quotaReckonsSpec.post enc Try.prog Try.f8 false true false false) := by
  refine returnsInHanded_of_change (C := Try.checked) own started (by kernel_rfl) Try.func8
    (ChangeSpec.witness6 (enc := enc) (C := Try.checked) false ⟨#[], #[.agg #[.int .u32 0, .int .u32 0, .int .u32 0], .int .u64 0, .int .u32 0, .int .i64 0, .int .i64 0, .int .u64 0, .int .u64 0], []⟩ 8 (by kernel_rfl) (by kernel_rfl) (by kernel_rfl) (by kernel_rfl)) ?_
  intro W base args ds gs before hval0 hW hcnd _
  have hval : ∀ (j : Nat) t v, Try.f8.params[j]? = some t → args[j]? = some v → Value.okWide Try.prog W .any base t v := hval0
  have hW' := hW
  obtain ⟨p, q, hA0, hV, rfl, hfz, hnd⟩ := hW
  have hA : DataW.TrodAll enc Try.prog W 0 (fun _ => true) true Try.f8.params.toList args.toList ds p := hA0
  rw [Try.params8] at hA hval
  obtain ⟨v0, vs0, d0, ds0, p0, q0, hargs, rfl, rfl, h0, r0⟩ := trodAll_cons hA
  obtain ⟨v1, vs1, d1, ds1, p1, q1, rfl, rfl, rfl, h1, r1⟩ := trodAll_cons r0
  obtain ⟨v2, vs2, d2, ds2, p2, q2, rfl, rfl, rfl, h2, r2⟩ := trodAll_cons r1
  obtain ⟨v3, vs3, d3, ds3, p3, q3, rfl, rfl, rfl, h3, r3⟩ := trodAll_cons r2
  obtain ⟨v4, vs4, d4, ds4, p4, q4, rfl, rfl, rfl, h4, r4⟩ := trodAll_cons r3
  obtain ⟨v5, vs5, d5, ds5, p5, q5, rfl, rfl, rfl, h5, r5⟩ := trodAll_cons r4
  obtain ⟨v6, vs6, d6, ds6, p6, q6, rfl, rfl, rfl, h6, r6⟩ := trodAll_cons r5
  obtain ⟨rfl, rfl, rfl⟩ := trodAll_nil r6
  obtain rfl : args = #[v0, v1, v2, v3, v4, v5, v6] := by cases args; simp_all
  obtain ⟨rfl, rfl⟩ := trodVars_none hV
  have lt0 : ∀ x ∈ p0, x.block < W.heap.size := by obtain ⟨m, hm⟩ := h0; exact DataW.trod_lt m _ _ _ hm
  have lt1 : ∀ x ∈ p1, x.block < W.heap.size := by obtain ⟨m, hm⟩ := h1; exact DataW.trod_lt m _ _ _ hm
  have lt2 : ∀ x ∈ p2, x.block < W.heap.size := by obtain ⟨m, hm⟩ := h2; exact DataW.trod_lt m _ _ _ hm
  have lt3 : ∀ x ∈ p3, x.block < W.heap.size := by obtain ⟨m, hm⟩ := h3; exact DataW.trod_lt m _ _ _ hm
  have lt4 : ∀ x ∈ p4, x.block < W.heap.size := by obtain ⟨m, hm⟩ := h4; exact DataW.trod_lt m _ _ _ hm
  have lt5 : ∀ x ∈ p5, x.block < W.heap.size := by obtain ⟨m, hm⟩ := h5; exact DataW.trod_lt m _ _ _ hm
  have lt6 : ∀ x ∈ p6, x.block < W.heap.size := by obtain ⟨m, hm⟩ := h6; exact DataW.trod_lt m _ _ _ hm
  clear hA0 hval0
  refine (law_calls (enc := enc) (base := base) W v0 d0 p0 v1 d1 p1 v2 d2 p2 v3 d3 p3 v4 d4 p4 v5 d5 p5 v6 d6 p6 (hval 0 32 v0 rfl rfl) h0 (hval 1 39 v1 rfl rfl) h1 (hval 2 30 v2 rfl rfl) h2 (hval 3 3 v3 rfl rfl) h3 (hval 4 3 v4 rfl rfl) h4 (hval 5 39 v5 rfl rfl) h5 (hval 6 39 v6 rfl rfl) h6).mono fun e W' ⟨he, bel⟩ => ?_
  subst he
  exact ⟨_, rfl, _, _, _, [], _, [], hW', trodAll_mk1 (shut_bool Try.underlying4 _), (trodAll_cons_mk (Below.trod laidOut (by kernel_rfl) (of_decide_eq_true (by kernel_rfl)) h0 bel lt0) (trodAll_cons_mk (Below.trod laidOut (by kernel_rfl) (of_decide_eq_true (by kernel_rfl)) h1 bel lt1) (trodAll_cons_mk (Below.trod laidOut (by kernel_rfl) (of_decide_eq_true (by kernel_rfl)) h2 bel lt2) (trodAll_cons_mk (Below.trod laidOut (by kernel_rfl) (of_decide_eq_true (by kernel_rfl)) h3 bel lt3) (trodAll_cons_mk (Below.trod laidOut (by kernel_rfl) (of_decide_eq_true (by kernel_rfl)) h4 bel lt4) (trodAll_cons_mk (Below.trod laidOut (by kernel_rfl) (of_decide_eq_true (by kernel_rfl)) h5 bel lt5) (trodAll_cons_mk (Below.trod laidOut (by kernel_rfl) (of_decide_eq_true (by kernel_rfl)) h6 bel lt6) trodAll_mk0))))))), rfl, bel.frame _, fun h => by cases h⟩

theorem over : Rows.quotaReckonsRow.holds Try.pinned (OpenSpec.ofChange Rows.quotaReckonsSpec) :=
  OpenClaim.holds_of_wide 8 Try.f8 rfl rfl rfl rfl rfl rfl rfl ⟨rfl, rfl, rfl, rfl, rfl⟩ rfl rfl rfl rfl rfl (by kernel_rfl) Try.func8 (by kernel_rfl)
    (of_decide_eq_true (by kernel_rfl)) (by unfold Func.isWrapper; first | (rw [if_pos (by decide +kernel)]; kernel_rfl) | (rw [if_neg (by decide +kernel)]; exact ⟨rfl, rfl⟩))
    (fun os started H enc _ => lifted os started H enc)

/-- The statement. -/
theorem proved : Rows.QuotaReckonsSaid := over

#print axioms proved

end Go.Proofs.Ytfgmhapbanbmfaa.quotaReckons
