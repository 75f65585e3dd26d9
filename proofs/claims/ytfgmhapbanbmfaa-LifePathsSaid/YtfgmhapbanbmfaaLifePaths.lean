/-
  The law LifePaths: it returns true for every input, and leaves what was there as it was. (The frame is written by program, wip/frame.py, after the kit's skeleton.)
-/
import Derived.Test.YtfgmhapbanbmfaaRows
import Derived.WalkKit
import Derived.ProofKit
import Derived.OpenShut
import Derived.ShutString
import Derived.ChangeOld
import Derived.Below
import Derived.Lib.SmallJoins
import Derived.Test.YtfgmhapbanbmfaaNext

namespace Go.Proofs.Ytfgmhapbanbmfaa.lifePaths
open Go.ChangeShapes Go.WideShapes Go.ChangeAt Go.RowKit
open Go.ChangeMaps (open_string shut_string)
set_option linter.unusedVariables false

theorem own : ownKnob Try.prog.godebug = none := by kernel_rfl

theorem laidOut : laidOutB Try.prog = true := by kernel_rfl

-- BY HAND
theorem next_ok (f n : Int) : ∀ k : Nat, ∀ x ∈ nextTo f n k, mayB f x n = true ∧ 1 ≤ x ∧ x ≤ k
  | 0, x, h => by simp [nextTo] at h
  | k + 1, x, h => by
    simp only [nextTo, List.mem_append] at h
    rcases h with h | h
    · have := next_ok f n k x h
      exact ⟨this.1, by omega, by omega⟩
    · split at h
      · rename_i hm
        simp at h
        subst h
        exact ⟨by simpa using hm, by omega, by omega⟩
      · cases h

theorem may_irr (f n : Int) : mayB f f n = false := by
  unfold mayB
  split
  · subst_vars; rfl
  · split
    · subst_vars; rfl
    · split
      · subst_vars; rfl
      · rfl

theorem serves_next (f n : Int) : servesB f = decide (0 < (nextTo f n 4).length) := by
  unfold servesB
  by_cases h1 : f = 1
  · subst h1; simp [nextTo, mayB]
  · by_cases h2 : f = 2
    · subst h2; simp [nextTo, mayB]
    · by_cases h3 : f = 3
      · subst h3
        by_cases h : n = 0 <;> simp [nextTo, mayB, h]
      · have hm : ∀ t, mayB f t n = false := fun t => by simp [mayB, h1, h2, h3]
        simp [nextTo, hm, h1, h2, h3]

theorem law_calls {H : Type} {enc : TypeId × Value → H} {base : Nat} (W : World) (v0 : Value) (d0 : DataW H) (p0 : List MemPlace) (v1 : Value) (d1 : DataW H) (p1 : List MemPlace)
    (o0 : Value.okWide Try.prog W .any base 3 v0) (h0 : DataW.Trod enc Try.prog W 0 (fun _ => true) true 3 v0 d0 p0) (o1 : Value.okWide Try.prog W .any base 3 v1) (h1 : DataW.Trod enc Try.prog W 0 (fun _ => true) true 3 v1 d1 p1) :
    Calls Try.prog 3 #[v0, v1] W fun e w' => e = .returned (.bool true) ∧ Below W.heap.size W w' := by
  obtain ⟨a0, rfl, -, -, w0⟩ := open_int Try.underlying3 o0 h0
  obtain ⟨a1, rfl, -, -, w1⟩ := open_int Try.underlying3 o1 h1
  obtain ⟨f0, f1⟩ := within_bd a0 0 5 (by omega)
  obtain ⟨n0, n1⟩ := within_bd a1 0 3 (by omega)
  obtain ⟨x0, x1⟩ := bounds_i64 w0
  obtain ⟨y0, y1⟩ := bounds_i64 w1
  clear o0 h0 o1 h1 w0 w1
  have k1 : mayB 3 4 0 = true := rfl
  go_enter Try.func3, Try.ntmps3
  go_wp2_with fail
  refine (book_within _ _ _ _ x0 x1 (by omega) (by omega) (by omega)).mono ?_
  rintro e w' ⟨rfl, rfl⟩
  generalize within a0 0 5 = f at *
  go_wp2_with fail
  refine (book_within _ _ _ _ y0 y1 (by omega) (by omega) (by omega)).mono ?_
  rintro e w' ⟨rfl, rfl⟩
  generalize within a1 0 3 = n at *
  clear x0 x1 y0 y1
  go_wp2_with fail
  refine (life_next _ _ _).mono ?_
  rintro e w1 ⟨v, rfl, hown, hb⟩
  have hok := next_ok f n 4
  have hsv := serves_next f n
  have hle := nextTo_len f n 4
  generalize nextTo f n 4 = l at *
  obtain ⟨A, c, rfl, hn, hm, hr⟩ := own_slice hown
  clear hown
  unfold maxLen at hm
  have hsv2 : (servesB f == decide (0 < l.length)) = true := by rw [hsv]; simp
  clear hsv
  have Hok := Lib.hid hok
  clear hok
  have Hirr := Lib.hid (may_irr f n)
  have m1 : mayB 1 4 n = false := rfl
  have m2 : mayB 1 3 n = true := rfl
  have m3 : mayB 1 2 n = true := rfl
  have m4 : mayB 2 4 n = true := rfl
  go_wp2_with (go_at_call 13; refine (life_serves _ _).mono ?_; rintro e w' ⟨rfl, rfl⟩)
  go_loopw [6] (fun i wr => ∃ k q : Nat, k ≤ l.length ∧ i = .int .i64 k ∧ wr = w1.drewN q) (fun i _ => l.length - (intOf i).toNat)
  case atStart => exact ⟨0, 0, by omega, rfl, rfl⟩
  case round =>
    obtain ⟨k, q, hk, rfl, rfl⟩ := hrel
    by_cases hlt : k < l.length
    · obtain ⟨ad, x, rfl, _, hx, hc⟩ := reads_int hr hlt
      obtain ⟨hx1, hx2, hx3⟩ := Hok.out x (List.mem_of_getElem? hx)
      have hne : (x == f) = false := by
        simp
        rintro rfl
        rw [Hirr.out] at hx1
        cases hx1
      clear hx hr
      go_wp2_with (go_at_call 14; refine (life_may _ _ _ _).mono ?_; rintro e w' ⟨rfl, rfl⟩)
      go_roundw
      case rel => exact ⟨k + 1, _, by omega, by go_num, rfl⟩
      case measure => simp [intOf]; omega
    · go_wp2_with (first
        | (go_at_call 14; refine (life_may _ _ _ _).mono ?_; rintro e w' ⟨rfl, rfl⟩)
        | (go_at_call 15; refine (life_known _).mono ?_; rintro e w2 ⟨rfl, hb2⟩))
      go_ret
      exact ⟨rfl, (below_drewN hb _).trans (hb2.mono hb.size)⟩
-- END BY HAND

set_option maxRecDepth 100000 in
theorem lifted (os : Os) (started : os.Started) (H : Type) (enc : TypeId × Value → H) :
    ReturnsInHanded {} Try.checked os 3 .any (Rows.lifePathsSpec.pre6 enc Try.prog Try.f3 Rows.lifePathsRow.domain false) (Rows.lifePathsSpec.post enc Try.prog Try.f3 false true false false) := by
  refine returnsInHanded_of_change (C := Try.checked) own started (by kernel_rfl) Try.func3
    (ChangeSpec.witness6 (enc := enc) (C := Try.checked) false ⟨#[], #[.int .i64 0, .int .i64 0], []⟩ 8 (by kernel_rfl) (by kernel_rfl) (by kernel_rfl) (by kernel_rfl)) ?_
  intro W base args ds gs before hval0 hW hcnd _
  have hval : ∀ (j : Nat) t v, Try.f3.params[j]? = some t → args[j]? = some v → Value.okWide Try.prog W .any base t v := hval0
  have hW' := hW
  obtain ⟨p, q, hA0, hV, rfl, hfz, hnd⟩ := hW
  have hA : DataW.TrodAll enc Try.prog W 0 (fun _ => true) true Try.f3.params.toList args.toList ds p := hA0
  rw [Try.params3] at hA hval
  obtain ⟨v0, vs0, d0, ds0, p0, q0, hargs, rfl, rfl, h0, r0⟩ := trodAll_cons hA
  obtain ⟨v1, vs1, d1, ds1, p1, q1, rfl, rfl, rfl, h1, r1⟩ := trodAll_cons r0
  obtain ⟨rfl, rfl, rfl⟩ := trodAll_nil r1
  obtain rfl : args = #[v0, v1] := by cases args; simp_all
  obtain ⟨rfl, rfl⟩ := trodVars_none hV
  have lt0 : ∀ x ∈ p0, x.block < W.heap.size := by obtain ⟨m, hm⟩ := h0; exact DataW.trod_lt m _ _ _ hm
  have lt1 : ∀ x ∈ p1, x.block < W.heap.size := by obtain ⟨m, hm⟩ := h1; exact DataW.trod_lt m _ _ _ hm
  clear hA0 hval0
  refine (law_calls (enc := enc) (base := base) W v0 d0 p0 v1 d1 p1 (hval 0 3 v0 rfl rfl) h0 (hval 1 3 v1 rfl rfl) h1).mono fun e W' ⟨he, bel⟩ => ?_
  subst he
  exact ⟨_, rfl, _, _, _, [], _, [], hW', trodAll_mk1 (shut_bool Try.underlying4 _), (trodAll_cons_mk (Below.trod laidOut (by kernel_rfl) (of_decide_eq_true (by kernel_rfl)) h0 bel lt0) (trodAll_cons_mk (Below.trod laidOut (by kernel_rfl) (of_decide_eq_true (by kernel_rfl)) h1 bel lt1) trodAll_mk0)), rfl, bel.frame _, fun h => by cases h⟩

theorem over : Rows.lifePathsRow.holds Try.pinned (OpenSpec.ofChange Rows.lifePathsSpec) :=
  OpenClaim.holds_of_wide 3 Try.f3 rfl rfl rfl rfl rfl rfl rfl ⟨rfl, rfl, rfl, rfl, rfl⟩ rfl rfl rfl rfl rfl (by kernel_rfl) Try.func3 (by kernel_rfl)
    (of_decide_eq_true (by kernel_rfl)) (by unfold Func.isWrapper; first | (rw [if_pos (by decide +kernel)]; kernel_rfl) | (rw [if_neg (by decide +kernel)]; exact ⟨rfl, rfl⟩))
    (fun os started H enc _ => lifted os started H enc)

/-- The statement. -/
theorem proved : Rows.LifePathsSaid := over

#print axioms proved

end Go.Proofs.Ytfgmhapbanbmfaa.lifePaths
