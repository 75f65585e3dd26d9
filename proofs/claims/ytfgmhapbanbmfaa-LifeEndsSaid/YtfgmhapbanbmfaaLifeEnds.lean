/-
  The law LifeEnds: it returns true for every input, and leaves what was there as it was. (The frame is written by program, wip/frame.py, after the kit's skeleton.)
-/
import Derived.Test.YtfgmhapbanbmfaaRows
import Derived.WalkKit
import Derived.ProofKit
import Derived.OpenShut
import Derived.ShutString
import Derived.ChangeOld
import Derived.Below
import Derived.Lib.SmallJoins
import Derived.Test.YtfgmhapbanbmfaaNext
import Derived.Test.YtfgmhapbanbmfaaOpen

namespace Go.Proofs.Ytfgmhapbanbmfaa.lifeEnds
open Go.ChangeShapes Go.WideShapes Go.ChangeAt Go.RowKit
open Go.ChangeMaps (open_string shut_string)
set_option linter.unusedVariables false

theorem own : ownKnob Try.prog.godebug = none := by kernel_rfl

theorem laidOut : laidOutB Try.prog = true := by kernel_rfl

-- BY HAND
theorem may_cases {s to w : Int} (h : mayB s to w = true) : (s = 1 ∧ to = 2) ∨ (s = 1 ∧ to = 3) ∨ (s = 2 ∧ to = 1) ∨ (s = 2 ∧ to = 3) ∨ (s = 2 ∧ to = 4) ∨ (s = 3 ∧ to = 2) ∨ (s = 3 ∧ to = 4 ∧ w = 0) := by
  unfold mayB at h
  split at h
  · simp at h; omega
  · split at h
    · simp at h; omega
    · split at h
      · simp at h; omega
      · cases h

theorem adds_runs {s : Int} : (addsB s = true ∧ runsB s = true ∧ servesB s = true) ∨ (addsB s = false ∧ runsB s = true ∧ servesB s = true) ∨ (addsB s = false ∧ runsB s = false) := by
  by_cases h1 : s = 1
  · subst h1; exact .inl ⟨rfl, rfl, rfl⟩
  · by_cases h3 : s = 3
    · subst h3; exact .inr (.inl ⟨rfl, rfl, rfl⟩)
    · exact .inr (.inr ⟨by simp [addsB, h1], by simp [runsB, h1, h3]⟩)

set_option maxRecDepth 100000 in
set_option maxHeartbeats 2000000 in
theorem ends_walk (A B : Option Addr) (n c m d : Nat) (xs ys : List Int) (W : World) (hn : n ≤ 9223372036854775807) (hm : m ≤ 9223372036854775807) (hr : Reads W W.heap.size 1 A n (ints xs)) (hs : Reads W W.heap.size 1 B m (ints ys))
    (hx : ∀ x ∈ xs, -9223372036854775808 ≤ x ∧ x ≤ 9223372036854775807) (hy : ∀ x ∈ ys, -9223372036854775808 ≤ x ∧ x ≤ 9223372036854775807) :
    Calls Try.prog 6 #[.slice A n c, .slice B m d] W fun e w' => e = .returned (.bool true) ∧ Below W.heap.size W w' := by
  have Hx := Lib.hid hx
  have Hy := Lib.hid hy
  clear hx hy
  go_enter Try.func6, Try.ntmps6
  go_wp2
  go_loopw [5, 6] (fun s i wr => ∃ (k : Nat) (u : Int), k ≤ n ∧ i = .int .i64 k ∧ s = .int .i64 u ∧ wr = W) (fun _ i _ => n - (intOf i).toNat)
  case atStart => exact ⟨0, 1, by omega, rfl, rfl, rfl⟩
  case round =>
    obtain ⟨k, u, hk, rfl, rfl, rfl⟩ := hrel
    by_cases hlt : k < n ∧ k < 60
    · obtain ⟨h1, h2⟩ := hlt
      obtain ⟨ad, x, rfl, _, hxk, hc⟩ := reads_int hr h1
      obtain ⟨hx0, hx1⟩ := Hx.out x (List.mem_of_getElem? hxk)
      clear hxk hr
      by_cases hmk : k < m
      · obtain ⟨bd, y, rfl, _, hyk, hd⟩ := reads_int hs hmk
        obtain ⟨hy0, hy1⟩ := Hy.out y (List.mem_of_getElem? hyk)
        clear hyk hs
        go_wp2_with fail
        refine (book_within _ _ _ _ hy0 hy1 (by omega) (by omega) (by omega)).mono ?_
        rintro e w' ⟨rfl, rfl⟩
        generalize hw : within y 0 2 = wt at *
        clear hw hd hy0 hy1
        go_wp2_with fail
        refine (book_within _ _ _ _ hx0 hx1 (by omega) (by omega) (by omega)).mono ?_
        rintro e w' ⟨rfl, rfl⟩
        generalize hto : within x 0 5 = to at *
        clear hto hc hx0 hx1
        cases hmay : mayB u to wt with
        | true =>
          rcases may_cases hmay with ⟨rfl, rfl⟩ | ⟨rfl, rfl⟩ | ⟨rfl, rfl⟩ | ⟨rfl, rfl⟩ | ⟨rfl, rfl⟩ | ⟨rfl, rfl⟩ | ⟨rfl, rfl, hw0⟩
          all_goals
            have a1 : addsB 1 = true := rfl
            have a2 : addsB 2 = false := rfl
            have a3 : addsB 3 = false := rfl
            have b1 : runsB 1 = true := rfl
            have b2 : runsB 2 = false := rfl
            have b3 : runsB 3 = true := rfl
            have c1 : servesB 1 = true := rfl
            have c3 : servesB 3 = true := rfl
            go_wp2_with (first | (go_at_call 20; refine (life_adds _ _).mono ?_; rintro e w' ⟨rfl, rfl⟩) | (go_at_call 18; refine (life_runs _ _).mono ?_; rintro e w' ⟨rfl, rfl⟩) | (go_at_call 13; refine (life_serves _ _).mono ?_; rintro e w' ⟨rfl, rfl⟩) | (go_at_call 14; refine (life_may _ _ _ _).mono ?_; rintro e w' ⟨rfl, rfl⟩))
            go_roundw
            case rel => exact ⟨k + 1, _, by omega, by go_num, rfl, trivial⟩
            case measure => simp [intOf]; omega
        | false =>
          rcases adds_runs (s := u) with ⟨z1, z2, z3⟩ | ⟨z1, z2, z3⟩ | ⟨z1, z2⟩
          all_goals
            go_wp2_with (first | (go_at_call 20; refine (life_adds _ _).mono ?_; rintro e w' ⟨rfl, rfl⟩) | (go_at_call 18; refine (life_runs _ _).mono ?_; rintro e w' ⟨rfl, rfl⟩) | (go_at_call 13; refine (life_serves _ _).mono ?_; rintro e w' ⟨rfl, rfl⟩) | (go_at_call 14; refine (life_may _ _ _ _).mono ?_; rintro e w' ⟨rfl, rfl⟩))
            go_roundw
            case rel => exact ⟨k + 1, _, by omega, by go_num, rfl, trivial⟩
            case measure => simp [intOf]; omega
      · clear hs
        go_wp2_with fail
        refine (book_within _ _ _ _ hx0 hx1 (by omega) (by omega) (by omega)).mono ?_
        rintro e w' ⟨rfl, rfl⟩
        generalize hto : within x 0 5 = to at *
        clear hto hc hx0 hx1
        cases hmay : mayB u to 0 with
        | true =>
          rcases may_cases hmay with ⟨rfl, rfl⟩ | ⟨rfl, rfl⟩ | ⟨rfl, rfl⟩ | ⟨rfl, rfl⟩ | ⟨rfl, rfl⟩ | ⟨rfl, rfl⟩ | ⟨rfl, rfl, hw0⟩
          all_goals
            have a1 : addsB 1 = true := rfl
            have a2 : addsB 2 = false := rfl
            have a3 : addsB 3 = false := rfl
            have b1 : runsB 1 = true := rfl
            have b2 : runsB 2 = false := rfl
            have b3 : runsB 3 = true := rfl
            have c1 : servesB 1 = true := rfl
            have c3 : servesB 3 = true := rfl
            go_wp2_with (first | (go_at_call 20; refine (life_adds _ _).mono ?_; rintro e w' ⟨rfl, rfl⟩) | (go_at_call 18; refine (life_runs _ _).mono ?_; rintro e w' ⟨rfl, rfl⟩) | (go_at_call 13; refine (life_serves _ _).mono ?_; rintro e w' ⟨rfl, rfl⟩) | (go_at_call 14; refine (life_may _ _ _ _).mono ?_; rintro e w' ⟨rfl, rfl⟩))
            go_roundw
            case rel => exact ⟨k + 1, _, by omega, by go_num, rfl, trivial⟩
            case measure => simp [intOf]; omega
        | false =>
          rcases adds_runs (s := u) with ⟨z1, z2, z3⟩ | ⟨z1, z2, z3⟩ | ⟨z1, z2⟩
          all_goals
            go_wp2_with (first | (go_at_call 20; refine (life_adds _ _).mono ?_; rintro e w' ⟨rfl, rfl⟩) | (go_at_call 18; refine (life_runs _ _).mono ?_; rintro e w' ⟨rfl, rfl⟩) | (go_at_call 13; refine (life_serves _ _).mono ?_; rintro e w' ⟨rfl, rfl⟩) | (go_at_call 14; refine (life_may _ _ _ _).mono ?_; rintro e w' ⟨rfl, rfl⟩))
            go_roundw
            case rel => exact ⟨k + 1, _, by omega, by go_num, rfl, trivial⟩
            case measure => simp [intOf]; omega
    · have hlt' : ¬ k < n ∨ ¬ k < 60 := by omega
      clear hlt
      by_cases h1 : k < n
      · have h2 : ¬ k < 60 := by omega
        clear hlt' hr hs
        go_wp2_with (go_at_call 15; refine (life_known _).mono ?_; rintro e w2 ⟨rfl, hb2⟩)
        go_ret
        exact ⟨rfl, hb2⟩
      · clear hlt' hr hs
        go_wp2_with (go_at_call 15; refine (life_known _).mono ?_; rintro e w2 ⟨rfl, hb2⟩)
        go_ret
        exact ⟨rfl, hb2⟩

theorem law_calls {H : Type} {enc : TypeId × Value → H} {base : Nat} (W : World) (v0 : Value) (d0 : DataW H) (p0 : List MemPlace) (v1 : Value) (d1 : DataW H) (p1 : List MemPlace)
    (o0 : Value.okWide Try.prog W .any base 23 v0) (h0 : DataW.Trod enc Try.prog W 0 (fun _ => true) true 23 v0 d0 p0) (o1 : Value.okWide Try.prog W .any base 23 v1) (h1 : DataW.Trod enc Try.prog W 0 (fun _ => true) true 23 v1 d1 p1) :
    Calls Try.prog 6 #[v0, v1] W fun e w' => e = .returned (.bool true) ∧ Below W.heap.size W w' := by
  obtain ⟨A, n, c, xs, rfl, hnc, hcm, hln, hr, hwf⟩ := open_slice_int Try.underlying23 Try.underlying3 (by kernel_rfl) o0 h0
  obtain ⟨B, m, d, ys, rfl, hmd, hdm, hlm, hs, hwg⟩ := open_slice_int Try.underlying23 Try.underlying3 (by kernel_rfl) o1 h1
  unfold maxLen at hcm hdm
  exact ends_walk A B n c m d xs ys W (by omega) (by omega) hr hs (fun x h => bounds_i64 (hwf x h)) (fun x h => bounds_i64 (hwg x h))
-- END BY HAND

set_option maxRecDepth 100000 in
theorem lifted (os : Os) (started : os.Started) (H : Type) (enc : TypeId × Value → H) :
    ReturnsInHanded {} Try.checked os 6 .any (Rows.lifeEndsSpec.pre6 enc Try.prog Try.f6 Rows.lifeEndsRow.domain false) (Rows.lifeEndsSpec.post enc Try.prog Try.f6 false true false false) := by
  refine returnsInHanded_of_change (C := Try.checked) own started (by kernel_rfl) Try.func6
    (ChangeSpec.witness6 (enc := enc) (C := Try.checked) false ⟨#[], #[.slice none 0 0, .slice none 0 0], []⟩ 8 (by kernel_rfl) (by kernel_rfl) (by kernel_rfl) (by kernel_rfl)) ?_
  intro W base args ds gs before hval0 hW hcnd _
  have hval : ∀ (j : Nat) t v, Try.f6.params[j]? = some t → args[j]? = some v → Value.okWide Try.prog W .any base t v := hval0
  have hW' := hW
  obtain ⟨p, q, hA0, hV, rfl, hfz, hnd⟩ := hW
  have hA : DataW.TrodAll enc Try.prog W 0 (fun _ => true) true Try.f6.params.toList args.toList ds p := hA0
  rw [Try.params6] at hA hval
  obtain ⟨v0, vs0, d0, ds0, p0, q0, hargs, rfl, rfl, h0, r0⟩ := trodAll_cons hA
  obtain ⟨v1, vs1, d1, ds1, p1, q1, rfl, rfl, rfl, h1, r1⟩ := trodAll_cons r0
  obtain ⟨rfl, rfl, rfl⟩ := trodAll_nil r1
  obtain rfl : args = #[v0, v1] := by cases args; simp_all
  obtain ⟨rfl, rfl⟩ := trodVars_none hV
  have lt0 : ∀ x ∈ p0, x.block < W.heap.size := by obtain ⟨m, hm⟩ := h0; exact DataW.trod_lt m _ _ _ hm
  have lt1 : ∀ x ∈ p1, x.block < W.heap.size := by obtain ⟨m, hm⟩ := h1; exact DataW.trod_lt m _ _ _ hm
  clear hA0 hval0
  refine (law_calls (enc := enc) (base := base) W v0 d0 p0 v1 d1 p1 (hval 0 23 v0 rfl rfl) h0 (hval 1 23 v1 rfl rfl) h1).mono fun e W' ⟨he, bel⟩ => ?_
  subst he
  exact ⟨_, rfl, _, _, _, [], _, [], hW', trodAll_mk1 (shut_bool Try.underlying4 _), (trodAll_cons_mk (Below.trod laidOut (by kernel_rfl) (of_decide_eq_true (by kernel_rfl)) h0 bel lt0) (trodAll_cons_mk (Below.trod laidOut (by kernel_rfl) (of_decide_eq_true (by kernel_rfl)) h1 bel lt1) trodAll_mk0)), rfl, bel.frame _, fun h => by cases h⟩

theorem over : Rows.lifeEndsRow.holds Try.pinned (OpenSpec.ofChange Rows.lifeEndsSpec) :=
  OpenClaim.holds_of_wide 6 Try.f6 rfl rfl rfl rfl rfl rfl rfl ⟨rfl, rfl, rfl, rfl, rfl⟩ rfl rfl rfl rfl rfl (by kernel_rfl) Try.func6 (by kernel_rfl)
    (of_decide_eq_true (by kernel_rfl)) (by unfold Func.isWrapper; first | (rw [if_pos (by decide +kernel)]; kernel_rfl) | (rw [if_neg (by decide +kernel)]; exact ⟨rfl, rfl⟩))
    (fun os started H enc _ => lifted os started H enc)

/-- The statement. -/
theorem proved : Rows.LifeEndsSaid := over

#print axioms proved

end Go.Proofs.Ytfgmhapbanbmfaa.lifeEnds
