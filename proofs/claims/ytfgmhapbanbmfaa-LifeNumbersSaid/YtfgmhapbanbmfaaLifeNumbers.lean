/-
  The law LifeNumbers: it returns true for every input, and leaves what was there as it was. (The frame is written by program, wip/frame.py, after the kit's skeleton.)
-/
import Derived.Test.YtfgmhapbanbmfaaRows
import Derived.WalkKit
import Derived.ProofKit
import Derived.OpenShut
import Derived.ShutString
import Derived.ChangeOld
import Derived.Below
import Derived.Lib.SmallJoins
import Derived.Test.YtfgmhapbanbmfaaNext

namespace Go.Proofs.Ytfgmhapbanbmfaa.lifeNumbers
open Go.ChangeShapes Go.WideShapes Go.ChangeAt Go.RowKit
open Go.ChangeMaps (open_string shut_string)
set_option linter.unusedVariables false

theorem own : ownKnob Try.prog.godebug = none := by kernel_rfl

theorem laidOut : laidOutB Try.prog = true := by kernel_rfl

-- BY HAND
/-- How many states below t may follow. -/
def before (f w t : Int) : Nat := (nextTo f w (min (t - 1).toNat 4)).length

theorem before_no {f w t : Int} (h : mayB f t w = false) : before f w (t + 1) = before f w t := by
  unfold before
  by_cases h1 : t < 1
  · rw [show (t + 1 - 1).toNat = 0 from by omega, show (t - 1).toNat = 0 from by omega]
  · by_cases h4 : 4 < t
    · rw [show min (t + 1 - 1).toNat 4 = 4 from by omega, show min (t - 1).toNat 4 = 4 from by omega]
    · rw [show min (t + 1 - 1).toNat 4 = min (t - 1).toNat 4 + 1 from by omega]
      have e : ((min (t - 1).toNat 4 : Nat) : Int) + 1 = t := by omega
      simp only [nextTo, e, h, Bool.false_eq_true, if_false, List.append_nil]

theorem may_range {f w t : Int} (h : mayB f t w = true) : 1 ≤ t ∧ t ≤ 4 := by
  unfold mayB at h
  split at h
  · simp at h; omega
  · split at h
    · simp at h; omega
    · split at h
      · simp at h; omega
      · cases h

theorem before_yes {f w t : Int} (h : mayB f t w = true) : before f w (t + 1) = before f w t + 1 := by
  obtain ⟨h1, h4⟩ := may_range h
  unfold before
  rw [show min (t + 1 - 1).toNat 4 = min (t - 1).toNat 4 + 1 from by omega]
  have e : ((min (t - 1).toNat 4 : Nat) : Int) + 1 = t := by omega
  simp only [nextTo, e, h, if_true, List.length_append, List.length_cons, List.length_nil]

theorem next_split (f w : Int) (k j : Nat) : ∃ r, nextTo f w (k + j) = nextTo f w k ++ r := by
  induction j with
  | zero => exact ⟨[], by simp⟩
  | succ j ih =>
    obtain ⟨r, hr⟩ := ih
    exact ⟨r ++ _, by rw [← Nat.add_assoc, nextTo, hr, List.append_assoc]⟩

theorem before_at {f w t : Int} (h : mayB f t w = true) : (nextTo f w 4)[before f w t]? = some t := by
  obtain ⟨h1, h4⟩ := may_range h
  unfold before
  have e : ((min (t - 1).toNat 4 : Nat) : Int) + 1 = t := by omega
  obtain ⟨r, hr⟩ := next_split f w (min (t - 1).toNat 4 + 1) (4 - (min (t - 1).toNat 4 + 1))
  rw [show min (t - 1).toNat 4 + 1 + (4 - (min (t - 1).toNat 4 + 1)) = 4 from by omega] at hr
  rw [hr]
  simp only [nextTo, e, h, if_true, List.append_assoc]
  simp
  omega

set_option maxRecDepth 100000 in
set_option maxHeartbeats 1000000 in
theorem numbers_walk (W : World) :
    Calls Try.prog 5 #[] W fun e w' => e = .returned (.bool true) ∧ Below W.heap.size W w' := by
  go_enter Try.func5, Try.ntmps5
  go_wp2
  go_loopw [1] (fun f wr => ∃ (a : Int), -1 ≤ a ∧ a ≤ 7 ∧ f = .int .i64 a ∧ Below W.heap.size W wr) (fun f _ => (7 - intOf f).toNat)
  case atStart => exact ⟨-1, by omega, by omega, rfl, Below.refl _ _⟩
  case round =>
    obtain ⟨f, hf0, hf1, rfl, hb⟩ := hrel
    by_cases hf : f < 7
    · go_wp2
      go_loopw [2] (fun w wr => ∃ (a : Int), 0 ≤ a ∧ a ≤ 2 ∧ w = .int .i64 a ∧ Below W.heap.size W wr) (fun f _ => (2 - intOf f).toNat)
      case atStart => exact ⟨0, by omega, by omega, rfl, hb⟩
      case round =>
        clear hb
        obtain ⟨n, hn0, hn1, rfl, hb⟩ := hrel
        by_cases hn : n < 2
        · go_wp2_with fail
          refine (life_next _ _ _).mono ?_
          rintro e w1 ⟨v, rfl, hown, hb1⟩
          have hb2 := hb.trans (hb1.mono hb.size)
          clear hb hb1
          obtain ⟨A, c, rfl, _, hm, hr⟩ := own_slice hown
          clear hown
          unfold maxLen at hm
          go_wp2
          go_loopw [4, 5] (fun k to wr => ∃ (a : Int) (q : Nat), -1 ≤ a ∧ a ≤ 7 ∧ to = .int .i64 a ∧ k = .int .i64 (before f n a) ∧ wr = w1.drewN q) (fun _ to _ => (7 - intOf to).toNat)
          case atStart => exact ⟨-1, 0, by omega, by omega, rfl, rfl, rfl⟩
          case round =>
            obtain ⟨a, q, ha0, ha1, rfl, rfl, rfl⟩ := hrel
            by_cases ha : a < 7
            · cases hmay : mayB f a n with
              | true =>
                have hat := before_at hmay
                have hlt : before f n a < (nextTo f n 4).length := (List.getElem?_eq_some_iff.1 hat).1
                obtain ⟨ad, x, rfl, _, hx, hc⟩ := reads_int hr hlt
                rw [hat] at hx
                injection hx with hx
                subst hx
                have Hs := Lib.hid (before_yes hmay)
                clear hat hr
                generalize before f n a = b at *
                generalize (nextTo f n 4).length = len at *
                have hle : ¬ len ≤ b := by omega
                have h1 : (b : Int) < len := by omega
                have hq : (a != a) = false := by simp
                go_wp2_with (first | (go_at_call 14; refine (life_may _ _ _ _).mono ?_; rintro e w' ⟨rfl, rfl⟩) | (go_at_call 16; refine (ref17_may _ _ _ _).mono ?_; rintro e w' ⟨rfl, rfl⟩) | (go_at_call 13; refine (life_serves _ _).mono ?_; rintro e w' ⟨rfl, rfl⟩) | (go_at_call 17; refine (ref17_serves _ _).mono ?_; rintro e w' ⟨rfl, rfl⟩) | (go_at_call 18; refine (life_runs _ _).mono ?_; rintro e w' ⟨rfl, rfl⟩) | (go_at_call 19; refine (ref17_runs _ _).mono ?_; rintro e w' ⟨rfl, rfl⟩) | (go_at_call 20; refine (life_adds _ _).mono ?_; rintro e w' ⟨rfl, rfl⟩) | (go_at_call 15; refine (life_known _).mono ?_; rintro e w2 ⟨rfl, hb2⟩))
                go_roundw
                case rel => exact ⟨a + 1, _, by omega, by omega, rfl, by rw [Hs.out]; go_num, rfl⟩
                case measure => simp [intOf]; omega
              | false =>
                have Hs := Lib.hid (before_no hmay)
                generalize before f n a = b at *
                go_wp2_with (first | (go_at_call 14; refine (life_may _ _ _ _).mono ?_; rintro e w' ⟨rfl, rfl⟩) | (go_at_call 16; refine (ref17_may _ _ _ _).mono ?_; rintro e w' ⟨rfl, rfl⟩) | (go_at_call 13; refine (life_serves _ _).mono ?_; rintro e w' ⟨rfl, rfl⟩) | (go_at_call 17; refine (ref17_serves _ _).mono ?_; rintro e w' ⟨rfl, rfl⟩) | (go_at_call 18; refine (life_runs _ _).mono ?_; rintro e w' ⟨rfl, rfl⟩) | (go_at_call 19; refine (ref17_runs _ _).mono ?_; rintro e w' ⟨rfl, rfl⟩) | (go_at_call 20; refine (life_adds _ _).mono ?_; rintro e w' ⟨rfl, rfl⟩) | (go_at_call 15; refine (life_known _).mono ?_; rintro e w2 ⟨rfl, hb2⟩))
                go_roundw
                case rel => exact ⟨a + 1, _, by omega, by omega, rfl, by rw [Hs.out], rfl⟩
                case measure => simp [intOf]; omega
            · obtain rfl : a = 7 := by omega
              have hbl : before f n 7 = (nextTo f n 4).length := rfl
              rw [hbl]
              clear hbl
              generalize (nextTo f n 4).length = len at *
              have hq : ((len : Int) != len) = false := by simp
              go_wp2
              go_roundw
              case rel => exact ⟨n + 1, by omega, by omega, rfl, below_drewN hb2 _⟩
              case measure => simp [intOf]; omega
        · have ha : addsB f = (f == 1) := rfl
          cases hs : servesB f <;> cases hu : runsB f <;> cases hz : (f == 1)
          all_goals
            rw [hz] at ha
            go_wp2_with (first | (go_at_call 14; refine (life_may _ _ _ _).mono ?_; rintro e w' ⟨rfl, rfl⟩) | (go_at_call 16; refine (ref17_may _ _ _ _).mono ?_; rintro e w' ⟨rfl, rfl⟩) | (go_at_call 13; refine (life_serves _ _).mono ?_; rintro e w' ⟨rfl, rfl⟩) | (go_at_call 17; refine (ref17_serves _ _).mono ?_; rintro e w' ⟨rfl, rfl⟩) | (go_at_call 18; refine (life_runs _ _).mono ?_; rintro e w' ⟨rfl, rfl⟩) | (go_at_call 19; refine (ref17_runs _ _).mono ?_; rintro e w' ⟨rfl, rfl⟩) | (go_at_call 20; refine (life_adds _ _).mono ?_; rintro e w' ⟨rfl, rfl⟩) | (go_at_call 15; refine (life_known _).mono ?_; rintro e w2 ⟨rfl, hb2⟩))
            go_roundw
            case rel => exact ⟨f + 1, by omega, by omega, rfl, hb⟩
            case measure => simp [intOf]; omega
    · go_wp2_with (first | (go_at_call 14; refine (life_may _ _ _ _).mono ?_; rintro e w' ⟨rfl, rfl⟩) | (go_at_call 16; refine (ref17_may _ _ _ _).mono ?_; rintro e w' ⟨rfl, rfl⟩) | (go_at_call 13; refine (life_serves _ _).mono ?_; rintro e w' ⟨rfl, rfl⟩) | (go_at_call 17; refine (ref17_serves _ _).mono ?_; rintro e w' ⟨rfl, rfl⟩) | (go_at_call 18; refine (life_runs _ _).mono ?_; rintro e w' ⟨rfl, rfl⟩) | (go_at_call 19; refine (ref17_runs _ _).mono ?_; rintro e w' ⟨rfl, rfl⟩) | (go_at_call 20; refine (life_adds _ _).mono ?_; rintro e w' ⟨rfl, rfl⟩) | (go_at_call 15; refine (life_known _).mono ?_; rintro e w2 ⟨rfl, hb2⟩))
      go_ret
      exact ⟨rfl, hb.trans (hb2.mono hb.size)⟩

theorem law_calls {H : Type} {enc : TypeId × Value → H} {base : Nat} (W : World) 
     :
    Calls Try.prog 5 #[] W fun e w' => e = .returned (.bool true) ∧ Below W.heap.size W w' := by
  exact numbers_walk W
-- END BY HAND

set_option maxRecDepth 100000 in
theorem lifted (os : Os) (started : os.Started) (H : Type) (enc : TypeId × Value → H) :
    ReturnsInHanded {} Try.checked os 5 .any (Rows.lifeNumbersSpec.pre6 enc Try.prog Try.f5 Rows.lifeNumbersRow.domain false) (Rows.lifeNumbersSpec.post enc Try.prog Try.f5 false true false false) := by
  refine returnsInHanded_of_change (C := Try.checked) own started (by kernel_rfl) Try.func5
    (ChangeSpec.witness6 (enc := enc) (C := Try.checked) false ⟨#[], #[], []⟩ 8 (by kernel_rfl) (by kernel_rfl) (by kernel_rfl) (by kernel_rfl)) ?_
  intro W base args ds gs before hval0 hW hcnd _
  have hval : ∀ (j : Nat) t v, Try.f5.params[j]? = some t → args[j]? = some v → Value.okWide Try.prog W .any base t v := hval0
  have hW' := hW
  obtain ⟨p, q, hA0, hV, rfl, hfz, hnd⟩ := hW
  have hA : DataW.TrodAll enc Try.prog W 0 (fun _ => true) true Try.f5.params.toList args.toList ds p := hA0
  rw [Try.params5] at hA hval
  obtain ⟨hargs, rfl, rfl⟩ := trodAll_nil hA
  obtain rfl : args = #[] := by cases args; simp_all
  obtain ⟨rfl, rfl⟩ := trodVars_none hV
  clear hA0 hval0
  refine (law_calls (H := H) (enc := enc) (base := base) W).mono fun e W' ⟨he, bel⟩ => ?_
  subst he
  exact ⟨_, rfl, _, _, _, [], _, [], hW', trodAll_mk1 (shut_bool Try.underlying4 _), trodAll_mk0, rfl, bel.frame _, fun h => by cases h⟩

theorem over : Rows.lifeNumbersRow.holds Try.pinned (OpenSpec.ofChange Rows.lifeNumbersSpec) :=
  OpenClaim.holds_of_wide 5 Try.f5 rfl rfl rfl rfl rfl rfl rfl ⟨rfl, rfl, rfl, rfl, rfl⟩ rfl rfl rfl rfl rfl (by kernel_rfl) Try.func5 (by kernel_rfl)
    (of_decide_eq_true (by kernel_rfl)) (by unfold Func.isWrapper; first | (rw [if_pos (by decide +kernel)]; kernel_rfl) | (rw [if_neg (by decide +kernel)]; exact ⟨rfl, rfl⟩))
    (fun os started H enc _ => lifted os started H enc)

/-- The statement. -/
theorem proved : Rows.LifeNumbersSaid := over

#print axioms proved

end Go.Proofs.Ytfgmhapbanbmfaa.lifeNumbers
