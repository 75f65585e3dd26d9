/-
  The law QuotaRate: it returns true for every input, and leaves what was there as it was. (The frame is written by program, wip/frame.py, after the kit's skeleton.)
-/
import Derived.Test.YtfgmhapbanbmfaaRows
import Derived.WalkKit
import Derived.ProofKit
import Derived.OpenShut
import Derived.ShutString
import Derived.ChangeOld
import Derived.Below
import Derived.Lib.SmallJoins
import Derived.Test.YtfgmhapbanbmfaaQuota
import Derived.Test.YtfgmhapbanbmfaaOpen
import Derived.Deep.RegionHeld3
import Derived.Deep.DrawnRows
import Derived.Deep.DeepCutAuto

namespace Go.Proofs.Ytfgmhapbanbmfaa.quotaRate
open Go.ChangeShapes Go.WideShapes Go.ChangeAt Go.RowKit
open Go.ChangeMaps (open_string shut_string)
set_option linter.unusedVariables false

theorem own : ownKnob Try.prog.godebug = none := by kernel_rfl

theorem laidOut : laidOutB Try.prog = true := by kernel_rfl

-- BY HAND
theorem tick_le (r b t : Int) : tickI r b t 1 ≤ b ∧ tickI r b t 1 ≤ t + r := by
  unfold tickI
  split <;> omega

theorem tick_nn (r b t : Int) (r0 : 0 ≤ r) (b0 : 0 ≤ b) (t0 : 0 ≤ t) : 0 ≤ tickI r b t 1 := by
  unfold tickI
  split <;> omega

theorem blk_call {w w1 : World} {g : Nat} {t : TypeId} {cs : Array Value} (h : Blk w g t cs) (hb : Below w.heap.size w w1) : Blk w1 g t cs := h.below hb h.lt

theorem cell_far3 {w : World} {a : Addr} {v x y z : Value} {g : Nat} (hne : a.block ≠ g) (h : w.cell? a = some v) : (((w.setCell ⟨g, 0, none⟩ x).setCell ⟨g, 1, none⟩ y).setCell ⟨g, 2, none⟩ z).cell? a = some v := by
  rw [World.cell?_setCell_other _ _ _ _ (fun e => hne (by rw [← e])), World.cell?_setCell_other _ _ _ _ (fun e => hne (by rw [← e])), World.cell?_setCell_other _ _ _ _ (fun e => hne (by rw [← e]))]
  exact h

/-- What quota.Take did to t tokens, n asked for. -/
def TakeOk (t n t' : Int) (ok : Bool) : Prop := (ok = true ∧ n ≤ t ∧ t' = t - n) ∨ (ok = false ∧ t < n ∧ t' = t)

theorem take_any (r b t n : Int) (w : World) (n0 : 0 ≤ n) (t1 : t ≤ 4294967295) :
    Calls Try.prog 22 #[.agg #[.int .u32 r, .int .u32 b, .int .u32 t], .int .u32 n] w fun e w' => ∃ t' ok, e = .returned (.tuple #[.agg #[.int .u32 r, .int .u32 b, .int .u32 t'], .bool ok]) ∧ TakeOk t n t' ok ∧ Below w.heap.size w w' := by
  by_cases h : n ≤ t
  · exact (quota_take_yes r b t n w h n0 t1).mono fun e w' ⟨he, hb⟩ => ⟨_, _, he, .inl ⟨rfl, h, rfl⟩, hb⟩
  · exact (quota_take_no r b t n w (by omega)).mono fun e w' ⟨he, hb⟩ => ⟨_, _, he, .inr ⟨rfl, by omega, rfl⟩, hb⟩

set_option maxRecDepth 100000 in
set_option maxHeartbeats 4000000 in
theorem rate_walk (r b : Int) (A : Option Addr) (n c : Nat) (xs : List Int) (W : World) (r0 : 0 ≤ r) (r1 : r ≤ 4294967295) (b0 : 0 ≤ b) (b1 : b ≤ 4294967295) (hn : n ≤ 9223372036854775807) (hr : Reads W W.heap.size 1 A n (xs.map (Value.int .u32))) (hx : ∀ x ∈ xs, 0 ≤ x ∧ x ≤ 4294967295) :
    Calls Try.prog 10 #[.int .u32 r, .int .u32 b, .slice A n c] W fun e w' => e = .returned (.bool true) ∧ Below W.heap.size W w' := by
  have HX := Lib.hid hx
  clear hx
  have g0 : 0 ≤ r % 2000 := by omega
  have g1 : r % 2000 ≤ 1999 := by omega
  have g2 : 0 ≤ b % 2000 := by omega
  have g3 : b % 2000 ≤ 1999 := by omega
  go_enter Try.func10, Try.ntmps10
  go_wp2_with fail
  refine (quota_new_yes _ _ _ (by omega) (by omega)).mono ?_
  rintro e w1 ⟨rfl, hb1⟩
  have zz : W.heap.size ≤ w1.heap.size := hb1.size
  have B1 := below_new hb1 (.cells #[.int .u32 (r % 2000), .int .u32 (b % 2000), .int .u32 (b % 2000)] 32)
  clear hb1
  generalize r % 2000 = R at *
  generalize b % 2000 = B at *
  go_wp2
  go_loopw [9, 10, 11] (fun tk ms i wr => ∃ (k : Nat) (T taken most : Int), k ≤ n ∧ k ≤ 60 ∧ i = .int .i64 k ∧ tk = .int .u64 taken ∧ ms = .int .u64 most ∧ 0 ≤ taken ∧ 0 ≤ T ∧ T ≤ B ∧ taken + T ≤ most ∧ most ≤ 2000 + 2000 * k ∧
      Blk wr w1.heap.size 32 #[.int .u32 R, .int .u32 B, .int .u32 T] ∧ Below W.heap.size W wr) (fun _ _ i _ => n - (intOf i).toNat)
  case atStart => exact ⟨0, B, 0, B, by omega, by omega, rfl, rfl, rfl, by omega, by omega, by omega, by omega, by omega, Blk.new .., B1⟩
  case round =>
    obtain ⟨k, T, taken, most, hk, hk6, rfl, rfl, rfl, q0, q1, q2, q3, q4, hk3, hb⟩ := hrel
    by_cases hlt : k < n
    · by_cases h60 : k < 60
      · obtain ⟨ad, u, rfl, hab, hu, hc⟩ := (hr.below hb).at_ hlt
        simp only [List.getElem?_map, Option.map_eq_some_iff] at hu
        obtain ⟨x, hxk, rfl⟩ := hu
        obtain ⟨x0, x1⟩ := HX.out x (List.mem_of_getElem? hxk)
        clear hxk
        have y0 : 0 ≤ x % 50 := by omega
        have y1 : x % 50 ≤ 49 := by omega
        have ht : x.tmod 50 = x % 50 := Int.tmod_eq_emod_of_nonneg x0
        have hw : IntKind.u32.wrap (x % 50) = x % 50 := by rw [IntKind.wrap_u32]; omega
        have c0 := hk3.cell 0
        have c1 := hk3.cell 1
        have c2 := hk3.cell 2
        simp at c0 c1 c2
        have hne : w1.heap.size ≠ wr.heap.size := Nat.ne_of_lt hk3.lt
        have hda : (ad.add k).block ≠ wr.heap.size := Nat.ne_of_lt (World.block_lt_of_cell? _ _ hc)
        go_upto_region 9 with (fail)
        go_cut [12, 13] (fun cv okv wx => ∃ (C : Nat) (T' : Int) (ok : Bool), cv = .pointer (some ⟨C, 0, none⟩) ∧ okv = .bool ok ∧ TakeOk T (x % 50) T' ok ∧ Blk wx C 32 #[.int .u32 R, .int .u32 B, .int .u32 T'] ∧ Blk wx w1.heap.size 32 #[.int .u32 R, .int .u32 B, .int .u32 T] ∧ C ≠ w1.heap.size ∧ wx.cell? (ad.add k) = some (.int .u32 x) ∧ Below W.heap.size W wx)
        case first =>
          go_region_held3 (fun w' => w'.cell? ⟨w1.heap.size, 0, none⟩ = some (.int .u32 R) ∧ w'.cell? ⟨w1.heap.size, 1, none⟩ = some (.int .u32 B) ∧ w'.cell? ⟨w1.heap.size, 2, none⟩ = some (.int .u32 T) ∧ w'.cell? (ad.add k) = some (.int .u32 x) ∧ Blk w' w1.heap.size 32 #[.int .u32 R, .int .u32 B, .int .u32 T] ∧ Below W.heap.size W w')
            (first | exact ⟨c0, c1, c2, hc, hk3.drew, hb.drew⟩ | exact ⟨e0, e1, e2, e3, e4, e5⟩ | exact ⟨cell_new e0 _, cell_new e1 _, cell_new e2 _, cell_new e3 _, e4.alloc _, below_new e5 _⟩ | exact ⟨cell_new c0 _, cell_new c1 _, cell_new c2 _, cell_new hc _, (hk3.alloc _).drew, (below_new hb _).drew⟩ | exact ⟨cell_far3 hne e0, cell_far3 hne e1, cell_far3 hne e2, cell_far3 hda e3, ((e4.far (p := ⟨wr.heap.size, 0, none⟩) hne _).far (p := ⟨wr.heap.size, 1, none⟩) hne _).far (p := ⟨wr.heap.size, 2, none⟩) hne _, ((e5.setCell (p := ⟨wr.heap.size, 0, none⟩) hb.size _).setCell (p := ⟨wr.heap.size, 1, none⟩) hb.size _).setCell (p := ⟨wr.heap.size, 2, none⟩) hb.size _⟩)
            (first | (go_at_call 22; (with_reducible refine (take_any _ _ _ _ _ y0 (by omega)).mono ?_); rintro e w2 ⟨T', ok, rfl, hok, hb2⟩; go_split_ands; have e0 := cell_call (a := ⟨w1.heap.size, 0, none⟩) (v := .int .u32 R) (by assumption) hb2; have e1 := cell_call (a := ⟨w1.heap.size, 1, none⟩) (v := .int .u32 B) (by assumption) hb2; have e2 := cell_call (a := ⟨w1.heap.size, 2, none⟩) (v := .int .u32 T) (by assumption) hb2; have e3 := cell_call (a := ad.add k) (v := .int .u32 x) (by assumption) hb2; have e4 := blk_call (g := w1.heap.size) (t := 32) (cs := #[.int .u32 R, .int .u32 B, .int .u32 T]) (by assumption) hb2; have e5 := below_call (W := W) (by assumption) hb2; (first | (have e6 := blk_call (Blk.new wr 32 #[.int .u32 0, .int .u32 0, .int .u32 0]).drew hb2; have e60 := e6.cell 0; have e61 := e6.cell 1; have e62 := e6.cell 2; have f60 := e6.frozen 0; have f61 := e6.frozen 1; have f62 := e6.frozen 2; simp at e60 e61 e62) | skip)))
          · go_wp2_with fail
            go_meet
            exact ⟨_, _, _, rfl, rfl, hok, Blk.new .., e4.alloc _, Nat.ne_of_gt e4.lt, cell_new e3 _, below_new e5 _⟩
          · go_wp2_with fail
            go_meet
            have d6 := ((e6.set_ 0 (.int .u32 R)).set_ 1 (.int .u32 B)).set_ 2 (.int .u32 T')
            have d4 := ((e4.far (p := ⟨wr.heap.size, 0, none⟩) hne (.int .u32 R)).far (p := ⟨wr.heap.size, 1, none⟩) hne (.int .u32 B)).far (p := ⟨wr.heap.size, 2, none⟩) hne (.int .u32 T')
            have d5 := ((e5.setCell (p := ⟨wr.heap.size, 0, none⟩) hb.size (.int .u32 R)).setCell (p := ⟨wr.heap.size, 1, none⟩) hb.size (.int .u32 B)).setCell (p := ⟨wr.heap.size, 2, none⟩) hb.size (.int .u32 T')
            exact ⟨_, _, _, rfl, rfl, hok, by simpa using d6, d4, Ne.symm hne, cell_far3 hda e3, d5⟩
        case rest =>
          obtain ⟨C, T', ok, rfl, rfl, hok, hC, hG, hCG, hask, hbx⟩ := hcut
          clear c0 c1 c2 hc hk3 hb
          have b0' := hC.cell 0
          have b1' := hC.cell 1
          have b2' := hC.cell 2
          have a0' := hG.cell 0
          have a1' := hG.cell 1
          have a2' := hG.cell 2
          have f0 := hG.frozen 0
          have f1 := hG.frozen 1
          have f2 := hG.frozen 2
          simp at b0' b1' b2' a0' a1' a2'
          have u0 := tick_le R B T'
          have gl := hG.lt
          rcases hok with ⟨rfl, h1, rfl⟩ | ⟨rfl, h1, rfl⟩
          · have u1 := tick_nn R B (T - x % 50) g0 g2 (by omega)
            go_wp2_with fail
            refine (quota_tick _ _ _ _ _ g0 (by omega) g2 (by omega) (by omega) (by omega) (by omega) (by omega)).mono ?_
            rintro e w5 ⟨rfl, hb5⟩
            have bel := below_call hbx hb5
            have hG5 := blk_call hG hb5
            have z0 := hG5.cell 0
            have z1 := hG5.cell 1
            have z2 := hG5.cell 2
            have y3 := hG5.frozen 0
            have y4 := hG5.frozen 1
            have y5 := hG5.frozen 2
            simp at z0 z1 z2
            clear hb5 a0' a1' a2' b0' b1' b2' f0 f1 f2 hG hC hask hbx
            generalize tickI R B (T - x % 50) 1 = T2 at *
            have d4 := ((hG5.set_ 0 (.int .u32 R)).set_ 1 (.int .u32 B)).set_ 2 (.int .u32 T2)
            have d5 := ((bel.setCell (p := ⟨w1.heap.size, 0, none⟩) zz (.int .u32 R)).setCell (p := ⟨w1.heap.size, 1, none⟩) zz (.int .u32 B)).setCell (p := ⟨w1.heap.size, 2, none⟩) zz (.int .u32 T2)
            have D4 := Lib.hid d4
            have D5 := Lib.hid d5
            clear d4 d5
            go_wp2
            go_roundw
            case rel => exact ⟨k + 1, T2, _, _, by omega, by omega, by go_num, rfl, rfl, by omega, by omega, by omega, by omega, by omega, by simpa using D4.out, D5.out⟩
            case measure => simp [intOf]; omega
          · have u1 := tick_nn R B T' g0 g2 (by omega)
            go_wp2_with fail
            refine (quota_tick _ _ _ _ _ g0 (by omega) g2 (by omega) (by omega) (by omega) (by omega) (by omega)).mono ?_
            rintro e w5 ⟨rfl, hb5⟩
            have bel := below_call hbx hb5
            have hG5 := blk_call hG hb5
            have z0 := hG5.cell 0
            have z1 := hG5.cell 1
            have z2 := hG5.cell 2
            have y3 := hG5.frozen 0
            have y4 := hG5.frozen 1
            have y5 := hG5.frozen 2
            simp at z0 z1 z2
            clear hb5 a0' a1' a2' b0' b1' b2' f0 f1 f2 hG hC hask hbx
            generalize tickI R B T' 1 = T2 at *
            have d4 := ((hG5.set_ 0 (.int .u32 R)).set_ 1 (.int .u32 B)).set_ 2 (.int .u32 T2)
            have d5 := ((bel.setCell (p := ⟨w1.heap.size, 0, none⟩) zz (.int .u32 R)).setCell (p := ⟨w1.heap.size, 1, none⟩) zz (.int .u32 B)).setCell (p := ⟨w1.heap.size, 2, none⟩) zz (.int .u32 T2)
            have D4 := Lib.hid d4
            have D5 := Lib.hid d5
            clear d4 d5
            go_wp2
            go_roundw
            case rel => exact ⟨k + 1, T2, _, _, by omega, by omega, by go_num, rfl, rfl, by omega, by omega, by omega, by omega, by omega, by simpa using D4.out, D5.out⟩
            case measure => simp [intOf]; omega
      · have h60' : ¬ (k : Int) < 60 := by omega
        go_wp2_with fail
        refine (quota_known _).mono ?_
        rintro e w7 ⟨rfl, hb7⟩
        go_wp2
        go_ret
        exact ⟨rfl, below_call hb hb7⟩
    · go_wp2_with fail
      refine (quota_known _).mono ?_
      rintro e w7 ⟨rfl, hb7⟩
      go_wp2
      go_ret
      exact ⟨rfl, below_call hb hb7⟩

theorem law_calls {H : Type} {enc : TypeId × Value → H} {base : Nat} (W : World) (v0 : Value) (d0 : DataW H) (p0 : List MemPlace) (v1 : Value) (d1 : DataW H) (p1 : List MemPlace) (v2 : Value) (d2 : DataW H) (p2 : List MemPlace)
    (o0 : Value.okWide Try.prog W .any base 30 v0) (h0 : DataW.Trod enc Try.prog W 0 (fun _ => true) true 30 v0 d0 p0) (o1 : Value.okWide Try.prog W .any base 30 v1) (h1 : DataW.Trod enc Try.prog W 0 (fun _ => true) true 30 v1 d1 p1) (o2 : Value.okWide Try.prog W .any base 50 v2) (h2 : DataW.Trod enc Try.prog W 0 (fun _ => true) true 50 v2 d2 p2) :
    Calls Try.prog 10 #[v0, v1, v2] W fun e w' => e = .returned (.bool true) ∧ Below W.heap.size W w' := by
  obtain ⟨a0, rfl, -, -, w0⟩ := open_int Try.underlying30 o0 h0
  obtain ⟨a1, rfl, -, -, w1⟩ := open_int Try.underlying30 o1 h1
  obtain ⟨A, n, c, xs, rfl, hnc, hcm, hln, hr, hwf⟩ := open_slice_int Try.underlying50 Try.underlying30 (by kernel_rfl) o2 h2
  obtain ⟨r0, r1⟩ := bounds_u32 w0
  obtain ⟨b0, b1⟩ := bounds_u32 w1
  unfold maxLen at hcm
  exact rate_walk a0 a1 A n c xs W r0 r1 b0 b1 (by omega) hr (fun x h => bounds_u32 (hwf x h))
-- END BY HAND

set_option maxRecDepth 100000 in
theorem lifted (os : Os) (started : os.Started) (H : Type) (enc : TypeId × Value → H) :
    ReturnsInHanded {} Try.checked os 10 .any (Rows.quotaRateSpec.pre6 enc Try.prog Try.f10 Rows.quotaRateRow.domain false) (Rows.quotaRateSpec.post enc Try.prog Try.f10 false true false false) := by
  refine returnsInHanded_of_change (C := Try.checked) own started (by kernel_rfl) Try.func10
    (ChangeSpec.witness6 (enc := enc) (C := Try.checked) false ⟨#[], #[.int .u32 0, .int .u32 0, .slice none 0 0], []⟩ 8 (by kernel_rfl) (by kernel_rfl) (by kernel_rfl) (by kernel_rfl)) ?_
  intro W base args ds gs before hval0 hW hcnd _
  have hval : ∀ (j : Nat) t v, Try.f10.params[j]? = some t → args[j]? = some v → Value.okWide Try.prog W .any base t v := hval0
  have hW' := hW
  obtain ⟨p, q, hA0, hV, rfl, hfz, hnd⟩ := hW
  have hA : DataW.TrodAll enc Try.prog W 0 (fun _ => true) true Try.f10.params.toList args.toList ds p := hA0
  rw [Try.params10] at hA hval
  obtain ⟨v0, vs0, d0, ds0, p0, q0, hargs, rfl, rfl, h0, r0⟩ := trodAll_cons hA
  obtain ⟨v1, vs1, d1, ds1, p1, q1, rfl, rfl, rfl, h1, r1⟩ := trodAll_cons r0
  obtain ⟨v2, vs2, d2, ds2, p2, q2, rfl, rfl, rfl, h2, r2⟩ := trodAll_cons r1
  obtain ⟨rfl, rfl, rfl⟩ := trodAll_nil r2
  obtain rfl : args = #[v0, v1, v2] := by cases args; simp_all
  obtain ⟨rfl, rfl⟩ := trodVars_none hV
  have lt0 : ∀ x ∈ p0, x.block < W.heap.size := by obtain ⟨m, hm⟩ := h0; exact DataW.trod_lt m _ _ _ hm
  have lt1 : ∀ x ∈ p1, x.block < W.heap.size := by obtain ⟨m, hm⟩ := h1; exact DataW.trod_lt m _ _ _ hm
  have lt2 : ∀ x ∈ p2, x.block < W.heap.size := by obtain ⟨m, hm⟩ := h2; exact DataW.trod_lt m _ _ _ hm
  clear hA0 hval0
  refine (law_calls (enc := enc) (base := base) W v0 d0 p0 v1 d1 p1 v2 d2 p2 (hval 0 30 v0 rfl rfl) h0 (hval 1 30 v1 rfl rfl) h1 (hval 2 50 v2 rfl rfl) h2).mono fun e W' ⟨he, bel⟩ => ?_
  subst he
  exact ⟨_, rfl, _, _, _, [], _, [], hW', trodAll_mk1 (shut_bool Try.underlying4 _), (trodAll_cons_mk (Below.trod laidOut (by kernel_rfl) (of_decide_eq_true (by kernel_rfl)) h0 bel lt0) (trodAll_cons_mk (Below.trod laidOut (by kernel_rfl) (of_decide_eq_true (by kernel_rfl)) h1 bel lt1) (trodAll_cons_mk (Below.trod laidOut (by kernel_rfl) (of_decide_eq_true (by kernel_rfl)) h2 bel lt2) trodAll_mk0))), rfl, bel.frame _, fun h => by cases h⟩

theorem over : Rows.quotaRateRow.holds Try.pinned (OpenSpec.ofChange Rows.quotaRateSpec) :=
  OpenClaim.holds_of_wide 10 Try.f10 rfl rfl rfl rfl rfl rfl rfl ⟨rfl, rfl, rfl, rfl, rfl⟩ rfl rfl rfl rfl rfl (by kernel_rfl) Try.func10 (by kernel_rfl)
    (of_decide_eq_true (by kernel_rfl)) (by unfold Func.isWrapper; first | (rw [if_pos (by decide +kernel)]; kernel_rfl) | (rw [if_neg (by decide +kernel)]; exact ⟨rfl, rfl⟩))
    (fun os started H enc _ => lifted os started H enc)

/-- The statement. -/
theorem proved : Rows.QuotaRateSaid := over

#print axioms proved

end Go.Proofs.Ytfgmhapbanbmfaa.quotaRate
