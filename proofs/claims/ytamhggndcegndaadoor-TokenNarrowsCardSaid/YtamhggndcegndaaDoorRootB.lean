/-
  deponentref1: below, root.
-/
import Derived.Test.YtamhggndcegndaaDoorRootW
import Derived.Deep.DeepCutAuto
import Derived.Lib.Hide
namespace Go.Proofs.YtamhggndcegndaaDoor
open Go.RowKit
set_option linter.unusedVariables false
set_option maxRecDepth 100000

/-- What is held against: p at part n and the next. -/
def wantL (len n p : Nat) : List Nat := ((List.replicate len 0).set n (p % 65536)).set (n + 1) (p / 65536)

theorem wantL_length (len n p : Nat) : (wantL len n p).length = len := by simp [wantL]

theorem wantL_parts (len n p : Nat) (hp : p < 4294967296) : Parts (wantL len n p) := by
  have h0 : Parts (List.replicate len 0) := fun x hx => by obtain rfl := List.eq_of_mem_replicate hx; decide
  exact (h0.set _ _ (Nat.mod_lt _ (by decide))).set _ _ (by omega)

theorem wantL_val (len n p : Nat) (hn : n + 1 < len) : pval (wantL len n p) = p * 65536 ^ n := by
  have h1 := pval_set (List.replicate len 0) n (p % 65536) 0 (by rw [List.getElem?_replicate, if_pos (by omega)])
  rw [pval_zeros] at h1
  have h2 := pval_set ((List.replicate len 0).set n (p % 65536)) (n + 1) (p / 65536) 0 (by rw [List.getElem?_set_ne (by omega), List.getElem?_replicate, if_pos (by omega)])
  unfold wantL
  rw [Nat.pow_succ] at h2
  obtain ⟨E, hE⟩ : ∃ E, 65536 ^ n = E := ⟨_, rfl⟩
  rw [hE] at h1 h2 ⊢
  have e1 : p / 65536 * (E * 65536) = 65536 * (p / 65536) * E := by rw [Nat.mul_comm E, ← Nat.mul_assoc, Nat.mul_comm (p / 65536)]
  have e2 : p * E = 65536 * (p / 65536) * E + p % 65536 * E := by rw [← Nat.add_mul, Nat.div_add_mod]
  rw [e1] at h2
  omega

/-- Held against from above. -/
theorem below_tell {a b : List Nat} (ha : Parts a) (hb : Parts b) (hl : a.length = b.length) (i x y : Nat) (hx : a[i]? = some x) (hy : b[i]? = some y) (hd : a.drop (i + 1) = b.drop (i + 1)) (h : x ≠ y) : decide (x < y) = decide (pval a ≤ pval b) := by
  rcases Nat.lt_or_ge x y with hlt | hge
  · have := pval_top ha hb hl i x y hx hy hd hlt
    simp [hlt]
    omega
  · have := pval_top hb ha hl.symm i y x hy hx hd.symm (by omega)
    have h1 : ¬ x < y := by omega
    simp [h1]
    omega

theorem drop_step {a b : List Nat} {i x : Nat} (hx : a[i]? = some x) (hy : b[i]? = some x) (hd : a.drop (i + 1) = b.drop (i + 1)) : a.drop i = b.drop i := by
  have h1 : a.drop i = x :: a.drop (i + 1) := by
    obtain ⟨h, e⟩ := List.getElem?_eq_some_iff.1 hx
    rw [← e]
    exact List.drop_eq_getElem_cons h
  have h2 : b.drop i = x :: b.drop (i + 1) := by
    obtain ⟨h, e⟩ := List.getElem?_eq_some_iff.1 hy
    rw [← e]
    exact List.drop_eq_getElem_cons h
  rw [h1, h2, hd]

-- END BY HAND
set_option maxHeartbeats 4000000 in
theorem ref1_below (x p : Nat) (cube : Bool) (w : World) (hx : x < 18446744073709551616) (hp : p < 4294967296) :
    Calls Tryd.prog 63 #[.int .u64 x, .int .u64 p, .bool cube] w fun e w' => e = .returned (.bool (belowB x p cube)) ∧ Below w.heap.size w w' := by
  go_enter Tryd.func63, Tryd.ntmps63
  go_wp2_with fail
  refine (ref1_limbs x w hx).mono ?_
  rintro e w1 ⟨rfl, k1, b1⟩
  have r1 := reads_u64_blk k1
  rw [show (limbsL x).length = 4 from rfl] at r1
  have PL := limbsL_parts x hx
  have VL := limbsL_val x hx
  have HP := Lib.hid PL
  have HV := Lib.hid VL
  have R1 := Lib.hid r1
  have B1 := Lib.hid b1
  clear k1 b1 r1 PL VL
  go_wp2_with fail
  refine (ref1_times (limbsL x) (limbsL x) _ _ 4 4 4 4 w1 R1.out R1.out (by decide) (by decide) (by decide) (by decide) HP.out HP.out).mono ?_
  rintro e w2 ⟨o, rfl, k2, l2, p2, v2, b2⟩
  have B2 := Lib.hid (B1.out.trans (b2.mono B1.out.size))
  have R1' := Lib.hid (R1.out.call b2)
  have K2 := Lib.hid k2
  have r2 := reads_u64_blk k2
  rw [l2] at r2
  have R2 := Lib.hid r2
  have L2 := Lib.hid l2
  have P2 := Lib.hid p2
  rw [HV.out] at v2
  have V2 := Lib.hid v2
  clear k2 l2 p2 v2 b2 r2 R1 B1
  rw [show 4 + 4 = 8 from rfl] at R2 L2 ⊢
  go_upto_if 17 with (fail)
  go_cut [8, 9] (fun s8 s9 wx => ∃ (o' : List Nat) (g L n : Nat), s8 = .slice (some ⟨g, 0, none⟩) L L ∧ s9 = .int .i64 n ∧ n + 1 < L ∧ L ≤ 12 ∧ Hid (Blk wx g 24 (u64v o').toArray) ∧ Hid (o'.length = L ∧ Parts o') ∧ Hid (decide (pval o' ≤ p * 65536 ^ n) = belowB x p cube) ∧ Hid (Below w.heap.size w wx))
  case first =>
    cases cube with
    | false =>
      have hv : decide (pval o ≤ p * 65536 ^ 4) = belowB x p false := by
        rw [V2.out]
        unfold belowB
        simp only [Bool.false_eq_true, if_false]
        rw [show (65536 : Nat) ^ 4 = 2 ^ 64 from by decide, Nat.pow_two]
      have HVV := Lib.hid hv
      clear hv
      go_wp2
      go_meet
      case rel => exact ⟨o, w1.heap.size, 8, 4, rfl, rfl, by omega, by omega, K2, ⟨L2.out, P2.out⟩, HVV, B2⟩
    | true =>
      go_wp2_with fail
      refine (ref1_times o (limbsL x) _ _ 8 8 4 4 w2 R2.out R1'.out (by decide) (by decide) (by decide) (by decide) P2.out HP.out).mono ?_
      rintro e w3 ⟨o3, rfl, k3, l3, p3, v3, b3⟩
      rw [V2.out, HV.out] at v3
      have hv : decide (pval o3 ≤ p * 65536 ^ 6) = belowB x p true := by
        rw [v3]
        unfold belowB
        simp only [if_true]
        rw [show (65536 : Nat) ^ 6 = 2 ^ 96 from by decide, show x ^ 3 = x * x * x from by rw [Nat.pow_succ, Nat.pow_two]]
      have HVV := Lib.hid hv
      have K3 := Lib.hid k3
      have HL := Lib.hid (show o3.length = 12 ∧ Parts o3 from ⟨l3, p3⟩)
      have B3 := Lib.hid (B2.out.trans (b3.mono B2.out.size))
      clear k3 l3 p3 v3 b3 hv
      rw [show 8 + 4 = 12 from rfl]
      go_wp2
      go_meet
      case rel => exact ⟨o3, w2.heap.size, 12, 6, rfl, rfl, by omega, by omega, K3, HL, HVV, B3⟩
  case rest =>
    obtain ⟨o', g, L, n, rfl, rfl, hnL, hL12, K3, HL, HVV, B3⟩ := hcut
    obtain ⟨w3, rfl⟩ : ∃ x, x = wc := ⟨_, rfl⟩
    clear B2 R1' K2 R2 L2 P2 V2 HP HV
    have mk := fun w => make_u64 L (by omega) w
    obtain ⟨Z, hZ⟩ : ∃ Z, (u64v (List.replicate L 0)).toArray = Z := ⟨_, rfl⟩
    simp only [hZ] at mk
    obtain ⟨pm, hpm⟩ : ∃ y, p % 65536 = y := ⟨_, rfl⟩
    obtain ⟨pd, hpd⟩ : ∃ y, p / 65536 = y := ⟨_, rfl⟩
    have f1 : bits .and .u64 (p : Int) 65535 = pm := by rw [u64_ffff p (by omega), hpm]
    have f2 : (p : Int) / 65536 = pd := by omega
    have z0 := Blk.new w3 24 Z
    obtain ⟨w4, hw4⟩ : ∃ y, y = w3.alloc (.cells Z 24) := ⟨_, rfl⟩
    rw [← hw4] at z0
    rw [← hZ] at z0
    have k4 : Blk w4 g 24 (u64v o').toArray := by rw [hw4]; exact K3.out.alloc _
    have b4 : Below w.heap.size w w4 := by rw [hw4]; exact B3.out.alloc B3.out.size _
    have hgl : g < w3.heap.size := K3.out.lt
    have hws : w.heap.size ≤ w3.heap.size := B3.out.size
    obtain ⟨G, hG⟩ : ∃ y, w3.heap.size = y := ⟨_, rfl⟩
    rw [hG] at z0 hgl hws
    have HG := Lib.hid hG
    have HW4 := Lib.hid hw4
    have zc := (z0.cell n).trans (show _ = some (.int .u64 0) by simpa using u64v_at (show (List.replicate L 0)[n]? = some 0 by rw [List.getElem?_replicate, if_pos (by omega)]))
    have zf := z0.frozen n
    have z1 := z0.set_ n (.int .u64 (pm : Int))
    rw [u64v_set] at z1
    have k5 := k4.far (p := ⟨G, n, none⟩) (by show g ≠ G; omega) (.int .u64 (pm : Int))
    have b5 := b4.setCell (p := ⟨G, n, none⟩) (by show w.heap.size ≤ G; omega) (.int .u64 (pm : Int))
    obtain ⟨w5, hw5⟩ : ∃ y, y = w4.setCell ⟨G, n, none⟩ (.int .u64 (pm : Int)) := ⟨_, rfl⟩
    rw [← hw5] at z1 k5 b5
    have zc1 := (z1.cell (n + 1)).trans (show _ = some (.int .u64 0) by simpa using u64v_at (show ((List.replicate L 0).set n pm)[n + 1]? = some 0 by rw [List.getElem?_set_ne (by omega), List.getElem?_replicate, if_pos (by omega)]))
    have zf1 := z1.frozen (n + 1)
    have z2 := z1.set_ (n + 1) (.int .u64 (pd : Int))
    rw [u64v_set] at z2
    have k6 := k5.far (p := ⟨G, n + 1, none⟩) (by show g ≠ G; omega) (.int .u64 (pd : Int))
    have b6 := b5.setCell (p := ⟨G, n + 1, none⟩) (by show w.heap.size ≤ G; omega) (.int .u64 (pd : Int))
    obtain ⟨n1, hn1⟩ : ∃ y, n + 1 = y := ⟨_, rfl⟩
    rw [hn1] at zc1 zf1 z2 k6 b6 hnL
    have hn1i : (n : Int) + 1 = n1 := by omega
    obtain ⟨w6, hw6⟩ : ∃ y, y = w5.setCell ⟨G, n1, none⟩ (.int .u64 (pd : Int)) := ⟨_, rfl⟩
    rw [← hw6] at z2 k6 b6
    have Z2 : Hid (Blk w6 G 24 (u64v (wantL L n p)).toArray) := by
      unfold wantL
      rw [hn1, hpm, hpd]
      exact z2
    have K6 := Lib.hid k6
    have B6 := Lib.hid b6
    have HW5 := Lib.hid hw5
    have HW6 := Lib.hid hw6
    have HN1 := Lib.hid hn1
    have qL : (n1 : Int) < L := by omega
    have qn : (n : Int) < L := by omega
    have WV : Hid (pval (wantL L n p) = p * 65536 ^ n) := wantL_val L n p (by omega)
    have WL : Hid ((wantL L n p).length = L) := wantL_length L n p
    have WP : Hid (Parts (wantL L n p)) := wantL_parts L n p hp
    obtain ⟨W, hWW⟩ : ∃ y, wantL L n p = y := ⟨_, rfl⟩
    rw [hWW] at Z2 WV WL WP
    clear z0 z1 z2 k4 k5 k6 b4 b5 b6 hw4 hw5 hw6 hn1 hpm hpd hG hZ hWW K3 B3
    go_upto_region 8 with (fail)
    rw [← HW4.out, HG.out]
    go_upto_region 10 with (fail)
    rw [← HW5.out]
    clear zc zf f1 mk
    go_upto_region 11 with (fail)
    rw [← HW6.out]
    clear zc1 zf1 f2 hn1i
    go_wp2_with fail
    go_loopw [11] (fun i wr => ∃ m : Nat, m ≤ L ∧ i = .int .i64 ((m : Int) - 1) ∧ Hid (o'.drop m = W.drop m) ∧ Hid (Blk wr g 24 (u64v o').toArray) ∧ Hid (Blk wr G 24 (u64v W).toArray) ∧ Hid (Below w.heap.size w wr)) (fun i _ => (intOf i + 1).toNat)
    case atStart => exact ⟨L, by omega, rfl, by show o'.drop L = W.drop L; rw [List.drop_eq_nil_of_le (by rw [HL.out.1]; omega), List.drop_eq_nil_of_le (by rw [WL.out]; omega)], K6.out, Z2.out, B6.out⟩
    case round =>
      clear K6 Z2 B6
      obtain ⟨m, hm, rfl, hdr, hko, hkw, hbe⟩ := hrel
      cases m with
      | zero =>
        have hb : belowB x p cube = true := by
          rw [← HVV.out, show o' = W by simpa using hdr.out, WV.out]
          simp
        have HBB := Lib.hid hb
        clear hb
        go_wp2
        go_ret
        exact ⟨by rw [HBB.out]; rfl, hbe.out⟩
      | succ m =>
        have em : ((m + 1 : Nat) : Int) - 1 = m := by omega
        rw [em]
        clear em
        obtain ⟨x1, hx1⟩ : ∃ y, o'[m]? = some y := ⟨_, List.getElem?_eq_getElem (by rw [HL.out.1]; omega)⟩
        obtain ⟨y1, hy1⟩ : ∃ y, W[m]? = some y := ⟨_, List.getElem?_eq_getElem (by rw [WL.out]; omega)⟩
        have c1 := (hko.out.cell m).trans (show _ = some (.int .u64 (x1 : Int)) by simpa using u64v_at hx1)
        have c2 := (hkw.out.cell m).trans (show _ = some (.int .u64 (y1 : Int)) by simpa using u64v_at hy1)
        have qm : (m : Int) < L := by omega
        obtain ⟨S, HS⟩ : ∃ S : World → Prop, Hid (∀ w', S w' = (w'.cell? ⟨g, m, none⟩ = some (.int .u64 (x1 : Int)) ∧ w'.cell? ⟨G, m, none⟩ = some (.int .u64 (y1 : Int)))) := ⟨_, fun _ => rfl⟩
        by_cases he : x1 = y1
        · subst he
          have HD := Lib.hid (drop_step hx1 hy1 hdr.out)
          clear hx1 hy1 hdr
          go_upto_region 14 with (fail)
          refine wp_region_seq S 9 [(0, false), (1, false), (2, false), (3, false), (4, false), (5, false), (6, false), (7, false), (8, false)] (by kernel_rfl) rfl (by kernel_rfl) (by kernel_rfl) (by kernel_rfl) (fun _ _ d _ _ h => by cases d <;> exact h) ((HS.out _).mpr ⟨c1, c2⟩) ?_
          repeat (refine wpSeq_read rfl rfl ⟨?_, fun w1 hS => ?_, ?_⟩; rotate_left; (focus (rw [HS.out] at hS; go_split_ands; go_simp; (try go_bits); try rfl)); simp only [Act.put, List.setIfInBounds_toArray, List.set_cons_zero, List.set_cons_succ])
          refine wpSeq_nil ?_
          have K7 := Lib.hid hko.out.drew
          have Z7 := Lib.hid hkw.out.drew
          have B7 := Lib.hid hbe.out.drew
          clear c1 c2 hko hkw hbe
          go_wp2
          go_roundw
          case rel => exact ⟨m, by omega, rfl, HD, K7, Z7, B7⟩
          case measure => simp [intOf]
        · have q : ¬ (x1 : Int) = y1 := by omega
          have ht := below_tell HL.out.2 WP.out (by rw [HL.out.1, WL.out]) m x1 y1 hx1 hy1 hdr.out he
          rw [WV.out, HVV.out] at ht
          have HT := Lib.hid ht
          have qt : decide ((x1 : Int) < y1) = decide (x1 < y1) := by rw [Bool.eq_iff_iff]; simp
          have QT := Lib.hid qt
          clear hx1 hy1 hdr ht qt
          go_upto_region 14 with (fail)
          refine wp_region_seq S 9 [(0, false), (1, false), (2, false), (3, false), (4, false), (5, false), (6, false), (7, false), (8, false)] (by kernel_rfl) rfl (by kernel_rfl) (by kernel_rfl) (by kernel_rfl) (fun _ _ d _ _ h => by cases d <;> exact h) ((HS.out _).mpr ⟨c1, c2⟩) ?_
          repeat (refine wpSeq_read rfl rfl ⟨?_, fun w1 hS => ?_, ?_⟩; rotate_left; (focus (rw [HS.out] at hS; go_split_ands; go_simp; (try go_bits); try rfl)); simp only [Act.put, List.setIfInBounds_toArray, List.set_cons_zero, List.set_cons_succ])
          refine wpSeq_nil ?_
          have k1 : wr.drew.cell? ⟨g, m, none⟩ = some (.int .u64 (x1 : Int)) := c1
          have k2 : wr.drew.cell? ⟨G, m, none⟩ = some (.int .u64 (y1 : Int)) := c2
          go_upto_region 15 with (fail)
          refine wp_region_seq S 10 [(0, false), (1, false), (2, false), (3, false), (4, false), (5, false), (6, false), (7, false), (8, false), (9, false)] (by kernel_rfl) rfl (by kernel_rfl) (by kernel_rfl) (by kernel_rfl) (fun _ _ d _ _ h => by cases d <;> exact h) ((HS.out _).mpr ⟨c1, c2⟩) ?_
          repeat (refine wpSeq_read rfl rfl ⟨?_, fun w1 hS => ?_, ?_⟩; rotate_left; (focus (rw [HS.out] at hS; go_split_ands; go_simp; (try go_bits); try rfl)); simp only [Act.put, List.setIfInBounds_toArray, List.set_cons_zero, List.set_cons_succ])
          refine wpSeq_nil ?_
          have B7 := Lib.hid hbe.out.drew.drew
          clear c1 c2 k1 k2 hko hkw hbe
          go_wp2
          go_ret
          exact ⟨by rw [← HT.out, ← QT.out]; rfl, B7.out⟩

end Go.Proofs.YtamhggndcegndaaDoor
