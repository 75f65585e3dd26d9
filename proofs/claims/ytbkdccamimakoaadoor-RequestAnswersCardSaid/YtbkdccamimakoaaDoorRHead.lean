/-
  deponentref18.head: a head read.
-/
import Derived.Test.YtbkdccamimakoaaDoorHead
import Derived.Test.YtbkdccamimakoaaDoorRDecode
namespace Go.Proofs.YtbkdccamimakoaaDoor
open Go.RowKit
set_option linter.unusedVariables false
set_option maxRecDepth 100000


-- $1 world after number, $2 world after store, $3 cell, $4 value, $5 lemma term for the block, $6 GB before, $7 GB after, $8 region to stop at

-- $1 state, $2 world before, $3 H, $4 world, $5 state, $6 digest, $7 Q, $8 R

-- $1 world after digest, $2 world after store, $3 offset, $4 digest, $5 lemma, $6 GB before, $7 region, $8 address' slot, $9 value's slot

-- END BY HAND
set_option maxHeartbeats 8000000 in
theorem ref18_hd (g : Nat) (bs : List Nat) (s : RSt) (w : World) (h : RRd w g bs s) (hb : ∀ x ∈ bs, x < 256) :
    Calls Tryd.prog 57 #[.pointer (some ⟨g, 0, none⟩)] w fun e w' => e = .returned (.agg (hdv (rhH bs s)).toArray) ∧ RRd w' g bs (rh7 bs s).1 ∧ w.grownBy w' (some g) := by
  have HB := Lib.hid hb
  have hgw := h.lt
  obtain ⟨W0, hW0⟩ : ∃ x, x = (w.alloc (.cells Tryd.zeroCells55 55)).alloc (.cells Tryd.zeroCells55 55) := ⟨_, rfl⟩
  have r0 : Blk W0 w.heap.size 55 (hdv Hd.zero).toArray := by rw [hW0, ← zsig_eq]; exact (Blk.new w _ _).alloc _
  have q0 : Blk W0 (w.heap.size + 1) 55 (hdv Hd.zero).toArray := by
    have h := Blk.new (w.alloc (.cells Tryd.zeroCells55 55)) 55 Tryd.zeroCells55
    rw [alloc_size] at h
    rw [hW0, ← zsig_eq]
    exact h
  have b0 : Below w.heap.size w W0 := by rw [hW0]; exact below_new (below_new (Below.refl _ _) _) _
  have H0 := Lib.hid (h.below b0)
  have GB0 := Lib.hid (only_of_below b0 (some g))
  have R0 := Lib.hid r0
  have HW0 := Lib.hid hW0
  have hG3w : w.heap.size ≤ w.heap.size + 1 := by omega
  clear hb h r0 b0 hW0
  go_enter Tryd.func57, Tryd.ntmps57
  go_upto_region 2 with (fail)
  rw [← HW0.out]
  obtain ⟨G3, hG3⟩ : ∃ G, w.heap.size + 1 = G := ⟨_, rfl⟩
  obtain ⟨G2, hG2⟩ : ∃ G, w.heap.size = G := ⟨_, rfl⟩
  have hgG2 : g < G2 := by omega
  have hgG3 : g < G3 := by omega
  have hG23 : G2 < G3 := by omega
  rw [hG3] at q0 hG3w ⊢
  have hG2w : w.heap.size ≤ G2 := by omega
  rw [hG2] at R0 ⊢
  have Q0 := Lib.hid q0
  clear q0 hG3 hG2 HW0 hgw
  go_wp2_with fail
  refine (rreader_number g bs s 1 W0 H0.out HB.out).mono ?_
  rintro e w1 ⟨rfl, hw1, gw1⟩
  have hlk1 := rNum_lt bs s 1 HB.out
  rw [show sizeN 1 = 1 from rfl] at hw1 ⊢
  obtain ⟨⟨s1, k1⟩, hkk1⟩ : ∃ x, rNum bs s 1 = x := ⟨_, rfl⟩
  rw [hkk1] at hw1 hlk1 ⊢
  dsimp only at hw1 hlk1 ⊢
  have Kk1 := Lib.hid hkk1
  clear hkk1
  have qw1 := Q0.out.grown gw1 (by simp; omega)
  have rw1 := R0.out.grown gw1 (by simp; omega)
  have k1b : k1 < 256 := Nat.lt_of_lt_of_eq hlk1 (by decide)
  clear hlk1 H0 Q0 R0
  have kw : IntKind.i64.wrap (k1 : Int) = k1 := IntWalk.i64_in _ (by omega)
  have cw1 := (qw1.cell 0).trans (show _ = some (.int .i64 0) from rfl)
  have fw1 := qw1.frozen 0
  have qw2 := qw1.set_ 0 (.int .i64 (k1 : Int))
  rw [hdv_set0] at qw2
  have hsetw2 := only_setCell (p := ⟨G3, 0, none⟩) (World.grownBy.refl w1 (some G3)) (.inl rfl) (.int .i64 (k1 : Int))
  have Hw2 := Lib.hid (hw1.kept hsetw2 (by omega))
  have Rw2 := Lib.hid (rw1.grown hsetw2 (by simp; omega))
  have Qw2 := Lib.hid qw2
  have GB2 := Lib.hid (only_trans (only_trans GB0.out gw1 (by simp)) hsetw2 (by intro d e; injection e with e; subst e; exact .inr hG3w))
  clear qw2 hsetw2 hw1 rw1 gw1
  go_upto_region 3 with (fail)
  obtain ⟨w2, hww2⟩ : ∃ x, x = w1.setCell ⟨G3, 0, none⟩ (.int .i64 (k1 : Int)) := ⟨_, rfl⟩
  rw [← hww2] at Hw2 Rw2 Qw2 GB2 ⊢
  clear hww2 cw1 fw1 qw1
  clear GB0 kw
  go_wp2_with fail
  refine (rreader_number g bs s1 4 w2 Hw2.out HB.out).mono ?_
  rintro e w3 ⟨rfl, hw3, gw3⟩
  have hlk2 := rNum_lt bs s1 4 HB.out
  rw [show sizeN 4 = 4 from rfl] at hw3 ⊢
  obtain ⟨⟨s2, k2⟩, hkk2⟩ : ∃ x, rNum bs s1 4 = x := ⟨_, rfl⟩
  rw [hkk2] at hw3 hlk2 ⊢
  dsimp only at hw3 hlk2 ⊢
  have Kk2 := Lib.hid hkk2
  clear hkk2
  have qw3 := Qw2.out.grown gw3 (by simp; omega)
  have rw3 := Rw2.out.grown gw3 (by simp; omega)
  have k2b : k2 < 4294967296 := Nat.lt_of_lt_of_eq hlk2 (by decide)
  have m2 := rNum_none bs s1 4
  rw [Kk2.out] at m2
  obtain ⟨s3, hs3⟩ : ∃ x, x = (if 2147483647 < k2 then rRefuse s2 s2.1 12 else s2) := ⟨_, rfl⟩
  have HS3 := Lib.hid hs3
  have M2 := Lib.hid m2
  have H3 := Lib.hid hw3
  have Q3 := Lib.hid qw3
  have R3 := Lib.hid rw3
  have GB3 := Lib.hid (only_trans GB2.out gw3 (by simp))
  have fl3 := H3.out.flag
  clear hlk2 hs3 hw3 qw3 rw3 gw3 Hw2 Qw2 Rw2 GB2 m2
  go_upto_region 4 with (fail)
  go_cut [20] (fun s20 wx => s20 = .bool (decide (2147483647 < k2)) ∧ wx = w3)
  case first =>
    cases hs : s2.2 with
    | some x =>
      have K0 := Lib.hid (show k2 = 0 from M2.out (by rw [hs]; simp))
      rw [hs, show (some x).isSome = true from rfl] at fl3
      go_wp2
      go_meet
      case rel => exact ⟨by rw [K0.out]; rfl, rfl⟩
    | none =>
      rw [hs, show (none : Option (Nat × Nat)).isSome = false from rfl] at fl3
      by_cases hk : 2147483647 < k2
      · have q : (2147483647 : Int) < k2 := by omega
        go_wp2
        go_meet
        case rel => exact ⟨by simp [hk], rfl⟩
      · have q : ¬ (2147483647 : Int) < k2 := by omega
        go_wp2
        go_meet
        case rel => exact ⟨by simp [hk], rfl⟩
  case rest =>
  obtain ⟨rfl, rfl⟩ := hcut
  obtain ⟨w3, rfl⟩ : ∃ x, x = wc := ⟨_, rfl⟩
  clear fl3
  go_upto_if 20 with (fail)
  go_cut [] (fun wx => Hid (RRd wx g bs s3) ∧ Hid (Blk wx G3 55 (hdv { Hd.zero with tree := (k1 : Int) }).toArray) ∧ Hid (Blk wx G2 55 (hdv Hd.zero).toArray) ∧ Hid (w.grownBy wx (some g)))
  case first =>
    by_cases hk : 2147483647 < k2
    · have qd : decide (2147483647 < k2) = true := by simp [hk]
      rw [qd]
      have e3 := HS3.out
      rw [if_pos hk] at e3
      subst e3
      go_wp2_with fail
      refine (rreader_fail g bs s2 12 w3 H3.out (by decide)).mono ?_
      rintro e wa ⟨rfl, ha, ga⟩
      have Ha := Lib.hid ha
      have Qa := Lib.hid (Q3.out.grown ga (by simp; omega))
      have Ra := Lib.hid (R3.out.grown ga (by simp; omega))
      have Ga := Lib.hid (only_trans GB3.out ga (by simp))
      clear ha ga
      go_wp2
      go_meet
      case rel => exact ⟨Ha, Qa, Ra, Ga⟩
    · have qd : decide (2147483647 < k2) = false := by simp [hk]
      rw [qd]
      have e3 := HS3.out
      rw [if_neg hk] at e3
      subst e3
      go_wp2
      go_meet
      case rel => exact ⟨H3, Q3, R3, GB3⟩
  case rest =>
    obtain ⟨H4, Q4, R4, GB4⟩ := hcut
    obtain ⟨w4, rfl⟩ : ∃ x, x = wc := ⟨_, rfl⟩
    clear H3 Q3 R3 GB3
    have kw : IntKind.i64.wrap (k2 : Int) = k2 := IntWalk.i64_in _ (by omega)
    have hw4 := H4.out
    have qw4 := Q4.out
    have rw4 := R4.out
    have gw4 := World.grownBy.refl w4 (some g)
    have cw4 := (qw4.cell 1).trans (show _ = some (.int .i64 0) from rfl)
    have fw4 := qw4.frozen 1
    have qw5 := qw4.set_ 1 (.int .i64 (k2 : Int))
    rw [hdv_set1] at qw5
    have hsetw5 := only_setCell (p := ⟨G3, 1, none⟩) (World.grownBy.refl w4 (some G3)) (.inl rfl) (.int .i64 (k2 : Int))
    have Hw5 := Lib.hid (hw4.kept hsetw5 (by omega))
    have Rw5 := Lib.hid (rw4.grown hsetw5 (by simp; omega))
    have Qw5 := Lib.hid qw5
    have GB5 := Lib.hid (only_trans (only_trans GB4.out gw4 (by simp)) hsetw5 (by intro d e; injection e with e; subst e; exact .inr hG3w))
    clear qw5 hsetw5 hw4 rw4 gw4
    go_upto_region 7 with (fail)
    obtain ⟨w5, hww5⟩ : ∃ x, x = w4.setCell ⟨G3, 1, none⟩ (.int .i64 (k2 : Int)) := ⟨_, rfl⟩
    rw [← hww5] at Hw5 Rw5 Qw5 GB5 ⊢
    clear hww5 cw4 fw4 qw4
    clear GB4 kw H4 Q4 R4
    go_wp2_with fail
    refine (rreader_number g bs s3 8 w5 Hw5.out HB.out).mono ?_
    rintro e w6 ⟨rfl, hw6, gw6⟩
    have hlk4 := rNum_lt bs s3 8 HB.out
    rw [show sizeN 8 = 8 from rfl] at hw6 ⊢
    obtain ⟨⟨s4, k4⟩, hkk4⟩ : ∃ x, rNum bs s3 8 = x := ⟨_, rfl⟩
    rw [hkk4] at hw6 hlk4 ⊢
    dsimp only at hw6 hlk4 ⊢
    have Kk4 := Lib.hid hkk4
    clear hkk4
    have qw6 := Qw5.out.grown gw6 (by simp; omega)
    have rw6 := Rw5.out.grown gw6 (by simp; omega)
    have k4b : k4 < 18446744073709551616 := Nat.lt_of_lt_of_eq hlk4 (by decide)
    clear hlk4 Hw5 Qw5 Rw5
    have cw6 := (qw6.cell 2).trans (show _ = some (.int .u64 0) from rfl)
    have fw6 := qw6.frozen 2
    have qw7 := qw6.set_ 2 (.int .u64 (k4 : Int))
    rw [hdv_set2] at qw7
    have hsetw7 := only_setCell (p := ⟨G3, 2, none⟩) (World.grownBy.refl w6 (some G3)) (.inl rfl) (.int .u64 (k4 : Int))
    have Hw7 := Lib.hid (hw6.kept hsetw7 (by omega))
    have Rw7 := Lib.hid (rw6.grown hsetw7 (by simp; omega))
    have Qw7 := Lib.hid qw7
    have GB7 := Lib.hid (only_trans (only_trans GB5.out gw6 (by simp)) hsetw7 (by intro d e; injection e with e; subst e; exact .inr hG3w))
    clear qw7 hsetw7 hw6 rw6 gw6
    go_upto_region 8 with (fail)
    obtain ⟨w7, hww7⟩ : ∃ x, x = w6.setCell ⟨G3, 2, none⟩ (.int .u64 (k4 : Int)) := ⟨_, rfl⟩
    rw [← hww7] at Hw7 Rw7 Qw7 GB7 ⊢
    clear hww7 cw6 fw6 qw6
    clear GB5
    go_wp2_with fail
    refine (rreader_number g bs s4 8 w7 Hw7.out HB.out).mono ?_
    rintro e w8 ⟨rfl, hw8, gw8⟩
    have hlk5 := rNum_lt bs s4 8 HB.out
    rw [show sizeN 8 = 8 from rfl] at hw8 ⊢
    obtain ⟨⟨s5, k5⟩, hkk5⟩ : ∃ x, rNum bs s4 8 = x := ⟨_, rfl⟩
    rw [hkk5] at hw8 hlk5 ⊢
    dsimp only at hw8 hlk5 ⊢
    have Kk5 := Lib.hid hkk5
    clear hkk5
    have qw8 := Qw7.out.grown gw8 (by simp; omega)
    have rw8 := Rw7.out.grown gw8 (by simp; omega)
    have k5b : k5 < 18446744073709551616 := Nat.lt_of_lt_of_eq hlk5 (by decide)
    clear hlk5 Hw7 Qw7 Rw7
    have cw8 := (qw8.cell 3).trans (show _ = some (.int .u64 0) from rfl)
    have fw8 := qw8.frozen 3
    have qw9 := qw8.set_ 3 (.int .u64 (k5 : Int))
    rw [hdv_set3] at qw9
    have hsetw9 := only_setCell (p := ⟨G3, 3, none⟩) (World.grownBy.refl w8 (some G3)) (.inl rfl) (.int .u64 (k5 : Int))
    have Hw9 := Lib.hid (hw8.kept hsetw9 (by omega))
    have Rw9 := Lib.hid (rw8.grown hsetw9 (by simp; omega))
    have Qw9 := Lib.hid qw9
    have GB9 := Lib.hid (only_trans (only_trans GB7.out gw8 (by simp)) hsetw9 (by intro d e; injection e with e; subst e; exact .inr hG3w))
    clear qw9 hsetw9 hw8 rw8 gw8
    go_upto_region 9 with (fail)
    obtain ⟨w9, hww9⟩ : ∃ x, x = w8.setCell ⟨G3, 3, none⟩ (.int .u64 (k5 : Int)) := ⟨_, rfl⟩
    rw [← hww9] at Hw9 Rw9 Qw9 GB9 ⊢
    clear hww9 cw8 fw8 qw8
    clear GB7
    go_wp2_with fail
    refine (rreader_digest g bs s5 w9 Hw9.out).mono ?_
    rintro e wa ⟨rfl, hwa, gwa⟩
    have ldd6 := rDig_length bs s5
    have lbd6 := rDig_lt bs s5 HB.out
    obtain ⟨⟨s6, d6⟩, hkd6⟩ : ∃ x, rDig bs s5 = x := ⟨_, rfl⟩
    rw [hkd6] at hwa ldd6 lbd6 ⊢
    dsimp only at hwa ldd6 lbd6 ⊢
    have Kd6 := Lib.hid hkd6
    clear hkd6
    have qwa := Qw9.out.grown gwa (by simp; omega)
    have rwa := Rw9.out.grown gwa (by simp; omega)
    clear Hw9 Qw9 Rw9
    obtain ⟨h9, hh9⟩ : ∃ x : Hd, x = { Hd.zero with tree := (k1 : Int), epoch := (k2 : Int), size := k4, clock := k5 } := ⟨_, rfl⟩
    have rl9 : h9.root.length = 32 := by rw [hh9]; rfl
    have tl9 : h9.tag.length = 32 := by rw [hh9]; rfl
    have qwa : Blk wa G3 55 (hdv h9).toArray := by rw [hh9]; exact qwa
    have lenx : (hdv h9).length = 68 := hdv_len' h9 rl9 tl9
    have thwb := Lib.hid (show wa.there G3 4 (byv d6).toArray.size by rw [List.size_toArray, byv_length, ldd6]; exact there_blk qwa 4 32 (by rw [lenx]; omega))
    have scwb := Blk.setCells (byv d6) 4 wa _ qwa (by rw [lenx, byv_length, ldd6]; omega)
    rw [hdv_root h9 d6 ldd6 rl9] at scwb
    have ivwb := Lib.hid (show (Tryd.prog.info? 27).map (·.size) = some (byv d6).toArray.size by rw [List.size_toArray, byv_length, ldd6]; exact Tryd.digest_info)
    have ovwb := Lib.hid (all_oneCell_toArray (byv_one d6))
    have gswb := grown_setCells G3 (byv d6) 4 wa
    have Hwb := Lib.hid (hwa.kept gswb (by omega))
    have Rwb := Lib.hid (rwa.grown gswb (by simp; omega))
    have Qwb := Lib.hid scwb
    have GBwb := Lib.hid (only_trans (only_trans GB9.out gwa (by simp)) gswb (by intro d e; injection e with e; subst e; exact .inr hG3w))
    clear scwb gswb hwa rwa gwa qwa lenx
    go_upto_region 10 with (refine wpList_store_mid rfl 27 (.tmp 38) (.tmp 36) rfl G3 4 (byv d6).toArray rfl rfl thwb.out ivwb.out ovwb.out ?_)
    obtain ⟨wb, hwwb⟩ : ∃ x, x = wa.setCells G3 4 (byv d6) := ⟨_, rfl⟩
    rw [← hwwb] at Hwb Rwb Qwb GBwb ⊢
    clear hwwb thwb ivwb ovwb
    clear GB9
    go_wp2_with fail
    refine (rreader_digest g bs s6 wb Hwb.out).mono ?_
    rintro e wd ⟨rfl, hwd, gwd⟩
    have ldd7 := rDig_length bs s6
    have lbd7 := rDig_lt bs s6 HB.out
    obtain ⟨⟨s7, d7⟩, hkd7⟩ : ∃ x, rDig bs s6 = x := ⟨_, rfl⟩
    rw [hkd7] at hwd ldd7 lbd7 ⊢
    dsimp only at hwd ldd7 lbd7 ⊢
    have Kd7 := Lib.hid hkd7
    clear hkd7
    have qwd := Qwb.out.grown gwd (by simp; omega)
    have rwd := Rwb.out.grown gwd (by simp; omega)
    clear Hwb Qwb Rwb
    have lenx : (hdv { h9 with root := d6 }).length = 68 := hdv_len' _ ldd6 tl9
    have thwe := Lib.hid (show wd.there G3 36 (byv d7).toArray.size by rw [List.size_toArray, byv_length, ldd7]; exact there_blk qwd 36 32 (by rw [lenx]; omega))
    have scwe := Blk.setCells (byv d7) 36 wd _ qwd (by rw [lenx, byv_length, ldd7]; omega)
    rw [hdv_tag { h9 with root := d6 } d7 ldd7 ldd6 tl9] at scwe
    have ivwe := Lib.hid (show (Tryd.prog.info? 27).map (·.size) = some (byv d7).toArray.size by rw [List.size_toArray, byv_length, ldd7]; exact Tryd.digest_info)
    have ovwe := Lib.hid (all_oneCell_toArray (byv_one d7))
    have gswe := grown_setCells G3 (byv d7) 36 wd
    have Hwe := Lib.hid (hwd.kept gswe (by omega))
    have Rwe := Lib.hid (rwd.grown gswe (by simp; omega))
    have Qwe := Lib.hid scwe
    have GBwe := Lib.hid (only_trans (only_trans GBwb.out gwd (by simp)) gswe (by intro d e; injection e with e; subst e; exact .inr hG3w))
    clear scwe gswe hwd rwd gwd qwd lenx
    go_upto_region 11 with (refine wpList_store_mid rfl 27 (.tmp 41) (.tmp 40) rfl G3 36 (byv d7).toArray rfl rfl thwe.out ivwe.out ovwe.out ?_)
    obtain ⟨we, hwwe⟩ : ∃ x, x = wd.setCells G3 36 (byv d7) := ⟨_, rfl⟩
    rw [← hwwe] at Hwe Rwe Qwe GBwe ⊢
    clear hwwe thwe ivwe ovwe
    clear GBwb
    have hrh : rhH bs s = ⟨(k1 : Int), (k2 : Int), k4, k5, d6, d7⟩ ∧ (rh7 bs s).1 = s7 := by
      have e1 : rh1 bs s = (s1, k1) := Kk1.out
      have e2 : rh2 bs s = (s2, k2) := by unfold rh2; rw [e1]; exact Kk2.out
      have e3 : rh3 bs s = s3 := by unfold rh3; rw [e2]; exact HS3.out.symm
      have e4 : rh4 bs s = (s4, k4) := by unfold rh4; rw [e3]; exact Kk4.out
      have e5 : rh5 bs s = (s5, k5) := by unfold rh5; rw [e4]; exact Kk5.out
      have e6 : rh6 bs s = (s6, d6) := by unfold rh6; rw [e5]; exact Kd6.out
      have e7 : rh7 bs s = (s7, d7) := by unfold rh7; rw [e6]; exact Kd7.out
      unfold rhH
      rw [e1, e2, e4, e5, e6, e7]
      exact ⟨rfl, rfl⟩
    have hok : (⟨(k1 : Int), (k2 : Int), k4, k5, d6, d7⟩ : Hd).Ok := ⟨k4b, k5b, ldd6, lbd6, ldd7, lbd7⟩
    have Qe : Hid (Blk we G3 55 (hdv (⟨(k1 : Int), (k2 : Int), k4, k5, d6, d7⟩ : Hd)).toArray) := by rw [hh9] at Qwe; exact Qwe
    obtain ⟨hf, hhf⟩ : ∃ x, x = (⟨(k1 : Int), (k2 : Int), k4, k5, d6, d7⟩ : Hd) := ⟨_, rfl⟩
    rw [← hhf] at hrh hok Qe
    have HRH := Lib.hid hrh
    have lS := hdv_len hf hok
    have oS := hdv_one hf
    obtain ⟨S, hS⟩ : ∃ S, hdv hf = S := ⟨_, rfl⟩
    rw [hS] at Qe lS oS
    have HSS := Lib.hid hS
    have lZ := hdv_len _ Hd.zero_Ok
    have IS := Lib.hid (show (Tryd.prog.info? 55).map (·.size) = some S.length by rw [lS]; exact Tryd.sig_info)
    have IS' := Lib.hid (show (Tryd.prog.info? 55).map (·.size) = some S.toArray.size by rw [List.size_toArray, lS]; exact Tryd.sig_info)
    have LS := Lib.hid lS
    have OS := Lib.hid oS
    have LZ := Lib.hid lZ
    have RG := Lib.hid (rangeAt_blk Qe.out 0 S (fun j u h => by simpa using h))
    clear lS oS hS lZ hrh hok hhf k1b k2b k4b k5b ldd6 ldd7 lbd6 lbd7 rl9 tl9 hh9 Kk1 Kk2 Kk4 Kk5 Kd6 Kd7 HS3 Qwe
    go_wp2_with (first
      | (refine load_mid_want rfl 55 (.tmp 3) rfl G3 0 rfl S _ RG.out Tryd.underlying55 rfl IS.out ?_)
      | (refine wpList_store_row rfl 55 (.tmp 2) (.tmp 42) rfl G2 S.toArray rfl rfl 55 _ Rwe.out IS'.out (by simp [LS.out, LZ.out]) (by simpa using OS.out) ?_))
    have z8 := Rwe.out.setRow S.toArray
    have HRZ := rangeAt_blk z8 0 S (fun j u h => by simpa using h)
    refine bodyPost_ret (v := .agg S.toArray) (results_cell rfl rfl (run_loadVar_mid _ _ 0 _ S _ HRZ Tryd.underlying55 rfl (by simpa using IS.out))) rfl ⟨by rw [HRH.out.1, HSS.out], ?_, ?_⟩
    · rw [HRH.out.2]
      exact Hwe.out.kept (grown_setRow _ _ _) (by omega)
    · exact only_trans GBwe.out (grown_setRow we G2 _) (by intro d e; injection e with e; subst e; exact .inr hG2w)

end Go.Proofs.YtbkdccamimakoaaDoor
