/-
  deponentref18.Read: the same answer as request.Read.
-/
import Derived.Test.YtbkdccamimakoaaDoorRRspP
import Derived.Test.YtbkdccamimakoaaDoorRHead
namespace Go.Proofs.YtbkdccamimakoaaDoor
open Go.RowKit
set_option linter.unusedVariables false
set_option maxRecDepth 100000

-- $1 k, $2 state, $3 world, $4 HQ, $5 new world, $6 new state, $7 value

-- an early return: $1 region, $2 value's slot, $3 state, $4 world, $5 Q, $6 read facts' name

-- END BY HAND
set_option maxHeartbeats 8000000 in
theorem ref18_read (bs : List Nat) (A : Option Addr) (n c : Nat) (w : World) (hr : Reads w w.heap.size 1 A n (byv bs)) (hnc : n ≤ c) (hn : n ≤ 140737488355328) (hb : ∀ x ∈ bs, x < 256) :
    Calls Tryd.prog 22 #[.slice A n c] w fun e w' => ∃ bv hv cav, e = .returned (.tuple #[.agg (rspv (rspDec bs).2 bv hv cav).toArray, .int .i64 (atOf (rspDec bs).1 : Nat), .int .i64 (whyOf (rspDec bs).1 : Nat)]) ∧ OwnB w' w.heap.size bv (rspDec bs).2.bytes ∧ OwnD w' w.heap.size hv (rspDec bs).2.hashes ∧ OwnC w' w.heap.size cav (rspDec bs).2.tok.2.1 ∧ Below w.heap.size w w' := by
  have HB := Lib.hid hb
  obtain ⟨g, hg⟩ : ∃ g, w.heap.size + 1 = g := ⟨_, rfl⟩
  obtain ⟨G, hG⟩ : ∃ G, g + 1 = G := ⟨_, rfl⟩
  obtain ⟨W0, hW0⟩ : ∃ x, x = ((w.alloc (.cells Tryd.zeroCells57 57)).alloc (.cells #[.slice A n c, .int .i64 0, .int .i64 0, .int .i64 0, .bool false] 86)).alloc (.cells Tryd.zeroCells57 57) := ⟨_, rfl⟩
  have h0 : RRd W0 g bs (0, none) := by
    have := RRd.new (hr.laid (.cells Tryd.zeroCells57 57)) hnc hn
    rw [alloc_size, hg] at this
    rw [hW0]
    exact this.below ((Below.refl _ _).alloc (Nat.le_refl _) _)
  have q0 : Blk W0 G 57 (rspv zeroRsp (.slice none 0 0) (.slice none 0 0) (.slice none 0 0)).toArray := by
    have h := Blk.new ((w.alloc (.cells Tryd.zeroCells57 57)).alloc (.cells #[.slice A n c, .int .i64 0, .int .i64 0, .int .i64 0, .bool false] 86)) 57 Tryd.zeroCells57
    rw [alloc_size, alloc_size, hg, hG] at h
    rw [hW0, ← zrsp_eq]
    exact h
  have z0 : Blk W0 w.heap.size 57 Tryd.zeroCells57 := by rw [hW0]; exact ((Blk.new w _ _).alloc _).alloc _
  have b0 : Below w.heap.size w W0 := by rw [hW0]; exact below_new (below_new (below_new (Below.refl _ _) _) _) _
  have hq : RP w W0 g G bs (0, none) zeroRsp (.slice none 0 0) (.slice none 0 0) (.slice none 0 0) :=
    ⟨h0, q0, z0, OwnB.nil _ _, OwnD.nil _ _, OwnC.nil _ _, b0, by omega, by omega⟩
  have HW0 := Lib.hid hW0
  have HQ := Lib.hid hq
  have hwG : w.heap.size < g ∧ g < G := by omega
  have bz := built_rsp0
  have lZ := rspv_len zeroRsp (.slice none 0 0) (.slice none 0 0) (.slice none 0 0) zeroRsp_ok
  have oZ := rspv_one zeroRsp (.slice none 0 0) (.slice none 0 0) (.slice none 0 0) rfl rfl rfl
  obtain ⟨ZL, hZL⟩ : ∃ M, rspv zeroRsp (.slice none 0 0) (.slice none 0 0) (.slice none 0 0) = M := ⟨_, rfl⟩
  rw [hZL] at bz lZ oZ
  have IZ := Lib.hid (show (Tryd.prog.info? 57).map (·.size) = some ZL.toArray.size by rw [List.size_toArray, lZ]; exact Tryd.rsp_info)
  have LZ := Lib.hid lZ
  have OZ := Lib.hid oZ
  have EZ := Lib.hid hZL
  have BZ := Lib.hid bz
  clear hW0 h0 q0 z0 b0 hr hb hq bz lZ oZ hZL
  go_enter Tryd.func22, Tryd.ntmps22
  go_upto_region 3 with (fail)
  rw [← HW0.out]
  clear hg hG
  go_wp2_with fail
  refine (rreader_number g bs (0, none) 1 W0 HQ.out.rd HB.out).mono ?_
  rintro e w1 ⟨rfl, hw1, gw1⟩
  have hlk1 := rNum_lt bs (0, none) 1 HB.out
  rw [show sizeN 1 = 1 from rfl] at hw1 ⊢
  obtain ⟨⟨s1, k1⟩, hkk1⟩ : ∃ x, rNum bs (0, none) 1 = x := ⟨_, rfl⟩
  rw [hkk1] at hw1 hlk1 ⊢
  dsimp only at hw1 hlk1 ⊢
  have Kk1 := Lib.hid hkk1
  have Qw1 := Lib.hid (HQ.out.num hw1 gw1)
  clear hkk1 hw1 gw1
  have k1b : k1 < 256 := Nat.lt_of_lt_of_eq hlk1 (by decide)
  have kw1 : IntKind.i64.wrap (k1 : Int) = k1 := IntWalk.i64_in _ (by omega)
  have K1 := Lib.hid (show rp1 bs = (s1, k1) from Kk1.out)
  have c1 := (Qw1.out.q.cell 0).trans (show _ = some (.int .i64 0) from rfl)
  have f1 := Qw1.out.q.frozen 0
  have Q2 := Lib.hid (RP.set (R' := { zeroRsp with why := (k1 : Int) }) 0 (.int .i64 (k1 : Int)) Qw1.out (rspv_set0 _ _ _ _ _) (OwnB.nil _ _) (OwnD.nil _ _) (OwnC.nil _ _))
  clear hlk1 Kk1 HQ Qw1
  go_upto_region 4 with (fail)
  obtain ⟨w2, hw2⟩ : ∃ x, x = w1.setCell ⟨G, 0, none⟩ (.int .i64 (k1 : Int)) := ⟨_, rfl⟩
  rw [← hw2] at Q2 ⊢
  clear hw2 c1 f1
  go_wp2_with fail
  refine (rreader_number g bs s1 8 w2 Q2.out.rd HB.out).mono ?_
  rintro e w3 ⟨rfl, hw3, gw3⟩
  have hlk2 := rNum_lt bs s1 8 HB.out
  rw [show sizeN 8 = 8 from rfl] at hw3 ⊢
  obtain ⟨⟨s2, k2⟩, hkk2⟩ : ∃ x, rNum bs s1 8 = x := ⟨_, rfl⟩
  rw [hkk2] at hw3 hlk2 ⊢
  dsimp only at hw3 hlk2 ⊢
  have Kk2 := Lib.hid hkk2
  have Qw3 := Lib.hid (Q2.out.num hw3 gw3)
  clear hkk2 hw3 gw3
  have k2b : k2 < 18446744073709551616 := Nat.lt_of_lt_of_eq hlk2 (by decide)
  have K2 := Lib.hid (show rp2 bs = (s2, k2) by unfold rp2; rw [K1.out]; exact Kk2.out)
  have c1 := (Qw3.out.q.cell 1).trans (show _ = some (.int .u64 0) from rfl)
  have f1 := Qw3.out.q.frozen 1
  have Q4 := Lib.hid (RP.set (R' := { zeroRsp with why := (k1 : Int), n := k2 }) 1 (.int .u64 (k2 : Int)) Qw3.out (rspv_set1 _ _ _ _ _) (OwnB.nil _ _) (OwnD.nil _ _) (OwnC.nil _ _))
  clear hlk2 Kk2 Q2 Qw3
  go_upto_region 5 with (fail)
  obtain ⟨w4, hw4⟩ : ∃ x, x = w3.setCell ⟨G, 1, none⟩ (.int .u64 (k2 : Int)) := ⟨_, rfl⟩
  rw [← hw4] at Q4 ⊢
  clear hw4 c1 f1
  go_wp2_with fail
  refine (rreader_bytes g bs s2 65535 w4 Q4.out.rd HB.out (by omega)).mono ?_
  rintro e w5 ⟨v5, rfl, own5, h5, g5⟩
  rw [rBytes_65535 bs s2 HB.out] at own5 h5
  have hl3 := rBytes_lt bs s2 65536 HB.out
  obtain ⟨A4, n4, c4, rfl, -, -, -⟩ := own5.sl
  obtain ⟨⟨s3, k3⟩, hk3⟩ : ∃ x, rBytes bs s2 65536 = x := ⟨_, rfl⟩
  rw [hk3] at h5 own5 hl3
  dsimp only at h5 own5 hl3
  have K3 := Lib.hid (show rp3 bs = (s3, k3) by unfold rp3; rw [K2.out]; exact hk3)
  have q5 := Q4.out.num h5 g5
  have c1 := (q5.q.cell 2).trans (show _ = some (.slice none 0 0) from rfl)
  have f1 := q5.q.frozen 2
  have Q6 := Lib.hid (RP.set (R' := { zeroRsp with why := (k1 : Int), n := k2, bytes := k3 }) 2 (.slice A4 n4 c4) q5 (rspv_set2 _ _ _ _ _ _) (own5.mono (by have := Q4.out.rd.lt; omega)) (OwnD.nil _ _) (OwnC.nil _ _))
  clear hk3 own5 h5 g5 q5 Q4
  go_upto_region 6 with (fail)
  obtain ⟨w6, hw6⟩ : ∃ x, x = w5.setCell ⟨G, 2, none⟩ (.slice A4 n4 c4) := ⟨_, rfl⟩
  rw [← hw6] at Q6 ⊢
  clear hw6 c1 f1
  go_wp2_with fail
  refine (rreader_number g bs s3 1 w6 Q6.out.rd HB.out).mono ?_
  rintro e w7 ⟨rfl, hw7, gw7⟩
  have hlk4 := rNum_lt bs s3 1 HB.out
  rw [show sizeN 1 = 1 from rfl] at hw7 ⊢
  obtain ⟨⟨s4, k4⟩, hkk4⟩ : ∃ x, rNum bs s3 1 = x := ⟨_, rfl⟩
  rw [hkk4] at hw7 hlk4 ⊢
  dsimp only at hw7 hlk4 ⊢
  have Kk4 := Lib.hid hkk4
  have Qw7 := Lib.hid (Q6.out.num hw7 gw7)
  clear hkk4 hw7 gw7
  have k4b : k4 < 256 := Nat.lt_of_lt_of_eq hlk4 (by decide)
  have kw4 : IntKind.i64.wrap (k4 : Int) = k4 := IntWalk.i64_in _ (by omega)
  have K4 := Lib.hid (show rp4 bs = (s4, k4) by unfold rp4; rw [K3.out]; exact Kk4.out)
  have WS : Hid (WayD bs k4 s4 []) := by
    have := WayD.start bs k4 (by rw [K4.out])
    rw [K4.out] at this
    exact this
  clear hlk4 Kk4 Q6
  go_upto_block 0 with fail
  go_cut [] (fun wx => ∃ (s : RSt) (l : List (List Nat)) (hv : Value), Hid ((s.2 = none ∧ rp5 bs = (s, l)) ∨ (∃ x, s.2 = some x ∧ (rp5 bs).1.2 = some x)) ∧ Hid (∀ d ∈ l, d.length = 32 ∧ ∀ x ∈ d, x < 256) ∧ Hid (RP w wx g G bs s ⟨(k1 : Int), k2, k3, l, Hd.zero, zeroTok⟩ (.slice A4 n4 c4) hv (.slice none 0 0)))
  case first =>
    go_wp2_with fail
    go_loopw [8] (fun i wr => ∃ (j : Nat) (s : RSt) (l : List (List Nat)) (hv : Value), j ≤ k4 ∧ i = .int .i64 j ∧ l.length = j ∧ Hid (WayD bs (k4 - j) s l) ∧ Hid (∀ d ∈ l, d.length = 32 ∧ ∀ x ∈ d, x < 256) ∧ Hid (RP w wr g G bs s ⟨(k1 : Int), k2, k3, l, Hd.zero, zeroTok⟩ (.slice A4 n4 c4) hv (.slice none 0 0))) (fun i _ => k4 - (intOf i).toNat)
    case atStart => exact ⟨0, s4, [], .slice none 0 0, by omega, rfl, rfl, WS.out, fun d hd => (nomatch hd), Qw7.out⟩
    case round =>
      clear Qw7
      obtain ⟨j, s, l, hv, hj, rfl, hl, hway, hdl, hq⟩ := hrel
      have fl := hq.out.rd.flag
      by_cases hjm : j < k4
      · have qk : (j : Int) < k4 := by omega
        by_cases hs : s.2 = none
        · rw [hs, show (none : Option (Nat × Nat)).isSome = false from rfl] at fl
          have hstep := WayD.step (n := k4 - (j + 1)) (by rw [show k4 - (j + 1) + 1 = k4 - j by omega]; exact hway.out) hs
          have HST0 := Lib.hid hstep
          clear hstep
          go_upto_region 10 with (fail)
          clear fl
          obtain ⟨Ah, nh, ch, rfl, -, -, -, -⟩ := hq.out.ho.sl
          have q3 := (hq.out.q.cell 3).trans (show _ = some (.slice Ah nh ch) from rfl)
          have RN := fun w h => rreader_digest g bs s w h
          have ldg := rDig_length bs s
          have lbg := rDig_lt bs s HB.out
          have hst := HST0.out
          obtain ⟨⟨s', d⟩, hd⟩ : ∃ x, rDig bs s = x := ⟨_, rfl⟩
          simp only [hd] at RN ldg lbg hst
          have HRN := Lib.hid RN
          have HST := Lib.hid hst
          have LDG := Lib.hid ldg
          have LBG := Lib.hid lbg
          clear RN hd ldg lbg hst HST0 hway
          obtain ⟨S, HS⟩ : ∃ S : World → Prop, Hid (∀ w', S w' = (w'.cell? ⟨G, 3, none⟩ = some (.slice Ah nh ch))) := ⟨_, fun _ => rfl⟩
          refine wp_region_seq S 7 [(0, false), (1, false), (2, false), (3, true), (4, true), (5, true), (6, false), (7, true)] (by kernel_rfl) rfl (by kernel_rfl) (by kernel_rfl) (by kernel_rfl) (fun _ _ d _ _ h => by cases d <;> exact h) ((HS.out _).mpr q3) ?_
          repeat (refine wpSeq_read rfl rfl ⟨?_, fun w1 hS => ?_, ?_⟩; rotate_left; (focus (rw [HS.out] at hS; go_split_ands; go_simp; (try go_bits); try rfl)); simp only [Act.put, List.setIfInBounds_toArray, List.set_cons_zero, List.set_cons_succ])
          refine wpSeq_write rfl rfl ?_
          go_simp
          refine (HRN.out wr.drew (show RRd wr.drew g bs s from hq.out.rd)).mono ?_
          rintro e wb ⟨rfl, hbb, gb⟩
          have Qb := (hq.out.drew).num hbb gb
          have qb3 := (Qb.q.cell 3).trans (show _ = some (.slice Ah nh ch) from rfl)
          refine ⟨(HS.out _).mpr qb3, ?_⟩
          try simp only [Act.put, List.setIfInBounds_toArray, List.set_cons_zero, List.set_cons_succ]
          repeat (refine wpSeq_read rfl rfl ⟨?_, fun w1 hS => ?_, ?_⟩; rotate_left; (focus (rw [HS.out] at hS; go_split_ands; go_simp; (try go_bits); try rfl)); simp only [Act.put, List.setIfInBounds_toArray, List.set_cons_zero, List.set_cons_succ])
          refine wpSeq_write rfl rfl ?_
          refine wp_build_dig (.tmp 47) rfl d LDG.out rfl ?_
          refine ⟨fun _ => (HS.out _).mpr (cell_new qb3 _), ?_⟩
          try simp only [Act.put, List.setIfInBounds_toArray, List.set_cons_zero, List.set_cons_succ]
          have rc := reads_dig wb d LDG.out
          refine wpSeq_write rfl rfl ?_
          refine wp_append_digs (.tmp 45) (.tmp 48) rfl (g + 1) (.slice Ah nh ch) l rfl (Qb.ho.alloc _) _ 1 1 [d] rfl rfl (by simp [LDG.out]) rc (by omega) (by rw [alloc_size]; have := Qb.rd.lt; omega) ?_
          intro v9 wd od bd gd
          obtain ⟨A9, n9, c9, rfl, -, -, -, -⟩ := od.sl
          have neo := own_blk_ne Qb.ho.2 Qb.q (by decide)
          have nez := own_blk_ne Qb.ho.2 Qb.z (by decide)
          have td := (Qb.q.alloc (.cells (byv d).toArray 27)).grown gd (Ne.symm neo)
          have zd := (Qb.z.alloc (.cells (byv d).toArray 27)).grown gd (Ne.symm nez)
          have td3 := (td.cell 3).trans (show _ = some (.slice Ah nh ch) from rfl)
          refine ⟨fun _ => (HS.out _).mpr td3, ?_⟩
          try simp only [Act.put, List.setIfInBounds_toArray, List.set_cons_zero, List.set_cons_succ]
          repeat (refine wpSeq_read rfl rfl ⟨?_, fun w1 hS => ?_, ?_⟩; rotate_left; (focus (rw [HS.out] at hS; go_split_ands; go_simp; (try go_bits); try rfl)); simp only [Act.put, List.setIfInBounds_toArray, List.set_cons_zero, List.set_cons_succ])
          have td3f := td.frozen 3
          have hdd := (hbb.below ((Below.refl _ _).alloc (Nat.le_refl _) (.cells (byv d).toArray 27))).grownD (Qb.ho.alloc _) gd (by omega)
          have hwg' := Qb.wg
          have bld : Below w.heap.size w wd := (below_new Qb.b _).trans (bd.mono (by omega))
          have bod : OwnB wd (g + 1) (.slice A4 n4 c4) k3 := World.ownsRow.kept (Qb.bo.alloc (.cells (byv d).toArray 27)) gd (own_own_ne (Qb.bo.alloc (.cells (byv d).toArray 27)) (Qb.ho.alloc (.cells (byv d).toArray 27)).2 (by decide))
          refine wpSeq_write rfl rfl ?_
          go_simp
          refine wpSeq_nil ?_
          have gs := only_setCell (p := ⟨G, 3, none⟩) (World.grownBy.refl wd (some G)) (.inl rfl) (.slice A9 n9 c9)
          have hgG' := Qb.gG
          have QD1 : Hid (RP w (wd.setCell ⟨G, 3, none⟩ (.slice A9 n9 c9)) g G bs s' ⟨(k1 : Int), k2, k3, l ++ [d], Hd.zero, zeroTok⟩ (.slice A4 n4 c4) (.slice A9 n9 c9) (.slice none 0 0)) := by
            refine ⟨hdd.kept gs hgG', ?_, zd.grown gs (fun e => by injection e; omega), World.ownsRow.kept bod gs (.inr (own_blk_ne bod td (by decide))), od.grown gs td (by decide), OwnC.nil _ _, adv bld gs (by omega) td.lt, hgG', hwg'⟩
            have := td.set_ 3 (.slice A9 n9 c9)
            rw [rspv_sethv _ _ _ _ _ (l ++ [d])] at this
            exact this
          have HDL1 : Hid (∀ x ∈ l ++ [d], x.length = 32 ∧ ∀ y ∈ x, y < 256) := by
            intro x hx
            rcases List.mem_append.1 hx with hx | hx
            · exact hdl.out x hx
            · obtain rfl := List.mem_singleton.1 hx
              exact ⟨LDG.out, LBG.out⟩
          clear hdd bld bod gs td zd td3 td3f neo nez od bd gd Qb qb3 hbb gb rc q3 hgG' hwg'
          go_wp2
          go_roundw
          case rel => exact ⟨j + 1, s', l ++ [d], .slice A9 n9 c9, by omega, by go_num, by rw [List.length_append]; simp; omega, HST, HDL1, QD1⟩
          case measure => simp [intOf]; omega
        · have hs' : s.2.isSome = true := by
            cases h : s.2 with
            | none => exact absurd h hs
            | some x => rfl
          rw [hs'] at fl
          have HSE := Lib.hid (hway.out.stop (.inr hs))
          go_wp2
          go_meet
          case rel => exact ⟨s, l, hv, HSE.out, hdl.out, hq.out⟩
      · have qk : ¬ (j : Int) < k4 := by omega
        have HSE := Lib.hid (hway.out.stop (.inl (by omega)))
        clear fl
        go_wp2
        go_meet
        case rel => exact ⟨s, l, hv, HSE.out, hdl.out, hq.out⟩
  case rest =>
    obtain ⟨s5, l, hv, HW5, HL5, Q5⟩ := hcut
    obtain ⟨w8, rfl⟩ : ∃ x, x = wc := ⟨_, rfl⟩
    clear Qw7
    go_wp2_with fail
    refine (rreader_number g bs s5 1 w8 Q5.out.rd HB.out).mono ?_
    rintro e w9 ⟨rfl, hw9, gw9⟩
    have hlk6 := rNum_lt bs s5 1 HB.out
    rw [show sizeN 1 = 1 from rfl] at hw9 ⊢
    obtain ⟨⟨s6, k6⟩, hkk6⟩ : ∃ x, rNum bs s5 1 = x := ⟨_, rfl⟩
    rw [hkk6] at hw9 hlk6 ⊢
    dsimp only at hw9 hlk6 ⊢
    have Kk6 := Lib.hid hkk6
    have Qw9 := Lib.hid (Q5.out.num hw9 gw9)
    clear hkk6 hw9 gw9
    have k6b : k6 < 256 := Nat.lt_of_lt_of_eq hlk6 (by decide)
    have kw6 : IntKind.i64.wrap (k6 : Int) = k6 := IntWalk.i64_in _ (by omega)
    have W6 := Lib.hid (Way6.of HW5.out Kk6.out)
    have fl9 := Qw9.out.rd.flag
    clear hlk6 Kk6 Q5 HW5
    go_upto_region 12 with (fail)
    go_cut [9, 62] (fun s9 s62 wx => s9 = .int .i64 k6 ∧ s62 = .bool (decide (s6.2 = none ∧ 3 < k6)) ∧ wx = w9)
    case first =>
      by_cases hs : s6.2 = none
      · rw [hs, show (none : Option (Nat × Nat)).isSome = false from rfl] at fl9
        by_cases h4 : 3 < k6
        · have q : (3 : Int) < k6 := by omega
          go_wp2
          go_meet
          case rel => exact ⟨rfl, by simp [hs, h4], rfl⟩
        · have q : ¬ (3 : Int) < k6 := by omega
          go_wp2
          go_meet
          case rel => exact ⟨rfl, by simp [hs, h4], rfl⟩
      · have hs' : s6.2.isSome = true := by
          cases h : s6.2 with
          | none => exact absurd h hs
          | some x => rfl
        rw [hs'] at fl9
        go_wp2
        go_meet
        case rel => exact ⟨rfl, by simp [hs], rfl⟩
    case rest =>
      obtain ⟨rfl, rfl, rfl⟩ := hcut
      obtain ⟨w9, rfl⟩ : ∃ x, x = wc := ⟨_, rfl⟩
      clear fl9
      by_cases hbad : s6.2 = none ∧ 3 < k6
      · rw [show decide (s6.2 = none ∧ 3 < k6) = true by simpa using hbad]
        have HZ := Lib.hid (W6.out.bad hbad.1 hbad.2)
        go_wp2_with fail
        obtain ⟨S, HS⟩ : ∃ S : World → Prop, Hid (∀ w', S w' = (w'.cell? ⟨g, 1, none⟩ = some (.int .i64 (s6.1 : Int)))) := ⟨_, fun _ => rfl⟩
        have c81 : w9.drew.cell? ⟨g, 1, none⟩ = some (.int .i64 (s6.1 : Int)) := by
          obtain ⟨A', n', c', hgb, -⟩ := Qw9.out.rd
          exact (hgb.cell 1).trans rfl
        refine wp_region_seq S 8 [(0, false), (1, false), (2, false), (3, false), (4, false), (5, true), (6, false), (7, false)] (by kernel_rfl) rfl (by kernel_rfl) (by kernel_rfl) (by kernel_rfl) (fun _ _ d _ _ h => by cases d <;> exact h) ((HS.out _).mpr c81) ?_
        refine wpSeq_read rfl rfl ⟨.agg ZL.toArray, fun w1 hS => run_built 57 _ rfl _ _ BZ.out (by simp [Act.eval]), ?_⟩
        try simp only [Act.put, List.setIfInBounds_toArray, List.set_cons_zero, List.set_cons_succ]
        repeat (refine wpSeq_read rfl rfl ⟨?_, fun w1 hS => ?_, ?_⟩; rotate_left; (focus (rw [HS.out] at hS; go_split_ands; go_simp; (try go_bits); try rfl)); simp only [Act.put, List.setIfInBounds_toArray, List.set_cons_zero, List.set_cons_succ])
        refine wpSeq_write rfl rfl ?_
        refine wp_store_row 57 (.tmp 2) (.tmp 63) rfl w.heap.size ZL.toArray rfl rfl 57 _ Qw9.out.z IZ.out (by simp [LZ.out]) (by simpa using OZ.out) ?_
        have z := Qw9.out.z.setRow ZL.toArray
        have c82 : (w9.drew.setRow w.heap.size ZL.toArray).cell? ⟨g, 1, none⟩ = some (.int .i64 (s6.1 : Int)) := by
          obtain ⟨A', n', c', hgb, -⟩ := Qw9.out.rd
          exact ((Blk.setRow_far (w := w9.drew) hgb (by omega) ZL.toArray).cell 1).trans rfl
        refine ⟨fun _ => (HS.out _).mpr c82, ?_⟩
        try simp only [Act.put, List.setIfInBounds_toArray, List.set_cons_zero, List.set_cons_succ]
        repeat (refine wpSeq_read rfl rfl ⟨?_, fun w1 hS => ?_, ?_⟩; rotate_left; (focus (rw [HS.out] at hS; go_split_ands; go_simp; (try go_bits); try rfl)); simp only [Act.put, List.setIfInBounds_toArray, List.set_cons_zero, List.set_cons_succ])
        refine wpSeq_nil ?_
        go_wp2_with fail
        refine bodyPost_ret (results_cell_tmp2 rfl rfl (load_rsp z LZ.out)) rfl ⟨.slice none 0 0, .slice none 0 0, .slice none 0 0, ?_, ?_, ?_, ?_, ?_⟩
        · rw [HZ.out, EZ.out]
          rfl
        · rw [HZ.out]
          exact OwnB.nil _ _
        · rw [HZ.out]
          exact OwnD.nil _ _
        · rw [HZ.out]
          exact OwnC.nil _ _
        · exact below_setRow Qw9.out.b.drew (Nat.le_refl _) _
      · rw [show decide (s6.2 = none ∧ 3 < k6) = false by simpa using hbad]
        have HBAD := Lib.hid hbad
        clear hbad
        obtain ⟨b1, hb1⟩ : ∃ b, decide (k6 % 2 = 1) = b := ⟨_, rfl⟩
        have HB1 := Lib.hid hb1
        clear hb1
        go_upto_region 14 with (fail)
        go_cut [70] (fun s wx => s = .bool b1 ∧ wx = w9)
        case first =>
          by_cases h1 : k6 % 2 = 1
          · have eb : b1 = true := by rw [← HB1.out]; simp [h1]
            subst eb
            have e1 : (k6 : Int) % 2 = 1 := by omega
            go_wp2
            go_meet
            case rel => exact ⟨rfl, rfl⟩
          · have eb : b1 = false := by rw [← HB1.out]; simp [h1]
            subst eb
            have e1 : (k6 : Int) % 2 = 0 := by omega
            go_wp2
            go_meet
            case rel => exact ⟨rfl, rfl⟩
        case rest =>
          obtain ⟨rfl, rfl⟩ := hcut
          obtain ⟨w9, rfl⟩ : ∃ x, x = wc := ⟨_, rfl⟩
          go_upto_if 70 with (fail)
          go_cut [] (fun wx => ∃ (s8 : RSt) (hd8 : Hd), Hid (Way8 bs s5 l s6 k6 s8 hd8) ∧ Hid hd8.Ok ∧ Hid (RP w wx g G bs s8 ⟨(k1 : Int), k2, k3, l, hd8, zeroTok⟩ (.slice A4 n4 c4) hv (.slice none 0 0)))
          case first =>
            cases b1 with
            | false =>
              have h1 : ¬ k6 % 2 = 1 := by simpa using HB1.out
              have W8 := Lib.hid (W6.out.plain HBAD.out h1)
              clear h1
              go_wp2
              go_meet
              case rel => exact ⟨s6, Hd.zero, W8, Hd.zero_Ok, Qw9⟩
            | true =>
              have h1 : k6 % 2 = 1 := by simpa using HB1.out
              have HHD := Lib.hid (W6.out.headed HBAD.out h1)
              clear h1
              go_wp2_with fail
              refine (ref18_hd g bs s6 w9 Qw9.out.rd HB.out).mono ?_
              rintro e wa ⟨rfl, ha, ga⟩
              have ok8 := rhH_ok bs HB.out s6
              obtain ⟨hd8, hh8⟩ : ∃ x, rhH bs s6 = x := ⟨_, rfl⟩
              obtain ⟨s8, hs8⟩ : ∃ x, (rh7 bs s6).1 = x := ⟨_, rfl⟩
              rw [hh8] at ok8 ⊢
              rw [hs8] at ha
              have qa := Qw9.out.num ha ga
              have lV := hdv_len hd8 ok8
              have oV := hdv_one hd8
              have lR := rspv_len' ⟨(k1 : Int), k2, k3, l, Hd.zero, zeroTok⟩ (.slice A4 n4 c4) hv (.slice none 0 0) (hdv_len _ Hd.zero_Ok) (by simp [zeroTok])
              have qn := RP.laid (R' := ⟨(k1 : Int), k2, k3, l, hd8, zeroTok⟩) 4 (hdv hd8) qa (by rw [lR, lV]; decide) (rspv_sethd _ _ _ _ hd8 (hdv_len _ Hd.zero_Ok) lV) qa.bo qa.ho qa.co
              have hin := rspv_hd ⟨(k1 : Int), k2, k3, l, hd8, zeroTok⟩ (.slice A4 n4 c4) hv (.slice none 0 0)
              have TH := Lib.hid (there_blk qa.q 4 68 (by rw [lR]; decide))
              have keq := fun w' => run_eql_signed w' hd8 Hd.zero ok8 Hd.zero_Ok
              obtain ⟨zb, hzb⟩ : ∃ b, decide (hd8 = Hd.zero) = b := ⟨_, rfl⟩
              simp only [hzb] at keq
              have hbz := built_signed
              obtain ⟨Z0, hZ0⟩ : ∃ Z, hdv Hd.zero = Z := ⟨_, rfl⟩
              rw [hZ0] at hbz
              simp only [hZ0] at keq
              obtain ⟨V, hV⟩ : ∃ V, hdv hd8 = V := ⟨_, rfl⟩
              have rg0 : ∀ j u, V[j]? = some u → (rspv ⟨(k1 : Int), k2, k3, l, hd8, zeroTok⟩ (.slice A4 n4 c4) hv (.slice none 0 0))[4 + j]? = some u := by
                rw [← hV]
                intro j u hu
                unfold rspv
                rw [show 4 + j = j + 1 + 1 + 1 + 1 from by omega]
                simp only [List.getElem?_cons_succ]
                exact getElem?_pre j u hu
              rw [hV] at lV qn oV ⊢
              simp only [hV] at keq
              have QN := Lib.hid qn
              have RG0 := Lib.hid rg0
              have KEQ := Lib.hid keq
              have HZB := Lib.hid hzb
              have BZ0 := Lib.hid hbz
              have TH' := Lib.hid (show wa.there G 4 V.toArray.size by rw [List.size_toArray, lV]; exact TH.out)
              have IV := Lib.hid (show (Tryd.prog.info? 55).map (·.size) = some V.toArray.size by rw [List.size_toArray, lV]; exact Tryd.sig_info)
              have IV' := Lib.hid (show (Tryd.prog.info? 55).map (·.size) = some V.length by rw [lV]; exact Tryd.sig_info)
              have OV := Lib.hid (all_oneCell_toArray oV)
              have OK8 := Lib.hid ok8
              have HH8 := Lib.hid hh8
              have HS8 := Lib.hid hs8
              clear ha ga qa ok8 hh8 hs8 lV oV lR qn hin TH keq hzb hbz hZ0 hV rg0
              go_upto_region 16 with (refine wpList_store_mid rfl 55 (.tmp 73) (.tmp 72) rfl G 4 V.toArray rfl rfl TH'.out IV.out OV.out ?_)
              obtain ⟨wb, hwb⟩ : ∃ x, x = wa.setCells G 4 V := ⟨_, rfl⟩
              rw [← hwb] at QN ⊢
              clear hwb TH'
              have flb := QN.out.rd.flag
              simp only [Act.put]
              go_cut [84] (fun s84 wx => s84 = .bool (decide (s8.2 = none ∧ hd8 = Hd.zero)) ∧ wx = wb)
              case first =>
                by_cases hs : s8.2 = none
                · rw [hs, show (none : Option (Nat × Nat)).isSome = false from rfl] at flb
                  have RG := Lib.hid (rangeAt_blk QN.out.q 4 V (fun j u hu => by simpa using RG0.out j u hu))
                  have keq := KEQ.out
                  go_wp2_with (first
                    | (refine load_mid_want rfl 55 (.tmp 80) rfl G 4 rfl V _ RG.out Tryd.underlying55 rfl IV'.out ?_)
                    | (refine wpList_read rfl ⟨.agg Z0.toArray, run_built 55 _ rfl _ _ BZ0.out (by simp [Act.eval]), ?_⟩))
                  go_meet
                  case rel => exact ⟨by rw [← HZB.out]; simp [hs], rfl⟩
                · have hs' : s8.2.isSome = true := by
                    cases h : s8.2 with
                    | none => exact absurd h hs
                    | some x => rfl
                  rw [hs'] at flb
                  go_wp2
                  go_meet
                  case rel => exact ⟨by simp [hs], rfl⟩
              case rest =>
                obtain ⟨rfl, rfl⟩ := hcut
                obtain ⟨wb, rfl⟩ : ∃ x, x = wc := ⟨_, rfl⟩
                clear flb KEQ
                by_cases hzz : s8.2 = none ∧ hd8 = Hd.zero
                · rw [show decide (s8.2 = none ∧ hd8 = Hd.zero) = true by simpa using hzz]
                  have HZ := Lib.hid (headed_bad HHD.out.2.2.2.2 HS8.out HH8.out hzz.1 hzz.2)
                  clear hzz
                  go_wp2_with fail
                  obtain ⟨S, HS⟩ : ∃ S : World → Prop, Hid (∀ w', S w' = (w'.cell? ⟨g, 1, none⟩ = some (.int .i64 (s8.1 : Int)))) := ⟨_, fun _ => rfl⟩
                  have c81 : wb.drew.cell? ⟨g, 1, none⟩ = some (.int .i64 (s8.1 : Int)) := by
                    obtain ⟨A', n', c', hgb, -⟩ := QN.out.rd
                    exact (hgb.cell 1).trans rfl
                  refine wp_region_seq S 8 [(0, false), (1, false), (2, false), (3, false), (4, false), (5, true), (6, false), (7, false)] (by kernel_rfl) rfl (by kernel_rfl) (by kernel_rfl) (by kernel_rfl) (fun _ _ d _ _ h => by cases d <;> exact h) ((HS.out _).mpr c81) ?_
                  refine wpSeq_read rfl rfl ⟨.agg ZL.toArray, fun w1 hS => run_built 57 _ rfl _ _ BZ.out (by simp [Act.eval]), ?_⟩
                  try simp only [Act.put, List.setIfInBounds_toArray, List.set_cons_zero, List.set_cons_succ]
                  repeat (refine wpSeq_read rfl rfl ⟨?_, fun w1 hS => ?_, ?_⟩; rotate_left; (focus (rw [HS.out] at hS; go_split_ands; go_simp; (try go_bits); try rfl)); simp only [Act.put, List.setIfInBounds_toArray, List.set_cons_zero, List.set_cons_succ])
                  refine wpSeq_write rfl rfl ?_
                  refine wp_store_row 57 (.tmp 2) (.tmp 85) rfl w.heap.size ZL.toArray rfl rfl 57 _ QN.out.z IZ.out (by simp [LZ.out]) (by simpa using OZ.out) ?_
                  have z := QN.out.z.setRow ZL.toArray
                  have c82 : (wb.drew.setRow w.heap.size ZL.toArray).cell? ⟨g, 1, none⟩ = some (.int .i64 (s8.1 : Int)) := by
                    obtain ⟨A', n', c', hgb, -⟩ := QN.out.rd
                    exact ((Blk.setRow_far (w := wb.drew) hgb (by omega) ZL.toArray).cell 1).trans rfl
                  refine ⟨fun _ => (HS.out _).mpr c82, ?_⟩
                  try simp only [Act.put, List.setIfInBounds_toArray, List.set_cons_zero, List.set_cons_succ]
                  repeat (refine wpSeq_read rfl rfl ⟨?_, fun w1 hS => ?_, ?_⟩; rotate_left; (focus (rw [HS.out] at hS; go_split_ands; go_simp; (try go_bits); try rfl)); simp only [Act.put, List.setIfInBounds_toArray, List.set_cons_zero, List.set_cons_succ])
                  refine wpSeq_nil ?_
                  go_wp2_with fail
                  refine bodyPost_ret (results_cell_tmp2 rfl rfl (load_rsp z LZ.out)) rfl ⟨.slice none 0 0, .slice none 0 0, .slice none 0 0, ?_, ?_, ?_, ?_, ?_⟩
                  · rw [HZ.out, EZ.out]
                    rfl
                  · rw [HZ.out]
                    exact OwnB.nil _ _
                  · rw [HZ.out]
                    exact OwnD.nil _ _
                  · rw [HZ.out]
                    exact OwnC.nil _ _
                  · exact below_setRow QN.out.b.drew (Nat.le_refl _) _
                · rw [show decide (s8.2 = none ∧ hd8 = Hd.zero) = false by simpa using hzz]
                  have W8 := Lib.hid (headed_good HHD.out.2.1 HHD.out.2.2.1 HHD.out.2.2.2.1 HHD.out.2.2.2.2 HS8.out HH8.out hzz)
                  clear hzz
                  go_wp2
                  go_meet
                  case rel => exact ⟨s8, hd8, W8, OK8, QN⟩
          case rest =>
            obtain ⟨s8, hd8, W8, OK8, Q8⟩ := hcut
            obtain ⟨wb, rfl⟩ : ∃ x, x = wc := ⟨_, rfl⟩
            clear Qw9 W6 HBAD HB1
            have fl8 := Q8.out.rd.flag
            go_upto_region 18 with (fail)
            go_cut [98] (fun s98 wx => s98 = .bool (decide (1 < k6 ∧ s8.2 = none)) ∧ wx = wb)
            case first =>
              by_cases h1 : 1 < k6
              · have q : (1 : Int) < k6 := by omega
                by_cases hs : s8.2 = none
                · rw [hs, show (none : Option (Nat × Nat)).isSome = false from rfl] at fl8
                  go_wp2
                  go_meet
                  case rel => exact ⟨by simp [hs, h1], rfl⟩
                · have hs' : s8.2.isSome = true := by
                    cases h : s8.2 with
                    | none => exact absurd h hs
                    | some x => rfl
                  rw [hs'] at fl8
                  go_wp2
                  go_meet
                  case rel => exact ⟨by simp [hs], rfl⟩
              · have q : ¬ (1 : Int) < k6 := by omega
                go_wp2
                go_meet
                case rel => exact ⟨by simp [h1], rfl⟩
            case rest =>
              obtain ⟨rfl, rfl⟩ := hcut
              obtain ⟨wb, rfl⟩ : ∃ x, x = wc := ⟨_, rfl⟩
              clear fl8
              go_upto_if 98 with (fail)
              go_cut [] (fun wx => ∃ (s9 : RSt) (t9 : Tok) (cav : Value), Hid (Fin18 bs s9 ⟨(k1 : Int), k2, k3, l, hd8, t9⟩) ∧ Hid (t9.2.2.length = 32) ∧ Hid (RP w wx g G bs s9 ⟨(k1 : Int), k2, k3, l, hd8, t9⟩ (.slice A4 n4 c4) hv cav))
              case first =>
                by_cases hc : 1 < k6 ∧ s8.2 = none
                · rw [show decide (1 < k6 ∧ s8.2 = none) = true by simpa using hc]
                  have HT8 := Lib.hid (W8.out.tok hc.2)
                  have h9 := rp9_tok HT8.out.2.1 HT8.out.2.2.2 hc.1 HT8.out.2.2.1
                  clear hc
                  go_wp2_with fail
                  refine (rreader_bytes g bs s8 65535 wb Q8.out.rd HB.out (by omega)).mono ?_
                  rintro e wa ⟨va, rfl, owna, ha, ga⟩
                  rw [rBytes_65535 bs s8 HB.out] at owna ha
                  obtain ⟨Aa, na, ca, rfl, nca, mca, rda⟩ := owna.sl
                  have raw := rBytes_lt bs s8 65536 HB.out
                  have hle := rBytes_len bs s8 65536 HB.out
                  have hln := reads_bytes_le rda
                  have qa := Q8.out.num ha ga
                  have hrt : rTokB bs s8 = (if (tokDec (rBytes bs s8 65536).2).1 = none ∧ (tokDec (rBytes bs s8 65536).2).2 ≠ zeroTok then (rBytes bs s8 65536).1 else rRefuse (rBytes bs s8 65536).1 (rBytes bs s8 65536).1.1 12, (tokDec (rBytes bs s8 65536).2).2) := rfl
                  rw [← h9] at hrt
                  have hDE := ref12_decode (rBytes bs s8 65536).2 Aa na ca wa rda nca (by omega) raw
                  have hok := (tokDec_Ok (rBytes bs s8 65536).2 raw).1
                  have hwhy := tokDec_why (rBytes bs s8 65536).2
                  obtain ⟨⟨E, t9⟩, hET⟩ : ∃ x, tokDec (rBytes bs s8 65536).2 = x := ⟨_, rfl⟩
                  rw [hET] at hDE hrt hok hwhy
                  dsimp only at hDE hrt hok hwhy
                  obtain ⟨sa, hsa⟩ : ∃ x, (rBytes bs s8 65536).1 = x := ⟨_, rfl⟩
                  rw [hsa] at qa hrt
                  have HDE := Lib.hid hDE
                  have HOK := Lib.hid hok
                  have HRT := Lib.hid hrt
                  have HWHY := Lib.hid hwhy
                  have QA := Lib.hid qa
                  have fla := qa.rd.flag
                  clear h9 raw hle hln hDE hok hwhy hET hsa hrt ha ga qa rda owna
                  go_upto_if 105 with (fail)
                  cases hs : sa.2 with
                  | some x =>
                    rw [hs, show (some x).isSome = true from rfl] at fla
                    have hz : rspDec bs = (some x, zeroRsp) := by
                      refine rp9_ref ?_
                      rw [HRT.out]
                      dsimp only
                      split
                      · exact hs
                      · rw [rRefuse_ref _ _ _ x hs]; exact hs
                    have HF := Lib.hid (Fin18.refused (R := ⟨(k1 : Int), k2, k3, l, hd8, zeroTok⟩) hs hz)
                    clear hz hs
                    go_wp2
                    go_meet
                    case rel => exact ⟨sa, zeroTok, .slice none 0 0, HF, by simp [zeroTok, Hid], QA⟩
                  | none =>
                    rw [hs, show (none : Option (Nat × Nat)).isSome = false from rfl] at fla
                    have HSA := Lib.hid hs
                    clear hs
                    go_wp2_with fail
                    refine HDE.out.mono ?_
                    rintro e wd ⟨cav, rfl, ownb, bb⟩
                    obtain ⟨Ac, nc, cc, rfl, enc, ncc, mcc, rdc⟩ := OwnC.sl ownb
                    have qb := QA.out.below bb
                    have ownb' : OwnC wd (g + 1) (.slice Ac nc cc) t9.2.1 := OwnC.mono ownb (by have := QA.out.rd.lt; omega)
                    have lV := tokv_len t9.1 (.slice Ac nc cc) t9.2.2 HOK.out.2.2.1
                    have oV := tokv_one t9.1 (.slice Ac nc cc) rfl t9.2.2
                    have knone : ∀ w', Calls Tryd.prog 51 #[.agg (tokv t9.1 (.slice Ac nc cc) t9.2.2).toArray] w' fun e w'' => e = .returned (.bool (decide (t9 = zeroTok))) ∧ Below w'.heap.size w' w'' := fun w' => by
                      have := ref18_zero t9.1 Ac nc cc t9.2.2 w' HOK.out.2.2.1 HOK.out.2.2.2
                      have hzt : (t9.1 = 0 ∧ nc = 0 ∧ t9.2.2 = List.replicate 32 0) ↔ t9 = zeroTok := by
                        rw [enc]
                        obtain ⟨a, b, c⟩ := t9
                        simp [zeroTok, List.length_eq_zero_iff]
                      simp only [hzt] at this
                      exact this
                    have hst := fun R bv hv (h1 : (hdv R.hd).length = 68) (h2 : R.tok.2.2.length = 32) => rspv_settok R bv hv (.slice none 0 0) t9 (.slice Ac nc cc) h1 h2 HOK.out.2.2.1
                    obtain ⟨V, hV⟩ : ∃ V, tokv t9.1 (.slice Ac nc cc) t9.2.2 = V := ⟨_, rfl⟩
                    rw [hV] at lV oV ⊢
                    simp only [hV] at knone hst
                    have KN := Lib.hid knone
                    have HST := Lib.hid hst
                    have Z := Lib.hid (Blk.new wd 29 #[.int .u32 0, .slice none 0 0, .int .u8 0, .int .u8 0, .int .u8 0, .int .u8 0, .int .u8 0, .int .u8 0, .int .u8 0, .int .u8 0, .int .u8 0, .int .u8 0, .int .u8 0, .int .u8 0, .int .u8 0, .int .u8 0, .int .u8 0, .int .u8 0, .int .u8 0, .int .u8 0, .int .u8 0, .int .u8 0, .int .u8 0, .int .u8 0, .int .u8 0, .int .u8 0, .int .u8 0, .int .u8 0, .int .u8 0, .int .u8 0, .int .u8 0, .int .u8 0, .int .u8 0, .int .u8 0])
                    have IV := Lib.hid (show (Tryd.prog.info? 29).map (·.size) = some V.length by rw [lV]; exact Tryd.tok_info)
                    have IV' := Lib.hid (show (Tryd.prog.info? 29).map (·.size) = some V.toArray.size by rw [List.size_toArray, lV]; exact Tryd.tok_info)
                    have OV := Lib.hid (all_oneCell_toArray oV)
                    have LV := Lib.hid lV
                    have QB := Lib.hid qb
                    have OWB := Lib.hid ownb'
                    clear knone hst lV oV hV qb ownb ownb' rdc enc ncc mcc bb fla
                    go_upto_region 22 with (refine wpList_store_row rfl 29 (.tmp 11) (.tmp 109) rfl wd.heap.size V.toArray rfl rfl 29 _ Z.out IV'.out (by simp [LV.out]) OV.out ?_)
                    obtain ⟨we, hwe⟩ : ∃ x, x = (wd.alloc (.cells #[.int .u32 0, .slice none 0 0, .int .u8 0, .int .u8 0, .int .u8 0, .int .u8 0, .int .u8 0, .int .u8 0, .int .u8 0, .int .u8 0, .int .u8 0, .int .u8 0, .int .u8 0, .int .u8 0, .int .u8 0, .int .u8 0, .int .u8 0, .int .u8 0, .int .u8 0, .int .u8 0, .int .u8 0, .int .u8 0, .int .u8 0, .int .u8 0, .int .u8 0, .int .u8 0, .int .u8 0, .int .u8 0, .int .u8 0, .int .u8 0, .int .u8 0, .int .u8 0, .int .u8 0, .int .u8 0] 29)).setRow wd.heap.size V.toArray := ⟨_, rfl⟩
                    rw [← hwe]
                    have td : Blk we wd.heap.size 29 V.toArray := by rw [hwe]; exact Z.out.setRow _
                    have bd : Below wd.heap.size wd we := by rw [hwe]; exact below_setRow ((Below.refl _ _).alloc (Nat.le_refl _) _) (Nat.le_refl _) _
                    have QD := Lib.hid (QB.out.below bd)
                    have OWD := Lib.hid (OWB.out.kept bd)
                    have hg7g : g < wd.heap.size := QB.out.rd.lt
                    obtain ⟨g7, hg7⟩ : ∃ x, wd.heap.size = x := ⟨_, rfl⟩
                    rw [hg7] at td hg7g ⊢
                    have TD := Lib.hid td
                    have RG := Lib.hid (rangeAt_blk td 0 V (fun j u h => by simpa using h))
                    clear hwe bd hg7 td Z QB OWB QA HDE
                    obtain ⟨b3, hb3⟩ : ∃ b, (E.isSome || decide (t9 = zeroTok)) = b := ⟨_, rfl⟩
                    have HB3 := Lib.hid hb3
                    clear hb3
                    go_cut [117] (fun s wx => s = .bool b3 ∧ Hid (RP w wx g G bs sa ⟨(k1 : Int), k2, k3, l, hd8, zeroTok⟩ (.slice A4 n4 c4) hv (.slice none 0 0)) ∧ Hid (Blk wx g7 29 V.toArray) ∧ Hid (OwnC wx (g + 1) (.slice Ac nc cc) t9.2.1))
                    case first =>
                      cases E with
                      | none =>
                        have e3 := HB3.out
                        simp only [Option.isSome_none, Bool.false_or] at e3
                        have HE3 := Lib.hid e3
                        clear e3
                        rw [show ((whyOf none : Nat) : Int) = 0 from rfl]
                        go_wp2_with (refine load_mid_want rfl 29 (.tmp 11) rfl g7 0 rfl V _ RG.out Tryd.underlying29 rfl IV.out ?_)
                        refine (KN.out we).mono ?_
                        rintro e wf ⟨rfl, be⟩
                        rw [HE3.out]
                        have QE := Lib.hid (QD.out.below be)
                        have TE := Lib.hid (TD.out.below be TD.out.lt)
                        have OE := Lib.hid (OWD.out.kept be)
                        clear be
                        go_wp2
                        go_meet
                        case rel => exact ⟨rfl, QE, TE, OE⟩
                      | some y =>
                        obtain ⟨ya, yy⟩ := y
                        have hy := HWHY.out (ya, yy) rfl
                        dsimp only at hy
                        have hy' : ¬ (yy : Int) = 0 := by omega
                        have e3 := HB3.out
                        simp only [Option.isSome_some, Bool.true_or] at e3
                        subst e3
                        rw [show whyOf (some (ya, yy)) = yy from rfl]
                        clear hy
                        go_wp2
                        go_meet
                        case rel => exact ⟨rfl, QD, TD, OWD⟩
                    case rest =>
                      obtain ⟨rfl, Q1, T1, O1⟩ := hcut
                      obtain ⟨wf, rfl⟩ : ∃ x, x = wc := ⟨_, rfl⟩
                      clear QD TD OWD RG KN
                      cases b3 with
                      | true =>
                        have HZ : Hid (rspDec bs = (some (sa.1, 12), zeroRsp)) := by
                          show _ = _
                          refine rp9_ref ?_
                          rw [HRT.out]
                          dsimp only
                          rw [if_neg (by
                            intro h
                            have := HB3.out
                            rw [h.1] at this
                            simp [h.2] at this)]
                          unfold rRefuse
                          rw [HSA.out]
                        go_wp2_with fail
                        obtain ⟨S, HS⟩ : ∃ S : World → Prop, Hid (∀ w', S w' = (w'.cell? ⟨g, 1, none⟩ = some (.int .i64 (sa.1 : Int)))) := ⟨_, fun _ => rfl⟩
                        have c81 : wf.drew.cell? ⟨g, 1, none⟩ = some (.int .i64 (sa.1 : Int)) := by
                          obtain ⟨A', n', c', hgb, -⟩ := Q1.out.rd
                          exact (hgb.cell 1).trans rfl
                        refine wp_region_seq S 8 [(0, false), (1, false), (2, false), (3, false), (4, false), (5, true), (6, false), (7, false)] (by kernel_rfl) rfl (by kernel_rfl) (by kernel_rfl) (by kernel_rfl) (fun _ _ d _ _ h => by cases d <;> exact h) ((HS.out _).mpr c81) ?_
                        refine wpSeq_read rfl rfl ⟨.agg ZL.toArray, fun w1 hS => run_built 57 _ rfl _ _ BZ.out (by simp [Act.eval]), ?_⟩
                        try simp only [Act.put, List.setIfInBounds_toArray, List.set_cons_zero, List.set_cons_succ]
                        repeat (refine wpSeq_read rfl rfl ⟨?_, fun w1 hS => ?_, ?_⟩; rotate_left; (focus (rw [HS.out] at hS; go_split_ands; go_simp; (try go_bits); try rfl)); simp only [Act.put, List.setIfInBounds_toArray, List.set_cons_zero, List.set_cons_succ])
                        refine wpSeq_write rfl rfl ?_
                        refine wp_store_row 57 (.tmp 2) (.tmp 118) rfl w.heap.size ZL.toArray rfl rfl 57 _ Q1.out.z IZ.out (by simp [LZ.out]) (by simpa using OZ.out) ?_
                        have z := Q1.out.z.setRow ZL.toArray
                        have c82 : (wf.drew.setRow w.heap.size ZL.toArray).cell? ⟨g, 1, none⟩ = some (.int .i64 (sa.1 : Int)) := by
                          obtain ⟨A', n', c', hgb, -⟩ := Q1.out.rd
                          exact ((Blk.setRow_far (w := wf.drew) hgb (by omega) ZL.toArray).cell 1).trans rfl
                        refine ⟨fun _ => (HS.out _).mpr c82, ?_⟩
                        try simp only [Act.put, List.setIfInBounds_toArray, List.set_cons_zero, List.set_cons_succ]
                        repeat (refine wpSeq_read rfl rfl ⟨?_, fun w1 hS => ?_, ?_⟩; rotate_left; (focus (rw [HS.out] at hS; go_split_ands; go_simp; (try go_bits); try rfl)); simp only [Act.put, List.setIfInBounds_toArray, List.set_cons_zero, List.set_cons_succ])
                        refine wpSeq_nil ?_
                        go_wp2_with fail
                        refine bodyPost_ret (results_cell_tmp2 rfl rfl (load_rsp z LZ.out)) rfl ⟨.slice none 0 0, .slice none 0 0, .slice none 0 0, ?_, ?_, ?_, ?_, ?_⟩
                        · rw [HZ.out, EZ.out]
                          rfl
                        · rw [HZ.out]
                          exact OwnB.nil _ _
                        · rw [HZ.out]
                          exact OwnD.nil _ _
                        · rw [HZ.out]
                          exact OwnC.nil _ _
                        · exact below_setRow Q1.out.b.drew (Nat.le_refl _) _
                      | false =>
                        have h9 := HRT.out
                        rw [if_pos (by
                          have := HB3.out
                          simp only [Bool.or_eq_false_iff, Option.isSome_eq_false_iff, Option.isNone_iff_eq_none, decide_eq_false_iff_not] at this
                          exact this)] at h9
                        have hf : Fin18 bs sa ⟨(k1 : Int), k2, k3, l, hd8, t9⟩ := by
                          refine Fin18.good (by rw [h9]) ?_
                          unfold rpR
                          rw [K1.out, K2.out, K3.out, HT8.out.1, HT8.out.2.2.2, h9]
                        have HF := Lib.hid hf
                        clear h9 hf
                        have RGF := Lib.hid (rangeAt_blk T1.out 0 V (fun j u h => by simpa using h))
                        have lR := rspv_len' ⟨(k1 : Int), k2, k3, l, hd8, zeroTok⟩ (.slice A4 n4 c4) hv (.slice none 0 0) (hdv_len _ OK8.out) (by simp [zeroTok])
                        have TH := Lib.hid (show wf.there G 72 V.toArray.size by rw [List.size_toArray, LV.out]; exact there_blk Q1.out.q 72 34 (by rw [lR]; decide))
                        have QN := Lib.hid (RP.laid (R' := ⟨(k1 : Int), k2, k3, l, hd8, t9⟩) 72 V Q1.out (by rw [lR, LV.out]; decide) (HST.out ⟨(k1 : Int), k2, k3, l, hd8, zeroTok⟩ (.slice A4 n4 c4) hv (hdv_len _ OK8.out) (by simp [zeroTok])) Q1.out.bo Q1.out.ho O1.out)
                        have HTL : Hid (t9.2.2.length = 32) := HOK.out.2.2.1
                        clear lR
                        go_wp2_with (first
                          | (refine load_mid_want rfl 29 (.tmp 11) rfl g7 0 rfl V _ RGF.out Tryd.underlying29 rfl IV.out ?_)
                          | (refine wpList_store_mid rfl 29 (.tmp 124) (.tmp 123) rfl G 72 V.toArray rfl rfl TH.out IV'.out OV.out ?_))
                        go_meet
                        case rel => exact ⟨sa, t9, _, HF, HTL, QN⟩
                · rw [show decide (1 < k6 ∧ s8.2 = none) = false by simpa using hc]
                  have hf : Fin18 bs s8 ⟨(k1 : Int), k2, k3, l, hd8, zeroTok⟩ := by
                    rcases W8.out with ⟨h0, h5, h6, h3, h8⟩ | ⟨x, hx, hr⟩
                    · have h9 := rp9_none h6 h8 (fun h => hc ⟨h, h0⟩)
                      refine Fin18.good (by rw [h9]) ?_
                      unfold rpR
                      rw [K1.out, K2.out, K3.out, h5, h8, h9]
                    · exact Fin18.refused hx hr
                  have HF := Lib.hid hf
                  clear hf hc
                  go_wp2
                  go_meet
                  case rel => exact ⟨s8, zeroTok, .slice none 0 0, HF, by simp [zeroTok, Hid], Q8⟩
              case rest =>
                obtain ⟨s9, t9, cav, HF, HTL, Q9⟩ := hcut
                obtain ⟨wa, rfl⟩ : ∃ x, x = wc := ⟨_, rfl⟩
                clear W8 Q8
                go_wp2_with fail
                refine (rreader_end g bs s9 wa Q9.out.rd).mono ?_
                rintro e we ⟨rfl, be⟩
                have QF := Lib.hid (Q9.out.below be)
                have hd := HF.out
                have HWHY := Lib.hid (rspDec_why bs)
                unfold Fin18 at hd
                clear HF be Q9
                cases hend : rEnd bs s9 with
                | none =>
                  rw [hend] at hd
                  dsimp only at hd
                  have HD2 := Lib.hid hd
                  obtain ⟨Ah, nh, ch, rfl, -, -, -, -⟩ := QF.out.ho.sl
                  obtain ⟨Ac, nc, cc, rfl, -, -, -, -⟩ := OwnC.sl QF.out.co
                  have bM := QF.out.q
                  have lM := rspv_len' ⟨(k1 : Int), k2, k3, l, hd8, t9⟩ (.slice A4 n4 c4) (.slice Ah nh ch) (.slice Ac nc cc) (hdv_len _ OK8.out) HTL.out
                  have oM := rspv_one ⟨(k1 : Int), k2, k3, l, hd8, t9⟩ (.slice A4 n4 c4) (.slice Ah nh ch) (.slice Ac nc cc) rfl rfl rfl
                  obtain ⟨M, hM⟩ : ∃ M, rspv ⟨(k1 : Int), k2, k3, l, hd8, t9⟩ (.slice A4 n4 c4) (.slice Ah nh ch) (.slice Ac nc cc) = M := ⟨_, rfl⟩
                  rw [hM] at bM oM lM
                  have RG := Lib.hid (rangeAt_blk bM 0 M (fun j u h => by simpa using h))
                  have IM := Lib.hid (show (Tryd.prog.info? 57).map (·.size) = some M.length by rw [lM]; exact Tryd.rsp_info)
                  have IM' := Lib.hid (show (Tryd.prog.info? 57).map (·.size) = some M.toArray.size by rw [List.size_toArray, lM]; exact Tryd.rsp_info)
                  have LM := Lib.hid lM
                  have OM := Lib.hid oM
                  have EM := Lib.hid hM
                  clear lM oM hM bM hd hend
                  rw [show ((atOf none : Nat) : Int) = 0 from rfl, show ((whyOf none : Nat) : Int) = 0 from rfl]
                  go_wp2_with (first
                    | (refine load_mid_want rfl 57 (.tmp 6) rfl G 0 rfl M _ RG.out Tryd.underlying57 rfl IM.out ?_)
                    | (refine wpList_store_row rfl 57 (.tmp 2) (.tmp 135) rfl w.heap.size M.toArray rfl rfl 57 _ QF.out.z IM'.out (by simp [LM.out]) (by simpa using OM.out) ?_))
                  have z := QF.out.z.setRow M.toArray
                  refine bodyPost_ret (results_cell_tmp2 rfl rfl (load_rsp z LM.out)) rfl ⟨.slice A4 n4 c4, .slice Ah nh ch, .slice Ac nc cc, ?_, ?_, ?_, ?_, ?_⟩
                  · rw [HD2.out, EM.out]
                    rfl
                  · rw [HD2.out]
                    exact OwnB.mono (World.ownsRow.kept QF.out.bo (grown_setRow _ _ _) (.inr (own_blk_ne QF.out.bo QF.out.z (by decide)))) (by have := QF.out.wg; omega)
                  · rw [HD2.out]
                    have h := QF.out.ho.grown (grown_setRow we w.heap.size M.toArray) QF.out.z (by decide)
                    exact ⟨h.1, own_mono h.2 (by have := QF.out.wg; omega)⟩
                  · rw [HD2.out]
                    exact OwnC.mono (World.ownsRow.kept QF.out.co (grown_setRow _ _ _) (.inr (own_blk_ne QF.out.co QF.out.z (by decide)))) (by have := QF.out.wg; omega)
                  · exact below_setRow QF.out.b (Nat.le_refl _) _
                | some x =>
                  obtain ⟨xa, xy⟩ := x
                  rw [hend] at hd
                  dsimp only at hd
                  have hx := HWHY.out (xa, xy) (by rw [hd])
                  dsimp only at hx
                  have hx' : ¬ (xy : Int) = 0 := by omega
                  have HZ := Lib.hid hd
                  clear hd hend hx
                  rw [show atOf (some (xa, xy)) = xa from rfl, show whyOf (some (xa, xy)) = xy from rfl]
                  go_wp2_with (first
                    | (refine wpList_read rfl ⟨.agg ZL.toArray, run_built 57 _ rfl _ _ BZ.out (by simp [Act.eval]), ?_⟩)
                    | (refine wpList_store_row rfl 57 (.tmp 2) (.tmp 132) rfl w.heap.size ZL.toArray rfl rfl 57 _ QF.out.z IZ.out (by simp [LZ.out]) (by simpa using OZ.out) ?_))
                  have z := QF.out.z.setRow ZL.toArray
                  refine bodyPost_ret (results_cell_tmp2 rfl rfl (load_rsp z LZ.out)) rfl ⟨.slice none 0 0, .slice none 0 0, .slice none 0 0, ?_, ?_, ?_, ?_, ?_⟩
                  · rw [HZ.out, EZ.out]
                    rfl
                  · rw [HZ.out]
                    exact OwnB.nil _ _
                  · rw [HZ.out]
                    exact OwnD.nil _ _
                  · rw [HZ.out]
                    exact OwnC.nil _ _
                  · exact below_setRow QF.out.b (Nat.le_refl _) _

end Go.Proofs.YtbkdccamimakoaaDoor
