/-
  deponentref18.Answer.
-/
import Derived.Test.YtbkdccamimakoaaDoorAnsW
import Derived.Test.YtbkdccamimakoaaDoorRef12
import Derived.Test.YtbkdccamimakoaaDoorRef2
import Derived.Test.YtbkdccamimakoaaDoorAnsA
namespace Go.Proofs.YtbkdccamimakoaaDoor
open Go.RowKit
set_option linter.unusedVariables false
set_option maxRecDepth 100000

theorem tokRes_why (id : Nat) (l : List (Int × Nat)) (tag : List Nat) : ((tokRes id l tag).1 = 4 ↔ 4 < l.length) ∧ ((tokRes id l tag).1 = 4 ∨ (tokRes id l tag).1 = 0 ∨ (tokRes id l tag).1 = 1) := by
  unfold tokRes
  split
  · rename_i h
    simp [h]
  · rename_i h
    split <;> simp [h]

theorem OwnB.readsOf {w : World} {base : Nat} {A : Option Addr} {n c : Nat} {bs : List Nat} (h : OwnB w base (.slice A n c) bs) : Reads w w.heap.size 1 A n (byv bs) := by
  obtain ⟨A', n', c', e, -, -, h'⟩ := OwnB.sl h
  injection e with e1 e2 e3
  subst e1 e2 e3
  exact h'





-- END BY HAND
set_option maxHeartbeats 8000000 in
theorem ref18_answer (R : Rsp) (Ab : Option Addr) (cb : Nat) (Ah : Option Addr) (ch : Nat) (Ac : Option Addr) (cc : Nat) (w : World) (hR : R.Ok)
    (hrb : Reads w w.heap.size 1 Ab R.bytes.length (byv R.bytes)) (hbc : R.bytes.length ≤ cb) (hbm : cb ≤ maxLen)
    (hrh : Reads w w.heap.size 32 Ah R.hashes.length (digv R.hashes)) (hhc : R.hashes.length ≤ ch) (hhm : ch ≤ maxLen)
    (hrc : Reads w w.heap.size 2 Ac R.tok.2.1.length (cavv R.tok.2.1)) (hcc : R.tok.2.1.length ≤ cc) (hcm : cc ≤ maxLen) :
    Calls Tryd.prog 19 #[.agg (rspv R (.slice Ab R.bytes.length cb) (.slice Ah R.hashes.length ch) (.slice Ac R.tok.2.1.length cc)).toArray] w fun e w' => ∃ v, e = .returned (.tuple #[v, .int .i64 ((ansRes R).1 : Int)]) ∧ OwnB w' w.heap.size v (ansRes R).2 ∧ Below w.heap.size w w' := by
  have kenc := fun w' h => ref12_encode R.tok.1 R.tok.2.1 Ac cc R.tok.2.2 w' h hcc hcm hR.tok.1 hR.tok.2.1 hR.tok.2.2.1
  have knone := fun w' => ref18_zero R.tok.1 Ac R.tok.2.1.length cc R.tok.2.2 w' hR.tok.2.2.1 hR.tok.2.2.2
  have kneq := fun w' => run_neq_signed w' R.hd Hd.zero hR.hd Hd.zero_Ok
  have khead := fun A L c bs w' => ref18_headW R.hd A L c bs w' hR.hd
  have tl := tokRes_len R.tok.1 R.tok.2.1 R.tok.2.2 hR.tok.2.2.1
  obtain ⟨twi, twv⟩ := tokRes_why R.tok.1 R.tok.2.1 R.tok.2.2
  have d0 : (rspv R (.slice Ab R.bytes.length cb) (.slice Ah R.hashes.length ch) (.slice Ac R.tok.2.1.length cc))[0]? = some (.int .i64 R.why) := rfl
  have d1 : (rspv R (.slice Ab R.bytes.length cb) (.slice Ah R.hashes.length ch) (.slice Ac R.tok.2.1.length cc))[1]? = some (.int .u64 (R.n : Int)) := rfl
  have d2 : (rspv R (.slice Ab R.bytes.length cb) (.slice Ah R.hashes.length ch) (.slice Ac R.tok.2.1.length cc))[2]? = some (.slice Ab R.bytes.length cb) := rfl
  have d3 : (rspv R (.slice Ab R.bytes.length cb) (.slice Ah R.hashes.length ch) (.slice Ac R.tok.2.1.length cc))[3]? = some (.slice Ah R.hashes.length ch) := rfl
  have dh := rspv_hd R (.slice Ab R.bytes.length cb) (.slice Ah R.hashes.length ch) (.slice Ac R.tok.2.1.length cc) hR
  have dt := rspv_tok R (.slice Ab R.bytes.length cb) (.slice Ah R.hashes.length ch) (.slice Ac R.tok.2.1.length cc) hR
  have d4 := dh 0 _ (show (hdv R.hd)[0]? = some (.int .i64 R.hd.tree) from rfl)
  have d5 := dh 1 _ (show (hdv R.hd)[1]? = some (.int .i64 R.hd.epoch) from rfl)
  have d73 := dt 1 _ (show (tokv R.tok.1 (.slice Ac R.tok.2.1.length cc) R.tok.2.2)[1]? = some (.slice Ac R.tok.2.1.length cc) from rfl)
  rw [show 4 + 0 = 4 from rfl] at d4
  rw [show 4 + 1 = 5 from rfl] at d5
  rw [show 72 + 1 = 73 from rfl] at d73
  have lT := tokv_len R.tok.1 (.slice Ac R.tok.2.1.length cc) R.tok.2.2 hR.tok.2.2.1
  have lS := hdv_len R.hd hR.hd
  have hans : ansRes R = if 255 < R.hashes.length ∨ (tokRes R.tok.1 R.tok.2.1 R.tok.2.2).1 = 4 then (4, []) else if 65536 ≤ R.bytes.length then (3, []) else if R.fits = true ∧ (tokRes R.tok.1 R.tok.2.1 R.tok.2.2).1 = 0 then (0, ansB R) else (1, []) := rfl
  have hab : ansB R = be R.why.toNat 1 ++ (be R.n 8 ++ (txt R.bytes ++ (be R.hashes.length 1 ++ (R.hashes.flatten ++ (be (flagsOf R) 1 ++ ((if R.hd = Hd.zero then [] else hdB R.hd) ++ (if R.tok = zeroTok then [] else txt (tokRes R.tok.1 R.tok.2.1 R.tok.2.2).2))))))) := rfl
  have hfl : flagsOf R = (if R.hd = Hd.zero then 0 else 1) + (if R.tok = zeroTok then 0 else 2) := rfl
  have hft : R.fits = (decide (0 ≤ R.why ∧ R.why ≤ 255) && decide (0 ≤ R.hd.tree ∧ R.hd.tree ≤ 255) && decide (0 ≤ R.hd.epoch ∧ R.hd.epoch ≤ 2147483647)) := rfl
  have hzt : (R.tok.1 = 0 ∧ R.tok.2.1.length = 0 ∧ R.tok.2.2 = List.replicate 32 0) ↔ R.tok = zeroTok := by
    obtain ⟨a, b, c⟩ := R.tok
    simp [zeroTok, List.length_eq_zero_iff]
  replace knone : ∀ w', Calls Tryd.prog 51 #[.agg (tokv R.tok.1 (.slice Ac R.tok.2.1.length cc) R.tok.2.2).toArray] w' fun e w'' => e = .returned (.bool (decide (R.tok = zeroTok))) ∧ Below w'.heap.size w' w'' := fun w' => by
    have := knone w'
    simp only [hzt] at this
    exact this
  have hn64 := hR.n
  have hok := hR.hashes
  obtain ⟨L, hL⟩ : ∃ L, rspv R (.slice Ab R.bytes.length cb) (.slice Ah R.hashes.length ch) (.slice Ac R.tok.2.1.length cc) = L := ⟨_, rfl⟩
  rw [hL] at d0 d1 d2 d3 d4 d5 d73 dh dt ⊢
  obtain ⟨T, hT⟩ : ∃ T, tokv R.tok.1 (.slice Ac R.tok.2.1.length cc) R.tok.2.2 = T := ⟨_, rfl⟩
  rw [hT] at dt lT
  simp only [hT] at kenc knone
  obtain ⟨S, hS⟩ : ∃ S, hdv R.hd = S := ⟨_, rfl⟩
  rw [hS] at dh lS
  simp only [hS] at kneq khead
  have lHB : (hdB R.hd).length ≤ 85 := by
    unfold hdB
    simp only [List.length_append, be_length, hR.hd.rootl, hR.hd.tagl]
    omega
  obtain ⟨y, hy⟩ : ∃ y, R.why = y := ⟨_, rfl⟩
  obtain ⟨ny, hny⟩ : ∃ y, R.n = y := ⟨_, rfl⟩
  obtain ⟨kt, hkt⟩ : ∃ y, R.hd.tree = y := ⟨_, rfl⟩
  obtain ⟨ke, hke⟩ : ∃ y, R.hd.epoch = y := ⟨_, rfl⟩
  obtain ⟨bs, hbs⟩ : ∃ y, R.bytes = y := ⟨_, rfl⟩
  obtain ⟨hs, hhs⟩ : ∃ y, R.hashes = y := ⟨_, rfl⟩
  obtain ⟨nb, hnb⟩ : ∃ y, R.bytes.length = y := ⟨_, rfl⟩
  obtain ⟨nh, hnh⟩ : ∃ y, R.hashes.length = y := ⟨_, rfl⟩
  obtain ⟨nc, hnc⟩ : ∃ y, R.tok.2.1.length = y := ⟨_, rfl⟩
  obtain ⟨zh, hzh⟩ : ∃ y, decide (R.hd = Hd.zero) = y := ⟨_, rfl⟩
  obtain ⟨zt, hzt2⟩ : ∃ y, decide (R.tok = zeroTok) = y := ⟨_, rfl⟩
  obtain ⟨cv, hcv⟩ : ∃ y, R.tok.2.1 = y := ⟨_, rfl⟩
  obtain ⟨⟨tw, tb⟩, htr⟩ : ∃ y, tokRes R.tok.1 R.tok.2.1 R.tok.2.2 = y := ⟨_, rfl⟩
  have ezh : (if R.hd = Hd.zero then 0 else 1) = (if zh then 0 else 1) := by rw [← hzh]; simp
  have ezt : (if R.tok = zeroTok then 0 else 2) = (if zt then 0 else 2) := by rw [← hzt2]; simp
  have ezh2 : (if R.hd = Hd.zero then [] else hdB R.hd) = (if zh then [] else hdB R.hd) := by rw [← hzh]; simp
  have ezt2 : (if R.tok = zeroTok then [] else txt (tokRes R.tok.1 R.tok.2.1 R.tok.2.2).2) = (if zt then [] else txt (tokRes R.tok.1 R.tok.2.1 R.tok.2.2).2) := by rw [← hzt2]; simp
  rw [ezh2, ezt2] at hab
  rw [ezh, ezt] at hfl
  simp only [hzh] at kneq
  simp only [hzt2] at knone
  rw [htr] at tl hans twi twv
  simp only [htr] at kenc hab
  rw [hnb] at hans hbc hrb
  rw [hnh] at hans hrh hhc hab
  rw [hnc, hcv] at hrc
  rw [hnc] at hcc twi
  simp only [hnc] at kenc
  simp only [hcv] at kenc
  rw [hnb] at d2
  rw [hnh] at d3
  rw [hnc] at d73
  rw [hy] at d0 hft hab
  rw [hny] at d1 hab hn64
  rw [hkt] at d4 hft
  rw [hke] at d5 hft
  simp only [hkt, hke] at khead
  rw [hbs] at hrb hab
  rw [hhs] at hrh hab hok
  have hnb' : bs.length = nb := by rw [← hbs]; exact hnb
  have hnh' : hs.length = nh := by rw [← hhs]; exact hnh
  dsimp only at tl kenc hans hab twi twv
  have lt60 : tb.length ≤ 60 := tl
  have KENC := Lib.hid kenc
  have KNONE := Lib.hid knone
  have KNEQ := Lib.hid kneq
  have KHEAD := Lib.hid khead
  have DA0 := Lib.hid (show L.toArray[0]? = some (.int .i64 y) by simpa using d0)
  have DA1 := Lib.hid (show L.toArray[1]? = some (.int .u64 (ny : Int)) by simpa using d1)
  have DA2 := Lib.hid (show L.toArray[2]? = some (.slice Ab nb cb) by simpa using d2)
  have DA3 := Lib.hid (show L.toArray[3]? = some (.slice Ah nh ch) by simpa using d3)
  have DA4 := Lib.hid (show L.toArray[4]? = some (.int .i64 kt) by simpa using d4)
  have DA5 := Lib.hid (show L.toArray[5]? = some (.int .i64 ke) by simpa using d5)
  have DA73 := Lib.hid (show L.toArray[73]? = some (.slice Ac nc cc) by simpa using d73)
  have DH := Lib.hid dh
  have DT := Lib.hid dt
  have IT := Lib.hid (show (Tryd.prog.info? 29).map (·.size) = some T.length by rw [lT]; exact Tryd.tok_info)
  have IS := Lib.hid (show (Tryd.prog.info? 55).map (·.size) = some S.length by rw [lS]; exact Tryd.sig_info)
  have HANS := Lib.hid hans
  have HAB := Lib.hid hab
  have HFL := Lib.hid hfl
  have HFT := Lib.hid hft
  have HOK := Lib.hid hok
  have HNB := Lib.hid hnb'
  have HNH := Lib.hid hnh'
  have TWI := Lib.hid twi
  have TWV := Lib.hid twv
  clear kenc knone kneq khead d0 d1 d2 d3 d4 d5 d73 dh dt lT lS hans hab hfl hft hok hnb' hnh' hL hT hS hy hny hkt hke hbs hhs hnb hnh hnc hzh hzt2 hcv htr hzt ezh ezt ezh2 ezt2 tl twi twv
  unfold maxLen at hbm hhm hcm
  have t0 : Blk (w.alloc (.cells L.toArray 57)) w.heap.size 57 L.toArray := Blk.new w _ _
  have b0 : Below w.heap.size w (w.alloc (.cells L.toArray 57)) := below_new (Below.refl _ _) _
  obtain ⟨W0, hW0⟩ : ∃ x, x = w.alloc (.cells L.toArray 57) := ⟨_, rfl⟩
  rw [← hW0] at t0 b0
  have gN : w.heap.size < W0.heap.size := t0.lt
  have T0 := Lib.hid t0
  have B0 := Lib.hid b0
  have RB0 := Lib.hid (hrb.call b0)
  have RH0 := Lib.hid (hrh.call b0)
  have RC0 := Lib.hid (hrc.call b0)
  have HW0 := Lib.hid hW0
  have BR := Lib.hid (Below.refl W0.heap.size W0)
  clear hrb hrh hrc t0 b0 hW0
  go_enter Tryd.func19, Tryd.ntmps19
  go_upto_region 1 with (fail)
  rw [← HW0.out]
  have t0 := T0.out.below BR.out gN
  have c0 := (t0.cell 0).trans DA0.out
  have c1 := (t0.cell 1).trans DA1.out
  have c2 := (t0.cell 2).trans DA2.out
  have c3 := (t0.cell 3).trans DA3.out
  have c4 := (t0.cell 4).trans DA4.out
  have c5 := (t0.cell 5).trans DA5.out
  have c73 := (t0.cell 73).trans DA73.out
  by_cases q1 : 255 < nh
  · have q : (255 : Int) < nh := by omega
    have HN : Hid (ansRes R = (4, [])) := by
      unfold Hid
      rw [HANS.out, if_pos (.inl q1)]
    go_wp2
    go_ret2
    exact ⟨_, by rw [HN.out]; rfl, by rw [HN.out]; exact OwnB.nil _ _, B0.out⟩
  have p1 : ¬ (255 : Int) < nh := by omega
  by_cases q2 : 4 < nc
  · have q : (4 : Int) < nc := by omega
    have HN : Hid (ansRes R = (4, [])) := by
      unfold Hid
      rw [HANS.out, if_pos (.inr (TWI.out.2 q2))]
    go_wp2
    go_ret2
    exact ⟨_, by rw [HN.out]; rfl, by rw [HN.out]; exact OwnB.nil _ _, B0.out⟩
  have p2 : ¬ (4 : Int) < nc := by omega
  have A1 := Lib.hid (HANS.out.trans (if_neg (fun h => h.elim q1 (fun h => q2 (TWI.out.1 h)))))
  have TW2 : Hid (tw = 0 ∨ tw = 1) := by
    rcases TWV.out with h | h
    · exact absurd (TWI.out.1 h) q2
    · exact h
  clear HANS TWI TWV
  by_cases q3 : 65536 ≤ nb
  · have q : (65535 : Int) < nb := by omega
    have HN : Hid (ansRes R = (3, [])) := by
      unfold Hid
      rw [A1.out, if_pos q3]
    go_wp2
    go_ret2
    exact ⟨_, by rw [HN.out]; rfl, by rw [HN.out]; exact OwnB.nil _ _, B0.out⟩
  have p3 : ¬ (65535 : Int) < nb := by omega
  have A2 := Lib.hid (A1.out.trans (if_neg q3))
  clear A1
  have RT0 := Lib.hid (rangeAt_blk t0 72 T DT.out)
  go_wp2_with (refine load_mid_want rfl 29 (.tmp 25) rfl w.heap.size 72 rfl T _ RT0.out Tryd.underlying29 rfl IT.out ?_)
  refine (KENC.out W0 RC0.out).mono ?_
  rintro e w1 ⟨v1, rfl, own1, b1⟩
  have T0 := Lib.hid (T0.out.below b1 gN)
  have RB0 := Lib.hid (RB0.out.call b1)
  have RH0 := Lib.hid (RH0.out.call b1)
  have B0 := Lib.hid (B0.out.trans (b1.mono B0.out.size))
  have gN : w.heap.size < w1.heap.size := T0.out.lt
  have B1 := Lib.hid (Below.refl w1.heap.size w1)
  obtain ⟨At, nt, ct, rfl, nct, mct, rdt⟩ := own1.sl
  have RT1 := Lib.hid rdt
  have HNT := Lib.hid (reads_bytes_le rdt)
  clear c0 c1 c2 c3 c4 c5 c73 t0 RT0 own1 rdt b1 p1 p2 p3 RC0 KENC
  have t1 := T0.out.below B1.out gN
  have c0 := (t1.cell 0).trans DA0.out
  have c1 := (t1.cell 1).trans DA1.out
  have c2 := (t1.cell 2).trans DA2.out
  have c3 := (t1.cell 3).trans DA3.out
  have c4 := (t1.cell 4).trans DA4.out
  have c5 := (t1.cell 5).trans DA5.out
  have c73 := (t1.cell 73).trans DA73.out
  go_upto_region 6 with (fail)
  obtain ⟨okb, hokb⟩ : ∃ b, decide (0 ≤ y ∧ y ≤ 255 ∧ 0 ≤ kt ∧ kt ≤ 255 ∧ 0 ≤ ke ∧ ke ≤ 2147483647 ∧ tw = 0) = b := ⟨_, rfl⟩
  have HOKB := Lib.hid hokb
  clear hokb
  go_cut [5, 69] (fun s5 s69 wx => s5 = .int .i64 tw ∧ s69 = .bool (!okb) ∧ wx = w1)
  case first =>
    by_cases a1 : y < 0
    · have eo : okb = false := by rw [← HOKB.out]; exact decide_eq_false (by omega)
      subst eo
      go_wp2
      go_meet
      case rel => exact ⟨rfl, rfl, rfl⟩
    by_cases a2 : 255 < y
    · have eo : okb = false := by rw [← HOKB.out]; exact decide_eq_false (by omega)
      subst eo
      go_wp2
      go_meet
      case rel => exact ⟨rfl, rfl, rfl⟩
    by_cases a3 : kt < 0
    · have eo : okb = false := by rw [← HOKB.out]; exact decide_eq_false (by omega)
      subst eo
      go_wp2
      go_meet
      case rel => exact ⟨rfl, rfl, rfl⟩
    by_cases a4 : 255 < kt
    · have eo : okb = false := by rw [← HOKB.out]; exact decide_eq_false (by omega)
      subst eo
      go_wp2
      go_meet
      case rel => exact ⟨rfl, rfl, rfl⟩
    by_cases a5 : ke < 0
    · have eo : okb = false := by rw [← HOKB.out]; exact decide_eq_false (by omega)
      subst eo
      go_wp2
      go_meet
      case rel => exact ⟨rfl, rfl, rfl⟩
    by_cases a6 : 2147483647 < ke
    · have eo : okb = false := by rw [← HOKB.out]; exact decide_eq_false (by omega)
      subst eo
      go_wp2
      go_meet
      case rel => exact ⟨rfl, rfl, rfl⟩
    by_cases a7 : tw = 0
    · have eo : okb = true := by rw [← HOKB.out]; exact decide_eq_true (by omega)
      subst eo
      have a8 : (tw : Int) = 0 := by omega
      have e7 := Lib.hid a7
      clear a7
      rw [a8]
      clear a8
      go_wp2
      go_meet
      case rel => exact ⟨by rw [e7.out]; rfl, rfl, rfl⟩
    · have a8 : ¬ (tw : Int) = 0 := by omega
      have a9 : ((tw : Int) != 0) = true := by simpa using a8
      have eo : okb = false := by rw [← HOKB.out]; exact decide_eq_false (by omega)
      subst eo
      go_wp2
      go_meet
      case rel => exact ⟨rfl, rfl, rfl⟩
  case rest =>
    obtain ⟨rfl, rfl, rfl⟩ := hcut
    obtain ⟨w1, rfl⟩ : ∃ x, x = wc := ⟨_, rfl⟩
    cases okb with
    | false =>
      have HN : Hid (ansRes R = (1, [])) := by
        unfold Hid
        rw [A2.out, if_neg]
        rintro ⟨h1, h2⟩
        rw [HFT.out] at h1
        simp at h1
        have := of_decide_eq_false HOKB.out
        omega
      have HBB := Lib.hid (B0.out.trans (B1.out.mono B0.out.size))
      clear c0 c1 c2 c3 c4 c5 c73 t1
      go_wp2
      go_ret2
      exact ⟨_, by rw [HN.out]; rfl, by rw [HN.out]; exact OwnB.nil _ _, HBB.out⟩
    | true =>
      have hk := of_decide_eq_true HOKB.out
      have HX : Hid (ansRes R = (0, ansB R)) := by
        unfold Hid
        rw [A2.out, if_pos]
        rw [HFT.out]
        simp
        omega
      obtain ⟨k1, k2, k3, k4, k5, k6, k7⟩ := hk
      obtain ⟨ky, rfl⟩ : ∃ k : Nat, y = k := ⟨y.toNat, by omega⟩
      have f1 : ky ≤ 255 := by omega
      have f4 : nh ≤ 255 := by omega
      have f5 : nb ≤ 65535 := by omega
      have HKT := Lib.hid (show (0 ≤ kt ∧ kt ≤ 255) ∧ (0 ≤ ke ∧ ke ≤ 2147483647) from ⟨⟨k3, k4⟩, k5, k6⟩)
      have g1 : IntKind.u8.wrap (ky : Int) = ky := IntWalk.u8_in _ (by omega)
      have g2 : IntKind.u8.wrap (nh : Int) = nh := IntWalk.u8_in _ (by omega)
      clear k1 k2 k3 k4 k5 k6 k7 c0 c1 c2 c3 c4 c5 c73 t1 A2 HOKB HFT TW2 q1 q2 q3
      have t1 := T0.out.below B1.out gN
      have c0 := (t1.cell 0).trans DA0.out
      have c1 := (t1.cell 1).trans DA1.out
      have c2 := (t1.cell 2).trans DA2.out
      have c3 := (t1.cell 3).trans DA3.out
      have c4 := (t1.cell 4).trans DA4.out
      have c5 := (t1.cell 5).trans DA5.out
      have c73 := (t1.cell 73).trans DA73.out
      have sw1 := gN
      clear c4 c5 c73 c2 c3
      go_wp2_with fail
      refine (ref2_number (some ⟨w1.heap.size, 0, none⟩) 1 1 ny 8 [ky] _ (reads_one w1 ky) (by simp) (by omega)).mono ?_
      rintro e w2 ⟨v2, rfl, own2, b2⟩
      rw [show sizeN 8 = 8 from rfl] at own2
      have b2' : Below w1.heap.size w1 w2 := ((Below.refl _ _).alloc (Nat.le_refl _) (.cells #[.int .u8 (ky : Int)] 5)).trans (b2.mono (by simp))
      have B2 := Lib.hid (B1.out.trans b2')
      obtain ⟨X2, hX2⟩ : ∃ x, x = [ky] ++ be ny 8 := ⟨_, rfl⟩
      rw [← hX2] at own2
      have lX2 : X2.length = 9 := by rw [hX2, List.length_append, be_length]; rfl
      have HX2 := Lib.hid hX2
      have O2 := Lib.hid (own2.mono (show w1.heap.size ≤ _ by rw [alloc_size]; omega))
      obtain ⟨A2, n2, c2', rfl, -, -, rd2⟩ := O2.out.sl
      have hn2 : n2 = 9 := by rw [← reads_bytes_le rd2]; exact lX2
      subst hn2
      have RD2 := Lib.hid rd2
      have sz2 := B2.out.size
      clear own2 b2 b2' hX2 rd2 c0 c1 t1 g1
      have t2 := T0.out.below B2.out gN
      have c0 := (t2.cell 0).trans DA0.out
      have c1 := (t2.cell 1).trans DA1.out
      have c2 := (t2.cell 2).trans DA2.out
      have c3 := (t2.cell 3).trans DA3.out
      have c4 := (t2.cell 4).trans DA4.out
      have c5 := (t2.cell 5).trans DA5.out
      have c73 := (t2.cell 73).trans DA73.out
      clear c0 c1 c4 c5 c73
      go_upto_region 9 with (fail)
      obtain ⟨S', HS⟩ : ∃ S : World → Prop, Hid (∀ w', S w' = (w'.cell? ⟨w.heap.size, 2, none⟩ = some (.slice Ab nb cb) ∧ w'.cell? ⟨w.heap.size, 3, none⟩ = some (.slice Ah nh ch))) := ⟨_, fun _ => rfl⟩
      refine wp_region_fork S' 11 [80, 85] [(0, false), (1, false), (2, false), (4, false), (5, false), (6, false), (7, false)] 2 (.two 3 (.one 8 .done) 8 (.one 3 .done)) [(9, true), (10, false)] #[true, true, true, false, true, true, true, true, false, false, false] #[true, true, true, true, true, true, true, true, true, false, false] (by kernel_rfl) rfl (by kernel_rfl) (by kernel_rfl) (by kernel_rfl) (by kernel_rfl) (by kernel_rfl) (fun _ _ d _ _ h => by cases d <;> exact h) ((HS.out _).mpr ⟨c2, c3⟩) ?_
      iterate 7 (refine wpSteps_read rfl rfl ⟨?_, fun w1 hS => ?_, ?_⟩; rotate_left; (focus (rw [HS.out] at hS; go_split_ands; go_simp; (try go_bits); try rfl)); simp only [Act.put, List.setIfInBounds_toArray, List.set_cons_zero, List.set_cons_succ])
      refine wpSteps_nil ?_
      obtain ⟨Wd, hWd⟩ : ∃ x, x = w2.drew := ⟨_, rfl⟩
      rw [← hWd]
      have rd : Reads Wd Wd.heap.size 1 A2 9 (byv X2) := by rw [hWd]; exact RD2.out.drewS
      have rb : Reads Wd Wd.heap.size 1 Ab nb (byv bs) := by rw [hWd]; exact (RB0.out.call B2.out).drewS
      have e2 : Wd.cell? ⟨w.heap.size, 2, none⟩ = some (.slice Ab nb cb) := by rw [hWd]; exact c2
      have e3 : Wd.cell? ⟨w.heap.size, 3, none⟩ = some (.slice Ah nh ch) := by rw [hWd]; exact c3
      have BD := Lib.hid (show Below w1.heap.size w1 Wd by rw [hWd]; exact B2.out.drew)
      have szd := BD.out.size
      have sz' : w.heap.size < Wd.heap.size := by omega
      have SK : ∀ w', Below Wd.heap.size Wd w' → S' w' := fun w' hb => (HS.out _).mpr ⟨(hb.cell (p := ⟨w.heap.size, 2, none⟩) sz').trans e2, (hb.cell (p := ⟨w.heap.size, 3, none⟩) sz').trans e3⟩
      clear hWd c2 c3 t2
      refine ⟨fun vs w' => ∃ v g, vs = [v, .slice (some ⟨g, 0, none⟩) 1 1] ∧ OwnB w' Wd.heap.size v (X2 ++ txt bs) ∧ Reads w' w'.heap.size 1 (some ⟨g, 0, none⟩) 1 (byv [nh]) ∧ Below Wd.heap.size Wd w', ?_, ?_⟩
      · refine wpTree_two rfl rfl rfl rfl ?_ ?_
        · go_simp
          refine (ref2_bytes A2 Ab 9 nb _ cb X2 bs Wd rd rb (by omega) hbc (by unfold maxLen; omega)).mono ?_
          rintro e w3 ⟨v3, rfl, o3, b3⟩
          refine ⟨SK _ b3, ?_⟩
          try simp only [Act.put, List.setIfInBounds_toArray, List.set_cons_zero, List.set_cons_succ]
          refine wpTree_one rfl rfl ?_
          refine wp_build_byte (.tmp 84) rfl (nh : Int) rfl ?_
          exact ⟨SK _ (b3.alloc b3.size _), wpTree_done ⟨[v3, .slice (some ⟨w3.heap.size, 0, none⟩) 1 1], rfl, v3, w3.heap.size, rfl, o3.alloc _, reads_one w3 nh, b3.alloc b3.size _⟩⟩
        · refine wp_build_byte (.tmp 84) rfl (nh : Int) rfl ?_
          have b3 : Below Wd.heap.size Wd (Wd.alloc (.cells #[.int .u8 (nh : Int)] 5)) := (Below.refl _ _).alloc (Nat.le_refl _) _
          refine ⟨SK _ b3, ?_⟩
          try simp only [Act.put, List.setIfInBounds_toArray, List.set_cons_zero, List.set_cons_succ]
          refine wpTree_one rfl rfl ?_
          go_simp
          have q3 := Blk.new Wd 5 #[.int .u8 (nh : Int)]
          refine (ref2_bytes A2 Ab 9 nb _ cb X2 bs _ (rd.laid (.cells #[.int .u8 (nh : Int)] 5)) (rb.laid (.cells #[.int .u8 (nh : Int)] 5)) (by omega) hbc (by unfold maxLen; omega)).mono ?_
          rintro e w4 ⟨v4, rfl, o4, b4⟩
          have b5 := b3.trans (b4.mono b3.size)
          exact ⟨SK _ b5, wpTree_done ⟨[v4, .slice (some ⟨Wd.heap.size, 0, none⟩) 1 1], rfl, v4, Wd.heap.size, rfl, o4.mono b3.size, reads_blk1 (q3.below b4 q3.lt), b5⟩⟩
      · rintro vs w3 - ⟨v3, gg, rfl, o3, r3, b3⟩
        simp only [puts, Act.put, List.setIfInBounds_toArray, List.set_cons_zero, List.set_cons_succ]
        refine wpSeq_write rfl rfl ?_
        refine wp_append_bytes (.tmp 80) (.tmp 85) rfl Wd.heap.size v3 _ rfl o3 _ 1 1 [nh] rfl r3 (by have := txt_len_le bs; have := HNB.out; simp only [List.length_append]; omega) b3.size ?_
        intro v4 w4 o4 b4' g4
        have b4 := b3.trans b4'
        refine ⟨by first | exact SK _ b4 | exact fun _ => SK _ b4, ?_⟩
        try simp only [Act.put, List.setIfInBounds_toArray, List.set_cons_zero, List.set_cons_succ]
        repeat (refine wpSeq_read rfl rfl ⟨?_, fun w1 hS => ?_, ?_⟩; rotate_left; (focus (rw [HS.out] at hS; go_split_ands; go_simp; (try go_bits); try rfl)); simp only [Act.put, List.setIfInBounds_toArray, List.set_cons_zero, List.set_cons_succ])
        refine wpSeq_nil ?_
        obtain ⟨X4, hX4⟩ : ∃ x, x = X2 ++ txt bs ++ [nh] := ⟨_, rfl⟩
        rw [← hX4] at o4
        have lX4 : X4.length ≤ 65547 := by
          rw [hX4]
          have := txt_len_le bs
          have := HNB.out
          simp only [List.length_append, List.length_cons, List.length_nil]
          omega
        have HX4 := Lib.hid hX4
        have O4 := Lib.hid (o4.mono (show w1.heap.size ≤ Wd.heap.size by omega))
        have B4 := Lib.hid (BD.out.trans (b4.mono szd))
        clear SK e2 e3 rd rb o3 r3 b3 o4 b4' b4 g4 hX4 HS RD2 O2 B2 BD g2
        have gW : ∀ w', Below w1.heap.size w1 w' → w.heap.size < w'.heap.size := fun w' hb => by have := hb.size; omega
        have GW := Lib.hid gW
        clear gW
        go_wp2_with fail
        go_loopw [6, 7] (fun b i wr => ∃ k : Nat, k ≤ nh ∧ i = .int .i64 k ∧ Hid (OwnB wr w1.heap.size b (X4 ++ (hs.take k).flatten)) ∧ Hid (Below w1.heap.size w1 wr)) (fun _ i _ => nh - (intOf i).toNat)
        case atStart => exact ⟨0, by omega, rfl, by simpa using O4, B4⟩
        case round =>
          clear O4 B4
          obtain ⟨k, hk, rfl, hown, hbe⟩ := hrel
          obtain ⟨Av, nv, cv', rfl, -, -, rdv⟩ := hown.out.sl
          have szr := hbe.out.size
          have szw := GW.out _ hbe.out
          have tr := T0.out.below hbe.out gN
          have c0 := (tr.cell 0).trans DA0.out
          have c1 := (tr.cell 1).trans DA1.out
          have c2 := (tr.cell 2).trans DA2.out
          have c3 := (tr.cell 3).trans DA3.out
          have c4 := (tr.cell 4).trans DA4.out
          have c5 := (tr.cell 5).trans DA5.out
          have c73 := (tr.cell 73).trans DA73.out
          clear c0 c1 c2 c4 c5 c73
          by_cases hlt : k < nh
          · have q : (k : Int) < nh := by omega
            obtain ⟨d, hd⟩ : ∃ d, hs[k]? = some d := ⟨_, List.getElem?_eq_getElem (by rw [HNH.out]; exact hlt)⟩
            have hdm := List.mem_of_getElem? hd
            have hdl := (HOK.out d hdm).1
            obtain ⟨b, o, rfl, hab, hcell⟩ := (RH0.out.below hbe.out).mid (by omega) (by omega)
            have hbw : b < wr.heap.size := by omega
            have HRD := Lib.hid (show Reads wr wr.heap.size 1 (some ⟨b, o + k * 32, none⟩) 32 (byv d) from by
              refine ⟨by rw [byv_length, hdl], fun _ => ⟨_, rfl, hbw, fun j u hu => ?_⟩⟩
              rw [Addr.add_mid]
              have := hcell _ u (digv_at hs (fun x hx => (HOK.out x hx).1) k d hd j u hu)
              rwa [← Nat.add_assoc] at this)
            have LXK := Lib.hid (flat_len hs k (fun x hx => (HOK.out x hx).1))
            have HD := Lib.hid hd
            clear hd hdm hdl hcell rdv
            go_wp2_with (at_builtin; refine append_bytes rfl (.tmp 94) (.tmp 99) rfl w1.heap.size _ _ rfl hown.out _ 32 32 d rfl HRD.out (by rw [List.length_append, LXK.out]; omega) szr ?_)
            intro v5 w5 o5 b5 g5
            have OW := Lib.hid (show OwnB w5 w1.heap.size v5 (X4 ++ (hs.take (k + 1)).flatten) by
              rw [List.take_add_one, HD.out]
              simpa [List.append_assoc] using o5)
            have BW := Lib.hid (hbe.out.trans b5)
            clear o5 b5 g5 hown hbe tr HRD c3
            go_wp2
            go_roundw
            case rel => exact ⟨k + 1, by omega, by go_num, OW, BW⟩
            case measure => simp [intOf]; omega
          · obtain rfl : nh = k := by omega
            have hfl : hs.take nh = hs := List.take_of_length_le (by rw [HNH.out]; exact Nat.le_refl _)
            have lf := flat_len hs nh (fun x hx => (HOK.out x hx).1)
            rw [hfl] at hown lf
            rw [Nat.min_eq_left (by rw [HNH.out]; exact Nat.le_refl _)] at lf
            obtain ⟨X5, hX5⟩ : ∃ x, x = X4 ++ hs.flatten := ⟨_, rfl⟩
            rw [← hX5] at hown
            have lX5 : X5.length ≤ 74000 := by rw [hX5, List.length_append, lf]; omega
            have HX5 := Lib.hid hX5
            have RS := Lib.hid (rangeAt_blk tr 4 S DH.out)
            obtain ⟨Z0, hZ0⟩ : ∃ Z, hdv Hd.zero = Z := ⟨_, rfl⟩
            have kneq := KNEQ.out
            have hbz := built_signed
            rw [hZ0] at kneq hbz
            have BZ := Lib.hid hbz
            clear hX5 hfl lf hZ0 hbz RH0 HOK rdv
            go_upto_if 104 with (first
              | (refine load_mid_want rfl 55 (.tmp 101) rfl w.heap.size 4 rfl S _ RS.out Tryd.underlying55 rfl IS.out ?_)
              | (refine wpList_read rfl ⟨.agg Z0.toArray, run_built 55 _ rfl _ _ BZ.out (by simp [Act.eval]), ?_⟩))
            clear kneq c3 tr
            obtain ⟨f1', hf1⟩ : ∃ f1 : Nat, Hid (f1 = if zh then 0 else 1) := ⟨_, rfl⟩
            go_cut [8] (fun s8 wx => s8 = .int .i64 f1' ∧ wx = wr)
            case first =>
              cases zh <;> (have e1 := hf1.out; simp at e1; subst e1; go_wp2; go_meet; case rel => exact ⟨rfl, rfl⟩)
            case rest =>
              obtain ⟨rfl, rfl⟩ := hcut
              obtain ⟨wr, rfl⟩ : ∃ x, x = wc := ⟨_, rfl⟩
              have tr := T0.out.below hbe.out gN
              have RT := Lib.hid (rangeAt_blk tr 72 T DT.out)
              go_wp2_with (refine load_mid_want rfl 29 (.tmp 105) rfl w.heap.size 72 rfl T _ RT.out Tryd.underlying29 rfl IT.out ?_)
              refine (KNONE.out wr).mono ?_
              rintro e wa ⟨rfl, ba⟩
              have OA := Lib.hid (hown.out.kept ba)
              have BA := Lib.hid (hbe.out.trans (ba.mono szr))
              clear ba tr RS RT hown hbe szr szw
              go_upto_if 108 with (fail)
              obtain ⟨f, hf⟩ : ∃ f : Nat, f = (if zh then 0 else 1) + (if zt then 0 else 2) := ⟨_, rfl⟩
              have hf3 : f ≤ 3 := by rw [hf]; cases zh <;> cases zt <;> simp
              have HFE := Lib.hid hf
              clear hf
              go_cut [8] (fun s8 wx => s8 = .int .i64 f ∧ wx = wa)
              case first =>
                cases zh <;> cases zt <;> (have e1 := hf1.out; have e2 := HFE.out; simp at e1 e2; subst e1; subst e2; go_wp2; go_meet; case rel => exact ⟨rfl, rfl⟩)
              case rest =>
                obtain ⟨rfl, rfl⟩ := hcut
                obtain ⟨wa, rfl⟩ : ∃ x, x = wc := ⟨_, rfl⟩
                have g3 : IntKind.u8.wrap (f : Int) = f := IntWalk.u8_in _ (by omega)
                have sza := BA.out.size
                go_wp2_with (at_builtin; refine append_bytes rfl (.tmp 111) (.tmp 114) rfl w1.heap.size _ _ rfl (OA.out.alloc _) _ 1 1 [f] rfl (reads_one wa f) (by omega) (by rw [alloc_size]; omega) ?_)
                intro v6 wb ob bb gb
                obtain ⟨X6, hX6⟩ : ∃ x, x = X5 ++ [f] := ⟨_, rfl⟩
                rw [← hX6] at ob
                have lX6 : X6.length ≤ 74001 := by rw [hX6, List.length_append]; simp; omega
                have HX6 := Lib.hid hX6
                have OB := Lib.hid ob
                have BB := Lib.hid ((BA.out.alloc BA.out.size (.cells #[.int .u8 (f : Int)] 5)).trans bb)
                obtain ⟨A6, n6, c6, rfl, -, -, rd6⟩ := ob.sl
                clear hX6 ob bb gb rd6 OA BA sza g3
                go_upto_region 20 with (fail)
                go_cut [118] (fun s wx => s = .bool (!zh) ∧ wx = wb)
                case first =>
                  cases zh <;> cases zt <;> (have e2 := HFE.out; simp at e2; subst e2; go_wp2; go_meet; case rel => exact ⟨rfl, rfl⟩)
                case rest =>
                  obtain ⟨rfl, rfl⟩ := hcut
                  obtain ⟨wb, rfl⟩ : ∃ x, x = wc := ⟨_, rfl⟩
                  go_upto_if 118 with (fail)
                  obtain ⟨HB1, hHB1⟩ : ∃ x, x = (if zh then [] else hdB R.hd) := ⟨_, rfl⟩
                  have HHB1 := Lib.hid hHB1
                  clear hHB1
                  go_cut [6] (fun s6 wx => ∃ (A : Option Addr) (n c : Nat), s6 = .slice A n c ∧ Hid (OwnB wx w1.heap.size (.slice A n c) (X6 ++ HB1)) ∧ Hid (Below w1.heap.size w1 wx))
                  case first =>
                    cases zh with
                    | true =>
                      have e : HB1 = [] := HHB1.out
                      subst e
                      go_wp2
                      go_meet
                      case rel => exact ⟨_, _, _, rfl, by simpa using OB, BB⟩
                    | false =>
                      have e : HB1 = hdB R.hd := HHB1.out
                      have tb' := T0.out.below BB.out gN
                      have RS := Lib.hid (rangeAt_blk tb' 4 S DH.out)
                      have rd6 := OwnB.readsOf OB.out
                      go_wp2_with (refine load_mid_want rfl 55 (.tmp 120) rfl w.heap.size 4 rfl S _ RS.out Tryd.underlying55 rfl IS.out ?_)
                      refine (KHEAD.out _ _ _ X6 wb HKT.out.1 HKT.out.2 rd6 (by omega)).mono ?_
                      rintro e wd ⟨vd, rfl, od, bd⟩
                      obtain ⟨A7, n7, c7, rfl, -, -, -⟩ := od.sl
                      have OD := Lib.hid (show OwnB wd w1.heap.size (.slice A7 n7 c7) (X6 ++ HB1) by rw [HHB1.out]; exact od.mono BB.out.size)
                      have BD := Lib.hid (BB.out.trans (bd.mono BB.out.size))
                      clear od bd rd6
                      go_wp2
                      go_meet
                      case rel => exact ⟨_, _, _, rfl, OD, BD⟩
                  case rest =>
                    obtain ⟨A7, n7, c7, rfl, OC, BC⟩ := hcut
                    obtain ⟨wd, rfl⟩ : ∃ x, x = wc := ⟨_, rfl⟩
                    clear OB BB
                    have lHB1 : HB1.length ≤ 85 := by
                      rw [HHB1.out]
                      split
                      · simp
                      · exact lHB
                    go_upto_region 22 with (fail)
                    go_cut [124] (fun s wx => s = .bool (!zt) ∧ wx = wd)
                    case first =>
                      cases zh <;> cases zt <;> (have e2 := HFE.out; simp at e2; subst e2; go_wp2; go_meet; case rel => exact ⟨rfl, rfl⟩)
                    case rest =>
                      obtain ⟨rfl, rfl⟩ := hcut
                      obtain ⟨wd, rfl⟩ : ∃ x, x = wc := ⟨_, rfl⟩
                      go_upto_if 124 with (fail)
                      obtain ⟨TB1, hTB1⟩ : ∃ x, x = (if zt then [] else txt tb) := ⟨_, rfl⟩
                      have HTB1 := Lib.hid hTB1
                      clear hTB1
                      go_cut [6] (fun s6 wx => ∃ (A : Option Addr) (n c : Nat), s6 = .slice A n c ∧ Hid (OwnB wx w1.heap.size (.slice A n c) (X6 ++ HB1 ++ TB1)) ∧ Hid (Below w1.heap.size w1 wx))
                      case first =>
                        cases zt with
                        | true =>
                          have e : TB1 = [] := HTB1.out
                          subst e
                          go_wp2
                          go_meet
                          case rel => exact ⟨_, _, _, rfl, by simpa using OC, BC⟩
                        | false =>
                          have e : TB1 = txt tb := HTB1.out
                          subst e
                          have rd7 := OwnB.readsOf OC.out
                          have BTD := Lib.hid (RT1.out.call BC.out)
                          go_wp2_with fail
                          refine (ref2_bytes _ At _ nt _ ct (X6 ++ HB1) tb wd rd7 BTD.out (by rw [List.length_append]; omega) nct mct).mono ?_
                          rintro e we ⟨ve, rfl, oe, be⟩
                          obtain ⟨A8, n8, c8, rfl, -, -, -⟩ := oe.sl
                          have OE := Lib.hid (oe.mono BC.out.size)
                          have BE := Lib.hid (BC.out.trans (be.mono BC.out.size))
                          clear oe be rd7
                          go_wp2
                          go_meet
                          case rel => exact ⟨_, _, _, rfl, OE, BE⟩
                      case rest =>
                        obtain ⟨A8, n8, c8, rfl, OE, BE⟩ := hcut
                        obtain ⟨we, rfl⟩ : ∃ x, x = wc := ⟨_, rfl⟩
                        clear OC BC
                        have hAB : X6 ++ HB1 ++ TB1 = ansB R := by
                          rw [HAB.out, HX6.out, HX5.out, HX4.out, HX2.out, HFL.out, ← HFE.out, HHB1.out, HTB1.out, Int.toNat_natCast, be_one ky, be_one nh, be_one f, Nat.mod_eq_of_lt (by omega), Nat.mod_eq_of_lt (by omega), Nat.mod_eq_of_lt (by omega)]
                          simp only [List.append_assoc]
                        have HO := Lib.hid (show OwnB we w.heap.size (.slice A8 n8 c8) (ansB R) by rw [← hAB]; exact OE.out.mono (by omega))
                        have HBF := Lib.hid (B0.out.trans (BE.out.mono B0.out.size))
                        clear hAB OE BE
                        go_wp2
                        go_ret2
                        exact ⟨_, by rw [HX.out]; rfl, by rw [HX.out]; exact HO.out, HBF.out⟩

end Go.Proofs.YtbkdccamimakoaaDoor
