/-
  request.Answer.
-/
import Derived.Test.YtbkdccamimakoaaDoorAns
namespace Go.Proofs.YtbkdccamimakoaaDoor
open Go.RowKit
set_option linter.unusedVariables false
set_option maxRecDepth 100000









theorem flat_len : ∀ (l : List (List Nat)) (k : Nat), (∀ d ∈ l, d.length = 32) → (l.take k).flatten.length = min k l.length * 32
  | [], k, _ => by simp
  | d :: l, 0, _ => by simp
  | d :: l, k + 1, h => by
    rw [List.take_succ_cons, List.flatten_cons, List.length_append, flat_len l k (fun x hx => h x (List.mem_cons_of_mem _ hx)), h d (by simp), List.length_cons]
    omega

set_option maxHeartbeats 8000000 in
theorem request_answer (R : Rsp) (Ab : Option Addr) (cb : Nat) (Ah : Option Addr) (ch : Nat) (Ac : Option Addr) (cc : Nat) (w : World) (hR : R.Ok)
    (hrb : Reads w w.heap.size 1 Ab R.bytes.length (byv R.bytes)) (hbc : R.bytes.length ≤ cb) (hbm : cb ≤ maxLen)
    (hrh : Reads w w.heap.size 32 Ah R.hashes.length (digv R.hashes)) (hhc : R.hashes.length ≤ ch) (hhm : ch ≤ maxLen)
    (hrc : Reads w w.heap.size 2 Ac R.tok.2.1.length (cavv R.tok.2.1)) (hcc : R.tok.2.1.length ≤ cc) (hcm : cc ≤ maxLen) :
    Calls Tryd.prog 18 #[.agg (rspv R (.slice Ab R.bytes.length cb) (.slice Ah R.hashes.length ch) (.slice Ac R.tok.2.1.length cc)).toArray] w fun e w' => ∃ v, e = .returned (.tuple #[v, .int .i64 ((ansRes R).1 : Int)]) ∧ OwnB w' w.heap.size v (ansRes R).2 ∧ Below w.heap.size w w' := by
  have kenc := fun w' h => token_encode R.tok.1 R.tok.2.1 Ac cc R.tok.2.2 w' h hcc hcm hR.tok.1 hR.tok.2.1 hR.tok.2.2.1
  have knone := fun w' => request_none R.tok.1 Ac R.tok.2.1.length cc R.tok.2.2 w' hR.tok.2.2.1 hR.tok.2.2.2
  have kneq := fun w' => run_neq_signed w' R.hd Hd.zero hR.hd Hd.zero_Ok
  have tl := tokRes_len R.tok.1 R.tok.2.1 R.tok.2.2 hR.tok.2.2.1
  have d0 : (rspv R (.slice Ab R.bytes.length cb) (.slice Ah R.hashes.length ch) (.slice Ac R.tok.2.1.length cc))[0]? = some (.int .i64 R.why) := rfl
  have d1 : (rspv R (.slice Ab R.bytes.length cb) (.slice Ah R.hashes.length ch) (.slice Ac R.tok.2.1.length cc))[1]? = some (.int .u64 (R.n : Int)) := rfl
  have d2 : (rspv R (.slice Ab R.bytes.length cb) (.slice Ah R.hashes.length ch) (.slice Ac R.tok.2.1.length cc))[2]? = some (.slice Ab R.bytes.length cb) := rfl
  have d3 : (rspv R (.slice Ab R.bytes.length cb) (.slice Ah R.hashes.length ch) (.slice Ac R.tok.2.1.length cc))[3]? = some (.slice Ah R.hashes.length ch) := rfl
  have dh := rspv_hd R (.slice Ab R.bytes.length cb) (.slice Ah R.hashes.length ch) (.slice Ac R.tok.2.1.length cc) hR
  have dt := rspv_tok R (.slice Ab R.bytes.length cb) (.slice Ah R.hashes.length ch) (.slice Ac R.tok.2.1.length cc) hR
  have lT := tokv_len R.tok.1 (.slice Ac R.tok.2.1.length cc) R.tok.2.2 hR.tok.2.2.1
  have lS := hdv_len R.hd hR.hd
  have lH := headv_len R.hd hR.hd.rootl
  have hh : ∀ j u, (headv R.hd)[j]? = some u → (hdv R.hd)[j]? = some u := fun j u hu => by rw [hdv_split]; exact getElem?_pre j u hu
  have hg : ∀ j u, (byv R.hd.tag)[j]? = some u → (hdv R.hd)[36 + j]? = some u := fun j u hu => by rw [hdv_split]; exact getElem?_post 36 lH j u hu
  have hq : ∀ j u, (byv R.hd.root)[j]? = some u → (headv R.hd)[4 + j]? = some u := fun j u hu => by
    rw [show 4 + j = j + 1 + 1 + 1 + 1 from by omega]
    exact hu
  have oneH := headv_one R.hd
  have e0 : (headv R.hd)[0]? = some (.int .i64 R.hd.tree) := rfl
  have e1 : (headv R.hd)[1]? = some (.int .i64 R.hd.epoch) := rfl
  have e2 : (headv R.hd)[2]? = some (.int .u64 (R.hd.size : Int)) := rfl
  have e3 : (headv R.hd)[3]? = some (.int .u64 (R.hd.clock : Int)) := rfl
  have gR : (byv R.hd.root).length = 32 := by rw [byv_length, hR.hd.rootl]
  have gT : (byv R.hd.tag).length = 32 := by rw [byv_length, hR.hd.tagl]
  have hans : ansRes R = if 255 < R.hashes.length ∨ (tokRes R.tok.1 R.tok.2.1 R.tok.2.2).1 = 4 then (4, []) else if 65536 ≤ R.bytes.length then (3, []) else if R.fits = true ∧ (tokRes R.tok.1 R.tok.2.1 R.tok.2.2).1 = 0 then (0, ansB R) else (1, []) := rfl
  have hab : ansB R = be R.why.toNat 1 ++ (be R.n 8 ++ (txt R.bytes ++ (be R.hashes.length 1 ++ (R.hashes.flatten ++ (be (flagsOf R) 1 ++ ((if R.hd = Hd.zero then [] else hdB R.hd) ++ (if R.tok = zeroTok then [] else txt (tokRes R.tok.1 R.tok.2.1 R.tok.2.2).2))))))) := rfl
  have hfl : flagsOf R = (if R.hd = Hd.zero then 0 else 1) + (if R.tok = zeroTok then 0 else 2) := rfl
  have hhB : hdB R.hd = be R.hd.tree.toNat 1 ++ (be R.hd.epoch.toNat 4 ++ (be R.hd.size 8 ++ (be R.hd.clock 8 ++ (R.hd.root ++ R.hd.tag)))) := rfl
  have hft : R.fits = (decide (0 ≤ R.why ∧ R.why ≤ 255) && decide (0 ≤ R.hd.tree ∧ R.hd.tree ≤ 255) && decide (0 ≤ R.hd.epoch ∧ R.hd.epoch ≤ 2147483647)) := rfl
  have hzt : (R.tok.1 = 0 ∧ R.tok.2.1.length = 0 ∧ R.tok.2.2 = List.replicate 32 0) ↔ R.tok = zeroTok := by
    obtain ⟨a, b, c⟩ := R.tok
    simp [zeroTok, List.length_eq_zero_iff]
  have knone : ∀ w', Calls Tryd.prog 47 #[.agg (tokv R.tok.1 (.slice Ac R.tok.2.1.length cc) R.tok.2.2).toArray] w' fun e w'' => e = .returned (.bool (decide (R.tok = zeroTok))) ∧ Below w'.heap.size w' w'' := fun w' => by
    have := knone w'
    simp only [hzt] at this
    exact this
  have hn64 := hR.n
  have hs64 := hR.hd.size
  have hc64 := hR.hd.clock
  have hok := hR.hashes
  obtain ⟨L, hL⟩ : ∃ L, rspv R (.slice Ab R.bytes.length cb) (.slice Ah R.hashes.length ch) (.slice Ac R.tok.2.1.length cc) = L := ⟨_, rfl⟩
  rw [hL] at d0 d1 d2 d3 dh dt ⊢
  obtain ⟨T, hT⟩ : ∃ T, tokv R.tok.1 (.slice Ac R.tok.2.1.length cc) R.tok.2.2 = T := ⟨_, rfl⟩
  rw [hT] at dt lT
  simp only [hT] at kenc knone
  obtain ⟨S, hS⟩ : ∃ S, hdv R.hd = S := ⟨_, rfl⟩
  rw [hS] at dh hh hg lS
  simp only [hS] at kneq
  obtain ⟨H, hH⟩ : ∃ H, headv R.hd = H := ⟨_, rfl⟩
  rw [hH] at hh hq lH oneH e0 e1 e2 e3
  obtain ⟨y, hy⟩ : ∃ y, R.why = y := ⟨_, rfl⟩
  obtain ⟨ny, hny⟩ : ∃ y, R.n = y := ⟨_, rfl⟩
  obtain ⟨kt, hkt⟩ : ∃ y, R.hd.tree = y := ⟨_, rfl⟩
  obtain ⟨ke, hke⟩ : ∃ y, R.hd.epoch = y := ⟨_, rfl⟩
  obtain ⟨ks, hks⟩ : ∃ y, R.hd.size = y := ⟨_, rfl⟩
  obtain ⟨kc, hkc⟩ : ∃ y, R.hd.clock = y := ⟨_, rfl⟩
  obtain ⟨rt, hrt⟩ : ∃ y, R.hd.root = y := ⟨_, rfl⟩
  obtain ⟨tg, htg⟩ : ∃ y, R.hd.tag = y := ⟨_, rfl⟩
  obtain ⟨bs, hbs⟩ : ∃ y, R.bytes = y := ⟨_, rfl⟩
  obtain ⟨hs, hhs⟩ : ∃ y, R.hashes = y := ⟨_, rfl⟩
  obtain ⟨nb, hnb⟩ : ∃ y, R.bytes.length = y := ⟨_, rfl⟩
  obtain ⟨nh, hnh⟩ : ∃ y, R.hashes.length = y := ⟨_, rfl⟩
  obtain ⟨nc, hnc⟩ : ∃ y, R.tok.2.1.length = y := ⟨_, rfl⟩
  obtain ⟨zh, hzh⟩ : ∃ y, decide (R.hd = Hd.zero) = y := ⟨_, rfl⟩
  obtain ⟨zt, hzt2⟩ : ∃ y, decide (R.tok = zeroTok) = y := ⟨_, rfl⟩
  obtain ⟨cv, hcv⟩ : ∃ y, R.tok.2.1 = y := ⟨_, rfl⟩
  obtain ⟨⟨tw, tb⟩, htr⟩ : ∃ y, tokRes R.tok.1 R.tok.2.1 R.tok.2.2 = y := ⟨_, rfl⟩
  have ezh : (if R.hd = Hd.zero then 0 else 1) = (if zh then 0 else 1) := by rw [← hzh]; simp
  have ezt : (if R.tok = zeroTok then 0 else 2) = (if zt then 0 else 2) := by rw [← hzt2]; simp
  have ezh2 : (if R.hd = Hd.zero then [] else hdB R.hd) = (if zh then [] else hdB R.hd) := by rw [← hzh]; simp
  have ezt2 : (if R.tok = zeroTok then [] else txt (tokRes R.tok.1 R.tok.2.1 R.tok.2.2).2) = (if zt then [] else txt (tokRes R.tok.1 R.tok.2.1 R.tok.2.2).2) := by rw [← hzt2]; simp
  rw [ezh2, ezt2] at hab
  rw [ezh, ezt] at hfl
  simp only [hzh] at kneq
  simp only [hzt2] at knone
  rw [htr] at tl hans
  simp only [htr] at kenc hab
  rw [hnb] at hans hbc hrb
  rw [hnh] at hans hrh hhc hab
  rw [hnc, hcv] at hrc
  rw [hnc] at hcc
  simp only [hnc] at kenc
  simp only [hcv] at kenc
  rw [hnb] at d2
  rw [hnh] at d3
  rw [hy] at d0 hft hab
  rw [hny] at d1 hab hn64
  rw [hkt] at e0 hft hhB
  rw [hke] at e1 hft hhB
  rw [hks] at e2 hhB hs64
  rw [hkc] at e3 hhB hc64
  rw [hrt] at hq gR hhB
  rw [htg] at hg gT hhB
  rw [hbs] at hrb hab
  rw [hhs] at hrh hab hok
  have hnb' : bs.length = nb := by rw [← hbs]; exact hnb
  have hnh' : hs.length = nh := by rw [← hhs]; exact hnh
  have lrt : rt.length = 32 := by rw [← hrt]; exact hR.hd.rootl
  have ltg : tg.length = 32 := by rw [← htg]; exact hR.hd.tagl
  dsimp only at tl kenc hans hab
  have lt60 : tb.length ≤ 60 := tl
  have KENC := Lib.hid kenc
  have KNONE := Lib.hid knone
  have KNEQ := Lib.hid kneq
  have D0 := Lib.hid d0
  have D1 := Lib.hid d1
  have D2 := Lib.hid d2
  have D3 := Lib.hid d3
  have DH := Lib.hid dh
  have DT := Lib.hid dt
  have IT := Lib.hid (show (Tryd.prog.info? 29).map (·.size) = some T.length by rw [lT]; exact Tryd.tok_info)
  have IS := Lib.hid (show (Tryd.prog.info? 55).map (·.size) = some S.length by rw [lS]; exact Tryd.sig_info)
  have IH := Lib.hid (show (Tryd.prog.info? 53).map (·.size) = some H.length by rw [lH]; exact Tryd.hd_info)
  have IH' := Lib.hid (show (Tryd.prog.info? 53).map (·.size) = some H.toArray.size by rw [List.size_toArray, lH]; exact Tryd.hd_info)
  have LH := Lib.hid lH
  have OH := Lib.hid oneH
  have IR := Lib.hid (show (Tryd.prog.info? 27).map (·.size) = some (byv rt).length by rw [gR]; exact Tryd.digest_info)
  have IG := Lib.hid (show (Tryd.prog.info? 27).map (·.size) = some (byv tg).length by rw [gT]; exact Tryd.digest_info)
  have HH := Lib.hid hh
  have HG := Lib.hid hg
  have HQ := Lib.hid hq
  have E0 := Lib.hid e0
  have E1 := Lib.hid e1
  have E2 := Lib.hid e2
  have E3 := Lib.hid e3
  have HANS := Lib.hid hans
  have HAB := Lib.hid hab
  have HFL := Lib.hid hfl
  have HHB := Lib.hid hhB
  have HFT := Lib.hid hft
  have HOK := Lib.hid hok
  have HNB := Lib.hid hnb'
  have HNH := Lib.hid hnh'
  have LRT := Lib.hid lrt
  have LTG := Lib.hid ltg
  have HRB := Lib.hid hrb
  have HRH := Lib.hid hrh
  have HRC := Lib.hid hrc
  clear kenc knone kneq d0 d1 d2 d3 dh dt lT lS oneH gR gT hh hg hq e0 e1 e2 e3 hans hab hfl hhB hft hok hnb' hnh' lrt ltg hrb hrh hrc hL hT hS hH hy hny hkt hke hks hkc hrt htg hbs hhs hnb hnh hnc hzh hzt2 hcv htr hzt ezh ezt ezh2 ezt2 tl lH
  unfold maxLen at hbm hhm hcm
  have t0 : Blk (w.alloc (.cells L.toArray 57)) w.heap.size 57 L.toArray := Blk.new w _ _
  have B0 := Lib.hid (show Below w.heap.size w (w.alloc (.cells L.toArray 57)) from below_new (Below.refl _ _) _)
  have T0 := Lib.hid t0
  have RGT := Lib.hid (rangeAt_blk t0 72 T DT.out)
  have RC0 := Lib.hid (HRC.out.laid (.cells L.toArray 57))
  clear t0
  obtain ⟨W0, hW0⟩ : ∃ x, x = w.alloc (.cells L.toArray 57) := ⟨_, rfl⟩
  rw [← hW0] at B0 T0 RGT RC0
  have HW0 := Lib.hid hW0
  clear hW0
  go_enter Tryd.func18, Tryd.ntmps18
  go_upto_region 1 with (fail)
  rw [← HW0.out]
  go_wp2_with (refine load_mid_want rfl 29 (.tmp 12) rfl w.heap.size 72 rfl T _ RGT.out Tryd.underlying29 rfl IT.out ?_)
  refine (KENC.out W0 RC0.out).mono ?_
  rintro e w1 ⟨v1, rfl, own1, b1⟩
  have own1 : OwnB w1 W0.heap.size v1 tb := own1
  have b1' := B0.out.trans (b1.mono B0.out.size)
  have t1 := T0.out.below b1 T0.out.lt
  have rg1 := Lib.hid (rangeAt_blk t1 4 H (fun j u hu => DH.out j u (HH.out j u hu)))
  have Z1 := Lib.hid (Blk.new w1 53 #[.int .i64 0, .int .i64 0, .int .u64 0, .int .u64 0, .int .u8 0, .int .u8 0, .int .u8 0, .int .u8 0, .int .u8 0, .int .u8 0, .int .u8 0, .int .u8 0, .int .u8 0, .int .u8 0, .int .u8 0, .int .u8 0, .int .u8 0, .int .u8 0, .int .u8 0, .int .u8 0, .int .u8 0, .int .u8 0, .int .u8 0, .int .u8 0, .int .u8 0, .int .u8 0, .int .u8 0, .int .u8 0, .int .u8 0, .int .u8 0, .int .u8 0, .int .u8 0, .int .u8 0, .int .u8 0, .int .u8 0, .int .u8 0])
  have hgw : w.heap.size < w1.heap.size := t1.lt
  have T1 := Lib.hid t1
  have B1 := Lib.hid b1'
  have OWN1 := Lib.hid own1
  clear t1 b1' own1 RGT RC0 T0 B0 HW0 b1
  go_upto_region 3 with (first
    | (refine load_mid_want rfl 53 (.tmp 18) rfl w.heap.size 4 rfl H _ rg1.out Tryd.underlying53 rfl IH.out ?_)
    | (refine wpList_store_row rfl 53 (.tmp 6) (.tmp 19) rfl w1.heap.size H.toArray rfl rfl 53 _ Z1.out IH'.out (by simp [LH.out]) (all_oneCell_toArray OH.out) ?_))
  obtain ⟨w4, h4⟩ : ∃ x, x = (w1.alloc (.cells #[.int .i64 0, .int .i64 0, .int .u64 0, .int .u64 0, .int .u8 0, .int .u8 0, .int .u8 0, .int .u8 0, .int .u8 0, .int .u8 0, .int .u8 0, .int .u8 0, .int .u8 0, .int .u8 0, .int .u8 0, .int .u8 0, .int .u8 0, .int .u8 0, .int .u8 0, .int .u8 0, .int .u8 0, .int .u8 0, .int .u8 0, .int .u8 0, .int .u8 0, .int .u8 0, .int .u8 0, .int .u8 0, .int .u8 0, .int .u8 0, .int .u8 0, .int .u8 0, .int .u8 0, .int .u8 0, .int .u8 0, .int .u8 0] 53)).setRow w1.heap.size H.toArray := ⟨_, rfl⟩
  rw [← h4]
  have u4 : Blk w4 w1.heap.size 53 H.toArray := by rw [h4]; exact Z1.out.setRow _
  have b4 : Below w1.heap.size w1 w4 := by rw [h4]; exact below_setRow ((Below.refl _ _).alloc (Nat.le_refl _) _) (Nat.le_refl _) _
  have B4 := Lib.hid (B1.out.trans (b4.mono B1.out.size))
  have t4 := T1.out.below b4 T1.out.lt
  have own4 := OWN1.out.kept b4
  obtain ⟨At, nt, ct, rfl, nct, mct, rdt⟩ := own4.sl
  have hnt : tb.length = nt := reads_bytes_le rdt
  obtain ⟨gh, hgh⟩ : ∃ g, w1.heap.size = g := ⟨_, rfl⟩
  rw [hgh] at u4 hgw ⊢
  have U4 := Lib.hid u4
  have U4lt := Lib.hid u4.lt
  have T4 := Lib.hid t4
  have T4lt := Lib.hid t4.lt
  have RT4 := Lib.hid rdt
  have HNT := Lib.hid hnt
  have RB4 := Lib.hid (HRB.out.call B4.out)
  have RH4 := Lib.hid (HRH.out.call B4.out)
  have c0 := (t4.cell 0).trans (show L.toArray[0]? = some (.int .i64 y) by simpa using D0.out)
  have c2 := (t4.cell 2).trans (show L.toArray[2]? = some (.slice Ab nb cb) by simpa using D2.out)
  have c3 := (t4.cell 3).trans (show L.toArray[3]? = some (.slice Ah nh ch) by simpa using D3.out)
  have h0 := (u4.cell 0).trans (show H.toArray[0]? = some (.int .i64 kt) by simpa using E0.out)
  have h1 := (u4.cell 1).trans (show H.toArray[1]? = some (.int .i64 ke) by simpa using E1.out)
  clear h4 b4 u4 t4 own4 rdt hnt hgh rg1 Z1 T1 B1 OWN1
  by_cases q1 : 255 < nh
  · have q : (255 : Int) < nh := by omega
    have HN : Hid (ansRes R = (4, [])) := by
      unfold Hid
      rw [HANS.out, if_pos (.inl q1)]
    go_wp2
    go_ret2
    exact ⟨_, by rw [HN.out]; rfl, by rw [HN.out]; exact OwnB.nil _ _, B4.out⟩
  have p1 : ¬ (255 : Int) < nh := by omega
  by_cases q2 : tw = 4
  · subst q2
    have HN : Hid (ansRes R = (4, [])) := by
      unfold Hid
      rw [HANS.out, if_pos (.inr rfl)]
    go_wp2
    go_ret2
    exact ⟨_, by rw [HN.out]; rfl, by rw [HN.out]; exact OwnB.nil _ _, B4.out⟩
  have p2 : ¬ (tw : Int) = 4 := by omega
  have A1 := Lib.hid (HANS.out.trans (if_neg (fun h => h.elim q1 q2)))
  clear HANS
  by_cases q3 : 65536 ≤ nb
  · have q : (65536 : Int) ≤ nb := by omega
    have HN : Hid (ansRes R = (3, [])) := by
      unfold Hid
      rw [A1.out, if_pos q3]
    go_wp2
    go_ret2
    exact ⟨_, by rw [HN.out]; rfl, by rw [HN.out]; exact OwnB.nil _ _, B4.out⟩
  have p3 : ¬ (65536 : Int) ≤ nb := by omega
  have A2 := Lib.hid (A1.out.trans (if_neg q3))
  clear A1
  by_cases q4 : 0 ≤ y ∧ y ≤ 255
  · by_cases q5 : 0 ≤ kt ∧ kt ≤ 255
    · by_cases q6 : ke < 0
      · have HN : Hid (ansRes R = (1, [])) := by
          unfold Hid
          rw [A2.out, if_neg]
          rw [HFT.out]
          simp
          omega
        go_wp2_with fail
        refine (request_byted _ _).mono ?_
        rintro e w' ⟨rfl, rfl⟩
        rw [decide_eq_true q4]
        go_wp2_with fail
        refine (request_byted _ _).mono ?_
        rintro e w' ⟨rfl, rfl⟩
        rw [decide_eq_true q5]
        go_wp2
        go_ret2
        exact ⟨_, by rw [HN.out]; rfl, by rw [HN.out]; exact OwnB.nil _ _, B4.out⟩
      · by_cases q7 : 2147483647 < ke
        · have HN : Hid (ansRes R = (1, [])) := by
            unfold Hid
            rw [A2.out, if_neg]
            rw [HFT.out]
            simp
            omega
          go_wp2_with fail
          refine (request_byted _ _).mono ?_
          rintro e w' ⟨rfl, rfl⟩
          rw [decide_eq_true q4]
          go_wp2_with fail
          refine (request_byted _ _).mono ?_
          rintro e w' ⟨rfl, rfl⟩
          rw [decide_eq_true q5]
          go_wp2
          go_ret2
          exact ⟨_, by rw [HN.out]; rfl, by rw [HN.out]; exact OwnB.nil _ _, B4.out⟩
        · by_cases q8 : tw = 0
          · subst q8
            have A3 := Lib.hid (A2.out.trans (if_pos ⟨by rw [HFT.out]; simp; omega, rfl⟩))
            have HX := Lib.hid (show ansRes R = (0, ansB R) from A3.out)
            clear A2 A3 HFT
            obtain ⟨ky, rfl⟩ : ∃ k : Nat, y = k := ⟨y.toNat, by omega⟩
            obtain ⟨lt, rfl⟩ : ∃ k : Nat, kt = k := ⟨kt.toNat, by omega⟩
            obtain ⟨le, rfl⟩ : ∃ k : Nat, ke = k := ⟨ke.toNat, by omega⟩
            have f1 : ky ≤ 255 := by omega
            have f2 : lt ≤ 255 := by omega
            have f3 : le ≤ 2147483647 := by omega
            have f4 : nh ≤ 255 := by omega
            have f5 : nb < 65536 := by omega
            go_wp2_with fail
            refine (request_byted _ _).mono ?_
            rintro e w' ⟨rfl, rfl⟩
            rw [decide_eq_true q4]
            go_wp2_with fail
            refine (request_byted _ _).mono ?_
            rintro e w' ⟨rfl, rfl⟩
            rw [decide_eq_true q5]
            clear q1 q2 q3 q4 q5 q6 q7 p1 p2 p3
            go_wp2_with fail
            refine (new_writer _).mono ?_
            rintro e w5 ⟨rfl, hw5, hb5⟩
            obtain ⟨G, hG⟩ : ∃ G, w4.heap.size = G := ⟨_, rfl⟩
            have gG1 : w.heap.size < G := by rw [← hG]; exact T4lt.out
            have gG2 : gh < G := by rw [← hG]; exact U4lt.out
            have gG3 : w.heap.size ≤ G := by omega
            have T4 : Hid (Blk w4 w.heap.size 57 L.toArray) := T4
            have T4lt : Hid (w.heap.size < G) := gG1
            have U4lt : Hid (gh < G) := gG2
            have RB4 := Lib.hid (hG ▸ RB4.out : Reads w4 G 1 Ab nb (byv bs))
            have RH4 := Lib.hid (hG ▸ RH4.out : Reads w4 G 32 Ah nh (digv hs))
            have RT4 := Lib.hid (hG ▸ RT4.out : Reads w4 G 1 At nt (byv tb))
            have hnt := HNT.out
            rw [hG] at hw5 hb5 ⊢
            clear hG c0 c2 c3 h0 h1
            have FB4 := Below.refl G w4
            have FB5 := FB4.trans hb5
            have t5 := T4.out.below FB5 T4lt.out
            have c0 := (t5.cell 0).trans (show L.toArray[0]? = some (.int .i64 (ky : Int)) by simpa using D0.out)
            have c1 := (t5.cell 1).trans (show L.toArray[1]? = some (.int .u64 (ny : Int)) by simpa using D1.out)
            have c2 := (t5.cell 2).trans (show L.toArray[2]? = some (.slice Ab nb cb) by simpa using D2.out)
            have c3 := (t5.cell 3).trans (show L.toArray[3]? = some (.slice Ah nh ch) by simpa using D3.out)
            go_wp2_with fail
            refine (writer_number G G ky 1 [] _ hw5 (by omega) (by first | omega | simp)).mono ?_
            rintro e w6 ⟨rfl, hww6, hbw6, -⟩
            rw [show sizeN 1 = 1 from rfl] at hww6
            obtain ⟨X1, hxX1⟩ : ∃ x, x = [] ++ be ky 1 := ⟨_, rfl⟩
            rw [← hxX1] at hww6
            have lxX1 : X1.length ≤ 1 := by rw [hxX1, List.length_append]; first | (rw [be_length]; omega) | (simp only [List.length_nil]; rw [be_length]; omega)
            have HXX1 := Lib.hid hxX1
            clear hxX1
            have hb6 := hbw6
            have FB6 := FB5.trans hb6
            have t6 := T4.out.below FB6 T4lt.out
            have c0 := (t6.cell 0).trans (show L.toArray[0]? = some (.int .i64 (ky : Int)) by simpa using D0.out)
            have c1 := (t6.cell 1).trans (show L.toArray[1]? = some (.int .u64 (ny : Int)) by simpa using D1.out)
            have c2 := (t6.cell 2).trans (show L.toArray[2]? = some (.slice Ab nb cb) by simpa using D2.out)
            have c3 := (t6.cell 3).trans (show L.toArray[3]? = some (.slice Ah nh ch) by simpa using D3.out)
            clear c0 c2 c3 hw5
            go_wp2_with fail
            refine (writer_number G G ny 8 X1 _ hww6 (by omega) (by first | omega | simp)).mono ?_
            rintro e w7 ⟨rfl, hww7, hbw7, -⟩
            rw [show sizeN 8 = 8 from rfl] at hww7
            obtain ⟨X2, hxX2⟩ : ∃ x, x = X1 ++ be ny 8 := ⟨_, rfl⟩
            rw [← hxX2] at hww7
            have lxX2 : X2.length ≤ 9 := by rw [hxX2, List.length_append]; first | (rw [be_length]; omega) | (simp only [List.length_nil]; rw [be_length]; omega)
            have HXX2 := Lib.hid hxX2
            clear hxX2
            have hb7 := hbw7
            clear c1
            have FB7 := FB6.trans hb7
            have t7 := T4.out.below FB7 T4lt.out
            have c0 := (t7.cell 0).trans (show L.toArray[0]? = some (.int .i64 (ky : Int)) by simpa using D0.out)
            have c1 := (t7.cell 1).trans (show L.toArray[1]? = some (.int .u64 (ny : Int)) by simpa using D1.out)
            have c2 := (t7.cell 2).trans (show L.toArray[2]? = some (.slice Ab nb cb) by simpa using D2.out)
            have c3 := (t7.cell 3).trans (show L.toArray[3]? = some (.slice Ah nh ch) by simpa using D3.out)
            clear c0 c1 c3 hww6
            go_wp2_with fail
            refine (writer_bytes G G X2 bs Ab nb cb _ hww7 (by omega) (RB4.out.below FB7) (by omega) (by unfold maxLen; omega)).mono ?_
            rintro e w8 ⟨rfl, hww8, hb8, -⟩
            obtain ⟨X3, hxX3⟩ : ∃ x, x = X2 ++ txt bs := ⟨_, rfl⟩
            rw [← hxX3] at hww8
            have lxX3 : X3.length ≤ 65546 := by rw [hxX3, List.length_append]; first | (have := txt_len_le bs; have := HNB.out; omega) | (simp only [List.length_nil]; have := txt_len_le bs; have := HNB.out; omega)
            have HXX3 := Lib.hid hxX3
            clear hxX3
            clear c2
            have FB8 := FB7.trans hb8
            have t8 := T4.out.below FB8 T4lt.out
            have c0 := (t8.cell 0).trans (show L.toArray[0]? = some (.int .i64 (ky : Int)) by simpa using D0.out)
            have c1 := (t8.cell 1).trans (show L.toArray[1]? = some (.int .u64 (ny : Int)) by simpa using D1.out)
            have c2 := (t8.cell 2).trans (show L.toArray[2]? = some (.slice Ab nb cb) by simpa using D2.out)
            have c3 := (t8.cell 3).trans (show L.toArray[3]? = some (.slice Ah nh ch) by simpa using D3.out)
            clear c0 c1 c2 hww7
            go_wp2_with fail
            refine (writer_number G G nh 1 X3 _ hww8 (by omega) (by first | omega | simp)).mono ?_
            rintro e w9 ⟨rfl, hww9, hbw9, -⟩
            rw [show sizeN 1 = 1 from rfl] at hww9
            obtain ⟨X4, hxX4⟩ : ∃ x, x = X3 ++ be nh 1 := ⟨_, rfl⟩
            rw [← hxX4] at hww9
            have lxX4 : X4.length ≤ 65547 := by rw [hxX4, List.length_append]; first | (rw [be_length]; omega) | (simp only [List.length_nil]; rw [be_length]; omega)
            have HXX4 := Lib.hid hxX4
            clear hxX4
            have hb9 := hbw9
            clear c3
            have FB9 := FB8.trans hb9
            have t9 := T4.out.below FB9 T4lt.out
            have c0 := (t9.cell 0).trans (show L.toArray[0]? = some (.int .i64 (ky : Int)) by simpa using D0.out)
            have c1 := (t9.cell 1).trans (show L.toArray[1]? = some (.int .u64 (ny : Int)) by simpa using D1.out)
            have c2 := (t9.cell 2).trans (show L.toArray[2]? = some (.slice Ab nb cb) by simpa using D2.out)
            have c3 := (t9.cell 3).trans (show L.toArray[3]? = some (.slice Ah nh ch) by simpa using D3.out)
            clear c0 c1 c2 hww8
            have X4E : Hid (X4 = be ky 1 ++ (be ny 8 ++ (txt bs ++ be nh 1))) := by
              unfold Hid
              rw [HXX4.out, HXX3.out, HXX2.out, HXX1.out]
              simp [List.append_assoc]
            have LX4 := lxX4
            have HF := Lib.hid FB9
            have HW9 := Lib.hid hww9
            clear FB4 FB5 FB6 FB7 FB8 hb5 hbw6 hb6 hbw7 hb7 hb8 hbw9 hb9 t5 t6 t7 t8 lxX1 lxX2 lxX3 lxX4 HXX1 HXX2 HXX3 HXX4 FB9 hww9 RB4
            go_wp2
            go_loopw [82] (fun i wr => ∃ k : Nat, k ≤ nh ∧ i = .int .i64 k ∧ Hid (Wri wr G G (X4 ++ (hs.take k).flatten)) ∧ Hid (Below G w4 wr)) (fun i _ => nh - (intOf i).toNat)
            case atStart => exact ⟨0, by omega, rfl, by simpa using HW9, HF⟩
            case round =>
              clear t9 c3 HF HW9
              obtain ⟨k, hk, rfl, hwr, hfr⟩ := hrel
              have tr := T4.out.below hfr.out T4lt.out
              have hlw : w.heap.size < wr.heap.size := by have := tr.lt; omega
              by_cases hlt : k < nh
              · have hx : ∃ d, hs[k]? = some d := ⟨_, List.getElem?_eq_getElem (by rw [HNH.out]; exact hlt)⟩
                obtain ⟨d, hd⟩ := hx
                have hdm := List.mem_of_getElem? hd
                have hdl := (HOK.out d hdm).1
                obtain ⟨b, o, rfl, hab, hcell⟩ := (RH4.out.below hfr.out).mid (by omega) (by omega)
                have RG := Lib.hid (show wr.rangeAt b (o + k * 32) (byv d) from fun j u hu => by
                  have := hcell _ u (digv_at hs (fun x hx => (HOK.out x hx).1) k d hd j u hu)
                  rwa [← Nat.add_assoc] at this)
                have m0 : wr.cell? ⟨b, o + k * 32, none⟩ = wr.cell? ⟨b, o + k * 32, none⟩ := rfl
                have ID := Lib.hid (show (Tryd.prog.info? 27).map (·.size) = some (byv d).length by rw [byv_length, hdl]; exact Tryd.digest_info)
                have ID' := Lib.hid (show (Tryd.prog.info? 27).map (·.size) = some (byv d).toArray.size by rw [List.size_toArray, byv_length, hdl]; exact Tryd.digest_info)
                have Zr := Lib.hid (Blk.new wr 27 #[.int .u8 0, .int .u8 0, .int .u8 0, .int .u8 0, .int .u8 0, .int .u8 0, .int .u8 0, .int .u8 0, .int .u8 0, .int .u8 0, .int .u8 0, .int .u8 0, .int .u8 0, .int .u8 0, .int .u8 0, .int .u8 0, .int .u8 0, .int .u8 0, .int .u8 0, .int .u8 0, .int .u8 0, .int .u8 0, .int .u8 0, .int .u8 0, .int .u8 0, .int .u8 0, .int .u8 0, .int .u8 0, .int .u8 0, .int .u8 0, .int .u8 0, .int .u8 0])
                have LD := Lib.hid (show (byv d).length = 32 by rw [byv_length, hdl])
                have hGr : G ≤ wr.heap.size := by
                  obtain ⟨v, hg, hB, -⟩ := hwr.out
                  have := hg.lt
                  omega
                have HD := Lib.hid hd
                have HDL := Lib.hid hdl
                have LXK := Lib.hid (flat_len hs k (fun x hx => (HOK.out x hx).1))
                clear m0 hcell hdm hd hdl hab
                go_upto_region 17 with (first
                  | (refine load_mid_want rfl 27 (.tmp 84) rfl b (o + k * 32) rfl (byv d) _ RG.out Tryd.underlying27 rfl ID.out ?_)
                  | (refine wpList_store_row rfl 27 (.tmp 9) (.tmp 85) rfl wr.heap.size (byv d).toArray rfl rfl 27 _ Zr.out ID'.out (by simp [LD.out]) (all_oneCell_toArray (byv_one d)) ?_))
                obtain ⟨ws, hs1⟩ : ∃ x, x = (wr.alloc (.cells #[.int .u8 0, .int .u8 0, .int .u8 0, .int .u8 0, .int .u8 0, .int .u8 0, .int .u8 0, .int .u8 0, .int .u8 0, .int .u8 0, .int .u8 0, .int .u8 0, .int .u8 0, .int .u8 0, .int .u8 0, .int .u8 0, .int .u8 0, .int .u8 0, .int .u8 0, .int .u8 0, .int .u8 0, .int .u8 0, .int .u8 0, .int .u8 0, .int .u8 0, .int .u8 0, .int .u8 0, .int .u8 0, .int .u8 0, .int .u8 0, .int .u8 0, .int .u8 0] 27)).setRow wr.heap.size (byv d).toArray := ⟨_, rfl⟩
                rw [← hs1]
                have us : Blk ws wr.heap.size 27 (byv d).toArray := by rw [hs1]; exact Zr.out.setRow _
                have bs1 : Below wr.heap.size wr ws := by rw [hs1]; exact below_setRow ((Below.refl _ _).alloc (Nat.le_refl _) _) (Nat.le_refl _) _
                have fs := hfr.out.trans (bs1.mono hGr)
                have HWS := Lib.hid (hwr.out.kept_call bs1)
                have RGS := Lib.hid (rangeAt_blk us 0 (byv d) (fun j u h => by simpa using h))
                have FS := Lib.hid fs
                clear hs1 us bs1 fs Zr RG hwr hfr tr
                go_wp2_with (refine load_mid_want rfl 27 (.tmp 9) rfl wr.heap.size 0 rfl (byv d) _ RGS.out Tryd.underlying27 rfl ID.out ?_)
                refine (writer_digest G G _ d ws HWS.out (by rw [List.length_append, LXK.out]; omega) HDL.out).mono ?_
                rintro e wt ⟨rfl, hwt, hbt, -⟩
                have HWT := Lib.hid (show Wri wt G G (X4 ++ (hs.take (k + 1)).flatten) by
                  rw [List.take_add_one, HD.out]
                  simpa [List.append_assoc] using hwt)
                have FT := Lib.hid (FS.out.trans hbt)
                clear hwt hbt FS HWS RGS
                go_wp2
                go_roundw
                case rel => exact ⟨k + 1, by omega, by go_num, HWT.out, FT.out⟩
                case measure => simp [intOf]; omega
              · obtain rfl : nh = k := by omega
                have hfl : hs.take nh = hs := List.take_of_length_le (by rw [HNH.out]; exact Nat.le_refl _)
                have lf := flat_len hs nh (fun x hx => (HOK.out x hx).1)
                rw [hfl] at hwr lf
                rw [Nat.min_eq_left (by rw [HNH.out]; exact Nat.le_refl _)] at lf
                obtain ⟨X5, hX5⟩ : ∃ x, x = X4 ++ hs.flatten := ⟨_, rfl⟩
                rw [← hX5] at hwr
                have lX5 : X5.length ≤ 74000 := by rw [hX5, List.length_append, lf]; omega
                have HX5 := Lib.hid hX5
                have RS := Lib.hid (rangeAt_blk tr 4 S DH.out)
                obtain ⟨Z0, hZ0⟩ : ∃ Z, hdv Hd.zero = Z := ⟨_, rfl⟩
                have kneq := KNEQ.out
                have hbz := built_signed
                rw [hZ0] at kneq hbz
                have BZ := Lib.hid hbz
                have GWr := hwr
                clear hX5 hfl lf hZ0 hbz RH4 HOK
                go_upto_if 93 with (first
                  | (refine load_mid_want rfl 55 (.tmp 90) rfl w.heap.size 4 rfl S _ RS.out Tryd.underlying55 rfl IS.out ?_)
                  | (refine wpList_read rfl ⟨.agg Z0.toArray, run_built 55 _ rfl _ _ BZ.out (by simp [Act.eval]), ?_⟩))
                clear kneq
                obtain ⟨f1, hf1⟩ : ∃ f1 : Nat, Hid (f1 = if zh then 0 else 1) := ⟨_, rfl⟩
                go_cut [10] (fun s10 wx => s10 = .int .i64 f1 ∧ wx = wr)
                case first =>
                  cases zh <;> (have e1 := hf1.out; simp at e1; subst e1; go_wp2; go_meet; case rel => exact ⟨rfl, rfl⟩)
                case rest =>
                  obtain ⟨rfl, rfl⟩ := hcut
                  obtain ⟨wr, rfl⟩ : ∃ x, x = wc := ⟨_, rfl⟩
                  have RT := Lib.hid (rangeAt_blk tr 72 T DT.out)
                  go_wp2_with (refine load_mid_want rfl 29 (.tmp 96) rfl w.heap.size 72 rfl T _ RT.out Tryd.underlying29 rfl IT.out ?_)
                  refine (KNONE.out wr).mono ?_
                  rintro e wa ⟨rfl, ba⟩
                  have hGr : G ≤ wr.heap.size := by
                    obtain ⟨v, hg, hB, -⟩ := hwr.out
                    have := hg.lt
                    omega
                  have HWA := Lib.hid (hwr.out.kept_call ba)
                  have FA := Lib.hid (hfr.out.trans (ba.mono hGr))
                  clear ba tr RS RT hwr hfr GWr
                  go_upto_if 99 with (fail)
                  obtain ⟨f, hf⟩ : ∃ f : Nat, f = (if zh then 0 else 1) + (if zt then 0 else 2) := ⟨_, rfl⟩
                  have hf3 : f ≤ 3 := by rw [hf]; cases zh <;> cases zt <;> simp
                  have HFE := Lib.hid hf
                  clear hf
                  go_cut [10] (fun s10 wx => s10 = .int .i64 f ∧ wx = wa)
                  case first =>
                    cases zh <;> cases zt <;> (have e1 := hf1.out; have e2 := HFE.out; simp at e1 e2; subst e1; subst e2; go_wp2; go_meet; case rel => exact ⟨rfl, rfl⟩)
                  case rest =>
                    obtain ⟨rfl, rfl⟩ := hcut
                    obtain ⟨wa, rfl⟩ : ∃ x, x = wc := ⟨_, rfl⟩
                    have hwa := HWA.out
                    go_wp2_with fail
                    refine (writer_number G G f 1 X5 _ hwa (by omega) (by first | omega | simp)).mono ?_
                    rintro e wb ⟨rfl, hwwb, hbwb, -⟩
                    rw [show sizeN 1 = 1 from rfl] at hwwb
                    obtain ⟨X6, hxX6⟩ : ∃ x, x = X5 ++ be f 1 := ⟨_, rfl⟩
                    rw [← hxX6] at hwwb
                    have lxX6 : X6.length ≤ 74001 := by rw [hxX6, List.length_append]; first | (rw [be_length]; omega) | (simp only [List.length_nil]; rw [be_length]; omega)
                    have HXX6 := Lib.hid hxX6
                    clear hxX6
                    have FBb := Lib.hid (FA.out.trans hbwb)
                    have HWB := Lib.hid hwwb
                    clear hwa hwwb hbwb HWA FA
                    go_upto_region 25 with (fail)
                    go_cut [108] (fun s wx => s = .bool (!zh) ∧ wx = wb)
                    case first =>
                      cases zh <;> cases zt <;> (have e2 := HFE.out; simp at e2; subst e2; go_wp2; go_meet; case rel => exact ⟨rfl, rfl⟩)
                    case rest =>
                      obtain ⟨rfl, rfl⟩ := hcut
                      obtain ⟨wb, rfl⟩ : ∃ x, x = wc := ⟨_, rfl⟩
                      go_upto_if 108 with (fail)
                      obtain ⟨HB1, hHB1⟩ : ∃ x, x = (if zh then [] else hdB R.hd) := ⟨_, rfl⟩
                      have HHB1 := Lib.hid hHB1
                      clear hHB1
                      go_cut [] (fun wx => Hid (Wri wx G G (X6 ++ HB1)) ∧ Hid (Below G w4 wx))
                      case first =>
                        cases zh with
                        | true =>
                          have e : HB1 = [] := HHB1.out
                          subst e
                          go_wp2
                          go_meet
                          case rel => exact ⟨by simpa using HWB, FBb⟩
                        | false =>
                          have e : HB1 = hdB R.hd := HHB1.out
                          have hww := HWB.out
                          have FBB := FBb.out
                          have hb0 := Below.refl G wb
                          have FB0 := FBB.trans hb0
                          have t0 := T4.out.below FB0 T4lt.out
                          have c0 := (t0.cell 0).trans (show L.toArray[0]? = some (.int .i64 (ky : Int)) by simpa using D0.out)
                          have c1 := (t0.cell 1).trans (show L.toArray[1]? = some (.int .u64 (ny : Int)) by simpa using D1.out)
                          have c2 := (t0.cell 2).trans (show L.toArray[2]? = some (.slice Ab nb cb) by simpa using D2.out)
                          have c3 := (t0.cell 3).trans (show L.toArray[3]? = some (.slice Ah nh ch) by simpa using D3.out)
                          have u0 := U4.out.below FB0 U4lt.out
                          have h0 := (u0.cell 0).trans (show H.toArray[0]? = some (.int .i64 (lt : Int)) by simpa using E0.out)
                          have h1 := (u0.cell 1).trans (show H.toArray[1]? = some (.int .i64 (le : Int)) by simpa using E1.out)
                          have h2 := (u0.cell 2).trans (show H.toArray[2]? = some (.int .u64 (ks : Int)) by simpa using E2.out)
                          have h3 := (u0.cell 3).trans (show H.toArray[3]? = some (.int .u64 (kc : Int)) by simpa using E3.out)
                          go_wp2_with fail
                          refine (writer_number G G lt 1 X6 _ hww (by omega) (by first | omega | simp)).mono ?_
                          rintro e v1 ⟨rfl, hwv1, hbv1, -⟩
                          rw [show sizeN 1 = 1 from rfl] at hwv1
                          obtain ⟨Y1, hxY1⟩ : ∃ x, x = X6 ++ be lt 1 := ⟨_, rfl⟩
                          rw [← hxY1] at hwv1
                          have lxY1 : Y1.length ≤ 74002 := by rw [hxY1, List.length_append]; first | (rw [be_length]; omega) | (simp only [List.length_nil]; rw [be_length]; omega)
                          have HXY1 := Lib.hid hxY1
                          clear hxY1
                          clear c0 c1 c2 c3 h0 h1 h2 h3
                          have hb1 := hbv1
                          have FB1 := FB0.trans hb1
                          have u1 := U4.out.below FB1 U4lt.out
                          have h0 := (u1.cell 0).trans (show H.toArray[0]? = some (.int .i64 (lt : Int)) by simpa using E0.out)
                          have h1 := (u1.cell 1).trans (show H.toArray[1]? = some (.int .i64 (le : Int)) by simpa using E1.out)
                          have h2 := (u1.cell 2).trans (show H.toArray[2]? = some (.int .u64 (ks : Int)) by simpa using E2.out)
                          have h3 := (u1.cell 3).trans (show H.toArray[3]? = some (.int .u64 (kc : Int)) by simpa using E3.out)
                          go_wp2_with fail
                          refine (writer_number G G le 4 Y1 _ hwv1 (by omega) (by first | omega | simp)).mono ?_
                          rintro e v2 ⟨rfl, hwv2, hbv2, -⟩
                          rw [show sizeN 4 = 4 from rfl] at hwv2
                          obtain ⟨Y2, hxY2⟩ : ∃ x, x = Y1 ++ be le 4 := ⟨_, rfl⟩
                          rw [← hxY2] at hwv2
                          have lxY2 : Y2.length ≤ 74006 := by rw [hxY2, List.length_append]; first | (rw [be_length]; omega) | (simp only [List.length_nil]; rw [be_length]; omega)
                          have HXY2 := Lib.hid hxY2
                          clear hxY2
                          clear h0 h1 h2 h3
                          have hb2 := hbv2
                          have FB2 := FB1.trans hb2
                          have u2 := U4.out.below FB2 U4lt.out
                          have h0 := (u2.cell 0).trans (show H.toArray[0]? = some (.int .i64 (lt : Int)) by simpa using E0.out)
                          have h1 := (u2.cell 1).trans (show H.toArray[1]? = some (.int .i64 (le : Int)) by simpa using E1.out)
                          have h2 := (u2.cell 2).trans (show H.toArray[2]? = some (.int .u64 (ks : Int)) by simpa using E2.out)
                          have h3 := (u2.cell 3).trans (show H.toArray[3]? = some (.int .u64 (kc : Int)) by simpa using E3.out)
                          go_wp2_with fail
                          refine (writer_number G G ks 8 Y2 _ hwv2 (by omega) (by first | omega | simp)).mono ?_
                          rintro e v3 ⟨rfl, hwv3, hbv3, -⟩
                          rw [show sizeN 8 = 8 from rfl] at hwv3
                          obtain ⟨Y3, hxY3⟩ : ∃ x, x = Y2 ++ be ks 8 := ⟨_, rfl⟩
                          rw [← hxY3] at hwv3
                          have lxY3 : Y3.length ≤ 74014 := by rw [hxY3, List.length_append]; first | (rw [be_length]; omega) | (simp only [List.length_nil]; rw [be_length]; omega)
                          have HXY3 := Lib.hid hxY3
                          clear hxY3
                          clear h0 h1 h2 h3
                          have hb3 := hbv3
                          have FB3 := FB2.trans hb3
                          have u3 := U4.out.below FB3 U4lt.out
                          have h0 := (u3.cell 0).trans (show H.toArray[0]? = some (.int .i64 (lt : Int)) by simpa using E0.out)
                          have h1 := (u3.cell 1).trans (show H.toArray[1]? = some (.int .i64 (le : Int)) by simpa using E1.out)
                          have h2 := (u3.cell 2).trans (show H.toArray[2]? = some (.int .u64 (ks : Int)) by simpa using E2.out)
                          have h3 := (u3.cell 3).trans (show H.toArray[3]? = some (.int .u64 (kc : Int)) by simpa using E3.out)
                          go_wp2_with fail
                          refine (writer_number G G kc 8 Y3 _ hwv3 (by omega) (by first | omega | simp)).mono ?_
                          rintro e v4 ⟨rfl, hwv4, hbv4, -⟩
                          rw [show sizeN 8 = 8 from rfl] at hwv4
                          obtain ⟨Y4, hxY4⟩ : ∃ x, x = Y3 ++ be kc 8 := ⟨_, rfl⟩
                          rw [← hxY4] at hwv4
                          have lxY4 : Y4.length ≤ 74022 := by rw [hxY4, List.length_append]; first | (rw [be_length]; omega) | (simp only [List.length_nil]; rw [be_length]; omega)
                          have HXY4 := Lib.hid hxY4
                          clear hxY4
                          clear h0 h1 h2 h3
                          have hb4 := hbv4
                          have FB4 := FB3.trans hb4
                          have u4 := U4.out.below FB4 U4lt.out
                          have h0 := (u4.cell 0).trans (show H.toArray[0]? = some (.int .i64 (lt : Int)) by simpa using E0.out)
                          have h1 := (u4.cell 1).trans (show H.toArray[1]? = some (.int .i64 (le : Int)) by simpa using E1.out)
                          have h2 := (u4.cell 2).trans (show H.toArray[2]? = some (.int .u64 (ks : Int)) by simpa using E2.out)
                          have h3 := (u4.cell 3).trans (show H.toArray[3]? = some (.int .u64 (kc : Int)) by simpa using E3.out)
                          have RR := Lib.hid (rangeAt_blk u4 4 (byv rt) HQ.out)
                          go_wp2_with (refine load_mid_want rfl 27 (.tmp 128) rfl gh 4 rfl (byv rt) _ RR.out Tryd.underlying27 rfl IR.out ?_)
                          refine (writer_digest G G Y4 rt v4 hwv4 (by omega) LRT.out).mono ?_
                          rintro e v5 ⟨rfl, hwv5, hb5, -⟩
                          obtain ⟨Y5, hxY5⟩ : ∃ x, x = Y4 ++ rt := ⟨_, rfl⟩
                          rw [← hxY5] at hwv5
                          have lxY5 : Y5.length ≤ 74054 := by rw [hxY5, List.length_append]; first | (rw [LRT.out]; omega) | (simp only [List.length_nil]; rw [LRT.out]; omega)
                          have HXY5 := Lib.hid hxY5
                          clear hxY5
                          clear h0 h1 h2 h3
                          have FB5 := FB4.trans hb5
                          have t5 := T4.out.below FB5 T4lt.out
                          have c0 := (t5.cell 0).trans (show L.toArray[0]? = some (.int .i64 (ky : Int)) by simpa using D0.out)
                          have c1 := (t5.cell 1).trans (show L.toArray[1]? = some (.int .u64 (ny : Int)) by simpa using D1.out)
                          have c2 := (t5.cell 2).trans (show L.toArray[2]? = some (.slice Ab nb cb) by simpa using D2.out)
                          have c3 := (t5.cell 3).trans (show L.toArray[3]? = some (.slice Ah nh ch) by simpa using D3.out)
                          have RG5 := Lib.hid (rangeAt_blk t5 40 (byv tg) (fun j u hu => by
                            have := DH.out (36 + j) u (HG.out j u hu)
                            rwa [← Nat.add_assoc] at this))
                          go_wp2_with (refine load_mid_want rfl 27 (.tmp 133) rfl w.heap.size 40 rfl (byv tg) _ RG5.out Tryd.underlying27 rfl IG.out ?_)
                          refine (writer_digest G G Y5 tg v5 hwv5 (by omega) LTG.out).mono ?_
                          rintro e v6 ⟨rfl, hwv6, hb6, -⟩
                          have HWV := Lib.hid (show Wri v6 G G (X6 ++ HB1) by
                            rw [e, HHB.out]
                            have := hwv6
                            rw [HXY5.out, HXY4.out, HXY3.out, HXY2.out, HXY1.out] at this
                            simpa [List.append_assoc] using this)
                          have FV := Lib.hid (FB5.trans hb6)
                          clear c0 c1 c2 c3 hwv6 hb6
                          go_wp2
                          go_meet
                          case rel => exact ⟨HWV.out, FV.out⟩
                      case rest =>
                        obtain ⟨HWC, FC⟩ := hcut
                        obtain ⟨wd, rfl⟩ : ∃ x, x = wc := ⟨_, rfl⟩
                        clear HWB FBb
                        have lHB : HB1.length ≤ 85 := by
                          rw [HHB1.out]
                          split
                          · simp
                          · rw [HHB.out]
                            simp only [List.length_append, be_length, LRT.out, LTG.out]
                            omega
                        go_upto_region 32 with (fail)
                        go_cut [138] (fun s wx => s = .bool (!zt) ∧ wx = wd)
                        case first =>
                          cases zh <;> cases zt <;> (have e2 := HFE.out; simp at e2; subst e2; go_wp2; go_meet; case rel => exact ⟨rfl, rfl⟩)
                        case rest =>
                          obtain ⟨rfl, rfl⟩ := hcut
                          obtain ⟨wd, rfl⟩ : ∃ x, x = wc := ⟨_, rfl⟩
                          go_upto_if 138 with (fail)
                          obtain ⟨TB1, hTB1⟩ : ∃ x, x = (if zt then [] else txt tb) := ⟨_, rfl⟩
                          have HTB1 := Lib.hid hTB1
                          clear hTB1
                          go_cut [] (fun wx => Hid (Wri wx G G (X6 ++ HB1 ++ TB1)) ∧ Hid (Below G w4 wx))
                          case first =>
                            cases zt with
                            | true =>
                              have e : TB1 = [] := HTB1.out
                              subst e
                              go_wp2
                              go_meet
                              case rel => exact ⟨by simpa using HWC, FC⟩
                            | false =>
                              have e : TB1 = txt tb := HTB1.out
                              subst e
                              go_wp2_with fail
                              refine (writer_bytes G G (X6 ++ HB1) tb At nt ct _ HWC.out (by rw [List.length_append]; omega) (RT4.out.below FC.out) nct mct).mono ?_
                              rintro e we ⟨rfl, hwe, hbe, -⟩
                              have HWE := Lib.hid hwe
                              have FE := Lib.hid (FC.out.trans hbe)
                              clear hwe hbe
                              go_wp2
                              go_meet
                              case rel => exact ⟨HWE.out, FE.out⟩
                          case rest =>
                            obtain ⟨HWE, FE⟩ := hcut
                            obtain ⟨we, rfl⟩ : ∃ x, x = wc := ⟨_, rfl⟩
                            clear HWC FC
                            have lTB : TB1.length ≤ 62 := by
                              rw [HTB1.out]
                              split
                              · simp
                              · have := txt_len_le tb; omega
                            have hAB : X6 ++ HB1 ++ TB1 = ansB R := by
                              rw [HAB.out, HXX6.out, HX5.out, X4E.out, HFL.out, ← HFE.out, HHB1.out, HTB1.out, Int.toNat_natCast]
                              simp only [List.append_assoc]
                            have hlen : (X6 ++ HB1 ++ TB1).length ≤ 140737488355328 := by simp only [List.length_append]; omega
                            rw [hAB] at HWE hlen
                            have HLEN := Lib.hid hlen
                            have hGe : w.heap.size ≤ we.heap.size := Nat.le_trans B4.out.size FE.out.size
                            clear hAB hlen
                            go_wp2_with fail
                            refine (writer_done G G _ we HWE.out HLEN.out).mono ?_
                            rintro e wf ⟨vf, rfl, ownf, hbf⟩
                            have HO := Lib.hid (show OwnB wf w.heap.size vf (ansB R) from own_mono ownf hGe)
                            have HBF := Lib.hid ((B4.out.trans (FE.out.mono gG3)).trans (hbf.mono hGe))
                            clear ownf hbf HWE FE
                            go_wp2
                            go_ret2
                            exact ⟨_, by rw [HX.out]; rfl, by rw [HX.out]; exact HO.out, HBF.out⟩
          · have hn : ((tw : Int) == 0) = false := by simpa using q8
            have hn2 : ((tw : Int) != 0) = true := by simpa using q8
            have HN : Hid (ansRes R = (1, [])) := by
              unfold Hid
              rw [A2.out, if_neg (fun h => q8 h.2)]
            go_wp2_with fail
            refine (request_byted _ _).mono ?_
            rintro e w' ⟨rfl, rfl⟩
            rw [decide_eq_true q4]
            go_wp2_with fail
            refine (request_byted _ _).mono ?_
            rintro e w' ⟨rfl, rfl⟩
            rw [decide_eq_true q5]
            go_wp2
            go_ret2
            exact ⟨_, by rw [HN.out]; rfl, by rw [HN.out]; exact OwnB.nil _ _, B4.out⟩
    · have HN : Hid (ansRes R = (1, [])) := by
        unfold Hid
        rw [A2.out, if_neg]
        rw [HFT.out]
        simp
        omega
      go_wp2_with fail
      refine (request_byted _ _).mono ?_
      rintro e w' ⟨rfl, rfl⟩
      rw [decide_eq_true q4]
      go_wp2_with fail
      refine (request_byted _ _).mono ?_
      rintro e w' ⟨rfl, rfl⟩
      rw [decide_eq_false q5]
      go_wp2
      go_ret2
      exact ⟨_, by rw [HN.out]; rfl, by rw [HN.out]; exact OwnB.nil _ _, B4.out⟩
  · have HN : Hid (ansRes R = (1, [])) := by
      unfold Hid
      rw [A2.out, if_neg]
      rw [HFT.out]
      simp
      omega
    go_wp2_with fail
    refine (request_byted _ _).mono ?_
    rintro e w' ⟨rfl, rfl⟩
    rw [decide_eq_false q4]
    go_wp2
    go_ret2
    exact ⟨_, by rw [HN.out]; rfl, by rw [HN.out]; exact OwnB.nil _ _, B4.out⟩




end Go.Proofs.YtbkdccamimakoaaDoor
