/-
  deponentlaw12.known: true.
-/
import Derived.Test.YtamhggndcegndaaDoorKnown12
import Derived.Test.YtamhggndcegndaaDoorSeq2
namespace Go.Proofs.YtamhggndcegndaaDoor
open Go.RowKit
set_option linter.unusedVariables false
set_option maxRecDepth 100000

set_option maxHeartbeats 4000000 in
theorem known12 (w : World) (hT : Tabs w) : Calls Tryd.prog 13 #[] w fun e w' => e = .returned (.bool true) ∧ Below w.heap.size w w' := by
  have hok : (minted (rootb 1) 7).Ok := minted_ok _ _ (by decide)
  have hok2 : Tok.Ok (8, [], mintTag (rootb 1) 7) := ⟨by decide, fun c hc => (nomatch hc), mac_length _ _, mac_lt _ _⟩
  have R1 := fun w => law_root 1 w
  have M1 := fun w h => token_mint (rootb 1) 7 w (rootb_length 1) (rootb_lt 1 (by decide)) (by decide) h
  have N1 := fun w h => token_narrow (minted (rootb 1) 7) none 0 0 1 3 w Reads.none_ (Nat.le_refl _) (by omega) hok.2.2.1 hok.2.2.2 (by decide) h
  have G1 := fun w h => token_genuine (rootb 1) (minted (rootb 1) 7) none 0 0 w (rootb_length 1) (rootb_lt 1 (by decide)) Reads.none_ (Nat.le_refl _) (by omega) hok h
  have G2 := fun w h => token_genuine (rootb 1) (8, [], mintTag (rootb 1) 7) none 0 0 w (rootb_length 1) (rootb_lt 1 (by decide)) Reads.none_ (Nat.le_refl _) (by omega) hok2 h
  obtain ⟨r, hr⟩ : ∃ r, narRes (minted (rootb 1) 7) (1, 3) = r := ⟨_, rfl⟩
  have hr2 : r.2 = 0 := by rw [← hr]; rfl
  have hrok : r.1.Ok := by rw [← hr]; exact narRes_ok _ _ hok (by decide)
  have hrg : genuineB (rootb 1) r.1 = true := by rw [← hr]; exact gen_true (gen_narrow (gen_minted _ _) (by rw [hr]; exact hr2))
  have hrc : r.1.2.1 = [(1, 3)] := by rw [← hr]; rfl
  have G3 := fun A n c w a b d h => token_genuine (rootb 1) r.1 A n c w (rootb_length 1) (rootb_lt 1 (by decide)) a b d hrok h
  have H3 := fun A n c tr w a b d => token_holds 2 tr 0 r.1 A n c w a b d hrok
  have h1 : genuineB (rootb 1) (minted (rootb 1) 7) = true := gen_true (gen_minted _ _)
  simp only [hr, hr2] at N1
  simp only [h1] at G1
  simp only [known12_false] at G2
  simp only [hrg] at G3
  have hh3 : holdsB 2 3 0 r.1.2.1 = true := by rw [hrc]; decide
  have hh4 : holdsB 2 4 0 r.1.2.1 = false := by rw [hrc]; decide
  have H33 := fun A n c w a b d => H3 A n c 3 w a b d
  have H34 := fun A n c w a b d => H3 A n c 4 w a b d
  simp only [hh3] at H33
  simp only [hh4] at H34
  obtain ⟨K, hK⟩ : ∃ K, byv (rootb 1) = K := ⟨_, rfl⟩
  simp only [hK] at R1 M1 G1 G2 G3
  have lT1 := tokv_len 7 (.slice none 0 0) (mintTag (rootb 1) 7) (mac_length _ _)
  have oT1 := tokv_one 7 (.slice none 0 0) rfl (mintTag (rootb 1) 7)
  have sT1 : (tokv 7 (.slice none 0 0) (mintTag (rootb 1) 7)).toArray.setIfInBounds 0 (.int .u32 8) = (tokv 8 (.slice none 0 0) (mintTag (rootb 1) 7)).toArray := by simp [tokv]
  have lT2 := tokv_len 8 (.slice none 0 0) (mintTag (rootb 1) 7) (mac_length _ _)
  simp only [show (minted (rootb 1) 7).1 = 7 from rfl, show (minted (rootb 1) 7).2.2 = mintTag (rootb 1) 7 from rfl] at N1 G1
  have oT2 := tokv_one 8 (.slice none 0 0) rfl (mintTag (rootb 1) 7)
  obtain ⟨L1, hL1⟩ : ∃ L, tokv 7 (.slice none 0 0) (mintTag (rootb 1) 7) = L := ⟨_, rfl⟩
  obtain ⟨L2, hL2⟩ : ∃ L, tokv 8 (.slice none 0 0) (mintTag (rootb 1) 7) = L := ⟨_, rfl⟩
  have l0 : L1[0]? = some (.int .u32 7) := by rw [← hL1]; rfl
  simp only [hL1] at N1 G1 M1 lT1 oT1 sT1
  simp only [hL2] at G2 lT2 oT2 sT1
  have I1 := Lib.hid (show (Tryd.prog.info? 30).map (·.size) = some L1.length by rw [lT1]; exact Tryd.tok_info)
  have I1' := Lib.hid (show (Tryd.prog.info? 30).map (·.size) = some L1.toArray.size by rw [List.size_toArray, lT1]; exact Tryd.tok_info)
  have I2 := Lib.hid (show (Tryd.prog.info? 30).map (·.size) = some L2.length by rw [lT2]; exact Tryd.tok_info)
  have HT := Lib.hid hT
  have HR1 := Lib.hid R1
  have HM1 := Lib.hid M1
  have HN1 := Lib.hid N1
  have HG1 := Lib.hid G1
  have HG2 := Lib.hid G2
  have HG3 := Lib.hid G3
  have HH33 := Lib.hid H33
  have HH34 := Lib.hid H34
  have LT1 := Lib.hid lT1
  have LT2 := Lib.hid lT2
  have OT1 := Lib.hid oT1
  have OT2 := Lib.hid oT2
  have ST1 := Lib.hid sT1
  have HRC := Lib.hid hrc
  have HROK := Lib.hid hrok
  have L0 := Lib.hid l0
  clear hT R1 M1 N1 G1 G2 G3 H3 H33 H34 lT1 lT2 oT1 oT2 sT1 hrc hrok hr hr2 hrg h1 hh3 hh4 hok hok2 hK hL1 hL2 l0
  go_enter Tryd.func13, Tryd.ntmps13
  go_wp2_with fail
  refine (HR1.out w).mono ?_
  rintro e w1 ⟨rfl, b1⟩
  go_wp2_with fail
  refine (HM1.out w1 (HT.out.below b1 HT.out.size)).mono ?_
  rintro e w2 ⟨rfl, b2⟩
  have B2 := Lib.hid (b1.trans (b2.mono b1.size))
  have Z2 := Lib.hid (Blk.new w2 30 #[.int .u32 0, .slice none 0 0, .int .u8 0, .int .u8 0, .int .u8 0, .int .u8 0, .int .u8 0, .int .u8 0, .int .u8 0, .int .u8 0, .int .u8 0, .int .u8 0, .int .u8 0, .int .u8 0, .int .u8 0, .int .u8 0, .int .u8 0, .int .u8 0, .int .u8 0, .int .u8 0, .int .u8 0, .int .u8 0, .int .u8 0, .int .u8 0, .int .u8 0, .int .u8 0, .int .u8 0, .int .u8 0, .int .u8 0, .int .u8 0, .int .u8 0, .int .u8 0, .int .u8 0, .int .u8 0])
  clear b1 b2
  go_upto_region 2 with (refine wpList_store_row rfl 30 (.tmp 1) (.tmp 6) rfl w2.heap.size L1.toArray rfl rfl 30 _ Z2.out I1'.out (by simp [LT1.out]) (by simpa using OT1.out) ?_)
  obtain ⟨w3, hw3⟩ : ∃ x, x = (w2.alloc (.cells #[.int .u32 0, .slice none 0 0, .int .u8 0, .int .u8 0, .int .u8 0, .int .u8 0, .int .u8 0, .int .u8 0, .int .u8 0, .int .u8 0, .int .u8 0, .int .u8 0, .int .u8 0, .int .u8 0, .int .u8 0, .int .u8 0, .int .u8 0, .int .u8 0, .int .u8 0, .int .u8 0, .int .u8 0, .int .u8 0, .int .u8 0, .int .u8 0, .int .u8 0, .int .u8 0, .int .u8 0, .int .u8 0, .int .u8 0, .int .u8 0, .int .u8 0, .int .u8 0, .int .u8 0, .int .u8 0] 30)).setRow w2.heap.size L1.toArray := ⟨_, rfl⟩
  rw [← hw3]
  have t3 : Blk w3 w2.heap.size 30 L1.toArray := by rw [hw3]; exact Z2.out.setRow _
  have b3 : Below w2.heap.size w2 w3 := by rw [hw3]; exact below_setRow ((Below.refl _ _).alloc (Nat.le_refl _) _) (Nat.le_refl _) _
  have T3 := Lib.hid t3
  have B3 := Lib.hid (B2.out.trans (b3.mono B2.out.size))
  have RG3 := Lib.hid (rangeAt_blk t3 0 L1 (fun j u h => by simpa using h))
  have Z3 := Lib.hid (Blk.new w3 30 #[.int .u32 0, .slice none 0 0, .int .u8 0, .int .u8 0, .int .u8 0, .int .u8 0, .int .u8 0, .int .u8 0, .int .u8 0, .int .u8 0, .int .u8 0, .int .u8 0, .int .u8 0, .int .u8 0, .int .u8 0, .int .u8 0, .int .u8 0, .int .u8 0, .int .u8 0, .int .u8 0, .int .u8 0, .int .u8 0, .int .u8 0, .int .u8 0, .int .u8 0, .int .u8 0, .int .u8 0, .int .u8 0, .int .u8 0, .int .u8 0, .int .u8 0, .int .u8 0, .int .u8 0, .int .u8 0])
  clear hw3 t3 b3
  go_upto_region 3 with (first
    | (refine load_mid_want rfl 30 (.tmp 1) rfl w2.heap.size 0 rfl L1 _ RG3.out Tryd.underlying30 rfl I1.out ?_)
    | (refine wpList_store_row rfl 30 (.tmp 2) (.tmp 7) rfl w3.heap.size L1.toArray rfl rfl 30 _ Z3.out I1'.out (by simp [LT1.out]) (by simpa using OT1.out) ?_))
  obtain ⟨w4, hw4⟩ : ∃ x, x = (w3.alloc (.cells #[.int .u32 0, .slice none 0 0, .int .u8 0, .int .u8 0, .int .u8 0, .int .u8 0, .int .u8 0, .int .u8 0, .int .u8 0, .int .u8 0, .int .u8 0, .int .u8 0, .int .u8 0, .int .u8 0, .int .u8 0, .int .u8 0, .int .u8 0, .int .u8 0, .int .u8 0, .int .u8 0, .int .u8 0, .int .u8 0, .int .u8 0, .int .u8 0, .int .u8 0, .int .u8 0, .int .u8 0, .int .u8 0, .int .u8 0, .int .u8 0, .int .u8 0, .int .u8 0, .int .u8 0, .int .u8 0] 30)).setRow w3.heap.size L1.toArray := ⟨_, rfl⟩
  rw [← hw4]
  have b4 : Below w3.heap.size w3 w4 := by rw [hw4]; exact below_setRow ((Below.refl _ _).alloc (Nat.le_refl _) _) (Nat.le_refl _) _
  have t4 : Blk w4 w3.heap.size 30 L1.toArray := by rw [hw4]; exact Z3.out.setRow _
  have c4 := t4.cell 0
  rw [List.getElem?_toArray, L0.out] at c4
  have f4 := t4.frozen 0
  have T4 := Lib.hid t4
  have B4 := Lib.hid b4
  clear hw4 t4 b4
  go_upto_region 4 with (fail)
  obtain ⟨w5, hw5⟩ : ∃ x, x = w4.setCell ⟨w3.heap.size, 0, none⟩ (.int .u32 8) := ⟨_, rfl⟩
  rw [← hw5]
  have u5 : Blk w5 w3.heap.size 30 L2.toArray := by
    rw [hw5, ← ST1.out]
    exact T4.out.set_ 0 _
  have b35 : Below w3.heap.size w3 w5 := by rw [hw5]; exact B4.out.setCell (Nat.le_refl _) _
  have U5 := Lib.hid u5
  have B35 := Lib.hid b35
  have T5 := Lib.hid (T3.out.below b35 T3.out.lt)
  have RG5 := Lib.hid (rangeAt_blk (T3.out.below b35 T3.out.lt) 0 L1 (fun j u h => by simpa using h))
  have HT5 := Lib.hid ((HT.out.below B3.out HT.out.size).below b35 (Nat.le_trans HT.out.size B3.out.size))
  clear hw5 u5 b35 c4 f4
  go_wp2_with (refine load_mid_want rfl 30 (.tmp 1) rfl w2.heap.size 0 rfl L1 _ RG5.out Tryd.underlying30 rfl I1.out ?_)
  refine (HN1.out w5 HT5.out).mono ?_
  rintro e w6 ⟨v, rfl, o6, b6⟩
  obtain ⟨A6, n6, c6, rfl, en6, nc6, -, r6⟩ := o6.sl
  have hn6 : n6 = 1 := by rw [en6, HRC.out]; rfl
  have lT3 := tokv_len r.1.1 (.slice A6 n6 c6) r.1.2.2 HROK.out.2.2.1
  have oT3 := tokv_one r.1.1 (.slice A6 n6 c6) rfl r.1.2.2
  have G3' := fun w a h => HG3.out A6 n6 c6 w a nc6 (by omega) h
  have H33' := fun w a => HH33.out A6 n6 c6 w a nc6 (by omega)
  have H34' := fun w a => HH34.out A6 n6 c6 w a nc6 (by omega)
  obtain ⟨L3, hL3⟩ : ∃ L, tokv r.1.1 (.slice A6 n6 c6) r.1.2.2 = L := ⟨_, rfl⟩
  simp only [hL3] at lT3 oT3 G3' H33' H34' ⊢
  have I3 := Lib.hid (show (Tryd.prog.info? 30).map (·.size) = some L3.length by rw [lT3]; exact Tryd.tok_info)
  have I3' := Lib.hid (show (Tryd.prog.info? 30).map (·.size) = some L3.toArray.size by rw [List.size_toArray, lT3]; exact Tryd.tok_info)
  have Z6 := Lib.hid (Blk.new w6 30 #[.int .u32 0, .slice none 0 0, .int .u8 0, .int .u8 0, .int .u8 0, .int .u8 0, .int .u8 0, .int .u8 0, .int .u8 0, .int .u8 0, .int .u8 0, .int .u8 0, .int .u8 0, .int .u8 0, .int .u8 0, .int .u8 0, .int .u8 0, .int .u8 0, .int .u8 0, .int .u8 0, .int .u8 0, .int .u8 0, .int .u8 0, .int .u8 0, .int .u8 0, .int .u8 0, .int .u8 0, .int .u8 0, .int .u8 0, .int .u8 0, .int .u8 0, .int .u8 0, .int .u8 0, .int .u8 0])
  have HG3' := Lib.hid G3'
  have HH33' := Lib.hid H33'
  have HH34' := Lib.hid H34'
  have LT3 := Lib.hid lT3
  have OT3 := Lib.hid oT3
  have R6 := Lib.hid r6
  have B6 := Lib.hid b6
  clear G3' H33' H34' lT3 oT3 hL3 o6 en6 r6 b6
  go_upto_region 5 with (refine wpList_store_row rfl 30 (.tmp 3) (.tmp 13) rfl w6.heap.size L3.toArray rfl rfl 30 _ Z6.out I3'.out (by simp [LT3.out]) (by simpa using OT3.out) ?_)
  obtain ⟨w7, hw7⟩ : ∃ x, x = (w6.alloc (.cells #[.int .u32 0, .slice none 0 0, .int .u8 0, .int .u8 0, .int .u8 0, .int .u8 0, .int .u8 0, .int .u8 0, .int .u8 0, .int .u8 0, .int .u8 0, .int .u8 0, .int .u8 0, .int .u8 0, .int .u8 0, .int .u8 0, .int .u8 0, .int .u8 0, .int .u8 0, .int .u8 0, .int .u8 0, .int .u8 0, .int .u8 0, .int .u8 0, .int .u8 0, .int .u8 0, .int .u8 0, .int .u8 0, .int .u8 0, .int .u8 0, .int .u8 0, .int .u8 0, .int .u8 0, .int .u8 0] 30)).setRow w6.heap.size L3.toArray := ⟨_, rfl⟩
  rw [← hw7]
  have b67 : Below w6.heap.size w6 w7 := by rw [hw7]; exact below_setRow ((Below.refl _ _).alloc (Nat.le_refl _) _) (Nat.le_refl _) _
  have b57 : Below w5.heap.size w5 w7 := B6.out.trans (b67.mono B6.out.size)
  have t7 := T5.out.below b57 T5.out.lt
  have u7 := U5.out.below b57 U5.out.lt
  have v7 : Blk w7 w6.heap.size 30 L3.toArray := by rw [hw7]; exact Z6.out.setRow _
  have r7 := R6.out.call b67
  have HT7 := Lib.hid (HT5.out.below b57 HT5.out.size)
  have B07 := Lib.hid (B3.out.trans ((B35.out.trans (b57.mono B35.out.size)).mono B3.out.size))
  obtain ⟨S, HS⟩ : ∃ S : World → Prop, Hid (∀ w', S w' = Below w7.heap.size w7 w') := ⟨_, fun _ => rfl⟩
  have F1 : Hid (∀ w', S w' → w'.rangeAt w2.heap.size 0 L1) := fun w' h => by
    rw [HS.out] at h
    exact rangeAt_blk (t7.below h t7.lt) 0 L1 (fun j u h => by simpa using h)
  have F2 : Hid (∀ w', S w' → w'.rangeAt w3.heap.size 0 L2) := fun w' h => by
    rw [HS.out] at h
    exact rangeAt_blk (u7.below h u7.lt) 0 L2 (fun j u h => by simpa using h)
  have F3 : Hid (∀ w', S w' → w'.rangeAt w6.heap.size 0 L3) := fun w' h => by
    rw [HS.out] at h
    exact rangeAt_blk (v7.below h v7.lt) 0 L3 (fun j u h => by simpa using h)
  have FT : Hid (∀ w', S w' → Tabs w') := fun w' h => by
    rw [HS.out] at h
    exact HT7.out.below h HT7.out.size
  have FR : Hid (∀ w', S w' → Reads w' w'.heap.size 2 A6 n6 (cavv r.1.2.1)) := fun w' h => by
    rw [HS.out] at h
    exact r7.call h
  have FS : Hid (∀ w' w'', S w' → Below w'.heap.size w' w'' → S w'') := fun w' w'' h k => by
    rw [HS.out] at h ⊢
    exact h.trans (k.mono h.size)
  clear hw7 b67 b57 t7 u7 v7 r7
  refine wp_region_seq S 28 [(1, false), (0, true), (2, true), (3, false), (5, false), (4, true), (6, true), (7, false), (8, false), (9, false), (10, false), (11, false), (12, false), (13, false), (15, false), (14, true), (16, true), (17, false), (18, false), (19, false), (20, true), (21, false), (22, false), (23, false), (24, true), (25, false), (26, false), (27, false)] (by kernel_rfl) rfl (by kernel_rfl) (by kernel_rfl) (by kernel_rfl) (fun _ _ d _ _ h => by cases d <;> exact h) ((HS.out _).mpr (Below.refl _ w7).drew) ?_
  have s0 : S w7.drew := (HS.out _).mpr (Below.refl _ w7).drew
  refine wpSeq_load rfl rfl 30 (.tmp 1) rfl w2.heap.size 0 rfl L1 _ F1.out Tryd.underlying30 rfl I1.out ?_
  try simp only [Act.put, List.setIfInBounds_toArray, List.set_cons_zero, List.set_cons_succ]
  refine wpSeq_write rfl rfl ?_
  go_simp
  refine (HR1.out _).mono ?_
  rintro e wa ⟨rfl, hbwa⟩
  have sa : S wa := FS.out _ _ s0 hbwa
  refine ⟨sa, ?_⟩
  try simp only [Act.put, List.setIfInBounds_toArray, List.set_cons_zero, List.set_cons_succ]
  refine wpSeq_write rfl rfl ?_
  go_simp
  refine (HG1.out _ (FT.out _ sa)).mono ?_
  rintro e wb ⟨rfl, hbwb⟩
  have sb : S wb := FS.out _ _ sa hbwb
  refine ⟨sb, ?_⟩
  try simp only [Act.put, List.setIfInBounds_toArray, List.set_cons_zero, List.set_cons_succ]
  iterate 1 (refine wpSeq_read rfl rfl ⟨?_, fun w1 hS => ?_, ?_⟩; rotate_left; (focus (go_simp; (try go_bits); try rfl)); simp only [Act.put, List.setIfInBounds_toArray, List.set_cons_zero, List.set_cons_succ])
  refine wpSeq_load rfl rfl 30 (.tmp 2) rfl w3.heap.size 0 rfl L2 _ F2.out Tryd.underlying30 rfl I2.out ?_
  try simp only [Act.put, List.setIfInBounds_toArray, List.set_cons_zero, List.set_cons_succ]
  refine wpSeq_write rfl rfl ?_
  go_simp
  refine (HR1.out _).mono ?_
  rintro e wc ⟨rfl, hbwc⟩
  have sc : S wc := FS.out _ _ sb hbwc
  refine ⟨sc, ?_⟩
  try simp only [Act.put, List.setIfInBounds_toArray, List.set_cons_zero, List.set_cons_succ]
  refine wpSeq_write rfl rfl ?_
  go_simp
  refine (HG2.out _ (FT.out _ sc)).mono ?_
  rintro e wd ⟨rfl, hbwd⟩
  have sd : S wd := FS.out _ _ sc hbwd
  refine ⟨sd, ?_⟩
  try simp only [Act.put, List.setIfInBounds_toArray, List.set_cons_zero, List.set_cons_succ]
  iterate 7 (refine wpSeq_read rfl rfl ⟨?_, fun w1 hS => ?_, ?_⟩; rotate_left; (focus (go_simp; (try go_bits); try rfl)); simp only [Act.put, List.setIfInBounds_toArray, List.set_cons_zero, List.set_cons_succ])
  refine wpSeq_load rfl rfl 30 (.tmp 3) rfl w6.heap.size 0 rfl L3 _ F3.out Tryd.underlying30 rfl I3.out ?_
  try simp only [Act.put, List.setIfInBounds_toArray, List.set_cons_zero, List.set_cons_succ]
  refine wpSeq_write rfl rfl ?_
  go_simp
  refine (HR1.out _).mono ?_
  rintro e we ⟨rfl, hbwe⟩
  have se : S we := FS.out _ _ sd hbwe
  refine ⟨se, ?_⟩
  try simp only [Act.put, List.setIfInBounds_toArray, List.set_cons_zero, List.set_cons_succ]
  refine wpSeq_write rfl rfl ?_
  go_simp
  refine (HG3'.out _ (FR.out _ se) (FT.out _ se)).mono ?_
  rintro e wf ⟨rfl, hbwf⟩
  have sf : S wf := FS.out _ _ se hbwf
  refine ⟨sf, ?_⟩
  try simp only [Act.put, List.setIfInBounds_toArray, List.set_cons_zero, List.set_cons_succ]
  iterate 2 (refine wpSeq_read rfl rfl ⟨?_, fun w1 hS => ?_, ?_⟩; rotate_left; (focus (go_simp; (try go_bits); try rfl)); simp only [Act.put, List.setIfInBounds_toArray, List.set_cons_zero, List.set_cons_succ])
  refine wpSeq_load rfl rfl 30 (.tmp 3) rfl w6.heap.size 0 rfl L3 _ F3.out Tryd.underlying30 rfl I3.out ?_
  try simp only [Act.put, List.setIfInBounds_toArray, List.set_cons_zero, List.set_cons_succ]
  refine wpSeq_write rfl rfl ?_
  go_simp
  refine (HH33'.out _ (FR.out _ sf)).mono ?_
  rintro e wg ⟨rfl, hbwg⟩
  have sg : S wg := FS.out _ _ sf hbwg
  refine ⟨sg, ?_⟩
  try simp only [Act.put, List.setIfInBounds_toArray, List.set_cons_zero, List.set_cons_succ]
  iterate 2 (refine wpSeq_read rfl rfl ⟨?_, fun w1 hS => ?_, ?_⟩; rotate_left; (focus (go_simp; (try go_bits); try rfl)); simp only [Act.put, List.setIfInBounds_toArray, List.set_cons_zero, List.set_cons_succ])
  refine wpSeq_load rfl rfl 30 (.tmp 3) rfl w6.heap.size 0 rfl L3 _ F3.out Tryd.underlying30 rfl I3.out ?_
  try simp only [Act.put, List.setIfInBounds_toArray, List.set_cons_zero, List.set_cons_succ]
  refine wpSeq_write rfl rfl ?_
  go_simp
  refine (HH34'.out _ (FR.out _ sg)).mono ?_
  rintro e wh ⟨rfl, hbwh⟩
  have sh : S wh := FS.out _ _ sg hbwh
  refine ⟨sh, ?_⟩
  try simp only [Act.put, List.setIfInBounds_toArray, List.set_cons_zero, List.set_cons_succ]
  iterate 3 (refine wpSeq_read rfl rfl ⟨?_, fun w1 hS => ?_, ?_⟩; rotate_left; (focus (go_simp; (try go_bits); try rfl)); simp only [Act.put, List.setIfInBounds_toArray, List.set_cons_zero, List.set_cons_succ])
  refine wpSeq_nil ?_
  go_wp2_with fail
  go_ret
  rw [HS.out] at sh
  exact ⟨rfl, B07.out.trans (sh.mono B07.out.size)⟩

end Go.Proofs.YtamhggndcegndaaDoor
