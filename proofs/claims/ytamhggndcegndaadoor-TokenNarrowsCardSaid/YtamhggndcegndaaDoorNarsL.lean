/-
  deponentlaw12.TokenNarrows: true.
-/
import Derived.Test.YtamhggndcegndaaDoorRGen
import Derived.Test.YtamhggndcegndaaDoorSameT
import Derived.Test.YtamhggndcegndaaDoorRootU
import Derived.Test.YtamhggndcegndaaDoorNarsP
namespace Go.Proofs.YtamhggndcegndaaDoor
open Go.RowKit
set_option linter.unusedVariables false
set_option maxRecDepth 100000


-- END BY HAND
set_option maxHeartbeats 8000000 in
theorem nars_walk (id : Nat) (l : List (Int × Nat)) (A : Option Addr) (n c : Nat) (op tree : Int) (clock : Nat) (at_ : Int) (w : World) (hT : Tabs w)
    (hid : id < 4294967296) (hr : Reads w w.heap.size 2 A n (cavv l)) (hnc : n ≤ c) (hn : n ≤ 8796093022000) (hlN : ∀ y ∈ l, y.2 < 4294967296)
    (ha : -9223372036854775808 ≤ at_ ∧ at_ ≤ 9223372036854775807) :
    Calls Tryd.prog 3 #[.int .u32 id, .slice A n c, .int .i64 op, .int .i64 tree, .int .u64 clock, .int .i64 at_] w fun e w' => e = .returned (.bool true) ∧ Below w.heap.size w w' := by
  have hl : l.length = n := by have := hr.1; rw [cavv_length] at this; omega
  have R3 := fun w => law_root 3 w
  have R4 := fun w => law_root 4 w
  have M1 := fun w h => token_mint (rootb 3) id w (rootb_length 3) (rootb_lt 3 (by decide)) hid h
  have G3 := fun t A n c w a b d e f => token_genuine (rootb 3) t A n c w (rootb_length 3) (rootb_lt 3 (by decide)) a b d e f
  have G4 := fun t A n c w a b d e f => token_genuine (rootb 4) t A n c w (rootb_length 4) (rootb_lt 4 (by decide)) a b d e f
  have Q3 := fun tb t A n c w a b d e f => ref12_genuine tb (rootb 3) t A n c w (rootb_length 3) (rootb_lt 3 (by decide)) a b d e f
  have Q4 := fun tb t A n c w a b d e f => ref12_genuine tb (rootb 4) t A n c w (rootb_length 4) (rootb_lt 4 (by decide)) a b d e f
  obtain ⟨K, hK⟩ : ∃ K, byv (rootb 3) = K := ⟨_, rfl⟩
  obtain ⟨K4, hK4⟩ : ∃ K, byv (rootb 4) = K := ⟨_, rfl⟩
  simp only [hK] at R3 M1 G3 Q3
  simp only [hK4] at R4 G4 Q4
  obtain ⟨LT, hLT, lLT, oLT, iLT⟩ := tok_cells id none 0 0 (mintTag (rootb 3) id) (mac_length _ _)
  simp only [hLT] at M1
  have HR3 := Lib.hid R3
  have HR4 := Lib.hid R4
  have HM1 := Lib.hid M1
  have HG3 := Lib.hid G3
  have HG4 := Lib.hid G4
  have HQ3 := Lib.hid Q3
  have HQ4 := Lib.hid Q4
  have OLT := Lib.hid oLT
  have ILT := Lib.hid iLT
  have LLT := Lib.hid lLT
  have EN0 : Hid (tokv (minted (rootb 3) id).1 (.slice none 0 0) (minted (rootb 3) id).2.2 = LT) := hLT
  have HT := Lib.hid hT
  have HR := Lib.hid hr
  have HlN := Lib.hid hlN
  have Hl := Lib.hid hl
  clear R3 R4 M1 G3 G4 Q3 Q4 hK hK4 oLT iLT lLT hLT hT hr hlN hl
  go_enter Tryd.func3, Tryd.ntmps3
  go_wp2_with fail
  refine (ref1_new w).mono ?_
  rintro e w1 ⟨rfl, tab1, b1⟩
  have B1 := Lib.hid b1
  have TAB1 := Lib.hid tab1
  have l1 : w.heap.size < w1.heap.size := Blk.lt tab1
  clear b1 tab1
  go_wp2_with fail
  refine (HR3.out w1).mono ?_
  rintro e w2 ⟨rfl, b2⟩
  go_wp2_with fail
  refine (HM1.out w2 ((HT.out.below B1.out HT.out.size).below b2 (Nat.le_trans HT.out.size B1.out.size))).mono ?_
  rintro e w3 ⟨rfl, b3⟩
  have B13 := Lib.hid (b2.trans (b3.mono b2.size))
  have Z3 := Lib.hid (Blk.new w3 30 #[.int .u32 0, .slice none 0 0, .int .u8 0, .int .u8 0, .int .u8 0, .int .u8 0, .int .u8 0, .int .u8 0, .int .u8 0, .int .u8 0, .int .u8 0, .int .u8 0, .int .u8 0, .int .u8 0, .int .u8 0, .int .u8 0, .int .u8 0, .int .u8 0, .int .u8 0, .int .u8 0, .int .u8 0, .int .u8 0, .int .u8 0, .int .u8 0, .int .u8 0, .int .u8 0, .int .u8 0, .int .u8 0, .int .u8 0, .int .u8 0, .int .u8 0, .int .u8 0, .int .u8 0, .int .u8 0])
  clear b2 b3
  go_upto_region 3 with (refine wpList_store_row rfl 30 (.tmp 14) (.tmp 25) rfl w3.heap.size LT.toArray rfl rfl 30 _ Z3.out ILT.out (by simp [LLT.out]) (by simpa using OLT.out) ?_)
  obtain ⟨w4, hw4⟩ : ∃ x, x = (w3.alloc (.cells #[.int .u32 0, .slice none 0 0, .int .u8 0, .int .u8 0, .int .u8 0, .int .u8 0, .int .u8 0, .int .u8 0, .int .u8 0, .int .u8 0, .int .u8 0, .int .u8 0, .int .u8 0, .int .u8 0, .int .u8 0, .int .u8 0, .int .u8 0, .int .u8 0, .int .u8 0, .int .u8 0, .int .u8 0, .int .u8 0, .int .u8 0, .int .u8 0, .int .u8 0, .int .u8 0, .int .u8 0, .int .u8 0, .int .u8 0, .int .u8 0, .int .u8 0, .int .u8 0, .int .u8 0, .int .u8 0] 30)).setRow w3.heap.size LT.toArray := ⟨_, rfl⟩
  rw [← hw4]
  have tw4 : TokAt w4 w3.heap.size LT := by rw [hw4]; exact ⟨Blk.setRow (Blk.new _ _ _) _, LLT.out⟩
  have bw4 : Below w3.heap.size w3 w4 := by rw [hw4]; exact below_setRow ((Below.refl _ _).alloc (Nat.le_refl _) _) (Nat.le_refl _) _
  clear hw4
  have X4 := Lib.hid tw4
  have B14 := Lib.hid (B13.out.trans (bw4.mono B13.out.size))
  have l3 : w1.heap.size ≤ w3.heap.size := B13.out.size
  obtain ⟨Xa, hXa⟩ : ∃ y, w3.heap.size = y := ⟨_, rfl⟩
  rw [hXa] at X4 l3 ⊢
  clear hXa tw4 bw4 Z3 B13
  go_wp2_with fail
  go_loopw [15, 16, 17, 36] (fun i _ _ _ wr => ∃ (k : Nat) (y : Tok) (va : Value), k ≤ n ∧ k ≤ 4 ∧ i = .int .i64 k ∧ Hid (Gen (rootb 3) y) ∧ Hid y.Ok ∧ y.2.1.length ≤ k ∧ Hid (Blk wr Xa 30 (tokv y.1 va y.2.2).toArray) ∧ Hid (OwnC wr w1.heap.size va y.2.1) ∧ Hid (Below w1.heap.size w1 wr)) (fun i _ _ _ _ => n - (intOf i).toNat)
  case atStart => exact ⟨0, minted (rootb 3) id, .slice none 0 0, by omega, by omega, rfl, gen_minted _ id, minted_ok _ id hid, by simp [minted], by rw [show tokv (minted (rootb 3) id).1 (.slice none 0 0) (minted (rootb 3) id).2.2 = LT from EN0.out]; exact X4.out.blk, OwnC.nil _ _, B14.out⟩
  case round =>
    obtain ⟨k, y, va, hk, hk4, rfl, hg, hyo, hyl, hXa, hva, hb⟩ := hrel
    have hbw := Lib.hid (B1.out.trans (hb.out.mono B1.out.size))
    by_cases hc : k < n ∧ k < 4
    · obtain ⟨hkn, hkm⟩ := hc
      have qk : (k : Int) < n := by omega
      have q4 : (k : Int) < 4 := by omega
      obtain ⟨cav, hcav⟩ : ∃ c, l[k]? = some c := ⟨_, List.getElem?_eq_getElem (by rw [Hl.out]; exact hkn)⟩
      obtain ⟨gb, go, hA, hgb, hrd⟩ := HR.out.mid (by omega) (by omega)
      obtain ⟨e0, e1⟩ := cavv_at l k cav hcav
      have m0 := (hbw.out.cell (p := ⟨gb, go + k * 2, none⟩) hgb).trans (hrd _ _ e0)
      have m1 := (hbw.out.cell (p := ⟨gb, go + (k * 2 + 1), none⟩) hgb).trans (hrd _ _ e1)
      subst hA
      obtain ⟨kk, NN⟩ := cav
      dsimp only at m0 m1
      rw [← Nat.add_assoc] at m1
      have hN : NN < 4294967296 := HlN.out (kk, NN) (List.mem_of_getElem? hcav)
      have hgbr : gb < wr.heap.size := Nat.lt_of_lt_of_le hgb hbw.out.size
      obtain ⟨S, HS⟩ : ∃ S : World → Prop, Hid (∀ w', S w' = Below wr.heap.size wr w') := ⟨_, fun _ => rfl⟩
      have FC : Hid (∀ w', S w' → w'.rangeAt gb (go + k * 2) [.int .i64 kk, .int .u32 (NN : Int)]) := fun w' h j u hu => by
        rw [HS.out] at h
        rw [h.cell (p := ⟨gb, go + k * 2 + j, none⟩) hgbr]
        match j, hu with
        | 0, hu => simp at hu; subst hu; exact m0
        | 1, hu => simp at hu; subst hu; exact m1
      have HIC := Lib.hid (show (Tryd.prog.info? 37).map (·.size) = some [Value.int .i64 kk, .int .u32 (NN : Int)].length by kernel_rfl)
      obtain ⟨r, hr⟩ : ∃ r, narRes y (kk, NN) = r := ⟨_, rfl⟩
      have Hok' := Lib.hid (narRes_ok y (kk, NN) hyo.out hN)
      have Hlen' := Lib.hid (narRes_len y (kk, NN))
      obtain ⟨A1, n1, c1, rfl, en1, nc1, -, rx1⟩ := hva.out.sl
      have ln1 : n1 ≤ 4 := by omega
      have N1 := fun w' (h : Below wr.heap.size wr w') => token_narrow y A1 n1 c1 kk NN w' (rx1.call h) nc1 (by omega) hyo.out.2.2.1 hyo.out.2.2.2 hN ((HT.out.below hbw.out HT.out.size).below h (Nat.le_trans HT.out.size hbw.out.size))
      obtain ⟨E1, hE1, lE1, oE1, iE1⟩ := tok_cells y.1 A1 n1 c1 y.2.2 hyo.out.2.2.1
      have H1 := fun w' (h : Below wr.heap.size wr w') => token_holds op tree clock y A1 n1 c1 w' (rx1.call h) nc1 (by omega) hyo.out
      simp only [hE1, hr] at N1 H1
      have xa := hXa.out
      rw [hE1] at xa
      have FA : Hid (∀ w', S w' → w'.rangeAt Xa 0 E1) := fun w' h => by
        rw [HS.out] at h
        exact rangeAt_blk (xa.below h xa.lt) 0 E1 (fun j u h => by simpa using h)
      have HIA := Lib.hid (show (Tryd.prog.info? 30).map (·.size) = some E1.length by rw [lE1]; exact Tryd.tok_info)
      have HN1 := Lib.hid N1
      have HH1 := Lib.hid H1
      have XA := Lib.hid xa
      have LE1 := Lib.hid lE1
      have HR4' := Lib.hid hr
      have HNN := Lib.hid hN
      rw [hr] at Hok' Hlen'
      clear N1 H1 xa hE1 lE1 oE1 iE1 rx1 hXa m0 m1 e0 e1 hrd hcav hr hgbr hN en1
      go_upto_region 6 with (fail)
      refine wp_region_fork S 12 [42, 36, 43, 44, 16] [(0, false), (1, false), (2, false), (3, false), (4, false)] 5 (.two 5 (.read 6 (.read 7 (.read 8 (.one 9 .done)))) 9 (.one 5 (.read 6 (.read 7 (.read 8 .done))))) [(10, true), (11, false)] #[true, true, true, true, true, false, false, false, false, false, false, false] #[true, true, true, true, true, true, true, true, true, true, false, false] (by kernel_rfl) rfl (by kernel_rfl) (by kernel_rfl) (by kernel_rfl) (by kernel_rfl) (by kernel_rfl) (fun _ _ d _ _ h => by cases d <;> exact h) ((HS.out _).mpr (Below.refl _ wr).drew) ?_
      refine wpSteps_load' rfl rfl 30 (.tmp 14) rfl Xa 0 rfl E1 _ FA.out Tryd.underlying30 rfl HIA.out ?_
      try simp only [Act.put, List.setIfInBounds_toArray, List.set_cons_zero, List.set_cons_succ]
      iterate 3 (refine wpSteps_read rfl rfl ⟨?_, fun w1 hS => ?_, ?_⟩; rotate_left; (focus (go_simp; (try go_bits); try rfl)); simp only [Act.put, List.setIfInBounds_toArray, List.set_cons_zero, List.set_cons_succ])
      refine wpSteps_load' rfl rfl 37 (.tmp 40) rfl gb (go + k * 2) rfl [.int .i64 kk, .int .u32 (NN : Int)] _ FC.out Tryd.underlying37 rfl HIC.out ?_
      try simp only [Act.put, List.setIfInBounds_toArray, List.set_cons_zero, List.set_cons_succ]
      refine wpSteps_nil ?_
      have hwdwr : Below wr.heap.size wr wr.drew := (Below.refl _ _).drew
      obtain ⟨Wdwr, hWdwr⟩ : ∃ x, x = wr.drew := ⟨_, rfl⟩
      have HWdwr := Lib.hid hWdwr
      rw [← hWdwr] at hwdwr ⊢
      clear hWdwr
      refine ⟨fun vs w' => ∃ A4 n4 c4 g9, vs = [.tuple #[.agg (tokv r.1.1 (.slice A4 n4 c4) r.1.2.2).toArray, .int .i64 (r.2 : Nat)], .tuple #[.agg (tokv r.1.1 (.slice A4 n4 c4) r.1.2.2).toArray, .int .i64 (r.2 : Nat)], .agg (tokv r.1.1 (.slice A4 n4 c4) r.1.2.2).toArray, .int .i64 (r.2 : Nat), .pointer (some ⟨g9, 0, none⟩)] ∧ OwnC w' wr.heap.size (.slice A4 n4 c4) r.1.2.1 ∧ Blk w' g9 30 zeroTokv.toArray ∧ wr.heap.size ≤ g9 ∧ Below wr.heap.size wr w', ?_, ?_⟩
      · refine wpTree_two rfl rfl rfl rfl ?_ ?_
        · go_simp
          refine (HN1.out Wdwr hwdwr).mono ?_
          rintro e w4 ⟨v4, rfl, o4, b4⟩
          obtain ⟨A4, n4, c4, rfl, -, -, -, -⟩ := o4.sl
          obtain ⟨F, hF⟩ : ∃ F, tokv r.1.1 (.slice A4 n4 c4) r.1.2.2 = F := ⟨_, rfl⟩
          rw [hF]
          have b4' := hwdwr.trans (b4.mono hwdwr.size)
          have o4' := OwnC.mono o4 hwdwr.size
          have HF := Lib.hid hF
          have HO := Lib.hid o4'
          have HB := Lib.hid b4'
          clear hF o4 b4 o4' b4'
          refine ⟨(HS.out _).mpr HB.out, ?_⟩
          try simp only [Act.put, List.setIfInBounds_toArray, List.set_cons_zero, List.set_cons_succ]
          iterate 3 (refine wpTree_read rfl rfl ⟨?_, fun w1 hS => ?_, ?_⟩; rotate_left; (focus (go_simp; (try go_bits); try rfl)); simp only [Act.put, List.setIfInBounds_toArray, List.set_cons_zero, List.set_cons_succ])
          refine wpTree_one rfl rfl ?_
          go_simp
          refine ⟨(HS.out _).mpr (HB.out.alloc HB.out.size _), wpTree_done ⟨[_, _, _, _, _], rfl, A4, n4, c4, w4.heap.size, by rw [HF.out], HO.out.alloc _, Blk.new _ _ _, HB.out.size, HB.out.alloc HB.out.size _⟩⟩
        · go_simp
          obtain ⟨w3, hw3⟩ : ∃ x, x = Wdwr.alloc (.cells #[.int .u32 0, .slice none 0 0, .int .u8 0, .int .u8 0, .int .u8 0, .int .u8 0, .int .u8 0, .int .u8 0, .int .u8 0, .int .u8 0, .int .u8 0, .int .u8 0, .int .u8 0, .int .u8 0, .int .u8 0, .int .u8 0, .int .u8 0, .int .u8 0, .int .u8 0, .int .u8 0, .int .u8 0, .int .u8 0, .int .u8 0, .int .u8 0, .int .u8 0, .int .u8 0, .int .u8 0, .int .u8 0, .int .u8 0, .int .u8 0, .int .u8 0, .int .u8 0, .int .u8 0, .int .u8 0] 30) := ⟨_, rfl⟩
          rw [← hw3]
          have z3 : Blk w3 Wdwr.heap.size 30 zeroTokv.toArray := by rw [hw3]; exact Blk.new _ _ _
          have b3 : Below wr.heap.size wr w3 := by rw [hw3]; exact hwdwr.alloc hwdwr.size _
          clear hw3
          refine ⟨(HS.out _).mpr b3, ?_⟩
          refine wpTree_one rfl rfl ?_
          go_simp
          refine (HN1.out w3 b3).mono ?_
          rintro e w4 ⟨v4, rfl, o4, b4⟩
          obtain ⟨A4, n4, c4, rfl, -, -, -, -⟩ := o4.sl
          obtain ⟨F, hF⟩ : ∃ F, tokv r.1.1 (.slice A4 n4 c4) r.1.2.2 = F := ⟨_, rfl⟩
          rw [hF]
          have b4' := b3.trans (b4.mono b3.size)
          have o4' := OwnC.mono o4 b3.size
          have z4 := z3.below b4 z3.lt
          have HF := Lib.hid hF
          have HO := Lib.hid o4'
          have HB := Lib.hid b4'
          have HZ := Lib.hid z4
          clear hF o4 b4 o4' b4' z4 z3 b3
          refine ⟨(HS.out _).mpr HB.out, ?_⟩
          try simp only [Act.put, List.setIfInBounds_toArray, List.set_cons_zero, List.set_cons_succ]
          iterate 3 (refine wpTree_read rfl rfl ⟨?_, fun w1 hS => ?_, ?_⟩; rotate_left; (focus (go_simp; (try go_bits); try rfl)); simp only [Act.put, List.setIfInBounds_toArray, List.set_cons_zero, List.set_cons_succ])
          refine wpTree_done ⟨[_, _, _, _, _], rfl, A4, n4, c4, Wdwr.heap.size, by rw [HF.out], HO.out, HZ.out, hwdwr.size, HB.out⟩
      rintro vs w4 - ⟨AK1, nK1, cK1, gK1, rfl, o4, z9, l9, b4⟩
      simp only [puts, Act.put, List.setIfInBounds_toArray, List.set_cons_zero, List.set_cons_succ]
      obtain ⟨FK1, hF, hlF, hoF, iF⟩ := tok_cells r.1.1 AK1 nK1 cK1 r.1.2.2 Hok'.out.2.2.1
      rw [hF]
      refine wpSeq_write rfl rfl ?_
      refine wp_store_row 30 (.tmp 16) (.tmp 43) rfl gK1 FK1.toArray rfl rfl 30 _ z9 iF (by simp [hlF, zeroTokv, tokv_len]) (by simpa using hoF) ?_
      obtain ⟨WK1, hW9⟩ : ∃ x, x = w4.setRow gK1 FK1.toArray := ⟨_, rfl⟩
      rw [← hW9]
      have fK1 : Blk WK1 gK1 30 FK1.toArray := by rw [hW9]; exact z9.setRow _
      have bK1 : Below wr.heap.size wr WK1 := by rw [hW9]; exact below_setRow b4 l9 _
      have oK1 : OwnC WK1 wr.heap.size (.slice AK1 nK1 cK1) r.1.2.1 := by rw [hW9]; exact World.ownsRow.kept o4 (grown_setRow _ _ _) (.inr (own_blk_ne o4 z9 (by decide)))
      have LFK1 := Lib.hid hlF
      have OFK1 := Lib.hid hoF
      have IFK1 := Lib.hid iF
      have EFK1 := Lib.hid hF
      have GLK1 := Lib.hid l9
      clear hW9 z9 b4 o4 iF hlF hoF hF l9
      refine ⟨fun _ => (HS.out _).mpr bK1, ?_⟩
      try simp only [Act.put, List.setIfInBounds_toArray, List.set_cons_zero, List.set_cons_succ]
      iterate 1 (refine wpSeq_read rfl rfl ⟨?_, fun w1 hS => ?_, ?_⟩; rotate_left; (focus (go_simp; (try go_bits); try rfl)); simp only [Act.put, List.setIfInBounds_toArray, List.set_cons_zero, List.set_cons_succ])
      refine wpSeq_nil ?_
      clear FA FC HS
      obtain ⟨q, hq⟩ : ∃ q, r.2 = q := ⟨_, rfl⟩
      rw [hq]
      have HQ := Lib.hid hq
      have tK1 : TokAt WK1 gK1 FK1 := ⟨fK1, LFK1.out⟩
      have en1 : nK1 = r.1.2.1.length := by have := oK1.reads.1; rw [cavv_length] at this; omega
      have hnc1 : nK1 ≤ cK1 := by
        obtain ⟨A', n', c', e', -, h', -, -⟩ := oK1.sl
        injection e' with _ q1 q2
        omega
      have tabs1 : Tabs WK1 := (HT.out.below hbw.out HT.out.size).below bK1 (Nat.le_trans HT.out.size hbw.out.size)
      have bb1 := hbw.out.trans (bK1.mono hbw.out.size)
      clear hq
      by_cases h0 : q = 0
      · subst h0
        have hr0 : (narRes y (kk, NN)).2 = 0 := by rw [HR4'.out, HQ.out]
        have e0 := narRes_ok0 hr0
        have hgen := gen_narrow hg.out hr0
        rw [HR4'.out] at e0 hgen
        have hle : nK1 ≤ 5 := by have := Hlen'.out; omega
        obtain ⟨S, HS⟩ : ∃ S : World → Prop, Hid (∀ w', S w' = Below WK1.heap.size WK1 w') := ⟨_, fun _ => rfl⟩
        have FS : Hid (∀ w' w'', S w' → Below w'.heap.size w' w'' → S w'') := fun w' w'' h k => by
          rw [HS.out] at h ⊢
          exact h.trans (k.mono h.size)
        have FK : Hid (∀ w', S w' → w'.rangeAt gK1 0 FK1) := fun w' h => by
          rw [HS.out] at h
          exact (tK1.below h tK1.lt).load
        have FA : Hid (∀ w', S w' → w'.rangeAt Xa 0 E1) := fun w' h => by
          rw [HS.out] at h
          have xk := XA.out.below bK1 XA.out.lt
          exact rangeAt_blk (xk.below h xk.lt) 0 E1 (fun j u h => by simpa using h)
        have CG := fun w' (h : S w') => HG3.out r.1 AK1 nK1 cK1 w' (oK1.reads.call (by rw [HS.out] at h; exact h)) hnc1 (by omega) Hok'.out (tabs1.below (by rw [HS.out] at h; exact h) tabs1.size)
        have CH := fun w' (h : S w') => token_holds op tree clock r.1 AK1 nK1 cK1 w' (oK1.reads.call (by rw [HS.out] at h; exact h)) hnc1 (by omega) Hok'.out
        have CH1 := fun w' (h : S w') => HH1.out w' (bK1.trans ((show Below WK1.heap.size WK1 w' by rw [HS.out] at h; exact h).mono bK1.size))
        simp only [gen_true hgen, EFK1.out] at CG
        simp only [EFK1.out] at CH
        obtain ⟨hu, hhu⟩ : ∃ b, holdsB op tree clock r.1.2.1 = b := ⟨_, rfl⟩
        simp only [hhu] at CH
        have HCG := Lib.hid CG
        have HCH := Lib.hid CH
        have HCH1 := Lib.hid CH1
        have HHU := Lib.hid hhu
        have HE0 := Lib.hid e0
        have HGEN := Lib.hid hgen
        have IK := Lib.hid tK1.info
        have TK := Lib.hid tK1
        have OK1 := Lib.hid oK1
        have BB := Lib.hid bb1
        have BK := Lib.hid bK1
        have s0 : S WK1.drew := (HS.out _).mpr (Below.refl _ WK1).drew
        have hq0 : ((0 : Nat) : Int) = 0 := rfl
        clear CG CH CH1 hhu e0 hgen tK1 oK1 bb1 bK1 tabs1 fK1
        go_upto_region 9 with (fail)
        refine wp_region_seq S 19 [(1, false), (0, true), (2, true), (3, false), (4, false), (5, false), (6, false), (7, false), (8, false), (9, true), (10, false), (11, false), (12, false), (13, false), (14, false), (15, true), (16, false), (17, false), (18, false)] (by kernel_rfl) rfl (by kernel_rfl) (by kernel_rfl) (by kernel_rfl) (fun _ _ d _ _ h => by cases d <;> exact h) s0 ?_
        refine wpSeq_load rfl rfl 30 (.tmp 16) rfl gK1 0 rfl FK1 _ FK.out Tryd.underlying30 rfl IK.out ?_
        try simp only [Act.put, List.setIfInBounds_toArray, List.set_cons_zero, List.set_cons_succ]
        refine wpSeq_write rfl rfl ?_
        go_simp
        refine (HR3.out _).mono ?_
        rintro e u1 ⟨rfl, hbu1⟩
        have s1 : S u1 := FS.out _ _ s0 hbu1
        refine ⟨s1, ?_⟩
        try simp only [Act.put, List.setIfInBounds_toArray, List.set_cons_zero, List.set_cons_succ]
        refine wpSeq_write rfl rfl ?_
        go_simp
        refine (HCG.out _ s1).mono ?_
        rintro e u2 ⟨rfl, hbu2⟩
        have s2 : S u2 := FS.out _ _ s1 hbu2
        refine ⟨s2, ?_⟩
        try simp only [Act.put, List.setIfInBounds_toArray, List.set_cons_zero, List.set_cons_succ]
        iterate 2 (refine wpSeq_read rfl rfl ⟨?_, fun w1 hS => ?_, ?_⟩; rotate_left; (focus (go_simp; (try go_bits); try rfl)); simp only [Act.put, List.setIfInBounds_toArray, List.set_cons_zero, List.set_cons_succ])
        refine wpSeq_load rfl rfl 30 (.tmp 16) rfl gK1 0 rfl FK1 _ FK.out Tryd.underlying30 rfl IK.out ?_
        try simp only [Act.put, List.setIfInBounds_toArray, List.set_cons_zero, List.set_cons_succ]
        iterate 3 (refine wpSeq_read rfl rfl ⟨?_, fun w1 hS => ?_, ?_⟩; rotate_left; (focus (go_simp; (try go_bits); try rfl)); simp only [Act.put, List.setIfInBounds_toArray, List.set_cons_zero, List.set_cons_succ])
        refine wpSeq_write rfl rfl ?_
        go_simp
        refine (HCH.out _ s2).mono ?_
        rintro e u3 ⟨rfl, hbu3⟩
        have s3 : S u3 := FS.out _ _ s2 hbu3
        refine ⟨s3, ?_⟩
        try simp only [Act.put, List.setIfInBounds_toArray, List.set_cons_zero, List.set_cons_succ]
        iterate 1 (refine wpSeq_read rfl rfl ⟨?_, fun w1 hS => ?_, ?_⟩; rotate_left; (focus (go_simp; (try go_bits); try rfl)); simp only [Act.put, List.setIfInBounds_toArray, List.set_cons_zero, List.set_cons_succ])
        cases hu
        · iterate 4 (refine wpSeq_skip rfl rfl ?_; try simp only [Act.put, List.setIfInBounds_toArray, List.set_cons_zero, List.set_cons_succ])
          refine wpSeq_skipw rfl rfl ⟨s3, ?_⟩
          try simp only [Act.put, List.setIfInBounds_toArray, List.set_cons_zero, List.set_cons_succ]
          iterate 1 (refine wpSeq_skip rfl rfl ?_; try simp only [Act.put, List.setIfInBounds_toArray, List.set_cons_zero, List.set_cons_succ])
          iterate 2 (refine wpSeq_read rfl rfl ⟨?_, fun w1 hS => ?_, ?_⟩; rotate_left; (focus (go_simp; (try go_bits); try rfl)); simp only [Act.put, List.setIfInBounds_toArray, List.set_cons_zero, List.set_cons_succ])
          refine wpSeq_nil ?_
          rw [HS.out] at s3
          have bb3 := s3
          have t3 := TK.out.below bb3 TK.out.lt
          have x3 := (XA.out.below BK.out XA.out.lt).below bb3 (Nat.lt_of_lt_of_le XA.out.lt BK.out.size)
          have o3 := OK1.out.kept bb3
          have X3 := Lib.hid x3
          have O3 := Lib.hid o3
          have RG3 := Lib.hid t3.load
          have BB3 := Lib.hid (BB.out.trans (bb3.mono BB.out.size))
          have B3W := Lib.hid (hb.out.trans ((BK.out.trans (bb3.mono BK.out.size)).mono hb.out.size))
          clear x3 o3 t3 bb3
          go_wp2_with (first
            | (refine load_mid_want rfl 30 (.tmp 16) rfl gK1 0 rfl FK1 _ RG3.out Tryd.underlying30 rfl IK.out ?_)
            | (refine wpList_store_row rfl 30 (.tmp 14) (.tmp 73) rfl Xa FK1.toArray rfl rfl 30 _ X3.out IFK1.out (by simp [LFK1.out, LE1.out]) (by simpa using OFK1.out) ?_)
            | fail)
          go_roundw
          case rel =>
            have hle := Hlen'.out
            exact ⟨k + 1, r.1, .slice AK1 nK1 cK1, by omega, by omega, by go_num, HGEN.out, Hok'.out, by omega, by rw [EFK1.out]; exact X3.out.setRow _, OwnC.mono (World.ownsRow.kept O3.out (grown_setRow _ _ _) (.inr (own_blk_ne O3.out X3.out (by decide)))) hb.out.size, below_setRow B3W.out (by omega) _⟩
          case measure => simp [intOf]; omega
        · have hht : holdsB op tree clock y.2.1 = true := by
            have h := HHU.out
            rw [HE0.out] at h
            exact holds_more h
          have CH1 := HCH1.out u3 s3
          rw [hht] at CH1
          have HC1 := Lib.hid CH1
          clear CH1 hht
          refine wpSeq_load rfl rfl 30 (.tmp 14) rfl Xa 0 rfl E1 _ FA.out Tryd.underlying30 rfl HIA.out ?_
          try simp only [Act.put, List.setIfInBounds_toArray, List.set_cons_zero, List.set_cons_succ]
          iterate 3 (refine wpSeq_read rfl rfl ⟨?_, fun w1 hS => ?_, ?_⟩; rotate_left; (focus (go_simp; (try go_bits); try rfl)); simp only [Act.put, List.setIfInBounds_toArray, List.set_cons_zero, List.set_cons_succ])
          refine wpSeq_write rfl rfl ?_
          go_simp
          refine (HC1.out).mono ?_
          rintro e u4 ⟨rfl, hbu4⟩
          have s4 : S u4 := FS.out _ _ s3 hbu4
          refine ⟨s4, ?_⟩
          try simp only [Act.put, List.setIfInBounds_toArray, List.set_cons_zero, List.set_cons_succ]
          iterate 3 (refine wpSeq_read rfl rfl ⟨?_, fun w1 hS => ?_, ?_⟩; rotate_left; (focus (go_simp; (try go_bits); try rfl)); simp only [Act.put, List.setIfInBounds_toArray, List.set_cons_zero, List.set_cons_succ])
          refine wpSeq_nil ?_
          rw [HS.out] at s4
          have bb3 := s4
          have t3 := TK.out.below bb3 TK.out.lt
          have x3 := (XA.out.below BK.out XA.out.lt).below bb3 (Nat.lt_of_lt_of_le XA.out.lt BK.out.size)
          have o3 := OK1.out.kept bb3
          have X3 := Lib.hid x3
          have O3 := Lib.hid o3
          have RG3 := Lib.hid t3.load
          have BB3 := Lib.hid (BB.out.trans (bb3.mono BB.out.size))
          have B3W := Lib.hid (hb.out.trans ((BK.out.trans (bb3.mono BK.out.size)).mono hb.out.size))
          clear x3 o3 t3 bb3
          go_wp2_with (first
            | (refine load_mid_want rfl 30 (.tmp 16) rfl gK1 0 rfl FK1 _ RG3.out Tryd.underlying30 rfl IK.out ?_)
            | (refine wpList_store_row rfl 30 (.tmp 14) (.tmp 73) rfl Xa FK1.toArray rfl rfl 30 _ X3.out IFK1.out (by simp [LFK1.out, LE1.out]) (by simpa using OFK1.out) ?_)
            | fail)
          go_roundw
          case rel =>
            have hle := Hlen'.out
            exact ⟨k + 1, r.1, .slice AK1 nK1 cK1, by omega, by omega, by go_num, HGEN.out, Hok'.out, by omega, by rw [EFK1.out]; exact X3.out.setRow _, OwnC.mono (World.ownsRow.kept O3.out (grown_setRow _ _ _) (.inr (own_blk_ne O3.out X3.out (by decide)))) hb.out.size, below_setRow B3W.out (by omega) _⟩
          case measure => simp [intOf]; omega
      · have hr0 : (narRes y (kk, NN)).2 ≠ 0 := by rw [HR4'.out, HQ.out]; exact h0
        have hz := narRes_no hr0
        rw [HR4'.out] at hz
        rw [hz] at en1
        have h0' : ¬ (q : Int) = 0 := by omega
        have c1 := tK1.blk.cell 1
        rw [← EFK1.out] at c1
        have c1' : WK1.cell? ⟨gK1, 1, none⟩ = some (.slice AK1 nK1 cK1) := by rw [c1]; rfl
        have en0 : nK1 = 0 := en1
        subst en0
        have KN := known12 WK1 tabs1
        have HKN := Lib.hid KN
        have BB := Lib.hid bb1
        clear KN bb1 en1 hz hr0 c1 tK1 oK1 bK1 tabs1 fK1 hnc1
        go_wp2_with fail
        refine HKN.out.mono ?_
        rintro e w9 ⟨rfl, b9⟩
        go_wp2_with fail
        go_ret
        exact ⟨rfl, BB.out.trans (b9.mono BB.out.size)⟩
    · obtain ⟨A1, n1, c1, rfl, en1, nc1, -, rx1⟩ := hva.out.sl
      have ln1 : n1 ≤ 4 := by omega
      obtain ⟨E1, hE1, lE1, oE1, iE1⟩ := tok_cells y.1 A1 n1 c1 y.2.2 hyo.out.2.2.1
      have xa := hXa.out
      have cA : wr.cell? ⟨Xa, 1, none⟩ = some (.slice A1 n1 c1) := xa.cell 1
      rw [hE1] at xa
      have tabr : Tabs wr := HT.out.below hbw.out HT.out.size
      have rtab : RTab wr w.heap.size := Blk.below TAB1.out hb.out (Blk.lt TAB1.out)
      have HIA := Lib.hid (show (Tryd.prog.info? 30).map (·.size) = some E1.length by rw [lE1]; exact Tryd.tok_info)
      have XA := Lib.hid xa
      have RXR := Lib.hid rx1
      have HEN := Lib.hid en1
      have HTB := Lib.hid tabr
      have HRT := Lib.hid rtab
      have EE1 := Lib.hid hE1
      have hq : ¬ ((k : Int) < n) ∨ ((k : Int) < n ∧ ¬ ((k : Int) < 4)) := by omega
      clear xa rx1 lE1 oE1 iE1 tabr rtab hXa hva hE1 en1
      by_cases hz : n1 = 0
      · subst hz
        obtain ⟨S, HS⟩ : ∃ S : World → Prop, Hid (∀ w', S w' = Below wr.heap.size wr w') := ⟨_, fun _ => rfl⟩
        have FS : Hid (∀ w' w'', S w' → Below w'.heap.size w' w'' → S w'') := fun w' w'' h k => by
          rw [HS.out] at h ⊢
          exact h.trans (k.mono h.size)
        have FA : Hid (∀ w', S w' → w'.rangeAt Xa 0 E1) := fun w' h => by
          rw [HS.out] at h
          exact rangeAt_blk (XA.out.below h XA.out.lt) 0 E1 (fun j u h => by simpa using h)
        have CG := fun w' (h : S w') => HG3.out y A1 0 c1 w' (RXR.out.call (by rw [HS.out] at h; exact h)) nc1 (by omega) hyo.out (HTB.out.below (by rw [HS.out] at h; exact h) HTB.out.size)
        have CG4 := fun w' (h : S w') => HG4.out y A1 0 c1 w' (RXR.out.call (by rw [HS.out] at h; exact h)) nc1 (by omega) hyo.out (HTB.out.below (by rw [HS.out] at h; exact h) HTB.out.size)
        have CQ4 := fun w' (h : S w') => HQ4.out w.heap.size y A1 0 c1 w' (RXR.out.call (by rw [HS.out] at h; exact h)) nc1 (by omega) hyo.out (Blk.below HRT.out (by rw [HS.out] at h; exact h) (Blk.lt HRT.out))
        have CK := fun w' (h : S w') => known12 w' (HTB.out.below (by rw [HS.out] at h; exact h) HTB.out.size)
        obtain ⟨g4, hg4⟩ : ∃ b, genuineB (rootb 4) y = b := ⟨_, rfl⟩
        simp only [gen_true hg.out, EE1.out] at CG
        simp only [hg4, EE1.out] at CG4 CQ4
        have HCG := Lib.hid CG
        have HCG4 := Lib.hid CG4
        have HCQ4 := Lib.hid CQ4
        have HCK := Lib.hid CK
        have s0 : S wr.drew := (HS.out _).mpr (Below.refl _ wr).drew
        clear CG CG4 CQ4 CK hg4
        rcases hq with q1 | ⟨q1, q2⟩
        all_goals
          go_wp2_with fail
          refine wp_region_seq S 17 [(1, false), (0, true), (2, true), (3, false), (5, false), (7, false), (9, false), (4, true), (6, true), (8, true), (10, true), (11, false), (12, false), (13, false), (14, true), (15, false), (16, false)] (by kernel_rfl) rfl (by kernel_rfl) (by kernel_rfl) (by kernel_rfl) (fun _ _ d _ _ h => by cases d <;> exact h) s0 ?_
          refine wpSeq_load rfl rfl 30 (.tmp 14) rfl Xa 0 rfl E1 _ FA.out Tryd.underlying30 rfl HIA.out ?_
          try simp only [Act.put, List.setIfInBounds_toArray, List.set_cons_zero, List.set_cons_succ]
          refine wpSeq_write rfl rfl ?_
          go_simp
          refine (HR3.out _).mono ?_
          rintro e u1 ⟨rfl, hbu1⟩
          have s1 : S u1 := FS.out _ _ s0 hbu1
          refine ⟨s1, ?_⟩
          try simp only [Act.put, List.setIfInBounds_toArray, List.set_cons_zero, List.set_cons_succ]
          refine wpSeq_write rfl rfl ?_
          go_simp
          refine (HCG.out _ s1).mono ?_
          rintro e u2 ⟨rfl, hbu2⟩
          have s2 : S u2 := FS.out _ _ s1 hbu2
          refine ⟨s2, ?_⟩
          try simp only [Act.put, List.setIfInBounds_toArray, List.set_cons_zero, List.set_cons_succ]
          iterate 1 (refine wpSeq_read rfl rfl ⟨?_, fun w1 hS => ?_, ?_⟩; rotate_left; (focus (go_simp; (try go_bits); try rfl)); simp only [Act.put, List.setIfInBounds_toArray, List.set_cons_zero, List.set_cons_succ])
          refine wpSeq_load rfl rfl 30 (.tmp 14) rfl Xa 0 rfl E1 _ FA.out Tryd.underlying30 rfl HIA.out ?_
          try simp only [Act.put, List.setIfInBounds_toArray, List.set_cons_zero, List.set_cons_succ]
          iterate 1 (refine wpSeq_read rfl rfl ⟨?_, fun w1 hS => ?_, ?_⟩; rotate_left; (focus (go_simp; (try go_bits); try rfl)); simp only [Act.put, List.setIfInBounds_toArray, List.set_cons_zero, List.set_cons_succ])
          refine wpSeq_load rfl rfl 30 (.tmp 14) rfl Xa 0 rfl E1 _ FA.out Tryd.underlying30 rfl HIA.out ?_
          try simp only [Act.put, List.setIfInBounds_toArray, List.set_cons_zero, List.set_cons_succ]
          refine wpSeq_write rfl rfl ?_
          go_simp
          refine (HR4.out _).mono ?_
          rintro e u3 ⟨rfl, hbu3⟩
          have s3 : S u3 := FS.out _ _ s2 hbu3
          refine ⟨s3, ?_⟩
          try simp only [Act.put, List.setIfInBounds_toArray, List.set_cons_zero, List.set_cons_succ]
          refine wpSeq_write rfl rfl ?_
          go_simp
          refine (HCG4.out _ s3).mono ?_
          rintro e u4 ⟨rfl, hbu4⟩
          have s4 : S u4 := FS.out _ _ s3 hbu4
          refine ⟨s4, ?_⟩
          try simp only [Act.put, List.setIfInBounds_toArray, List.set_cons_zero, List.set_cons_succ]
          refine wpSeq_write rfl rfl ?_
          go_simp
          refine (HR4.out _).mono ?_
          rintro e u5 ⟨rfl, hbu5⟩
          have s5 : S u5 := FS.out _ _ s4 hbu5
          refine ⟨s5, ?_⟩
          try simp only [Act.put, List.setIfInBounds_toArray, List.set_cons_zero, List.set_cons_succ]
          refine wpSeq_write rfl rfl ?_
          go_simp
          refine (HCQ4.out _ s5).mono ?_
          rintro e u6 ⟨rfl, hbu6⟩
          have s6 : S u6 := FS.out _ _ s5 hbu6
          refine ⟨s6, ?_⟩
          try simp only [Act.put, List.setIfInBounds_toArray, List.set_cons_zero, List.set_cons_succ]
          iterate 3 (refine wpSeq_read rfl rfl ⟨?_, fun w1 hS => ?_, ?_⟩; rotate_left; (focus (go_simp; (try go_bits); try rfl)); simp only [Act.put, List.setIfInBounds_toArray, List.set_cons_zero, List.set_cons_succ])
          refine wpSeq_write rfl rfl ?_
          go_simp
          refine (HCK.out _ s6).mono ?_
          rintro e u7 ⟨rfl, hbu7⟩
          have s7 : S u7 := FS.out _ _ s6 hbu7
          refine ⟨s7, ?_⟩
          try simp only [Act.put, List.setIfInBounds_toArray, List.set_cons_zero, List.set_cons_succ]
          iterate 2 (refine wpSeq_read rfl rfl ⟨?_, fun w1 hS => ?_, ?_⟩; rotate_left; (focus (go_simp; (try go_bits); try rfl)); simp only [Act.put, List.setIfInBounds_toArray, List.set_cons_zero, List.set_cons_succ])
          refine wpSeq_nil ?_
          go_wp2_with fail
          go_ret
          rw [HS.out] at s7
          exact ⟨rfl, hbw.out.trans (s7.mono hbw.out.size)⟩
      · obtain ⟨m, hm⟩ : ∃ m, n1 = m + 1 := ⟨n1 - 1, by omega⟩
        have wb := within_bd at_ 0 (m : Int) (by omega)
        have WI := book_within at_ 0 (m : Int) wr (by omega) (by omega) (by omega) ha.1 ha.2
        obtain ⟨a, haa⟩ := Int.eq_ofNat_of_zero_le wb.1
        rw [haa] at WI wb
        have ham : a < n1 := by omega
        have qa : (a : Int) < n1 := by omega
        have hnz : ¬ (n1 : Int) = 0 := by omega
        have hm1 : (n1 : Int) - 1 = m := by omega
        obtain ⟨ca, hca⟩ : ∃ c, y.2.1[a]? = some c := ⟨_, List.getElem?_eq_getElem (by rw [← HEN.out]; exact ham)⟩
        obtain ⟨ka, Na⟩ := ca
        obtain ⟨N', hN'⟩ : ∃ N', (Na + 1) % 4294967296 = N' := ⟨_, rfl⟩
        have wN : IntKind.u32.wrap ((Na : Int) + 1) = N' := by rw [IntKind.wrap_u32]; omega
        have lN' : N' < 4294967296 := by omega
        have HCA := Lib.hid hca
        have HWI := Lib.hid WI
        have HWN := Lib.hid wN
        have HMN := Lib.hid hm
        have CP := fun w' (h : Reads w' w'.heap.size 2 A1 n1 (cavv y.2.1)) => keep_copy_token y.1 y.2.1 A1 n1 c1 y.2.2 w' h (by omega) hyo.out.2.2.1
        simp only [EE1.out] at CP
        have HCP := Lib.hid CP
        have RGu := Lib.hid (rangeAt_blk XA.out 0 E1 (fun j u h => by simpa using h))
        clear WI haa wb hca hN' wN hm CP
        rcases hq with q1 | ⟨q1, q2⟩
        all_goals
          go_wp2_with fail
          refine HWI.out.mono ?_
          rintro e w' ⟨rfl, rfl⟩
          go_wp2_with (refine load_mid_want rfl 30 (.tmp 14) rfl Xa 0 rfl E1 _ RGu.out Tryd.underlying30 rfl HIA.out ?_)
          refine (HCP.out wr RXR.out).mono ?_
          rintro e wau ⟨vau, rfl, oau, bau⟩
          obtain ⟨gu, capu, Cu, rfl, lgu, gbu, ncu, mcu, lCu, tku⟩ := oau.blk (by rw [← HEN.out]; omega)
          rw [show y.2.1.length = n1 from HEN.out.symm] at ncu ⊢
          obtain ⟨Uu, hUu, lUu, oUu, iUu⟩ := tok_cells y.1 (some ⟨gu, 0, none⟩) n1 capu y.2.2 hyo.out.2.2.1
          rw [hUu]
          have LUu := Lib.hid lUu
          have OUu := Lib.hid oUu
          have IUu := Lib.hid iUu
          have EUu := Lib.hid hUu
          have TKu := Lib.hid tku
          have LCu := Lib.hid lCu
          have Zu := Lib.hid (Blk.new wau 30 #[.int .u32 0, .slice none 0 0, .int .u8 0, .int .u8 0, .int .u8 0, .int .u8 0, .int .u8 0, .int .u8 0, .int .u8 0, .int .u8 0, .int .u8 0, .int .u8 0, .int .u8 0, .int .u8 0, .int .u8 0, .int .u8 0, .int .u8 0, .int .u8 0, .int .u8 0, .int .u8 0, .int .u8 0, .int .u8 0, .int .u8 0, .int .u8 0, .int .u8 0, .int .u8 0, .int .u8 0, .int .u8 0, .int .u8 0, .int .u8 0, .int .u8 0, .int .u8 0, .int .u8 0, .int .u8 0])
          have GBu := Lib.hid gbu
          have BAu := Lib.hid bau
          have lggu := gbu.lt
          clear lUu oUu iUu hUu tku gbu oau bau lCu
          go_upto_region 17 with (refine wpList_store_row rfl 30 (.tmp 19) (.tmp 100) rfl wau.heap.size Uu.toArray rfl rfl 30 _ Zu.out IUu.out (by simp [LUu.out]) (by simpa using OUu.out) ?_)
          obtain ⟨wbu, hwbu⟩ : ∃ x, x = (wau.alloc (.cells #[.int .u32 0, .slice none 0 0, .int .u8 0, .int .u8 0, .int .u8 0, .int .u8 0, .int .u8 0, .int .u8 0, .int .u8 0, .int .u8 0, .int .u8 0, .int .u8 0, .int .u8 0, .int .u8 0, .int .u8 0, .int .u8 0, .int .u8 0, .int .u8 0, .int .u8 0, .int .u8 0, .int .u8 0, .int .u8 0, .int .u8 0, .int .u8 0, .int .u8 0, .int .u8 0, .int .u8 0, .int .u8 0, .int .u8 0, .int .u8 0, .int .u8 0, .int .u8 0, .int .u8 0, .int .u8 0] 30)).setRow wau.heap.size Uu.toArray := ⟨_, rfl⟩
          rw [← hwbu]
          have twbu : TokAt wbu wau.heap.size Uu := by rw [hwbu]; exact ⟨Blk.setRow (Blk.new _ _ _) _, LUu.out⟩
          have bwbu : Below wau.heap.size wau wbu := by rw [hwbu]; exact below_setRow ((Below.refl _ _).alloc (Nat.le_refl _) _) (Nat.le_refl _) _
          clear hwbu
          have BBu := Lib.hid (BAu.out.trans (bwbu.mono BAu.out.size))
          have GBBu := Lib.hid (GBu.out.below bwbu GBu.out.lt)
          have TTu := Lib.hid twbu
          have ctu : wbu.cell? ⟨wau.heap.size, 1, none⟩ = some (.slice (some ⟨gu, 0, none⟩) n1 capu) := by
            have h := twbu.blk.cell 1
            rw [← EUu.out] at h
            exact h
          have ftu := twbu.blk.frozen 1
          have lxu := twbu.lt
          clear twbu bwbu Zu GBu BAu
          obtain ⟨mu0, mu1⟩ := row_cav GBBu.out TKu.out HCA.out
          dsimp only at mu0 mu1
          have fru := GBBu.out.frozen (a * 2 + 1)
          have wN := HWN.out
          go_upto_region 18 with (fail)
          obtain ⟨w7, hw7⟩ : ∃ x, x = wbu.setCell ⟨gu, a * 2 + 1, none⟩ (.int .u32 N') := ⟨_, rfl⟩
          rw [← hw7]
          have gu7 : Blk w7 gu 37 (Cu.set (a * 2 + 1) (.int .u32 (N' : Int))).toArray := by
            rw [hw7]
            have h := GBBu.out.set_ (a * 2 + 1) (.int .u32 (N' : Int))
            rwa [List.setIfInBounds_toArray] at h
          have elu : (y.2.1.set a (ka, N')).length = n1 := by rw [List.length_set]; exact HEN.out.symm
          have tku := take_set1 (N := N') TKu.out HCA.out
          rw [elu] at tku
          have ru7 := reads_row gu7 tku (by rw [cavv_length, elu])
          have tt7 : TokAt w7 wau.heap.size Uu := ⟨by rw [hw7]; exact TTu.out.blk.far (by show wau.heap.size ≠ gu; omega) _, TTu.out.len⟩
          have b7 : Below wr.heap.size wr w7 := by rw [hw7]; exact BBu.out.setCell lgu _
          have RGv := Lib.hid (rangeAt_blk (XA.out.below b7 XA.out.lt) 0 E1 (fun j u h => by simpa using h))
          have RX7 := Lib.hid (RXR.out.call b7)
          have RU7 := Lib.hid ru7
          have TT7 := Lib.hid tt7
          have B7 := Lib.hid b7
          clear ru7 tt7 b7 tku elu gu7 mu0 mu1 fru wN hw7 ctu ftu GBBu TTu BBu TKu LCu
          go_wp2_with (refine load_mid_want rfl 30 (.tmp 14) rfl Xa 0 rfl E1 _ RGv.out Tryd.underlying30 rfl HIA.out ?_)
          refine (HCP.out w7 RX7.out).mono ?_
          rintro e wav ⟨vav, rfl, oav, bav⟩
          obtain ⟨gv, capv, Cv, rfl, lgv, gbv, ncv, mcv, lCv, tkv⟩ := oav.blk (by rw [← HEN.out]; omega)
          rw [show y.2.1.length = n1 from HEN.out.symm] at ncv ⊢
          obtain ⟨Uv, hUv, lUv, oUv, iUv⟩ := tok_cells y.1 (some ⟨gv, 0, none⟩) n1 capv y.2.2 hyo.out.2.2.1
          rw [hUv]
          have LUv := Lib.hid lUv
          have OUv := Lib.hid oUv
          have IUv := Lib.hid iUv
          have EUv := Lib.hid hUv
          have TKv := Lib.hid tkv
          have LCv := Lib.hid lCv
          have Zv := Lib.hid (Blk.new wav 30 #[.int .u32 0, .slice none 0 0, .int .u8 0, .int .u8 0, .int .u8 0, .int .u8 0, .int .u8 0, .int .u8 0, .int .u8 0, .int .u8 0, .int .u8 0, .int .u8 0, .int .u8 0, .int .u8 0, .int .u8 0, .int .u8 0, .int .u8 0, .int .u8 0, .int .u8 0, .int .u8 0, .int .u8 0, .int .u8 0, .int .u8 0, .int .u8 0, .int .u8 0, .int .u8 0, .int .u8 0, .int .u8 0, .int .u8 0, .int .u8 0, .int .u8 0, .int .u8 0, .int .u8 0, .int .u8 0])
          have GBv := Lib.hid gbv
          have BAv := Lib.hid bav
          have lggv := gbv.lt
          clear lUv oUv iUv hUv tkv gbv oav bav lCv
          go_upto_region 19 with (refine wpList_store_row rfl 30 (.tmp 20) (.tmp 111) rfl wav.heap.size Uv.toArray rfl rfl 30 _ Zv.out IUv.out (by simp [LUv.out]) (by simpa using OUv.out) ?_)
          obtain ⟨wbv, hwbv⟩ : ∃ x, x = (wav.alloc (.cells #[.int .u32 0, .slice none 0 0, .int .u8 0, .int .u8 0, .int .u8 0, .int .u8 0, .int .u8 0, .int .u8 0, .int .u8 0, .int .u8 0, .int .u8 0, .int .u8 0, .int .u8 0, .int .u8 0, .int .u8 0, .int .u8 0, .int .u8 0, .int .u8 0, .int .u8 0, .int .u8 0, .int .u8 0, .int .u8 0, .int .u8 0, .int .u8 0, .int .u8 0, .int .u8 0, .int .u8 0, .int .u8 0, .int .u8 0, .int .u8 0, .int .u8 0, .int .u8 0, .int .u8 0, .int .u8 0] 30)).setRow wav.heap.size Uv.toArray := ⟨_, rfl⟩
          rw [← hwbv]
          have twbv : TokAt wbv wav.heap.size Uv := by rw [hwbv]; exact ⟨Blk.setRow (Blk.new _ _ _) _, LUv.out⟩
          have bwbv : Below wav.heap.size wav wbv := by rw [hwbv]; exact below_setRow ((Below.refl _ _).alloc (Nat.le_refl _) _) (Nat.le_refl _) _
          clear hwbv
          have BBv := Lib.hid (BAv.out.trans (bwbv.mono BAv.out.size))
          have GBBv := Lib.hid (GBv.out.below bwbv GBv.out.lt)
          have TTv := Lib.hid twbv
          have ctv : wbv.cell? ⟨wav.heap.size, 1, none⟩ = some (.slice (some ⟨gv, 0, none⟩) n1 capv) := by
            have h := twbv.blk.cell 1
            rw [← EUv.out] at h
            exact h
          have ftv := twbv.blk.frozen 1
          have lxv := twbv.lt
          clear twbv bwbv Zv GBv BAv
          have qm1 : (m : Int) ≤ capv := by have := HMN.out; omega
          have qm0 : m ≤ capv := by have := HMN.out; omega
          go_upto_region 20 with (fail)
          obtain ⟨w10, hw10⟩ : ∃ x, x = wbv.setCell ⟨wav.heap.size, 1, none⟩ (.slice (some ⟨gv, 0, none⟩) m capv) := ⟨_, rfl⟩
          rw [← hw10]
          obtain ⟨V, hV, lV, oV, iV⟩ := tok_cells y.1 (some ⟨gv, 0, none⟩) m capv y.2.2 hyo.out.2.2.1
          have tv10 : TokAt w10 wav.heap.size V := ⟨by
            rw [hw10, ← hV]
            have h := TTv.out.blk.set_ 1 (.slice (some ⟨gv, 0, none⟩) m capv)
            rw [← EUv.out] at h
            exact h, lV⟩
          have gv10 : Blk w10 gv 37 Cv.toArray := by rw [hw10]; exact GBBv.out.far (by show gv ≠ wav.heap.size; omega) _
          have rv10 := reads_row (n := m) gv10 (take_cavv TKv.out (by rw [← HEN.out]; have := HMN.out; omega)) (by rw [cavv_length, List.length_take, ← HEN.out]; have := HMN.out; omega)
          have b10 : Below w7.heap.size w7 w10 := by rw [hw10]; exact BBv.out.setCell (by show w7.heap.size ≤ wav.heap.size; omega) _
          have b10' := B7.out.trans (b10.mono B7.out.size)
          have RGx := Lib.hid (rangeAt_blk (XA.out.below b10' XA.out.lt) 0 E1 (fun j u h => by simpa using h))
          have RX10 := Lib.hid (RXR.out.call b10')
          have RV10 := Lib.hid rv10
          have TV10 := Lib.hid tv10
          have B10 := Lib.hid b10
          have B10' := Lib.hid b10'
          have EV := Lib.hid hV
          clear rv10 tv10 b10 b10' gv10 hV lV oV iV hw10 ctv ftv GBBv TTv BBv TKv LCv qm1 qm0
          go_wp2_with (refine load_mid_want rfl 30 (.tmp 14) rfl Xa 0 rfl E1 _ RGx.out Tryd.underlying30 rfl HIA.out ?_)
          refine (HCP.out w10 RX10.out).mono ?_
          rintro e wax ⟨vax, rfl, oax, bax⟩
          obtain ⟨gx, capx, Cx, rfl, lgx, gbx, ncx, mcx, lCx, tkx⟩ := oax.blk (by rw [← HEN.out]; omega)
          rw [show y.2.1.length = n1 from HEN.out.symm] at ncx ⊢
          obtain ⟨Ux, hUx, lUx, oUx, iUx⟩ := tok_cells y.1 (some ⟨gx, 0, none⟩) n1 capx y.2.2 hyo.out.2.2.1
          rw [hUx]
          have LUx := Lib.hid lUx
          have OUx := Lib.hid oUx
          have IUx := Lib.hid iUx
          have EUx := Lib.hid hUx
          have TKx := Lib.hid tkx
          have LCx := Lib.hid lCx
          have Zx := Lib.hid (Blk.new wax 30 #[.int .u32 0, .slice none 0 0, .int .u8 0, .int .u8 0, .int .u8 0, .int .u8 0, .int .u8 0, .int .u8 0, .int .u8 0, .int .u8 0, .int .u8 0, .int .u8 0, .int .u8 0, .int .u8 0, .int .u8 0, .int .u8 0, .int .u8 0, .int .u8 0, .int .u8 0, .int .u8 0, .int .u8 0, .int .u8 0, .int .u8 0, .int .u8 0, .int .u8 0, .int .u8 0, .int .u8 0, .int .u8 0, .int .u8 0, .int .u8 0, .int .u8 0, .int .u8 0, .int .u8 0, .int .u8 0])
          have GBx := Lib.hid gbx
          have BAx := Lib.hid bax
          have lggx := gbx.lt
          clear lUx oUx iUx hUx tkx gbx oax bax lCx
          go_upto_region 21 with (refine wpList_store_row rfl 30 (.tmp 21) (.tmp 119) rfl wax.heap.size Ux.toArray rfl rfl 30 _ Zx.out IUx.out (by simp [LUx.out]) (by simpa using OUx.out) ?_)
          obtain ⟨wbx, hwbx⟩ : ∃ x, x = (wax.alloc (.cells #[.int .u32 0, .slice none 0 0, .int .u8 0, .int .u8 0, .int .u8 0, .int .u8 0, .int .u8 0, .int .u8 0, .int .u8 0, .int .u8 0, .int .u8 0, .int .u8 0, .int .u8 0, .int .u8 0, .int .u8 0, .int .u8 0, .int .u8 0, .int .u8 0, .int .u8 0, .int .u8 0, .int .u8 0, .int .u8 0, .int .u8 0, .int .u8 0, .int .u8 0, .int .u8 0, .int .u8 0, .int .u8 0, .int .u8 0, .int .u8 0, .int .u8 0, .int .u8 0, .int .u8 0, .int .u8 0] 30)).setRow wax.heap.size Ux.toArray := ⟨_, rfl⟩
          rw [← hwbx]
          have twbx : TokAt wbx wax.heap.size Ux := by rw [hwbx]; exact ⟨Blk.setRow (Blk.new _ _ _) _, LUx.out⟩
          have bwbx : Below wax.heap.size wax wbx := by rw [hwbx]; exact below_setRow ((Below.refl _ _).alloc (Nat.le_refl _) _) (Nat.le_refl _) _
          clear hwbx
          have BBx := Lib.hid (BAx.out.trans (bwbx.mono BAx.out.size))
          have GBBx := Lib.hid (GBx.out.below bwbx GBx.out.lt)
          have TTx := Lib.hid twbx
          have ctx : wbx.cell? ⟨wax.heap.size, 1, none⟩ = some (.slice (some ⟨gx, 0, none⟩) n1 capx) := by
            have h := twbx.blk.cell 1
            rw [← EUx.out] at h
            exact h
          have ftx := twbx.blk.frozen 1
          have lxx := twbx.lt
          clear twbx bwbx Zx GBx BAx
          have qm2 : (m : Int) < n1 := by have := HMN.out; omega
          have HWM := Lib.hid (show IntKind.i64.wrap (m : Int) = m from IntWalk.i64_in _ (by omega))
          have q0n : (0 : Int) < n1 := by omega
          have qm3 : m < n1 := by have := HMN.out; omega
          have q0n' : 0 < n1 := by omega
          obtain ⟨c0, hc0⟩ : ∃ c, y.2.1[0]? = some c := ⟨_, List.getElem?_eq_getElem (by rw [← HEN.out]; omega)⟩
          obtain ⟨cm, hcm⟩ : ∃ c, y.2.1[m]? = some c := ⟨_, List.getElem?_eq_getElem (by rw [← HEN.out]; have := HMN.out; omega)⟩
          have HC0 := Lib.hid hc0
          have HCM := Lib.hid hcm
          clear hc0 hcm
          obtain ⟨S, HS⟩ : ∃ S : World → Prop, Hid (∀ w', S w' = Blk w' wax.heap.size 30 Ux.toArray) := ⟨_, fun _ => rfl⟩
          have FX : Hid (∀ w', S w' → w'.cell? ⟨wax.heap.size, 1, none⟩ = some (.slice (some ⟨gx, 0, none⟩) n1 capx)) := fun w' h => by
            rw [HS.out] at h
            have h1 := h.cell 1
            rw [← EUx.out] at h1
            exact h1
          have HIC := Lib.hid (show ∀ c : Int × Nat, (Tryd.prog.info? 37).map (·.size) = some [Value.int .i64 c.1, .int .u32 (c.2 : Int)].length from fun _ => by kernel_rfl)
          have gxw := Lib.hid (show gx ≠ wax.heap.size by omega)
          go_upto_region 21 with (fail)
          refine wp_region_inv S 20 [131, 135, 136, 137] [(0, false), (1, false), (2, false), (3, false), (4, false), (5, false), (6, false), (7, false), (8, false), (9, false), (10, false), (12, false), (13, false), (14, false)] 6 [(11, []), (15, []), (16, [11, 15]), (17, [11, 15, 16]), (18, [17]), (19, [17, 18, 15])] [] #[true, true, true, true, true, true, true, true, true, true, true, false, true, true, true, false, false, false, false, false] #[true, true, true, true, true, true, true, true, true, true, true, true, true, true, true, true, true, true, true, true] (by kernel_rfl) rfl (by kernel_rfl) (by kernel_rfl) (by kernel_rfl) (by kernel_rfl) (by kernel_rfl) (by kernel_rfl) (fun _ _ d _ _ h => by cases d <;> exact h) ((HS.out _).mpr TTx.out.blk.drew) ?_
          iterate 5 (refine wpSteps_read rfl rfl ⟨?_, fun w1 hS => ?_, ?_⟩; rotate_left; (focus (have g1 := FX.out w1 hS; have hwm := HWM.out; go_simp; try rfl)); simp only [Act.put, List.setIfInBounds_toArray, List.set_cons_zero, List.set_cons_succ])
          refine wpSteps_read rfl rfl ⟨.int .i64 m, fun w1 hS => ?_, ?_⟩
          · have hwm := HWM.out
            go_simp
          simp only [Act.put, List.setIfInBounds_toArray, List.set_cons_zero, List.set_cons_succ]
          iterate 3 (refine wpSteps_read rfl rfl ⟨?_, fun w1 hS => ?_, ?_⟩; rotate_left; (focus (have g1 := FX.out w1 hS; have hwm := HWM.out; go_simp; try rfl)); simp only [Act.put, List.setIfInBounds_toArray, List.set_cons_zero, List.set_cons_succ])
          refine wpSteps_read rfl rfl ⟨.int .i64 m, fun w1 hS => ?_, ?_⟩
          · have hwm := HWM.out
            go_simp
          simp only [Act.put, List.setIfInBounds_toArray, List.set_cons_zero, List.set_cons_succ]
          iterate 4 (refine wpSteps_read rfl rfl ⟨?_, fun w1 hS => ?_, ?_⟩; rotate_left; (focus (have g1 := FX.out w1 hS; have hwm := HWM.out; go_simp; try rfl)); simp only [Act.put, List.setIfInBounds_toArray, List.set_cons_zero, List.set_cons_succ])
          refine wpSteps_nil ?_
          refine ⟨fun D vs w' => ∃ x131 x135 x136 x137, vs = [x131, x135, x136, x137] ∧ SwInv wbx.drew gx m Cx c0 cm D x131 x135 x136 x137 w', ⟨[_, _, _, _], rfl, _, _, _, _, rfl, ?_⟩, ⟨?_, ?_, ?_, ?_, ?_, ?_, trivial⟩, ?_⟩
          · exact ⟨World.grownBy.refl _ _, fun h => (nomatch h), fun h => (nomatch h), fun h => (nomatch h), fun h => (nomatch h), fun h => (nomatch h), fun _ => GBBx.out.drew, fun h => (nomatch h), fun h => (nomatch h)⟩
          · rintro D vs w' hS ⟨x131, x135, x136, x137, rfl, hI⟩ hD hd
            simp only [puts, Act.put, List.setIfInBounds_toArray, List.set_cons_zero, List.set_cons_succ]
            have h17 : D 17 = false := by
              rcases Bool.eq_false_or_eq_true (D 17) with e | e
              · rw [(hI.f17 e).1] at hD; cases hD
              · exact e
            obtain ⟨r0, r1⟩ := row_cav (hI.s0 h17) TKx.out HCM.out
            refine wpOp_hid fun K hK => wpOp_at rfl rfl ?_
            refine wp_load_mid 37 (.tmp 130) rfl gx (m * 2) rfl [.int .i64 cm.1, .int .u32 (cm.2 : Int)] _ (fun j u hu => ?_) Tryd.underlying37 rfl (HIC.out cm) ?_
            · match j, hu with
              | 0, hu => simp at hu; subst hu; exact r0
              | 1, hu => simp at hu; subst hu; exact r1
            · exact hK _ _ ⟨hS, [_, _, _, _], rfl, _, _, _, _, rfl, hI.op11⟩
          · rintro D vs w' hS ⟨x131, x135, x136, x137, rfl, hI⟩ hD hd
            simp only [puts, Act.put, List.setIfInBounds_toArray, List.set_cons_zero, List.set_cons_succ]
            have h17 : D 17 = false := by
              rcases Bool.eq_false_or_eq_true (D 17) with e | e
              · rw [(hI.f17 e).2.1] at hD; cases hD
              · exact e
            obtain ⟨r0, r1⟩ := row_cav (hI.s0 h17) TKx.out HC0.out
            refine wpOp_hid fun K hK => wpOp_at rfl rfl ?_
            refine wp_load_mid 37 (.tmp 134) rfl gx 0 rfl [.int .i64 c0.1, .int .u32 (c0.2 : Int)] _ (fun j u hu => ?_) Tryd.underlying37 rfl (HIC.out c0) ?_
            · match j, hu with
              | 0, hu => simp at hu; subst hu; exact r0
              | 1, hu => simp at hu; subst hu; exact r1
            · exact hK _ _ ⟨hS, [_, _, _, _], rfl, _, _, _, _, rfl, hI.op15⟩
          · rintro D vs w' hS ⟨x131, x135, x136, x137, rfl, hI⟩ hD hd
            simp only [puts, Act.put, List.setIfInBounds_toArray, List.set_cons_zero, List.set_cons_succ]
            refine wpOp_hid fun K hK => wpOp_at rfl rfl ?_
            go_simp
            exact hK _ _ ⟨hS, [_, _, _, _], rfl, _, _, _, _, rfl, hI.op16⟩
          · rintro D vs w' hS ⟨x131, x135, x136, x137, rfl, hI⟩ hD hd
            simp only [puts, Act.put, List.setIfInBounds_toArray, List.set_cons_zero, List.set_cons_succ]
            have h11 := hd 11 (by simp)
            have h15 := hd 15 (by simp)
            have h16 := hd 16 (by simp)
            obtain rfl := hI.f11 h11
            obtain rfl := hI.f16 h16
            have b17 := hI.s0 hD
            refine wpOp_hid fun K hK => wpOp_at rfl rfl ?_
            refine wp_store_mid 37 (.tmp 136) (.tmp 131) rfl gx 0 #[.int .i64 cm.1, .int .u32 (cm.2 : Int)] rfl rfl (there_blk b17 0 2 (by rw [LCx.out]; omega)) (HIC.out cm) (cav_one cm) ?_
            refine hK _ _ ⟨?_, [_, _, _, _], rfl, _, _, _, _, rfl, hI.op17 hD h11 h15 h16⟩
            rw [HS.out] at hS ⊢
            exact hS.grown (grown_setCells gx _ 0 w') (fun e => by injection e with e; exact gxw.out e.symm)
          · rintro D vs w' hS ⟨x131, x135, x136, x137, rfl, hI⟩ hD hd
            simp only [puts, Act.put, List.setIfInBounds_toArray, List.set_cons_zero, List.set_cons_succ]
            refine wpOp_hid fun K hK => wpOp_at rfl rfl ?_
            go_simp
            exact hK _ _ ⟨hS, [_, _, _, _], rfl, _, _, _, _, rfl, hI.op18⟩
          · rintro D vs w' hS ⟨x131, x135, x136, x137, rfl, hI⟩ hD hd
            simp only [puts, Act.put, List.setIfInBounds_toArray, List.set_cons_zero, List.set_cons_succ]
            have h15 := hd 15 (by simp)
            have h17 := hd 17 (by simp)
            have h18 := hd 18 (by simp)
            obtain rfl := hI.f15 h15
            obtain rfl := hI.f18 h18
            have b19 := hI.s1 h17 hD
            refine wpOp_hid fun K hK => wpOp_at rfl rfl ?_
            refine wp_store_mid 37 (.tmp 137) (.tmp 135) rfl gx (m * 2) #[.int .i64 c0.1, .int .u32 (c0.2 : Int)] rfl rfl (there_blk b19 (m * 2) 2 (by rw [List.length_set, List.length_set, LCx.out]; have := HMN.out; omega)) (HIC.out c0) (cav_one c0) ?_
            refine hK _ _ ⟨?_, [_, _, _, _], rfl, _, _, _, _, rfl, hI.op19 hD h17⟩
            rw [HS.out] at hS ⊢
            exact hS.grown (grown_setCells gx _ (m * 2) w') (fun e => by injection e with e; exact gxw.out e.symm)
          rintro vs wz hSz ⟨x131, x135, x136, x137, rfl, hI⟩
          simp only [puts, Act.put, List.setIfInBounds_toArray, List.set_cons_zero, List.set_cons_succ]
          refine wpSeq_nil ?_
          have lsw : (swapped y.2.1 m c0 cm).length = n1 := by rw [swapped, List.length_set, List.length_set]; exact HEN.out.symm
          have tsw := take_swapped (c0 := c0) (c1 := cm) (m := m) TKx.out (by rw [← HEN.out]; have := HMN.out; omega)
          rw [lsw] at tsw
          have rz := reads_row (hI.s2 rfl).2 tsw (by rw [cavv_length, lsw])
          rw [HS.out] at hSz
          have tz : TokAt wz wax.heap.size Ux := ⟨hSz, TTx.out.len⟩
          have bz : Below w10.heap.size w10 wz := BBx.out.drew.grown hI.gr (by have := BBx.out.size; simpa using this) (fun k hk => by injection hk with hk; omega)
          have b7z : Below w7.heap.size w7 wz := B10.out.trans (bz.mono B10.out.size)
          have brz : Below wr.heap.size wr wz := B7.out.trans (b7z.mono B7.out.size)
          have hln := hyo.out.2.1
          have l0 : c0.2 < 4294967296 := hln c0 (List.mem_of_getElem? HC0.out)
          have lm : cm.2 < 4294967296 := hln cm (List.mem_of_getElem? HCM.out)
          have okU : Tok.Ok (y.1, y.2.1.set a (ka, N'), y.2.2) := ⟨hyo.out.1, set_lt hln a (ka, N') lN', hyo.out.2.2.1, hyo.out.2.2.2⟩
          have okV : Tok.Ok (y.1, y.2.1.take m, y.2.2) := ⟨hyo.out.1, fun c hc => hln c (List.mem_of_mem_take hc), hyo.out.2.2.1, hyo.out.2.2.2⟩
          have okX : Tok.Ok (y.1, swapped y.2.1 m c0 cm, y.2.2) := ⟨hyo.out.1, set_lt (set_lt hln 0 cm lm) m c0 l0, hyo.out.2.2.1, hyo.out.2.2.2⟩
          have tabz := HTB.out.below brz HTB.out.size
          have rtbz : RTab wz w.heap.size := Blk.below HRT.out brz (Blk.lt HRT.out)
          have HBZ := Lib.hid brz
          have TZ := Lib.hid tz
          have TU := Lib.hid (TT7.out.below b7z TT7.out.lt)
          have TV := Lib.hid (TV10.out.below bz TV10.out.lt)
          have RZ := Lib.hid rz
          have RU := Lib.hid (RU7.out.call b7z)
          have RV := Lib.hid (RV10.out.call bz)
          clear HS FX
          obtain ⟨S, HS⟩ : ∃ S : World → Prop, Hid (∀ w', S w' = Below wz.heap.size wz w') := ⟨_, fun _ => rfl⟩
          have FS : Hid (∀ w' w'', S w' → Below w'.heap.size w' w'' → S w'') := fun w' w'' h k => by
            rw [HS.out] at h ⊢
            exact h.trans (k.mono h.size)
          have FU : Hid (∀ w', S w' → w'.rangeAt wau.heap.size 0 Uu) := fun w' h => by
            rw [HS.out] at h
            exact (TU.out.below h TU.out.lt).load
          have FV : Hid (∀ w', S w' → w'.rangeAt wav.heap.size 0 V) := fun w' h => by
            rw [HS.out] at h
            exact (TV.out.below h TV.out.lt).load
          have FW : Hid (∀ w', S w' → w'.rangeAt wax.heap.size 0 Ux) := fun w' h => by
            rw [HS.out] at h
            exact (TZ.out.below h TZ.out.lt).load
          have lmn : m ≤ capv := by have := HMN.out; omega
          have lm4 : m ≤ 8796093022000 := by have := HMN.out; omega
          have CU := fun w' (h : S w') => HG3.out (y.1, y.2.1.set a (ka, N'), y.2.2) _ n1 capu w' (RU.out.call (by rw [HS.out] at h; exact h)) ncu (by omega) okU (tabz.below (by rw [HS.out] at h; exact h) tabz.size)
          have DU := fun w' (h : S w') => HQ3.out w.heap.size (y.1, y.2.1.set a (ka, N'), y.2.2) _ n1 capu w' (RU.out.call (by rw [HS.out] at h; exact h)) ncu (by omega) okU (Blk.below rtbz (by rw [HS.out] at h; exact h) (Blk.lt rtbz))
          have CV := fun w' (h : S w') => HG3.out (y.1, y.2.1.take m, y.2.2) _ m capv w' (RV.out.call (by rw [HS.out] at h; exact h)) lmn lm4 okV (tabz.below (by rw [HS.out] at h; exact h) tabz.size)
          have DV := fun w' (h : S w') => HQ3.out w.heap.size (y.1, y.2.1.take m, y.2.2) _ m capv w' (RV.out.call (by rw [HS.out] at h; exact h)) lmn lm4 okV (Blk.below rtbz (by rw [HS.out] at h; exact h) (Blk.lt rtbz))
          have CX := fun w' (h : S w') => HG3.out (y.1, swapped y.2.1 m c0 cm, y.2.2) _ n1 capx w' (RZ.out.call (by rw [HS.out] at h; exact h)) ncx (by omega) okX (tabz.below (by rw [HS.out] at h; exact h) tabz.size)
          have DX := fun w' (h : S w') => HQ3.out w.heap.size (y.1, swapped y.2.1 m c0 cm, y.2.2) _ n1 capx w' (RZ.out.call (by rw [HS.out] at h; exact h)) ncx (by omega) okX (Blk.below rtbz (by rw [HS.out] at h; exact h) (Blk.lt rtbz))
          have CK := fun w' (h : S w') => known12 w' (tabz.below (by rw [HS.out] at h; exact h) tabz.size)
          obtain ⟨gU, hgU⟩ : ∃ b, genuineB (rootb 3) (y.1, y.2.1.set a (ka, N'), y.2.2) = b := ⟨_, rfl⟩
          obtain ⟨gV, hgV⟩ : ∃ b, genuineB (rootb 3) (y.1, y.2.1.take m, y.2.2) = b := ⟨_, rfl⟩
          obtain ⟨gX, hgX⟩ : ∃ b, genuineB (rootb 3) (y.1, swapped y.2.1 m c0 cm, y.2.2) = b := ⟨_, rfl⟩
          simp only [hgU, EUu.out] at CU DU
          simp only [hgV, EV.out] at CV DV
          simp only [hgX, EUx.out] at CX DX
          have HCU := Lib.hid CU
          have HDU := Lib.hid DU
          have HCV := Lib.hid CV
          have HDV := Lib.hid DV
          have HCX := Lib.hid CX
          have HDX := Lib.hid DX
          have HCK := Lib.hid CK
          have IU := Lib.hid (show (Tryd.prog.info? 30).map (·.size) = some Uu.length by rw [LUu.out]; exact Tryd.tok_info)
          have IV := Lib.hid (show (Tryd.prog.info? 30).map (·.size) = some V.length by rw [TV.out.len]; exact Tryd.tok_info)
          have IX := Lib.hid (show (Tryd.prog.info? 30).map (·.size) = some Ux.length by rw [LUx.out]; exact Tryd.tok_info)
          have s0 : S wz.drew := (HS.out _).mpr (Below.refl _ wz).drew
          clear CU DU CV DV CX DX CK hgU hgV hgX hI hSz tz bz b7z brz rz tsw lsw tabz rtbz okU okV okX hln l0 lm lmn lm4 ctx ftx
          go_wp2_with fail
          refine wp_region_seq S 32 [(1, false), (3, false), (5, false), (0, true), (2, true), (4, true), (6, true), (7, false), (8, false), (10, false), (12, false), (14, false), (9, true), (11, true), (13, true), (15, true), (16, false), (17, false), (18, false), (20, false), (22, false), (24, false), (19, true), (21, true), (23, true), (25, true), (26, false), (27, false), (28, false), (29, true), (30, false), (31, false)] (by kernel_rfl) rfl (by kernel_rfl) (by kernel_rfl) (by kernel_rfl) (fun _ _ d _ _ h => by cases d <;> exact h) s0 ?_
          refine wpSeq_load rfl rfl 30 (.tmp 19) rfl wau.heap.size 0 rfl Uu _ FU.out Tryd.underlying30 rfl IU.out ?_
          try simp only [Act.put, List.setIfInBounds_toArray, List.set_cons_zero, List.set_cons_succ]
          iterate 1 (refine wpSeq_read rfl rfl ⟨?_, fun w1 hS => ?_, ?_⟩; rotate_left; (focus (go_simp; (try go_bits); try rfl)); simp only [Act.put, List.setIfInBounds_toArray, List.set_cons_zero, List.set_cons_succ])
          refine wpSeq_load rfl rfl 30 (.tmp 19) rfl wau.heap.size 0 rfl Uu _ FU.out Tryd.underlying30 rfl IU.out ?_
          try simp only [Act.put, List.setIfInBounds_toArray, List.set_cons_zero, List.set_cons_succ]
          refine wpSeq_write rfl rfl ?_
          go_simp
          refine (HR3.out _).mono ?_
          rintro e u1 ⟨rfl, hbu1⟩
          have s1 : S u1 := FS.out _ _ s0 hbu1
          refine ⟨s1, ?_⟩
          try simp only [Act.put, List.setIfInBounds_toArray, List.set_cons_zero, List.set_cons_succ]
          refine wpSeq_write rfl rfl ?_
          go_simp
          refine (HCU.out _ s1).mono ?_
          rintro e u2 ⟨rfl, hbu2⟩
          have s2 : S u2 := FS.out _ _ s1 hbu2
          refine ⟨s2, ?_⟩
          try simp only [Act.put, List.setIfInBounds_toArray, List.set_cons_zero, List.set_cons_succ]
          refine wpSeq_write rfl rfl ?_
          go_simp
          refine (HR3.out _).mono ?_
          rintro e u3 ⟨rfl, hbu3⟩
          have s3 : S u3 := FS.out _ _ s2 hbu3
          refine ⟨s3, ?_⟩
          try simp only [Act.put, List.setIfInBounds_toArray, List.set_cons_zero, List.set_cons_succ]
          refine wpSeq_write rfl rfl ?_
          go_simp
          refine (HDU.out _ s3).mono ?_
          rintro e u4 ⟨rfl, hbu4⟩
          have s4 : S u4 := FS.out _ _ s3 hbu4
          refine ⟨s4, ?_⟩
          try simp only [Act.put, List.setIfInBounds_toArray, List.set_cons_zero, List.set_cons_succ]
          iterate 2 (refine wpSeq_read rfl rfl ⟨?_, fun w1 hS => ?_, ?_⟩; rotate_left; (focus (go_simp; (try go_bits); try rfl)); simp only [Act.put, List.setIfInBounds_toArray, List.set_cons_zero, List.set_cons_succ])
          refine wpSeq_load rfl rfl 30 (.tmp 20) rfl wav.heap.size 0 rfl V _ FV.out Tryd.underlying30 rfl IV.out ?_
          try simp only [Act.put, List.setIfInBounds_toArray, List.set_cons_zero, List.set_cons_succ]
          iterate 1 (refine wpSeq_read rfl rfl ⟨?_, fun w1 hS => ?_, ?_⟩; rotate_left; (focus (go_simp; (try go_bits); try rfl)); simp only [Act.put, List.setIfInBounds_toArray, List.set_cons_zero, List.set_cons_succ])
          refine wpSeq_load rfl rfl 30 (.tmp 20) rfl wav.heap.size 0 rfl V _ FV.out Tryd.underlying30 rfl IV.out ?_
          try simp only [Act.put, List.setIfInBounds_toArray, List.set_cons_zero, List.set_cons_succ]
          refine wpSeq_write rfl rfl ?_
          go_simp
          refine (HR3.out _).mono ?_
          rintro e u5 ⟨rfl, hbu5⟩
          have s5 : S u5 := FS.out _ _ s4 hbu5
          refine ⟨s5, ?_⟩
          try simp only [Act.put, List.setIfInBounds_toArray, List.set_cons_zero, List.set_cons_succ]
          refine wpSeq_write rfl rfl ?_
          go_simp
          refine (HCV.out _ s5).mono ?_
          rintro e u6 ⟨rfl, hbu6⟩
          have s6 : S u6 := FS.out _ _ s5 hbu6
          refine ⟨s6, ?_⟩
          try simp only [Act.put, List.setIfInBounds_toArray, List.set_cons_zero, List.set_cons_succ]
          refine wpSeq_write rfl rfl ?_
          go_simp
          refine (HR3.out _).mono ?_
          rintro e u7 ⟨rfl, hbu7⟩
          have s7 : S u7 := FS.out _ _ s6 hbu7
          refine ⟨s7, ?_⟩
          try simp only [Act.put, List.setIfInBounds_toArray, List.set_cons_zero, List.set_cons_succ]
          refine wpSeq_write rfl rfl ?_
          go_simp
          refine (HDV.out _ s7).mono ?_
          rintro e u8 ⟨rfl, hbu8⟩
          have s8 : S u8 := FS.out _ _ s7 hbu8
          refine ⟨s8, ?_⟩
          try simp only [Act.put, List.setIfInBounds_toArray, List.set_cons_zero, List.set_cons_succ]
          iterate 3 (refine wpSeq_read rfl rfl ⟨?_, fun w1 hS => ?_, ?_⟩; rotate_left; (focus (go_simp; (try go_bits); try rfl)); simp only [Act.put, List.setIfInBounds_toArray, List.set_cons_zero, List.set_cons_succ])
          refine wpSeq_load rfl rfl 30 (.tmp 21) rfl wax.heap.size 0 rfl Ux _ FW.out Tryd.underlying30 rfl IX.out ?_
          try simp only [Act.put, List.setIfInBounds_toArray, List.set_cons_zero, List.set_cons_succ]
          iterate 1 (refine wpSeq_read rfl rfl ⟨?_, fun w1 hS => ?_, ?_⟩; rotate_left; (focus (go_simp; (try go_bits); try rfl)); simp only [Act.put, List.setIfInBounds_toArray, List.set_cons_zero, List.set_cons_succ])
          refine wpSeq_load rfl rfl 30 (.tmp 21) rfl wax.heap.size 0 rfl Ux _ FW.out Tryd.underlying30 rfl IX.out ?_
          try simp only [Act.put, List.setIfInBounds_toArray, List.set_cons_zero, List.set_cons_succ]
          refine wpSeq_write rfl rfl ?_
          go_simp
          refine (HR3.out _).mono ?_
          rintro e u9 ⟨rfl, hbu9⟩
          have s9 : S u9 := FS.out _ _ s8 hbu9
          refine ⟨s9, ?_⟩
          try simp only [Act.put, List.setIfInBounds_toArray, List.set_cons_zero, List.set_cons_succ]
          refine wpSeq_write rfl rfl ?_
          go_simp
          refine (HCX.out _ s9).mono ?_
          rintro e u10 ⟨rfl, hbu10⟩
          have s10 : S u10 := FS.out _ _ s9 hbu10
          refine ⟨s10, ?_⟩
          try simp only [Act.put, List.setIfInBounds_toArray, List.set_cons_zero, List.set_cons_succ]
          refine wpSeq_write rfl rfl ?_
          go_simp
          refine (HR3.out _).mono ?_
          rintro e u11 ⟨rfl, hbu11⟩
          have s11 : S u11 := FS.out _ _ s10 hbu11
          refine ⟨s11, ?_⟩
          try simp only [Act.put, List.setIfInBounds_toArray, List.set_cons_zero, List.set_cons_succ]
          refine wpSeq_write rfl rfl ?_
          go_simp
          refine (HDX.out _ s11).mono ?_
          rintro e u12 ⟨rfl, hbu12⟩
          have s12 : S u12 := FS.out _ _ s11 hbu12
          refine ⟨s12, ?_⟩
          try simp only [Act.put, List.setIfInBounds_toArray, List.set_cons_zero, List.set_cons_succ]
          iterate 3 (refine wpSeq_read rfl rfl ⟨?_, fun w1 hS => ?_, ?_⟩; rotate_left; (focus (go_simp; (try go_bits); try rfl)); simp only [Act.put, List.setIfInBounds_toArray, List.set_cons_zero, List.set_cons_succ])
          refine wpSeq_write rfl rfl ?_
          go_simp
          refine (HCK.out _ s12).mono ?_
          rintro e u13 ⟨rfl, hbu13⟩
          have s13 : S u13 := FS.out _ _ s12 hbu13
          refine ⟨s13, ?_⟩
          try simp only [Act.put, List.setIfInBounds_toArray, List.set_cons_zero, List.set_cons_succ]
          iterate 2 (refine wpSeq_read rfl rfl ⟨?_, fun w1 hS => ?_, ?_⟩; rotate_left; (focus (go_simp; (try go_bits); try rfl)); simp only [Act.put, List.setIfInBounds_toArray, List.set_cons_zero, List.set_cons_succ])
          refine wpSeq_nil ?_
          go_wp2_with fail
          go_ret
          rw [HS.out] at s13
          exact ⟨rfl, hbw.out.trans ((HBZ.out.trans (s13.mono HBZ.out.size)).mono hbw.out.size)⟩

end Go.Proofs.YtamhggndcegndaaDoor
