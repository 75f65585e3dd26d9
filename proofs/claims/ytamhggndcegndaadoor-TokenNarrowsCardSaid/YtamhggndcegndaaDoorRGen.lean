/-
  deponentref12.Genuine: as token.Genuine.
-/
import Derived.Test.YtamhggndcegndaaDoorRNar
import Derived.Test.YtamhggndcegndaaDoorGen
import Derived.Test.YtamhggndcegndaaDoorAny
namespace Go.Proofs.YtamhggndcegndaaDoor
open Go.RowKit
set_option linter.unusedVariables false
set_option maxRecDepth 100000

theorem genGo_len {l : List (Int × Nat)} : ∀ {x y : Tok}, genGo x l = some y → l = [] ∨ (y.2.1 = x.2.1 ++ l ∧ y.2.1.length ≤ 4) := by
  induction l with
  | nil => intro x y _; exact .inl rfl
  | cons c l ih =>
    intro x y h
    right
    unfold genGo at h
    split at h
    · rename_i h0
      have e := narRes_ok0 h0
      have hlt : x.2.1.length < 4 := by
        unfold narRes at h0
        split at h0
        · split at h0
          · assumption
          · simp at h0
        · simp at h0
      rcases ih h with rfl | ⟨h1, h2⟩
      · simp only [genGo, Option.some.injEq] at h
        subst h
        rw [e]
        refine ⟨by simp, ?_⟩
        simp only [List.length_append, List.length_cons, List.length_nil]
        omega
      · refine ⟨?_, h2⟩
        rw [h1, e]
        simp
    · cases h

theorem genuine_many {root : List Nat} {t : Tok} (h : 4 < t.2.1.length) : genuineB root t = false := by
  unfold genuineB
  cases hg : genGo (minted root t.1) t.2.1 with
  | none => rfl
  | some x =>
    rcases genGo_len hg with h0 | ⟨h1, h2⟩
    · rw [h0] at h; simp at h
    · rw [h1] at h2
      simp [minted] at h2
      omega

-- END BY HAND
set_option maxHeartbeats 4000000 in
theorem ref12_genuine (tb : Nat) (root : List Nat) (t : Tok) (A : Option Addr) (n c : Nat) (w : World) (hrl : root.length = 32) (hrb : ∀ x ∈ root, x < 256) (hr : Reads w w.heap.size 2 A n (cavv t.2.1)) (hnc : n ≤ c) (hn : n ≤ 8796093022000) (ht : t.Ok) (hT : RTab w tb) :
    Calls Tryd.prog 16 #[.pointer (some ⟨tb, 0, none⟩), .agg (byv root).toArray, .agg (tokv t.1 (.slice A n c) t.2.2).toArray] w fun e w' => e = .returned (.bool (genuineB root t)) ∧ Below w.heap.size w w' := by
  have hl : t.2.1.length = n := by have := hr.1; rw [cavv_length] at this; omega
  have hlen := tokv_len t.1 (.slice A n c) t.2.2 ht.2.2.1
  have d0 : (tokv t.1 (.slice A n c) t.2.2)[0]? = some (.int .u32 (t.1 : Int)) := rfl
  have d1 : (tokv t.1 (.slice A n c) t.2.2)[1]? = some (.slice A n c) := rfl
  have d2 : ∀ j u, (byv t.2.2)[j]? = some u → (tokv t.1 (.slice A n c) t.2.2)[2 + j]? = some u := fun j u h => by
    unfold tokv
    rw [show 2 + j = j + 1 + 1 by omega, List.getElem?_cons_succ, List.getElem?_cons_succ]
    exact h
  obtain ⟨D, hD⟩ : ∃ D, tokv t.1 (.slice A n c) t.2.2 = D := ⟨_, rfl⟩
  have lR : (byv root).length = 32 := by rw [byv_length]; exact hrl
  have M0 := fun w h => ref12_mint tb root t.1 w hrl hrb ht.1 h
  obtain ⟨V, hV⟩ : ∃ V, byv root = V := ⟨_, rfl⟩
  rw [hD] at hlen d0 d1 d2 ⊢
  rw [hV] at lR ⊢
  simp only [hV] at M0
  obtain ⟨W0, hW0⟩ : ∃ x, x = (w.alloc (.cells V.toArray 28)).alloc (.cells D.toArray 30) := ⟨_, rfl⟩
  have k0 : Blk W0 w.heap.size 28 V.toArray := by rw [hW0]; exact (Blk.new w _ _).alloc _
  have t0 : Blk W0 (w.heap.size + 1) 30 D.toArray := by
    have h := Blk.new (w.alloc (.cells V.toArray 28)) 30 D.toArray
    rw [alloc_size] at h
    rw [hW0]
    exact h
  have b0 : Below w.heap.size w W0 := by rw [hW0]; exact below_new (below_new (Below.refl _ _) _) _
  have lW : w.heap.size + 1 < W0.heap.size := t0.lt
  have c0 := t0.cell 0
  rw [List.getElem?_toArray, d0] at c0
  have HRG := Lib.hid (rangeAt_blk k0 0 V (fun j u h => by simpa using h))
  have HI := Lib.hid (show (Tryd.prog.info? 28).map (·.size) = some V.length by rw [lR]; exact Tryd.dig_info)
  have HW0 := Lib.hid hW0
  have HLEN := Lib.hid hlen
  have D1 := Lib.hid d1
  have D2 := Lib.hid d2
  have K0 := Lib.hid k0
  have T0 := Lib.hid t0
  have B0 := Lib.hid b0
  have HR := Lib.hid hr
  have ltb : tb < w.heap.size := Blk.lt hT
  have hTw := Lib.hid hT
  have HT := Lib.hid (show RTab W0 tb from Blk.below hT b0 ltb)
  have Hl := Lib.hid hl
  have HM := Lib.hid (M0 W0 HT.out)
  have HtO := Lib.hid ht
  have HLR := Lib.hid lR
  clear hW0 hlen d1 d2 k0 t0 b0 hr hT hl M0 d0 hD hV ht lR
  have hmany : 4 < n → genuineB root t = false := fun h => genuine_many (by rw [Hl.out]; exact h)
  have HMANY := Lib.hid hmany
  have cs := T0.out.cell 1
  rw [List.getElem?_toArray, D1.out] at cs
  clear hmany
  go_enter Tryd.func16, Tryd.ntmps16
  go_upto_region 1 with (fail)
  rw [← HW0.out]
  by_cases h4 : 4 < n
  · have q4 : (n : Int) > 4 := by omega
    have hf := HMANY.out h4
    have HF := Lib.hid hf
    clear hf
    go_wp2_with fail
    go_ret
    exact ⟨by rw [HF.out]; rfl, B0.out⟩
  have q4 : ¬ (n : Int) > 4 := by omega
  go_wp2_with (refine load_mid_want rfl 28 (.tmp 4) rfl w.heap.size 0 rfl V _ HRG.out Tryd.underlying28 rfl HI.out ?_)
  refine HM.out.mono ?_
  rintro e w1 ⟨rfl, b1⟩
  obtain ⟨L0, hL0⟩ : ∃ L, tokv t.1 (.slice none 0 0) (mintTag root t.1) = L := ⟨_, rfl⟩
  have lL0 : L0.length = 34 := by rw [← hL0]; exact tokv_len _ _ _ (mac_length _ _)
  have oL0 : ∀ v ∈ L0, v.oneCell' = true := by rw [← hL0]; exact tokv_one _ _ rfl _
  rw [hL0]
  have z1 := Blk.new w1 30 #[.int .u32 0, .slice none 0 0, .int .u8 0, .int .u8 0, .int .u8 0, .int .u8 0, .int .u8 0, .int .u8 0, .int .u8 0, .int .u8 0, .int .u8 0, .int .u8 0, .int .u8 0, .int .u8 0, .int .u8 0, .int .u8 0, .int .u8 0, .int .u8 0, .int .u8 0, .int .u8 0, .int .u8 0, .int .u8 0, .int .u8 0, .int .u8 0, .int .u8 0, .int .u8 0, .int .u8 0, .int .u8 0, .int .u8 0, .int .u8 0, .int .u8 0, .int .u8 0, .int .u8 0, .int .u8 0]
  have Z1 := Lib.hid z1
  have LL0 := Lib.hid lL0
  have OL0 := Lib.hid oL0
  have HI0 := Lib.hid (show (Tryd.prog.info? 30).map (·.size) = some L0.toArray.size by rw [List.size_toArray, lL0]; exact Tryd.tok_info)
  have B1 := Lib.hid b1
  have EL0 := Lib.hid hL0
  clear z1 lL0 oL0 b1 hL0 c0 cs
  have t1 := T0.out.below B1.out T0.out.lt
  have c1 := (Blk.alloc t1 (.cells #[.int .u32 0, .slice none 0 0, .int .u8 0, .int .u8 0, .int .u8 0, .int .u8 0, .int .u8 0, .int .u8 0, .int .u8 0, .int .u8 0, .int .u8 0, .int .u8 0, .int .u8 0, .int .u8 0, .int .u8 0, .int .u8 0, .int .u8 0, .int .u8 0, .int .u8 0, .int .u8 0, .int .u8 0, .int .u8 0, .int .u8 0, .int .u8 0, .int .u8 0, .int .u8 0, .int .u8 0, .int .u8 0, .int .u8 0, .int .u8 0, .int .u8 0, .int .u8 0, .int .u8 0, .int .u8 0] 30)).setRow_far (g := w1.heap.size) (by have := t1.lt; omega) L0.toArray |>.cell 1
  rw [List.getElem?_toArray, D1.out] at c1
  go_wp2_with (refine wpList_store_row rfl 30 (.tmp 7) (.tmp 19) rfl w1.heap.size L0.toArray rfl rfl 30 _ Z1.out HI0.out (by simp [LL0.out]) (by simpa using OL0.out) ?_)
  obtain ⟨W2, hW2⟩ : ∃ x, x = (w1.alloc (.cells #[.int .u32 0, .slice none 0 0, .int .u8 0, .int .u8 0, .int .u8 0, .int .u8 0, .int .u8 0, .int .u8 0, .int .u8 0, .int .u8 0, .int .u8 0, .int .u8 0, .int .u8 0, .int .u8 0, .int .u8 0, .int .u8 0, .int .u8 0, .int .u8 0, .int .u8 0, .int .u8 0, .int .u8 0, .int .u8 0, .int .u8 0, .int .u8 0, .int .u8 0, .int .u8 0, .int .u8 0, .int .u8 0, .int .u8 0, .int .u8 0, .int .u8 0, .int .u8 0, .int .u8 0, .int .u8 0] 30)).setRow w1.heap.size L0.toArray := ⟨_, rfl⟩
  rw [← hW2]
  have x2 : Blk W2 w1.heap.size 30 L0.toArray := by rw [hW2]; exact Z1.out.setRow _
  have t2 : Blk W2 (w.heap.size + 1) 30 D.toArray := by rw [hW2]; exact (Blk.alloc t1 _).setRow_far (by have := t1.lt; omega) _
  have b2 : Below w.heap.size w W2 := by rw [hW2]; exact below_setRow ((B0.out.trans (B1.out.mono B0.out.size)).alloc (Nat.le_trans B0.out.size B1.out.size) _) (Nat.le_trans B0.out.size B1.out.size) _
  have lX : w.heap.size + 1 < w1.heap.size := t1.lt
  have X2 := Lib.hid x2
  have T2 := Lib.hid t2
  have B2 := Lib.hid b2
  clear hW2 x2 t2 b2 t1 c1
  obtain ⟨X, hX⟩ : ∃ X, w1.heap.size = X := ⟨_, rfl⟩
  rw [hX] at X2 lX ⊢
  have HTW : Hid (RTab w tb) := hTw
  go_loopw [8, 9, 10, 27] (fun i _ _ _ wr => ∃ (k : Nat) (x : Tok) (v : Value), k ≤ n ∧ i = .int .i64 k ∧ Hid (genGo (minted root t.1) (t.2.1.take k) = some x) ∧ Hid x.Ok ∧ x.2.1.length ≤ k ∧ Hid (Blk wr X 30 (tokv x.1 v x.2.2).toArray) ∧ Hid (OwnC wr w.heap.size v x.2.1) ∧ Hid (Below w.heap.size w wr) ∧ Hid (Blk wr (w.heap.size + 1) 30 D.toArray)) (fun i _ _ _ _ => n - (intOf i).toNat)
  case atStart => exact ⟨0, minted root t.1, .slice none 0 0, by omega, rfl, by rw [List.take_zero]; exact rfl, minted_ok root t.1 HtO.out.1, by simp [minted], by rw [show tokv (minted root t.1).1 (.slice none 0 0) (minted root t.1).2.2 = L0 from EL0.out]; exact X2.out, OwnC.nil _ _, B2.out, T2.out⟩
  case round =>
    obtain ⟨k, x, v, hk, rfl, hg, hxo, hxl, hX, hv, hb, htb⟩ := hrel
    have tc1 := htb.out.cell 1
    rw [List.getElem?_toArray, D1.out] at tc1
    by_cases hkn : k < n
    · have qk : (k : Int) < n := by omega
      obtain ⟨cav, hcav⟩ : ∃ c, t.2.1[k]? = some c := ⟨_, List.getElem?_eq_getElem (by rw [Hl.out]; exact hkn)⟩
      obtain ⟨gb, go, hA, hgb, hrd⟩ := HR.out.mid (by omega) (by omega)
      obtain ⟨e0, e1⟩ := cavv_at t.2.1 k cav hcav
      have m0 := (hb.out.cell (p := ⟨gb, go + k * 2, none⟩) hgb).trans (hrd _ _ e0)
      have m1 := (hb.out.cell (p := ⟨gb, go + (k * 2 + 1), none⟩) hgb).trans (hrd _ _ e1)
      subst hA
      obtain ⟨kk, NN⟩ := cav
      dsimp only at m0 m1
      rw [← Nat.add_assoc] at m1
      have HC := Lib.hid hcav
      have hlt1 := htb.out.lt
      have hgbr : gb < wr.heap.size := Nat.lt_of_lt_of_le hgb hb.out.size
      obtain ⟨S, HS⟩ : ∃ S : World → Prop, Hid (∀ w', S w' = Below wr.heap.size wr w') := ⟨_, fun _ => rfl⟩
      have FC : Hid (∀ w', S w' → w'.rangeAt gb (go + k * 2) [.int .i64 kk, .int .u32 (NN : Int)]) := fun w' h j u hu => by
        rw [HS.out] at h
        rw [h.cell (p := ⟨gb, go + k * 2 + j, none⟩) hgbr]
        match j, hu with
        | 0, hu => simp at hu; subst hu; exact m0
        | 1, hu => simp at hu; subst hu; exact m1
      have F1 : Hid (∀ w', S w' → w'.cell? ⟨w.heap.size + 1, 1, none⟩ = some (.slice (some ⟨gb, go, none⟩) n c)) := fun w' h => by
        rw [HS.out] at h
        rw [h.cell (p := ⟨w.heap.size + 1, 1, none⟩) hlt1]
        exact tc1
      obtain ⟨Ax, nx, cx, rfl, enx, ncx, -, rx⟩ := hv.out.sl
      have hN : NN < 4294967296 := HtO.out.2.1 (kk, NN) (List.mem_of_getElem? HC.out)
      have N3 := fun w' (h : Below wr.heap.size wr w') => ref12_narrow tb x Ax nx cx kk NN w' (rx.call h) ncx (by omega) hxo.out.2.2.1 hxo.out.2.2.2 hN (Blk.below (Blk.below HTW.out hb.out (Blk.lt HTW.out)) h (Nat.lt_of_lt_of_le (Blk.lt HTW.out) hb.out.size))
      have lX3 := tokv_len x.1 (.slice Ax nx cx) x.2.2 hxo.out.2.2.1
      have x3 := hX.out
      obtain ⟨E, hE⟩ : ∃ E, tokv x.1 (.slice Ax nx cx) x.2.2 = E := ⟨_, rfl⟩
      simp only [hE] at N3
      rw [hE] at x3 lX3
      have FX : Hid (∀ w', S w' → w'.rangeAt X 0 E) := fun w' h => by
        rw [HS.out] at h
        exact rangeAt_blk (x3.below h x3.lt) 0 E (fun j u h => by simpa using h)
      have HIX := Lib.hid (show (Tryd.prog.info? 30).map (·.size) = some E.length by rw [lX3]; exact Tryd.tok_info)
      have HIC := Lib.hid (show (Tryd.prog.info? 37).map (·.size) = some [Value.int .i64 kk, .int .u32 (NN : Int)].length by kernel_rfl)
      have HN3 := Lib.hid N3
      have X3 := Lib.hid x3
      have LX3 := Lib.hid lX3
      have Hok' := Lib.hid (narRes_ok x (kk, NN) hxo.out hN)
      have Hlen' := Lib.hid (narRes_len x (kk, NN))
      obtain ⟨r, hr⟩ : ∃ r, narRes x (kk, NN) = r := ⟨_, rfl⟩
      have HR4 := Lib.hid hr
      have hgbr' := Lib.hid hgbr
      clear N3 x3 hN lX3 hE enx ncx rx hX hv m0 m1 e0 e1 hrd hcav hgbr hr
      go_upto_region 7 with (fail)
      refine wp_region_fork S 14 [35, 27, 36, 37, 9] [(0, false), (1, false), (2, false), (3, false), (4, false), (5, false), (6, false)] 5 (.two 7 (.read 8 (.read 9 (.read 10 (.one 11 .done)))) 11 (.one 7 (.read 8 (.read 9 (.read 10 .done))))) [(12, true), (13, false)] #[true, true, true, true, true, true, true, false, false, false, false, false, false, false] #[true, true, true, true, true, true, true, true, true, true, true, true, false, false] (by kernel_rfl) rfl (by kernel_rfl) (by kernel_rfl) (by kernel_rfl) (by kernel_rfl) (by kernel_rfl) (fun _ _ d _ _ h => by cases d <;> exact h) ((HS.out _).mpr (Below.refl _ wr).drew) ?_
      iterate 1 (refine wpSteps_read rfl rfl ⟨?_, fun w1 hS => ?_, ?_⟩; rotate_left; (focus (go_simp; (try go_bits); try rfl)); simp only [Act.put, List.setIfInBounds_toArray, List.set_cons_zero, List.set_cons_succ])
      refine wpSteps_load' rfl rfl 30 (.tmp 7) rfl X 0 rfl E _ FX.out Tryd.underlying30 rfl HIX.out ?_
      try simp only [Act.put, List.setIfInBounds_toArray, List.set_cons_zero, List.set_cons_succ]
      iterate 4 (refine wpSteps_read rfl rfl ⟨?_, fun w1 hS => ?_, ?_⟩; rotate_left; (focus (have g1 := F1.out w1 hS; go_simp; try rfl)); simp only [Act.put, List.setIfInBounds_toArray, List.set_cons_zero, List.set_cons_succ])
      refine wpSteps_load' rfl rfl 37 (.tmp 33) rfl gb (go + k * 2) rfl [.int .i64 kk, .int .u32 (NN : Int)] _ FC.out Tryd.underlying37 rfl HIC.out ?_
      try simp only [Act.put, List.setIfInBounds_toArray, List.set_cons_zero, List.set_cons_succ]
      refine wpSteps_nil ?_
      have hwd : Below wr.heap.size wr wr.drew := (Below.refl _ _).drew
      obtain ⟨Wd, hWd⟩ : ∃ x, x = wr.drew := ⟨_, rfl⟩
      have HWd := Lib.hid hWd
      rw [← hWd] at hwd ⊢
      clear hWd
      refine ⟨fun vs w' => ∃ A4 n4 c4 g9, vs = [.tuple #[.agg (tokv r.1.1 (.slice A4 n4 c4) r.1.2.2).toArray, .int .i64 (r.2 : Nat)], .tuple #[.agg (tokv r.1.1 (.slice A4 n4 c4) r.1.2.2).toArray, .int .i64 (r.2 : Nat)], .agg (tokv r.1.1 (.slice A4 n4 c4) r.1.2.2).toArray, .int .i64 (r.2 : Nat), .pointer (some ⟨g9, 0, none⟩)] ∧ OwnC w' wr.heap.size (.slice A4 n4 c4) r.1.2.1 ∧ Blk w' g9 30 zeroTokv.toArray ∧ wr.heap.size ≤ g9 ∧ Below wr.heap.size wr w', ?_, ?_⟩
      · refine wpTree_two rfl rfl rfl rfl ?_ ?_
        · go_simp
          refine (HN3.out Wd hwd).mono ?_
          rintro e w4 ⟨v4, rfl, o4, b4⟩
          rw [HR4.out] at o4 ⊢
          obtain ⟨A4, n4, c4, rfl, -, -, -, -⟩ := o4.sl
          obtain ⟨F, hF⟩ : ∃ F, tokv r.1.1 (.slice A4 n4 c4) r.1.2.2 = F := ⟨_, rfl⟩
          rw [hF]
          have b4' := hwd.trans (b4.mono hwd.size)
          have o4' := OwnC.mono o4 hwd.size
          have HF := Lib.hid hF
          have HO := Lib.hid o4'
          have HB := Lib.hid b4'
          clear hF o4 b4 o4' b4'
          refine ⟨(HS.out _).mpr HB.out, ?_⟩
          try simp only [Act.put, List.setIfInBounds_toArray, List.set_cons_zero, List.set_cons_succ]
          iterate 3 (refine wpTree_read rfl rfl ⟨?_, fun w1 hS => ?_, ?_⟩; rotate_left; (focus (go_simp; (try go_bits); try rfl)); simp only [Act.put, List.setIfInBounds_toArray, List.set_cons_zero, List.set_cons_succ])
          refine wpTree_one rfl rfl ?_
          go_simp
          refine ⟨(HS.out _).mpr (HB.out.alloc HB.out.size _), wpTree_done ⟨[_, _, _, _, _], rfl, A4, n4, c4, w4.heap.size, by rw [HF.out], HO.out.alloc _, Blk.new _ _ _, HB.out.size, HB.out.alloc HB.out.size _⟩⟩
        · go_simp
          obtain ⟨w3, hw3⟩ : ∃ x, x = Wd.alloc (.cells #[.int .u32 0, .slice none 0 0, .int .u8 0, .int .u8 0, .int .u8 0, .int .u8 0, .int .u8 0, .int .u8 0, .int .u8 0, .int .u8 0, .int .u8 0, .int .u8 0, .int .u8 0, .int .u8 0, .int .u8 0, .int .u8 0, .int .u8 0, .int .u8 0, .int .u8 0, .int .u8 0, .int .u8 0, .int .u8 0, .int .u8 0, .int .u8 0, .int .u8 0, .int .u8 0, .int .u8 0, .int .u8 0, .int .u8 0, .int .u8 0, .int .u8 0, .int .u8 0, .int .u8 0, .int .u8 0] 30) := ⟨_, rfl⟩
          rw [← hw3]
          have z3 : Blk w3 Wd.heap.size 30 zeroTokv.toArray := by rw [hw3]; exact Blk.new _ _ _
          have b3 : Below wr.heap.size wr w3 := by rw [hw3]; exact hwd.alloc hwd.size _
          clear hw3
          refine ⟨(HS.out _).mpr b3, ?_⟩
          refine wpTree_one rfl rfl ?_
          go_simp
          refine (HN3.out w3 b3).mono ?_
          rintro e w4 ⟨v4, rfl, o4, b4⟩
          rw [HR4.out] at o4 ⊢
          obtain ⟨A4, n4, c4, rfl, -, -, -, -⟩ := o4.sl
          obtain ⟨F, hF⟩ : ∃ F, tokv r.1.1 (.slice A4 n4 c4) r.1.2.2 = F := ⟨_, rfl⟩
          rw [hF]
          have b4' := b3.trans (b4.mono b3.size)
          have o4' := OwnC.mono o4 b3.size
          have z4 := z3.below b4 z3.lt
          have HF := Lib.hid hF
          have HO := Lib.hid o4'
          have HB := Lib.hid b4'
          have HZ := Lib.hid z4
          clear hF o4 b4 o4' b4' z4 z3 b3
          refine ⟨(HS.out _).mpr HB.out, ?_⟩
          try simp only [Act.put, List.setIfInBounds_toArray, List.set_cons_zero, List.set_cons_succ]
          iterate 3 (refine wpTree_read rfl rfl ⟨?_, fun w1 hS => ?_, ?_⟩; rotate_left; (focus (go_simp; (try go_bits); try rfl)); simp only [Act.put, List.setIfInBounds_toArray, List.set_cons_zero, List.set_cons_succ])
          refine wpTree_done ⟨[_, _, _, _, _], rfl, A4, n4, c4, Wd.heap.size, by rw [HF.out], HO.out, HZ.out, hwd.size, HB.out⟩
      · rintro vs w4 - ⟨A4, n4, c4, g9, rfl, o4, z9, l9, b4⟩
        simp only [puts, Act.put, List.setIfInBounds_toArray, List.set_cons_zero, List.set_cons_succ]
        have hlF := tokv_len r.1.1 (.slice A4 n4 c4) r.1.2.2 (by rw [← HR4.out]; exact Hok'.out.2.2.1)
        have hoF := tokv_one r.1.1 (.slice A4 n4 c4) rfl r.1.2.2
        obtain ⟨F, hF⟩ : ∃ F, tokv r.1.1 (.slice A4 n4 c4) r.1.2.2 = F := ⟨_, rfl⟩
        rw [hF] at hlF hoF ⊢
        obtain ⟨q, hq⟩ : ∃ q, r.2 = q := ⟨_, rfl⟩
        rw [hq]
        have iF : (Tryd.prog.info? 30).map (·.size) = some F.toArray.size := by rw [List.size_toArray, hlF]; exact Tryd.tok_info
        refine wpSeq_write rfl rfl ?_
        refine wp_store_row 30 (.tmp 9) (.tmp 36) rfl g9 F.toArray rfl rfl 30 _ z9 iF (by simp [hlF, zeroTokv, tokv_len]) (by simpa using hoF) ?_
        obtain ⟨W9, hW9⟩ : ∃ x, x = w4.setRow g9 F.toArray := ⟨_, rfl⟩
        rw [← hW9]
        have f9 : Blk W9 g9 30 F.toArray := by rw [hW9]; exact z9.setRow _
        have b9 : Below wr.heap.size wr W9 := by rw [hW9]; exact below_setRow b4 l9 _
        have o9 : OwnC W9 wr.heap.size (.slice A4 n4 c4) r.1.2.1 := by rw [hW9]; exact World.ownsRow.kept o4 (grown_setRow _ _ _) (.inr (own_blk_ne o4 z9 (by decide)))
        have x9 := X3.out.below b9 X3.out.lt
        have htb9 := htb.out.below b9 htb.out.lt
        have hb9 := hb.out.trans (b9.mono hb.out.size)
        have HX9 := Lib.hid x9
        have HF9 := Lib.hid (rangeAt_blk f9 0 F (fun j u h => by simpa using h))
        have HIF := Lib.hid (show (Tryd.prog.info? 30).map (·.size) = some F.length by rw [hlF]; exact Tryd.tok_info)
        have HIF' := Lib.hid iF
        have HLF := Lib.hid hlF
        have HOF := Lib.hid hoF
        have HFE := Lib.hid hF
        have HO9 := Lib.hid o9
        have HB9 := Lib.hid b9
        have HTB9 := Lib.hid htb9
        have HBB9 := Lib.hid hb9
        have HQ := Lib.hid hq
        have HXL := Lib.hid (show X < wr.heap.size from X3.out.lt)
        clear f9 b9 o9 x9 htb9 hb9 hlF hoF hF hW9 z9 b4 o4 iF hq tc1 F1 FC FX
        refine ⟨fun _ => (HS.out _).mpr HB9.out, ?_⟩
        try simp only [Act.put, List.setIfInBounds_toArray, List.set_cons_zero, List.set_cons_succ]
        iterate 1 (refine wpSeq_read rfl rfl ⟨?_, fun w1 hS => ?_, ?_⟩; rotate_left; (focus (go_simp; (try go_bits); try rfl)); simp only [Act.put, List.setIfInBounds_toArray, List.set_cons_zero, List.set_cons_succ])
        refine wpSeq_nil ?_
        by_cases h0 : q = 0
        · have h0' : (q : Int) = 0 := by omega
          go_wp2_with (first
            | (refine load_mid_want rfl 30 (.tmp 9) rfl g9 0 rfl F _ HF9.out Tryd.underlying30 rfl HIF.out ?_)
            | (refine wpList_store_row rfl 30 (.tmp 7) (.tmp 40) rfl X F.toArray rfl rfl 30 _ HX9.out HIF'.out (by simp [HLF.out, LX3.out]) (by simpa using HOF.out) ?_))
          go_roundw
          case rel =>
            have hr0 : (narRes x (kk, NN)).2 = 0 := by rw [HR4.out, HQ.out, h0]
            have hok := Hok'.out
            have hle := Hlen'.out
            rw [HR4.out] at hok hle
            refine ⟨k + 1, r.1, .slice A4 n4 c4, by omega, by go_num, ?_, hok, by omega, ?_, ?_, ?_, ?_⟩
            · have := genGo_step hg.out HC.out hr0
              rw [HR4.out] at this
              exact this
            · rw [HFE.out]
              exact HX9.out.setRow _
            · exact OwnC.mono (World.ownsRow.kept HO9.out (grown_setRow _ _ _) (.inr (own_blk_ne HO9.out HX9.out (by decide)))) hb.out.size
            · exact below_setRow HBB9.out (by omega) _
            · exact HTB9.out.setRow_far (by omega) _
          case measure => simp [intOf]; omega
        · have h0' : ¬ (q : Int) = 0 := by omega
          have hf : genuineB root t = false := by
            unfold genuineB
            rw [genGo_none hg.out HC.out (by rw [HR4.out, HQ.out]; exact h0)]
          have HFF := Lib.hid hf
          clear hf
          go_wp2_with fail
          go_ret
          exact ⟨by rw [HFF.out]; rfl, HBB9.out⟩
    · have qk : ¬ (k : Int) < n := by omega
      have hg' := hg.out
      rw [List.take_of_length_le (by rw [Hl.out]; omega)] at hg'
      have hgen : genuineB root t = (x.2.2 == t.2.2) := by
        unfold genuineB
        rw [hg']
      have qe := fun w => run_eql_digest w x.2.2 t.2.2 hxo.out.2.2.1 HtO.out.2.2.1 hxo.out.2.2.2 HtO.out.2.2.2
      have l1 : (byv x.2.2).length = 32 := by rw [byv_length]; exact hxo.out.2.2.1
      have l2 : (byv t.2.2).length = 32 := by rw [byv_length]; exact HtO.out.2.2.1
      have r1 : wr.rangeAt X 2 (byv x.2.2) := rangeAt_blk hX.out 2 (byv x.2.2) (fun j u h => by
        unfold tokv
        rw [show 2 + j = j + 1 + 1 by omega, List.getElem?_cons_succ, List.getElem?_cons_succ]
        exact h)
      have r2 : wr.rangeAt (w.heap.size + 1) 2 (byv t.2.2) := rangeAt_blk htb.out 2 (byv t.2.2) D2.out
      obtain ⟨U1, hU1⟩ : ∃ U, byv x.2.2 = U := ⟨_, rfl⟩
      obtain ⟨U2, hU2⟩ : ∃ U, byv t.2.2 = U := ⟨_, rfl⟩
      rw [hU1] at l1 r1
      rw [hU2] at l2 r2
      simp only [hU1, hU2] at qe
      have R1 := Lib.hid r1
      have R2 := Lib.hid r2
      have I1 := Lib.hid (show (Tryd.prog.info? 28).map (·.size) = some U1.length by rw [l1]; exact Tryd.dig_info)
      have I2 := Lib.hid (show (Tryd.prog.info? 28).map (·.size) = some U2.length by rw [l2]; exact Tryd.dig_info)
      have HG := Lib.hid hgen
      clear hg' hgen l1 l2 r1 r2 hU1 hU2
      go_wp2_with (first
        | (refine load_mid_want rfl 28 (.tmp 41) rfl X 2 rfl U1 _ R1.out Tryd.underlying28 rfl I1.out ?_)
        | (refine load_mid_want rfl 28 (.tmp 43) rfl (w.heap.size + 1) 2 rfl U2 _ R2.out Tryd.underlying28 rfl I2.out ?_))
      go_ret
      exact ⟨by rw [HG.out]; rfl, hb.out⟩

end Go.Proofs.YtamhggndcegndaaDoor
