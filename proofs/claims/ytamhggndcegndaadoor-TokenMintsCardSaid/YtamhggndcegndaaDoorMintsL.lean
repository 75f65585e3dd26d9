/-
  deponentlaw12.TokenMints: true.
-/
import Derived.Test.YtamhggndcegndaaDoorRGen
import Derived.Test.YtamhggndcegndaaDoorRHolds
import Derived.Test.YtamhggndcegndaaDoorForged
import Derived.Test.YtamhggndcegndaaDoorSameT
import Derived.Test.YtamhggndcegndaaDoorKn12
import Derived.Test.YtamhggndcegndaaDoorRootU
import Derived.Test.YtamhggndcegndaaDoorOrders
namespace Go.Proofs.YtamhggndcegndaaDoor
open Go.RowKit
set_option linter.unusedVariables false
set_option maxRecDepth 100000

theorem contains_step (ms : List Nat) (x k y : Nat) (hy : ms[k]? = some y) : (ms.take (k + 1)).contains x = ((ms.take k).contains x || y == x) := by
  rw [List.take_add_one, hy, Bool.eq_iff_iff]
  simp only [List.contains_eq_mem, Option.toList_some, List.mem_append, List.mem_singleton, decide_eq_true_eq, Bool.or_eq_true, beq_iff_eq]
  exact or_congr Iff.rfl eq_comm

-- END BY HAND
set_option maxHeartbeats 8000000 in
theorem mints_walk (key : List Nat) (id : Nat) (l : List (Int × Nat)) (A : Option Addr) (n c : Nat) (x : Tok) (Ax : Option Addr) (nx cx : Nat) (op tree : Int) (clock : Nat) (ms : List Nat) (Am : Option Addr) (nm cm : Nat) (w : World) (hT : Tabs w)
    (hkl : key.length = 32) (hkb : ∀ b ∈ key, b < 256) (hid : id < 4294967296) (hr : Reads w w.heap.size 2 A n (cavv l)) (hnc : n ≤ c) (hn : n ≤ 8796093022000) (hlN : ∀ y ∈ l, y.2 < 4294967296) (hx : x.Ok) (hxr : Reads w w.heap.size 2 Ax nx (cavv x.2.1)) (hxc : nx ≤ cx) (hxn : nx ≤ 8796093022000)
    (hop : op < 9223372036854775808) (htr : tree < 9223372036854775808) (hm : Reads w w.heap.size 1 Am nm (u32v ms)) (hmn : nm ≤ 4611686018427387903) :
    Calls Tryd.prog 5 #[.agg (byv key).toArray, .int .u32 id, .slice A n c, .agg (tokv x.1 (.slice Ax nx cx) x.2.2).toArray, .int .i64 op, .int .i64 tree, .int .u64 clock, .slice Am nm cm] w fun e w' => e = .returned (.bool true) ∧ Below w.heap.size w w' := by
  have hl : l.length = n := by have := hr.1; rw [cavv_length] at this; omega
  have hml : ms.length = nm := by have := hm.1; rw [u32v_length] at this; omega
  have M1 := fun w h => token_mint key id w hkl hkb hid h
  have M2 := fun tb w h => ref12_mint tb key id w hkl hkb hid h
  have G1 := fun t A n c w a b d e f => token_genuine key t A n c w hkl hkb a b d e f
  have G2 := fun tb t A n c w a b d e f => ref12_genuine tb key t A n c w hkl hkb a b d e f
  have FO := fun t A n c w a b d e f g => token_forged key ms t Am nm cm A n c w hkl hkb a b d e f g
  have lV : (byv key).length = 32 := by rw [byv_length]; exact hkl
  obtain ⟨V, hV⟩ : ∃ V, byv key = V := ⟨_, rfl⟩
  obtain ⟨E, hE, lE, oE, iE⟩ := tok_cells x.1 Ax nx cx x.2.2 hx.2.2.1
  have GX := fun w => token_genuine key x Ax nx cx w hkl hkb
  have GX2 := fun tb w => ref12_genuine tb key x Ax nx cx w hkl hkb
  have HX := fun w a => token_holds op tree clock x Ax nx cx w a hxc hxn hx
  have HX2 := fun w a => ref12_holds op tree clock x Ax nx cx w a hxc hxn hx hop htr
  simp only [hV] at M1 M2 G1 G2 FO GX GX2
  simp only [hE] at GX GX2 HX HX2
  rw [hE, hV]
  rw [hV] at lV
  obtain ⟨W0, hW0⟩ : ∃ y, y = (w.alloc (.cells V.toArray 28)).alloc (.cells E.toArray 30) := ⟨_, rfl⟩
  have k0 : Blk W0 w.heap.size 28 V.toArray := by rw [hW0]; exact (Blk.new w _ _).alloc _
  have t0 : Blk W0 (w.heap.size + 1) 30 E.toArray := by
    have h := Blk.new (w.alloc (.cells V.toArray 28)) 30 E.toArray
    rw [alloc_size] at h
    rw [hW0]
    exact h
  have b0 : Below w.heap.size w W0 := by rw [hW0]; exact below_new (below_new (Below.refl _ _) _) _
  have lW : w.heap.size + 1 < W0.heap.size := t0.lt
  have IV : (Tryd.prog.info? 28).map (·.size) = some V.length := by rw [lV]; exact Tryd.dig_info
  obtain ⟨LT, hLT, lLT, oLT, iLT⟩ := tok_cells id none 0 0 (mintTag key id) (mac_length _ _)
  simp only [hLT] at M1 M2
  have HIV := Lib.hid IV
  have HIE := Lib.hid (show (Tryd.prog.info? 30).map (·.size) = some E.length by rw [lE]; exact Tryd.tok_info)
  have HLE := Lib.hid lE
  have HM1 := Lib.hid M1
  have HM2 := Lib.hid M2
  have HG1 := Lib.hid G1
  have HG2 := Lib.hid G2
  have HFO := Lib.hid FO
  have HGX := Lib.hid GX
  have HGX2 := Lib.hid GX2
  have HHX := Lib.hid HX
  have HHX2 := Lib.hid HX2
  have OLT := Lib.hid oLT
  have ILT := Lib.hid iLT
  have LLT := Lib.hid lLT
  have ELT := Lib.hid hLT
  have K0 := Lib.hid k0
  have T0 := Lib.hid t0
  have B0 := Lib.hid b0
  have HW0 := Lib.hid hW0
  have HT0 := Lib.hid (hT.below b0 hT.size)
  have HR0 := Lib.hid (hr.call b0)
  have HXR0 := Lib.hid (hxr.call b0)
  have HMR0 := Lib.hid (hm.call b0)
  have HlN := Lib.hid hlN
  have HXO := Lib.hid hx
  have Hl := Lib.hid hl
  have Hml := Lib.hid hml
  have RG0 := Lib.hid (rangeAt_blk k0 0 V (fun j u h => by simpa using h))
  clear hT hr hxr hm hlN hx hl hml IV lV hV hE lE oE iE M1 M2 G1 G2 FO GX GX2 HX HX2 oLT iLT lLT hLT k0 t0 b0 hW0
  go_enter Tryd.func5, Tryd.ntmps5
  go_upto_region 1 with (fail)
  rw [← HW0.out]
  go_wp2_with fail
  refine (ref1_new W0).mono ?_
  rintro e w1 ⟨rfl, tab1, b1⟩
  have RG1 := Lib.hid (rangeAt_blk (K0.out.below b1 K0.out.lt) 0 V (fun j u h => by simpa using h))
  have B1 := Lib.hid b1
  have TAB1 := Lib.hid tab1
  have l1 : W0.heap.size < w1.heap.size := Blk.lt tab1
  clear b1 tab1
  go_wp2_with (refine load_mid_want rfl 28 (.tmp 8) rfl w.heap.size 0 rfl V _ RG1.out Tryd.underlying28 rfl HIV.out ?_)
  refine (HM1.out w1 (HT0.out.below B1.out HT0.out.size)).mono ?_
  rintro e w2 ⟨rfl, hb2⟩
  have Z2 := Lib.hid (Blk.new w2 30 #[.int .u32 0, .slice none 0 0, .int .u8 0, .int .u8 0, .int .u8 0, .int .u8 0, .int .u8 0, .int .u8 0, .int .u8 0, .int .u8 0, .int .u8 0, .int .u8 0, .int .u8 0, .int .u8 0, .int .u8 0, .int .u8 0, .int .u8 0, .int .u8 0, .int .u8 0, .int .u8 0, .int .u8 0, .int .u8 0, .int .u8 0, .int .u8 0, .int .u8 0, .int .u8 0, .int .u8 0, .int .u8 0, .int .u8 0, .int .u8 0, .int .u8 0, .int .u8 0, .int .u8 0, .int .u8 0])
  have B2 := Lib.hid hb2
  clear hb2
  go_upto_region 3 with (refine wpList_store_row rfl 30 (.tmp 18) (.tmp 30) rfl w2.heap.size LT.toArray rfl rfl 30 _ Z2.out ILT.out (by simp [LLT.out]) (by simpa using OLT.out) ?_)
  obtain ⟨w3, hw3⟩ : ∃ x, x = (w2.alloc (.cells #[.int .u32 0, .slice none 0 0, .int .u8 0, .int .u8 0, .int .u8 0, .int .u8 0, .int .u8 0, .int .u8 0, .int .u8 0, .int .u8 0, .int .u8 0, .int .u8 0, .int .u8 0, .int .u8 0, .int .u8 0, .int .u8 0, .int .u8 0, .int .u8 0, .int .u8 0, .int .u8 0, .int .u8 0, .int .u8 0, .int .u8 0, .int .u8 0, .int .u8 0, .int .u8 0, .int .u8 0, .int .u8 0, .int .u8 0, .int .u8 0, .int .u8 0, .int .u8 0, .int .u8 0, .int .u8 0] 30)).setRow w2.heap.size LT.toArray := ⟨_, rfl⟩
  rw [← hw3]
  have tw3 : TokAt w3 w2.heap.size LT := by rw [hw3]; exact ⟨Blk.setRow (Blk.new _ _ _) _, LLT.out⟩
  have bw3 : Below w2.heap.size w2 w3 := by rw [hw3]; exact below_setRow ((Below.refl _ _).alloc (Nat.le_refl _) _) (Nat.le_refl _) _
  clear hw3
  have b13 : Below w1.heap.size w1 w3 := B2.out.trans (bw3.mono B2.out.size)
  have b03 : Below W0.heap.size W0 w3 := B1.out.trans (b13.mono B1.out.size)
  have RG3 := Lib.hid (rangeAt_blk (K0.out.below b03 K0.out.lt) 0 V (fun j u h => by simpa using h))
  have TAB3 := Lib.hid (Blk.below TAB1.out b13 l1)
  have B13 := Lib.hid b13
  have B03 := Lib.hid b03
  have X3 := Lib.hid tw3
  have l2 : w1.heap.size ≤ w2.heap.size := B2.out.size
  obtain ⟨Xa, hXa⟩ : ∃ y, w2.heap.size = y := ⟨_, rfl⟩
  rw [hXa] at X3 l2 ⊢
  have l3 : Xa < w3.heap.size := X3.out.lt
  clear b13 b03 tw3 bw3 Z2 B2 hXa
  go_wp2_with (refine load_mid_want rfl 28 (.tmp 8) rfl w.heap.size 0 rfl V _ RG3.out Tryd.underlying28 rfl HIV.out ?_)
  refine (HM2.out W0.heap.size w3 TAB3.out).mono ?_
  rintro e w4 ⟨rfl, hb4⟩
  have Z4 := Lib.hid (Blk.new w4 30 #[.int .u32 0, .slice none 0 0, .int .u8 0, .int .u8 0, .int .u8 0, .int .u8 0, .int .u8 0, .int .u8 0, .int .u8 0, .int .u8 0, .int .u8 0, .int .u8 0, .int .u8 0, .int .u8 0, .int .u8 0, .int .u8 0, .int .u8 0, .int .u8 0, .int .u8 0, .int .u8 0, .int .u8 0, .int .u8 0, .int .u8 0, .int .u8 0, .int .u8 0, .int .u8 0, .int .u8 0, .int .u8 0, .int .u8 0, .int .u8 0, .int .u8 0, .int .u8 0, .int .u8 0, .int .u8 0])
  have B4 := Lib.hid hb4
  clear hb4
  go_upto_region 4 with (refine wpList_store_row rfl 30 (.tmp 19) (.tmp 34) rfl w4.heap.size LT.toArray rfl rfl 30 _ Z4.out ILT.out (by simp [LLT.out]) (by simpa using OLT.out) ?_)
  obtain ⟨w5, hw5⟩ : ∃ x, x = (w4.alloc (.cells #[.int .u32 0, .slice none 0 0, .int .u8 0, .int .u8 0, .int .u8 0, .int .u8 0, .int .u8 0, .int .u8 0, .int .u8 0, .int .u8 0, .int .u8 0, .int .u8 0, .int .u8 0, .int .u8 0, .int .u8 0, .int .u8 0, .int .u8 0, .int .u8 0, .int .u8 0, .int .u8 0, .int .u8 0, .int .u8 0, .int .u8 0, .int .u8 0, .int .u8 0, .int .u8 0, .int .u8 0, .int .u8 0, .int .u8 0, .int .u8 0, .int .u8 0, .int .u8 0, .int .u8 0, .int .u8 0] 30)).setRow w4.heap.size LT.toArray := ⟨_, rfl⟩
  rw [← hw5]
  have tw5 : TokAt w5 w4.heap.size LT := by rw [hw5]; exact ⟨Blk.setRow (Blk.new _ _ _) _, LLT.out⟩
  have bw5 : Below w4.heap.size w4 w5 := by rw [hw5]; exact below_setRow ((Below.refl _ _).alloc (Nat.le_refl _) _) (Nat.le_refl _) _
  clear hw5
  have b35 : Below w3.heap.size w3 w5 := B4.out.trans (bw5.mono B4.out.size)
  have B35 := Lib.hid b35
  have X5 := Lib.hid tw5
  have l4 : w3.heap.size ≤ w4.heap.size := B4.out.size
  obtain ⟨Xb, hXb⟩ : ∃ y, w4.heap.size = y := ⟨_, rfl⟩
  rw [hXb] at X5 l4 ⊢
  have A5 := Lib.hid ((X3.out.below b35 X3.out.lt))
  have TAB5 := Lib.hid (Blk.below TAB3.out b35 (Blk.lt TAB3.out))
  have B05 := Lib.hid (B03.out.trans (b35.mono B03.out.size))
  have EN0 : Hid (tokv (minted key id).1 (.slice none 0 0) (minted key id).2.2 = LT) := ELT.out
  clear b35 tw5 bw5 Z4 B4 hXb X3 TAB3 B13 TAB1 RG0 RG1 RG3
  go_wp2_with fail
  go_loopw [20, 21, 22, 23, 24, 45, 54] (fun i _ _ _ _ _ _ wr => ∃ (k : Nat) (y : Tok) (va vb : Value), k ≤ n ∧ k ≤ 7 ∧ i = .int .i64 k ∧ Hid (Gen key y) ∧ Hid y.Ok ∧ Hid (y.1 = id) ∧ y.2.1.length ≤ k ∧ Hid (Blk wr Xa 30 (tokv y.1 va y.2.2).toArray) ∧ Hid (Blk wr Xb 30 (tokv y.1 vb y.2.2).toArray) ∧ Hid (OwnC wr W0.heap.size va y.2.1) ∧ Hid (OwnC wr W0.heap.size vb y.2.1) ∧ Hid (Below W0.heap.size W0 wr) ∧ Hid (RTab wr W0.heap.size)) (fun i _ _ _ _ _ _ _ => n - (intOf i).toNat)
  case atStart => exact ⟨0, minted key id, .slice none 0 0, .slice none 0 0, by omega, by omega, rfl, gen_minted key id, minted_ok key id hid, Lib.hid rfl, by simp [minted], by rw [show tokv (minted key id).1 (.slice none 0 0) (minted key id).2.2 = LT from EN0.out]; exact A5.out.blk, by rw [show tokv (minted key id).1 (.slice none 0 0) (minted key id).2.2 = LT from EN0.out]; exact X5.out.blk, OwnC.nil _ _, OwnC.nil _ _, B05.out, TAB5.out⟩
  case round =>
    obtain ⟨k, y, va, vb, hk, hk7, rfl, hg, hyo, hyi, hyl, hXa, hXb, hva, hvb, hb, htab⟩ := hrel
    by_cases hc : k < n ∧ k < 7
    · obtain ⟨hkn, hkm⟩ := hc
      have qk : (k : Int) < n := by omega
      have q7 : (k : Int) < 7 := by omega
      obtain ⟨cav, hcav⟩ : ∃ c, l[k]? = some c := ⟨_, List.getElem?_eq_getElem (by rw [Hl.out]; exact hkn)⟩
      obtain ⟨gb, go, hA, hgb, hrd⟩ := HR0.out.mid (by omega) (by omega)
      obtain ⟨e0, e1⟩ := cavv_at l k cav hcav
      have m0 := (hb.out.cell (p := ⟨gb, go + k * 2, none⟩) hgb).trans (hrd _ _ e0)
      have m1 := (hb.out.cell (p := ⟨gb, go + (k * 2 + 1), none⟩) hgb).trans (hrd _ _ e1)
      subst hA
      obtain ⟨kk, NN⟩ := cav
      dsimp only at m0 m1
      rw [← Nat.add_assoc] at m1
      have hN : NN < 4294967296 := HlN.out (kk, NN) (List.mem_of_getElem? hcav)
      have hgbr : gb < wr.heap.size := Nat.lt_of_lt_of_le hgb hb.out.size
      obtain ⟨S, HS⟩ : ∃ S : World → Prop, Hid (∀ w', S w' = Below wr.heap.size wr w') := ⟨_, fun _ => rfl⟩
      have FC : Hid (∀ w', S w' → w'.rangeAt gb (go + k * 2) [.int .i64 kk, .int .u32 (NN : Int)]) := fun w' h j u hu => by
        rw [HS.out] at h
        rw [h.cell (p := ⟨gb, go + k * 2 + j, none⟩) hgbr]
        match j, hu with
        | 0, hu => simp at hu; subst hu; exact m0
        | 1, hu => simp at hu; subst hu; exact m1
      have HIC := Lib.hid (show (Tryd.prog.info? 37).map (·.size) = some [Value.int .i64 kk, .int .u32 (NN : Int)].length by kernel_rfl)
      obtain ⟨r, hr⟩ : ∃ r, narRes y (kk, NN) = r := ⟨_, rfl⟩
      have Hok' := Lib.hid (narRes_ok y (kk, NN) hyo.out hN)
      have Hlen' := Lib.hid (narRes_len y (kk, NN))
      obtain ⟨A1, n1, c1, rfl, -, nc1, -, rx1⟩ := hva.out.sl
      obtain ⟨A2, n2, c2, rfl, -, nc2, -, rx2⟩ := hvb.out.sl
      have ln1 : n1 ≤ 7 := by have := rx1.1; rw [cavv_length] at this; omega
      have ln2 : n2 ≤ 7 := by have := rx2.1; rw [cavv_length] at this; omega
      have N1 := fun w' (h : Below wr.heap.size wr w') => token_narrow y A1 n1 c1 kk NN w' (rx1.call h) nc1 (by omega) hyo.out.2.2.1 hyo.out.2.2.2 hN ((HT0.out.below hb.out HT0.out.size).below h (Nat.le_trans HT0.out.size hb.out.size))
      have N2 := fun w' (h : Below wr.heap.size wr w') => ref12_narrow W0.heap.size y A2 n2 c2 kk NN w' (rx2.call h) nc2 (by omega) hyo.out.2.2.1 hyo.out.2.2.2 hN (Blk.below htab.out h (Blk.lt htab.out))
      obtain ⟨E1, hE1, lE1, oE1, iE1⟩ := tok_cells y.1 A1 n1 c1 y.2.2 hyo.out.2.2.1
      obtain ⟨E2, hE2, lE2, oE2, iE2⟩ := tok_cells y.1 A2 n2 c2 y.2.2 hyo.out.2.2.1
      simp only [hE1, hr] at N1
      simp only [hE2, hr] at N2
      have xa := hXa.out
      have xb := hXb.out
      rw [hE1] at xa
      rw [hE2] at xb
      have FA : Hid (∀ w', S w' → w'.rangeAt Xa 0 E1) := fun w' h => by
        rw [HS.out] at h
        exact rangeAt_blk (xa.below h xa.lt) 0 E1 (fun j u h => by simpa using h)
      have HIA := Lib.hid (show (Tryd.prog.info? 30).map (·.size) = some E1.length by rw [lE1]; exact Tryd.tok_info)
      have HIB := Lib.hid (show (Tryd.prog.info? 30).map (·.size) = some E2.length by rw [lE2]; exact Tryd.tok_info)
      have HE1 := Lib.hid hE1
      have HE2 := Lib.hid hE2
      have HN1 := Lib.hid N1
      have HN2 := Lib.hid N2
      have XA := Lib.hid xa
      have XB := Lib.hid xb
      have LE1 := Lib.hid lE1
      have LE2 := Lib.hid lE2
      have HR4 := Lib.hid hr
      have HC := Lib.hid hcav
      have M0 := Lib.hid m0
      have M1 := Lib.hid m1
      have HGR := Lib.hid hgbr
      have HNN := Lib.hid hN
      rw [hr] at Hok' Hlen'
      clear N1 N2 xa xb hE1 lE1 oE1 iE1 hE2 lE2 oE2 iE2 rx1 rx2 hXa hXb m0 m1 e0 e1 hrd hcav hr hgbr hN
      go_upto_region 7 with (fail)
      refine wp_region_fork S 12 [51, 45, 52, 53, 21] [(0, false), (1, false), (2, false), (3, false), (4, false)] 5 (.two 5 (.read 6 (.read 7 (.read 8 (.one 9 .done)))) 9 (.one 5 (.read 6 (.read 7 (.read 8 .done))))) [(10, true), (11, false)] #[true, true, true, true, true, false, false, false, false, false, false, false] #[true, true, true, true, true, true, true, true, true, true, false, false] (by kernel_rfl) rfl (by kernel_rfl) (by kernel_rfl) (by kernel_rfl) (by kernel_rfl) (by kernel_rfl) (fun _ _ d _ _ h => by cases d <;> exact h) ((HS.out _).mpr (Below.refl _ wr).drew) ?_
      refine wpSteps_load' rfl rfl 30 (.tmp 18) rfl Xa 0 rfl E1 _ FA.out Tryd.underlying30 rfl HIA.out ?_
      try simp only [Act.put, List.setIfInBounds_toArray, List.set_cons_zero, List.set_cons_succ]
      iterate 3 (refine wpSteps_read rfl rfl ⟨?_, fun w1 hS => ?_, ?_⟩; rotate_left; (focus (go_simp; (try go_bits); try rfl)); simp only [Act.put, List.setIfInBounds_toArray, List.set_cons_zero, List.set_cons_succ])
      refine wpSteps_load' rfl rfl 37 (.tmp 49) rfl gb (go + k * 2) rfl [.int .i64 kk, .int .u32 (NN : Int)] _ FC.out Tryd.underlying37 rfl HIC.out ?_
      try simp only [Act.put, List.setIfInBounds_toArray, List.set_cons_zero, List.set_cons_succ]
      refine wpSteps_nil ?_
      have hwdwr : Below wr.heap.size wr wr.drew := (Below.refl _ _).drew
      obtain ⟨Wdwr, hWdwr⟩ : ∃ x, x = wr.drew := ⟨_, rfl⟩
      have HWdwr := Lib.hid hWdwr
      rw [← hWdwr] at hwdwr ⊢
      clear hWdwr
      refine ⟨fun vs w' => ∃ A4 n4 c4 g9, vs = [.tuple #[.agg (tokv r.1.1 (.slice A4 n4 c4) r.1.2.2).toArray, .int .i64 (r.2 : Nat)], .tuple #[.agg (tokv r.1.1 (.slice A4 n4 c4) r.1.2.2).toArray, .int .i64 (r.2 : Nat)], .agg (tokv r.1.1 (.slice A4 n4 c4) r.1.2.2).toArray, .int .i64 (r.2 : Nat), .pointer (some ⟨g9, 0, none⟩)] ∧ OwnC w' wr.heap.size (.slice A4 n4 c4) r.1.2.1 ∧ Blk w' g9 30 zeroTokv.toArray ∧ wr.heap.size ≤ g9 ∧ Below wr.heap.size wr w', ?_, ?_⟩
      · refine wpTree_two rfl rfl rfl rfl ?_ ?_
        · go_simp
          refine (HN1.out Wdwr hwdwr).mono ?_
          rintro e w4 ⟨v4, rfl, o4, b4⟩
          obtain ⟨A4, n4, c4, rfl, -, -, -, -⟩ := o4.sl
          obtain ⟨F, hF⟩ : ∃ F, tokv r.1.1 (.slice A4 n4 c4) r.1.2.2 = F := ⟨_, rfl⟩
          rw [hF]
          have b4' := hwdwr.trans (b4.mono hwdwr.size)
          have o4' := OwnC.mono o4 hwdwr.size
          have HF := Lib.hid hF
          have HO := Lib.hid o4'
          have HB := Lib.hid b4'
          clear hF o4 b4 o4' b4'
          refine ⟨(HS.out _).mpr HB.out, ?_⟩
          try simp only [Act.put, List.setIfInBounds_toArray, List.set_cons_zero, List.set_cons_succ]
          iterate 3 (refine wpTree_read rfl rfl ⟨?_, fun w1 hS => ?_, ?_⟩; rotate_left; (focus (go_simp; (try go_bits); try rfl)); simp only [Act.put, List.setIfInBounds_toArray, List.set_cons_zero, List.set_cons_succ])
          refine wpTree_one rfl rfl ?_
          go_simp
          refine ⟨(HS.out _).mpr (HB.out.alloc HB.out.size _), wpTree_done ⟨[_, _, _, _, _], rfl, A4, n4, c4, w4.heap.size, by rw [HF.out], HO.out.alloc _, Blk.new _ _ _, HB.out.size, HB.out.alloc HB.out.size _⟩⟩
        · go_simp
          obtain ⟨w3, hw3⟩ : ∃ x, x = Wdwr.alloc (.cells #[.int .u32 0, .slice none 0 0, .int .u8 0, .int .u8 0, .int .u8 0, .int .u8 0, .int .u8 0, .int .u8 0, .int .u8 0, .int .u8 0, .int .u8 0, .int .u8 0, .int .u8 0, .int .u8 0, .int .u8 0, .int .u8 0, .int .u8 0, .int .u8 0, .int .u8 0, .int .u8 0, .int .u8 0, .int .u8 0, .int .u8 0, .int .u8 0, .int .u8 0, .int .u8 0, .int .u8 0, .int .u8 0, .int .u8 0, .int .u8 0, .int .u8 0, .int .u8 0, .int .u8 0, .int .u8 0] 30) := ⟨_, rfl⟩
          rw [← hw3]
          have z3 : Blk w3 Wdwr.heap.size 30 zeroTokv.toArray := by rw [hw3]; exact Blk.new _ _ _
          have b3 : Below wr.heap.size wr w3 := by rw [hw3]; exact hwdwr.alloc hwdwr.size _
          clear hw3
          refine ⟨(HS.out _).mpr b3, ?_⟩
          refine wpTree_one rfl rfl ?_
          go_simp
          refine (HN1.out w3 b3).mono ?_
          rintro e w4 ⟨v4, rfl, o4, b4⟩
          obtain ⟨A4, n4, c4, rfl, -, -, -, -⟩ := o4.sl
          obtain ⟨F, hF⟩ : ∃ F, tokv r.1.1 (.slice A4 n4 c4) r.1.2.2 = F := ⟨_, rfl⟩
          rw [hF]
          have b4' := b3.trans (b4.mono b3.size)
          have o4' := OwnC.mono o4 b3.size
          have z4 := z3.below b4 z3.lt
          have HF := Lib.hid hF
          have HO := Lib.hid o4'
          have HB := Lib.hid b4'
          have HZ := Lib.hid z4
          clear hF o4 b4 o4' b4' z4 z3 b3
          refine ⟨(HS.out _).mpr HB.out, ?_⟩
          try simp only [Act.put, List.setIfInBounds_toArray, List.set_cons_zero, List.set_cons_succ]
          iterate 3 (refine wpTree_read rfl rfl ⟨?_, fun w1 hS => ?_, ?_⟩; rotate_left; (focus (go_simp; (try go_bits); try rfl)); simp only [Act.put, List.setIfInBounds_toArray, List.set_cons_zero, List.set_cons_succ])
          refine wpTree_done ⟨[_, _, _, _, _], rfl, A4, n4, c4, Wdwr.heap.size, by rw [HF.out], HO.out, HZ.out, hwdwr.size, HB.out⟩
      rintro vs w4 - ⟨AK1, nK1, cK1, gK1, rfl, o4, z9, l9, b4⟩
      simp only [puts, Act.put, List.setIfInBounds_toArray, List.set_cons_zero, List.set_cons_succ]
      obtain ⟨FK1, hF, hlF, hoF, iF⟩ := tok_cells r.1.1 AK1 nK1 cK1 r.1.2.2 Hok'.out.2.2.1
      rw [hF]
      refine wpSeq_write rfl rfl ?_
      refine wp_store_row 30 (.tmp 21) (.tmp 52) rfl gK1 FK1.toArray rfl rfl 30 _ z9 iF (by simp [hlF, zeroTokv, tokv_len]) (by simpa using hoF) ?_
      obtain ⟨WK1, hW9⟩ : ∃ x, x = w4.setRow gK1 FK1.toArray := ⟨_, rfl⟩
      rw [← hW9]
      have fK1 : Blk WK1 gK1 30 FK1.toArray := by rw [hW9]; exact z9.setRow _
      have bK1 : Below wr.heap.size wr WK1 := by rw [hW9]; exact below_setRow b4 l9 _
      have oK1 : OwnC WK1 wr.heap.size (.slice AK1 nK1 cK1) r.1.2.1 := by rw [hW9]; exact World.ownsRow.kept o4 (grown_setRow _ _ _) (.inr (own_blk_ne o4 z9 (by decide)))
      have LFK1 := Lib.hid hlF
      have OFK1 := Lib.hid hoF
      have IFK1 := Lib.hid iF
      have EFK1 := Lib.hid hF
      have GLK1 := Lib.hid l9
      clear hW9 z9 b4 o4 iF hlF hoF hF l9
      refine ⟨fun _ => (HS.out _).mpr bK1, ?_⟩
      try simp only [Act.put, List.setIfInBounds_toArray, List.set_cons_zero, List.set_cons_succ]
      iterate 1 (refine wpSeq_read rfl rfl ⟨?_, fun w1 hS => ?_, ?_⟩; rotate_left; (focus (go_simp; (try go_bits); try rfl)); simp only [Act.put, List.setIfInBounds_toArray, List.set_cons_zero, List.set_cons_succ])
      refine wpSeq_nil ?_
      clear FA FC HS
      obtain ⟨S, HS⟩ : ∃ S : World → Prop, Hid (∀ w', S w' = Below WK1.heap.size WK1 w') := ⟨_, fun _ => rfl⟩
      have hgbC : gb < WK1.heap.size := Nat.lt_of_lt_of_le HGR.out bK1.size
      have FC : Hid (∀ w', S w' → w'.rangeAt gb (go + k * 2) [.int .i64 kk, .int .u32 (NN : Int)]) := fun w' h j u hu => by
        rw [HS.out] at h
        rw [h.cell (p := ⟨gb, go + k * 2 + j, none⟩) hgbC, bK1.cell (p := ⟨gb, go + k * 2 + j, none⟩) HGR.out]
        match j, hu with
        | 0, hu => simp at hu; subst hu; exact M0.out
        | 1, hu => simp at hu; subst hu; exact M1.out
      have xbC := XB.out.below bK1 XB.out.lt
      have FB : Hid (∀ w', S w' → w'.rangeAt Xb 0 E2) := fun w' h => by
        rw [HS.out] at h
        exact rangeAt_blk (xbC.below h xbC.lt) 0 E2 (fun j u h => by simpa using h)
      have HN2C := Lib.hid (fun w' (h : Below WK1.heap.size WK1 w') => HN2.out w' (bK1.trans (h.mono bK1.size)))
      have HBC := Lib.hid bK1
      have HFC := Lib.hid fK1
      have HOC := Lib.hid oK1
      have QC := Lib.hid hgbC
      clear bK1 fK1 oK1 xbC hgbC
      go_upto_region 8 with (fail)
      refine wp_region_fork S 13 [61, 54, 62, 63, 23] [(0, false), (1, false), (2, false), (3, false), (4, false), (5, false)] 5 (.two 6 (.read 7 (.read 8 (.read 9 (.one 10 .done)))) 10 (.one 6 (.read 7 (.read 8 (.read 9 .done))))) [(11, true), (12, false)] #[true, true, true, true, true, true, false, false, false, false, false, false, false] #[true, true, true, true, true, true, true, true, true, true, true, false, false] (by kernel_rfl) rfl (by kernel_rfl) (by kernel_rfl) (by kernel_rfl) (by kernel_rfl) (by kernel_rfl) (fun _ _ d _ _ h => by cases d <;> exact h) ((HS.out _).mpr (Below.refl _ WK1).drew) ?_
      iterate 1 (refine wpSteps_read rfl rfl ⟨?_, fun w1 hS => ?_, ?_⟩; rotate_left; (focus (go_simp; (try go_bits); try rfl)); simp only [Act.put, List.setIfInBounds_toArray, List.set_cons_zero, List.set_cons_succ])
      refine wpSteps_load' rfl rfl 30 (.tmp 19) rfl Xb 0 rfl E2 _ FB.out Tryd.underlying30 rfl HIB.out ?_
      try simp only [Act.put, List.setIfInBounds_toArray, List.set_cons_zero, List.set_cons_succ]
      iterate 3 (refine wpSteps_read rfl rfl ⟨?_, fun w1 hS => ?_, ?_⟩; rotate_left; (focus (go_simp; (try go_bits); try rfl)); simp only [Act.put, List.setIfInBounds_toArray, List.set_cons_zero, List.set_cons_succ])
      refine wpSteps_load' rfl rfl 37 (.tmp 59) rfl gb (go + k * 2) rfl [.int .i64 kk, .int .u32 (NN : Int)] _ FC.out Tryd.underlying37 rfl HIC.out ?_
      try simp only [Act.put, List.setIfInBounds_toArray, List.set_cons_zero, List.set_cons_succ]
      refine wpSteps_nil ?_
      have hwdWK1 : Below WK1.heap.size WK1 WK1.drew := (Below.refl _ _).drew
      obtain ⟨WdWK1, hWdWK1⟩ : ∃ x, x = WK1.drew := ⟨_, rfl⟩
      have HWdWK1 := Lib.hid hWdWK1
      rw [← hWdWK1] at hwdWK1 ⊢
      clear hWdWK1
      refine ⟨fun vs w' => ∃ A4 n4 c4 g9, vs = [.tuple #[.agg (tokv r.1.1 (.slice A4 n4 c4) r.1.2.2).toArray, .int .i64 (r.2 : Nat)], .tuple #[.agg (tokv r.1.1 (.slice A4 n4 c4) r.1.2.2).toArray, .int .i64 (r.2 : Nat)], .agg (tokv r.1.1 (.slice A4 n4 c4) r.1.2.2).toArray, .int .i64 (r.2 : Nat), .pointer (some ⟨g9, 0, none⟩)] ∧ OwnC w' WK1.heap.size (.slice A4 n4 c4) r.1.2.1 ∧ Blk w' g9 30 zeroTokv.toArray ∧ WK1.heap.size ≤ g9 ∧ Below WK1.heap.size WK1 w', ?_, ?_⟩
      · refine wpTree_two rfl rfl rfl rfl ?_ ?_
        · go_simp
          refine (HN2C.out WdWK1 hwdWK1).mono ?_
          rintro e w4 ⟨v4, rfl, o4, b4⟩
          obtain ⟨A4, n4, c4, rfl, -, -, -, -⟩ := o4.sl
          obtain ⟨F, hF⟩ : ∃ F, tokv r.1.1 (.slice A4 n4 c4) r.1.2.2 = F := ⟨_, rfl⟩
          rw [hF]
          have b4' := hwdWK1.trans (b4.mono hwdWK1.size)
          have o4' := OwnC.mono o4 hwdWK1.size
          have HF := Lib.hid hF
          have HO := Lib.hid o4'
          have HB := Lib.hid b4'
          clear hF o4 b4 o4' b4'
          refine ⟨(HS.out _).mpr HB.out, ?_⟩
          try simp only [Act.put, List.setIfInBounds_toArray, List.set_cons_zero, List.set_cons_succ]
          iterate 3 (refine wpTree_read rfl rfl ⟨?_, fun w1 hS => ?_, ?_⟩; rotate_left; (focus (go_simp; (try go_bits); try rfl)); simp only [Act.put, List.setIfInBounds_toArray, List.set_cons_zero, List.set_cons_succ])
          refine wpTree_one rfl rfl ?_
          go_simp
          refine ⟨(HS.out _).mpr (HB.out.alloc HB.out.size _), wpTree_done ⟨[_, _, _, _, _], rfl, A4, n4, c4, w4.heap.size, by rw [HF.out], HO.out.alloc _, Blk.new _ _ _, HB.out.size, HB.out.alloc HB.out.size _⟩⟩
        · go_simp
          obtain ⟨w3, hw3⟩ : ∃ x, x = WdWK1.alloc (.cells #[.int .u32 0, .slice none 0 0, .int .u8 0, .int .u8 0, .int .u8 0, .int .u8 0, .int .u8 0, .int .u8 0, .int .u8 0, .int .u8 0, .int .u8 0, .int .u8 0, .int .u8 0, .int .u8 0, .int .u8 0, .int .u8 0, .int .u8 0, .int .u8 0, .int .u8 0, .int .u8 0, .int .u8 0, .int .u8 0, .int .u8 0, .int .u8 0, .int .u8 0, .int .u8 0, .int .u8 0, .int .u8 0, .int .u8 0, .int .u8 0, .int .u8 0, .int .u8 0, .int .u8 0, .int .u8 0] 30) := ⟨_, rfl⟩
          rw [← hw3]
          have z3 : Blk w3 WdWK1.heap.size 30 zeroTokv.toArray := by rw [hw3]; exact Blk.new _ _ _
          have b3 : Below WK1.heap.size WK1 w3 := by rw [hw3]; exact hwdWK1.alloc hwdWK1.size _
          clear hw3
          refine ⟨(HS.out _).mpr b3, ?_⟩
          refine wpTree_one rfl rfl ?_
          go_simp
          refine (HN2C.out w3 b3).mono ?_
          rintro e w4 ⟨v4, rfl, o4, b4⟩
          obtain ⟨A4, n4, c4, rfl, -, -, -, -⟩ := o4.sl
          obtain ⟨F, hF⟩ : ∃ F, tokv r.1.1 (.slice A4 n4 c4) r.1.2.2 = F := ⟨_, rfl⟩
          rw [hF]
          have b4' := b3.trans (b4.mono b3.size)
          have o4' := OwnC.mono o4 b3.size
          have z4 := z3.below b4 z3.lt
          have HF := Lib.hid hF
          have HO := Lib.hid o4'
          have HB := Lib.hid b4'
          have HZ := Lib.hid z4
          clear hF o4 b4 o4' b4' z4 z3 b3
          refine ⟨(HS.out _).mpr HB.out, ?_⟩
          try simp only [Act.put, List.setIfInBounds_toArray, List.set_cons_zero, List.set_cons_succ]
          iterate 3 (refine wpTree_read rfl rfl ⟨?_, fun w1 hS => ?_, ?_⟩; rotate_left; (focus (go_simp; (try go_bits); try rfl)); simp only [Act.put, List.setIfInBounds_toArray, List.set_cons_zero, List.set_cons_succ])
          refine wpTree_done ⟨[_, _, _, _, _], rfl, A4, n4, c4, WdWK1.heap.size, by rw [HF.out], HO.out, HZ.out, hwdWK1.size, HB.out⟩
      rintro vs w4 - ⟨AK2, nK2, cK2, gK2, rfl, o4, z9, l9, b4⟩
      simp only [puts, Act.put, List.setIfInBounds_toArray, List.set_cons_zero, List.set_cons_succ]
      obtain ⟨FK2, hF, hlF, hoF, iF⟩ := tok_cells r.1.1 AK2 nK2 cK2 r.1.2.2 Hok'.out.2.2.1
      rw [hF]
      refine wpSeq_write rfl rfl ?_
      refine wp_store_row 30 (.tmp 23) (.tmp 62) rfl gK2 FK2.toArray rfl rfl 30 _ z9 iF (by simp [hlF, zeroTokv, tokv_len]) (by simpa using hoF) ?_
      obtain ⟨WK2, hW9⟩ : ∃ x, x = w4.setRow gK2 FK2.toArray := ⟨_, rfl⟩
      rw [← hW9]
      have fK2 : Blk WK2 gK2 30 FK2.toArray := by rw [hW9]; exact z9.setRow _
      have bK2 : Below WK1.heap.size WK1 WK2 := by rw [hW9]; exact below_setRow b4 l9 _
      have oK2 : OwnC WK2 WK1.heap.size (.slice AK2 nK2 cK2) r.1.2.1 := by rw [hW9]; exact World.ownsRow.kept o4 (grown_setRow _ _ _) (.inr (own_blk_ne o4 z9 (by decide)))
      have LFK2 := Lib.hid hlF
      have OFK2 := Lib.hid hoF
      have IFK2 := Lib.hid iF
      have EFK2 := Lib.hid hF
      have GLK2 := Lib.hid l9
      clear hW9 z9 b4 o4 iF hlF hoF hF l9
      refine ⟨fun _ => (HS.out _).mpr bK2, ?_⟩
      try simp only [Act.put, List.setIfInBounds_toArray, List.set_cons_zero, List.set_cons_succ]
      iterate 1 (refine wpSeq_read rfl rfl ⟨?_, fun w1 hS => ?_, ?_⟩; rotate_left; (focus (go_simp; (try go_bits); try rfl)); simp only [Act.put, List.setIfInBounds_toArray, List.set_cons_zero, List.set_cons_succ])
      refine wpSeq_nil ?_
      clear FB FC HS
      have e1 : nK1 = r.1.2.1.length := by have := HOC.out.reads.1; rw [cavv_length] at this; omega
      have e2 : nK2 = r.1.2.1.length := by have := oK2.reads.1; rw [cavv_length] at this; omega
      obtain ⟨nn, hnn⟩ : ∃ nn, r.1.2.1.length = nn := ⟨_, rfl⟩
      rw [hnn] at e1 e2
      subst e1 e2
      have lnn : nK2 ≤ 8 := by have := Hlen'.out; omega
      have SM := same_token r.1.1 AK1 AK2 nK2 cK1 cK2 r.1.2.1 r.1.2.2 WK2 Hok'.out.2.2.1 Hok'.out.2.2.2 (HOC.out.reads.call bK2) oK2.reads (by omega)
      rw [EFK1.out, EFK2.out] at SM
      have tK1 : TokAt WK2 gK1 FK1 := ⟨HFC.out.below bK2 HFC.out.lt, LFK1.out⟩
      have tK2 : TokAt WK2 gK2 FK2 := ⟨fK2, LFK2.out⟩
      have RK1 := Lib.hid tK1.load
      have JK1 := Lib.hid tK1.info
      have RK2 := Lib.hid tK2.load
      have JK2 := Lib.hid tK2.info
      have TK1 := Lib.hid tK1
      have TK2 := Lib.hid tK2
      have HSM := Lib.hid SM
      have HBK := Lib.hid bK2
      have HOK := Lib.hid oK2
      obtain ⟨q, hq⟩ : ∃ q, r.2 = q := ⟨_, rfl⟩
      rw [hq]
      have HQ := Lib.hid hq
      have HNL := Lib.hid hnn
      clear SM tK1 tK2 bK2 oK2 fK2 hq hnn lnn
      go_wp2_with (first
        | (refine load_mid_want rfl 30 (.tmp 21) rfl gK1 0 rfl FK1 _ RK1.out Tryd.underlying30 rfl JK1.out ?_)
        | (refine load_mid_want rfl 30 (.tmp 23) rfl gK2 0 rfl FK2 _ RK2.out Tryd.underlying30 rfl JK2.out ?_)
        | fail)
      refine HSM.out.mono ?_
      rintro e w5 ⟨rfl, b5⟩
      have hbr5 := HBC.out.trans ((HBK.out.trans (b5.mono HBK.out.size)).mono HBC.out.size)
      by_cases h0 : q = 0
      · subst h0
        have hr0 : (narRes y (kk, NN)).2 = 0 := by rw [HR4.out, HQ.out]
        have xa5 := (XA.out.below hbr5 XA.out.lt)
        have xb5 := (XB.out.below hbr5 XB.out.lt)
        have t1 := TK1.out.below b5 TK1.out.lt
        have t2 := TK2.out.below b5 TK2.out.lt
        have o1 := HOC.out.kept (HBK.out.trans (b5.mono HBK.out.size))
        have o2 := HOK.out.kept b5
        have tab5 : RTab w5 W0.heap.size := Blk.below htab.out hbr5 (Blk.lt htab.out)
        have bl5 := hb.out.trans (hbr5.mono hb.out.size)
        have ltab := Blk.lt htab.out
        have lxa := XA.out.lt
        have lxb := XB.out.lt
        have RA := Lib.hid t1.load
        have XA5 := Lib.hid xa5
        have T2' := Lib.hid (show TokAt (w5.setRow Xa FK1.toArray) gK2 FK2 from ⟨t2.blk.setRow_far (by have := GLK2.out; have := HBC.out.size; omega) _, t2.len⟩)
        have RB := Lib.hid T2'.out.load
        have XB5 := Lib.hid (xb5.setRow_far (by omega) FK1.toArray : Blk (w5.setRow Xa FK1.toArray) Xb 30 E2.toArray)
        have XA6 := Lib.hid (xa5.setRow FK1.toArray)
        have O1 := Lib.hid o1
        have O2 := Lib.hid o2
        have TB5 := Lib.hid tab5
        have BL5 := Lib.hid bl5
        clear xa5 xb5 t1 t2 o1 o2 tab5 bl5 hbr5 b5
        have h00 : ((0 : Nat) : Int) = 0 := rfl
        go_wp2_with (first
          | (refine load_mid_want rfl 30 (.tmp 21) rfl gK1 0 rfl FK1 _ RA.out Tryd.underlying30 rfl JK1.out ?_)
          | (refine load_mid_want rfl 30 (.tmp 23) rfl gK2 0 rfl FK2 _ RB.out Tryd.underlying30 rfl JK2.out ?_)
          | (refine wpList_store_row rfl 30 (.tmp 18) (.tmp 75) rfl Xa FK1.toArray rfl rfl 30 _ XA5.out IFK1.out (by simp [LFK1.out, LE1.out]) (by simpa using OFK1.out) ?_)
          | (refine wpList_store_row rfl 30 (.tmp 19) (.tmp 76) rfl Xb FK2.toArray rfl rfl 30 _ XB5.out IFK2.out (by simp [LFK2.out, LE2.out]) (by simpa using OFK2.out) ?_)
          | fail)
        go_roundw
        case rel =>
          have e0 := narRes_ok0 hr0
          have hgen := gen_narrow hg.out hr0
          rw [HR4.out] at e0 hgen
          have hle := Hlen'.out
          refine ⟨k + 1, r.1, .slice AK1 nK2 cK1, .slice AK2 nK2 cK2, by omega, by omega, by go_num, hgen, Hok'.out, ?_, by omega, ?_, ?_, ?_, ?_, ?_, ?_⟩
          · show r.1.1 = id
            rw [e0]
            exact hyi.out
          · rw [EFK1.out]
            exact XA6.out.setRow_far (by omega) _
          · rw [EFK2.out]
            exact XB5.out.setRow _
          · have oa : OwnC (w5.setRow Xa FK1.toArray) wr.heap.size (.slice AK1 nK2 cK1) r.1.2.1 := World.ownsRow.kept O1.out (grown_setRow _ _ _) (.inr (own_blk_ne O1.out XA5.out (by decide)))
            exact OwnC.mono (World.ownsRow.kept oa (grown_setRow _ _ _) (.inr (own_blk_ne oa XB5.out (by decide)))) hb.out.size
          · have oa : OwnC (w5.setRow Xa FK1.toArray) WK1.heap.size (.slice AK2 nK2 cK2) r.1.2.1 := World.ownsRow.kept O2.out (grown_setRow _ _ _) (.inr (own_blk_ne O2.out XA5.out (by decide)))
            exact OwnC.mono (World.ownsRow.kept oa (grown_setRow _ _ _) (.inr (own_blk_ne oa XB5.out (by decide)))) (Nat.le_trans hb.out.size HBC.out.size)
          · exact below_setRow (below_setRow BL5.out (by omega) _) (by omega) _
          · exact Blk.setRow_far (Blk.setRow_far TB5.out (by omega) _) (by omega) _
        case measure => simp [intOf]; omega
      · have h0' : ¬ (q : Int) = 0 := by omega
        have xa5 := (XA.out.below hbr5 XA.out.lt)
        have xb5 := (XB.out.below hbr5 XB.out.lt)
        have o1 := hva.out.kept hbr5
        have o2 := hvb.out.kept hbr5
        have tab5 : RTab w5 W0.heap.size := Blk.below htab.out hbr5 (Blk.lt htab.out)
        have bl5 := hb.out.trans (hbr5.mono hb.out.size)
        have XA5 := Lib.hid xa5
        have XB5 := Lib.hid xb5
        have O1 := Lib.hid o1
        have O2 := Lib.hid o2
        have TB5 := Lib.hid tab5
        have BL5 := Lib.hid bl5
        clear xa5 xb5 o1 o2 tab5 bl5 hbr5 b5
        go_wp2_with fail
        go_roundw
        case rel => exact ⟨k + 1, y, .slice A1 n1 c1, .slice A2 n2 c2, by omega, by omega, by go_num, hg.out, hyo.out, hyi.out, by omega, by rw [HE1.out]; exact XA5.out, by rw [HE2.out]; exact XB5.out, O1.out, O2.out, BL5.out, TB5.out⟩
        case measure => simp [intOf]; omega
    · obtain ⟨A1, n1, c1, rfl, -, nc1, -, rx1⟩ := hva.out.sl
      obtain ⟨A2, n2, c2, rfl, -, nc2, -, rx2⟩ := hvb.out.sl
      have en1 : n1 = y.2.1.length := by have := rx1.1; rw [cavv_length] at this; omega
      have en2 : n1 = n2 := by have := rx2.1; rw [cavv_length] at this; omega
      subst en2
      have ln1 : n1 ≤ 7 := by omega
      obtain ⟨E1, hE1, lE1, oE1, iE1⟩ := tok_cells y.1 A1 n1 c1 y.2.2 hyo.out.2.2.1
      obtain ⟨E2, hE2, lE2, oE2, iE2⟩ := tok_cells y.1 A2 n1 c2 y.2.2 hyo.out.2.2.1
      obtain ⟨gx, hgx⟩ : ∃ b, genuineB key x = b := ⟨_, rfl⟩
      obtain ⟨hy, hhy⟩ : ∃ b, holdsB op tree clock y.2.1 = b := ⟨_, rfl⟩
      obtain ⟨hx', hhx⟩ : ∃ b, holdsB op tree clock x.2.1 = b := ⟨_, rfl⟩
      obtain ⟨mc, hmc⟩ : ∃ b, ms.contains id = b := ⟨_, rfl⟩
      have HMC := Lib.hid hmc
      obtain ⟨S, HS⟩ : ∃ S : World → Prop, Hid (∀ w', S w' = Below wr.heap.size wr w') := ⟨_, fun _ => rfl⟩
      have TT : ∀ w', S w' → Tabs w' := fun w' h => by
        rw [HS.out] at h
        exact (HT0.out.below hb.out HT0.out.size).below h (Nat.le_trans HT0.out.size hb.out.size)
      have RT : ∀ w', S w' → RTab w' W0.heap.size := fun w' h => by
        rw [HS.out] at h
        exact Blk.below htab.out h (Blk.lt htab.out)
      have R1 : ∀ w', S w' → Reads w' w'.heap.size 2 A1 n1 (cavv y.2.1) := fun w' h => by
        rw [HS.out] at h
        exact rx1.call h
      have R2 : ∀ w', S w' → Reads w' w'.heap.size 2 A2 n1 (cavv y.2.1) := fun w' h => by
        rw [HS.out] at h
        exact rx2.call h
      have RX : ∀ w', S w' → Reads w' w'.heap.size 2 Ax nx (cavv x.2.1) := fun w' h => by
        rw [HS.out] at h
        exact (HXR0.out.call hb.out).call h
      have RM : ∀ w', S w' → Reads w' w'.heap.size 1 Am nm (u32v ms) := fun w' h => by
        rw [HS.out] at h
        exact (HMR0.out.call hb.out).call h
      have CS := fun w' (h : S w') => same_token y.1 A1 A2 n1 c1 c2 y.2.1 y.2.2 w' hyo.out.2.2.1 hyo.out.2.2.2 (R1 w' h) (R2 w' h) (by omega)
      have CG := fun w' (h : S w') => HG1.out y A1 n1 c1 w' (R1 w' h) nc1 (by omega) hyo.out (TT w' h)
      have CX := fun w' (h : S w') => HGX.out w' (RX w' h) hxc hxn HXO.out (TT w' h)
      have CX2 := fun w' (h : S w') => HGX2.out W0.heap.size w' (RX w' h) hxc hxn HXO.out (RT w' h)
      have CH1 := fun w' (h : S w') => token_holds op tree clock y A1 n1 c1 w' (R1 w' h) nc1 (by omega) hyo.out
      have CH2 := fun w' (h : S w') => ref12_holds op tree clock y A2 n1 c2 w' (R2 w' h) nc2 (by omega) hyo.out hop htr
      have CH3 := fun w' (h : S w') => HHX.out w' (RX w' h)
      have CH4 := fun w' (h : S w') => HHX2.out w' (RX w' h)
      have CF := fun w' (h : S w') => HFO.out y A1 n1 c1 w' (RM w' h) hmn (R1 w' h) nc1 (by omega) hyo.out (TT w' h)
      have CK := fun w' (h : S w') => known12 w' (TT w' h)
      simp only [gen_true hg.out, hyi.out, hmc, Bool.true_and] at CF
      simp only [gen_true hg.out] at CG
      simp only [hgx] at CX CX2
      simp only [hhy] at CH1 CH2
      simp only [hhx] at CH3 CH4
      have hE1' := hE1
      have hE2' := hE2
      rw [hyi.out] at hE1' hE2'
      simp only [hE1, hE2] at CS
      simp only [hE1] at CG CH1
      simp only [hE1'] at CF
      simp only [hE2] at CH2
      have xa := hXa.out
      have xb := hXb.out
      rw [hE1] at xa
      rw [hE2] at xb
      have kk := K0.out.below hb.out K0.out.lt
      have tt := T0.out.below hb.out T0.out.lt
      have FA : Hid (∀ w', S w' → w'.rangeAt Xa 0 E1) := fun w' h => by
        rw [HS.out] at h
        exact rangeAt_blk (xa.below h xa.lt) 0 E1 (fun j u h => by simpa using h)
      have FB : Hid (∀ w', S w' → w'.rangeAt Xb 0 E2) := fun w' h => by
        rw [HS.out] at h
        exact rangeAt_blk (xb.below h xb.lt) 0 E2 (fun j u h => by simpa using h)
      have FV : Hid (∀ w', S w' → w'.rangeAt w.heap.size 0 V) := fun w' h => by
        rw [HS.out] at h
        exact rangeAt_blk (kk.below h kk.lt) 0 V (fun j u h => by simpa using h)
      have FE : Hid (∀ w', S w' → w'.rangeAt (w.heap.size + 1) 0 E) := fun w' h => by
        rw [HS.out] at h
        exact rangeAt_blk (tt.below h tt.lt) 0 E (fun j u h => by simpa using h)
      have FS : Hid (∀ w' w'', S w' → Below w'.heap.size w' w'' → S w'') := fun w' w'' h k => by
        rw [HS.out] at h ⊢
        exact h.trans (k.mono h.size)
      have HIA := Lib.hid (show (Tryd.prog.info? 30).map (·.size) = some E1.length by rw [lE1]; exact Tryd.tok_info)
      have HIB := Lib.hid (show (Tryd.prog.info? 30).map (·.size) = some E2.length by rw [lE2]; exact Tryd.tok_info)
      have HCS := Lib.hid CS
      have HCG := Lib.hid CG
      have HCX := Lib.hid CX
      have HCX2 := Lib.hid CX2
      have HCH1 := Lib.hid CH1
      have HCH2 := Lib.hid CH2
      have HCH3 := Lib.hid CH3
      have HCH4 := Lib.hid CH4
      have HCF := Lib.hid CF
      have HCK := Lib.hid CK
      have s0 : S wr.drew := (HS.out _).mpr (Below.refl _ wr).drew
      clear CS CG CX CX2 CH1 CH2 CH3 CH4 CF CK TT RT R1 R2 RX RM xa xb kk tt hE1 hE2 hE1' hE2' lE1 lE2 oE1 oE2 iE1 iE2 rx1 rx2 hgx hhy hhx hmc hXa hXb hva hvb en1
      have hq : ¬ ((k : Int) < n) ∨ ((k : Int) < n ∧ ¬ ((k : Int) < 7)) := by omega
      rcases hq with q1 | ⟨q1, q2⟩
      all_goals
        go_wp2_with fail
        obtain ⟨Wr, rfl⟩ : ∃ u, u = wr := ⟨_, rfl⟩
        go_loopw [25, 26] (fun b i w2 => ∃ k2 : Nat, k2 ≤ nm ∧ i = .int .i64 k2 ∧ b = .bool ((ms.take k2).contains id) ∧ w2 = Wr) (fun _ i _ => nm - (intOf i).toNat)
        case atStart => exact ⟨0, by omega, rfl, by simp, rfl⟩
        case round =>
          obtain ⟨k2, hk2, rfl, rfl, rfl⟩ := hrel
          by_cases hkm2 : k2 < nm
          · have qk2 : (k2 : Int) < nm := by omega
            obtain ⟨z, hz⟩ : ∃ z, ms[k2]? = some z := ⟨_, List.getElem?_eq_getElem (by rw [Hml.out]; exact hkm2)⟩
            have hst := contains_step ms id k2 z hz
            obtain ⟨gm, om, hA2, hgm, hrm⟩ := HMR0.out.mid (by omega) (by omega)
            have m2 := (hb.out.cell (p := ⟨gm, om + k2, none⟩) hgm).trans (hrm k2 (.int .u32 z) (by simp [u32v, hz]))
            obtain ⟨b0, hb0⟩ : ∃ b, (ms.take k2).contains id = b := ⟨_, rfl⟩
            rw [hb0] at hst ⊢
            have HST := Lib.hid hst
            subst hA2
            clear hst hb0 hz hrm
            cases b0
            · by_cases hzi : (z : Int) = id
              · have hzi' : ((z : Int) == (id : Int)) = true := by simpa using hzi
                have hzn : (z == id) = true := by simp; omega
                have HZN := Lib.hid hzn
                clear hzn hzi
                go_wp2_with fail
                go_roundw
                case rel => exact ⟨k2 + 1, by omega, by go_num, by rw [HST.out, HZN.out]; rfl, by first | rfl | trivial⟩
                case measure => simp [intOf]; omega
              · have hzi' : ((z : Int) == (id : Int)) = false := by simpa using hzi
                have hzn : (z == id) = false := by simp; omega
                have HZN := Lib.hid hzn
                clear hzn hzi
                go_wp2_with fail
                go_roundw
                case rel => exact ⟨k2 + 1, by omega, by go_num, by rw [HST.out, HZN.out]; rfl, by first | rfl | trivial⟩
                case measure => simp [intOf]; omega
            · go_wp2_with fail
              go_roundw
              case rel => exact ⟨k2 + 1, by omega, by go_num, by rw [HST.out]; rfl, by first | rfl | trivial⟩
              case measure => simp [intOf]; omega
          · have qk2 : ¬ (k2 : Int) < nm := by omega
            have hmm : (ms.take k2).contains id = mc := by rw [List.take_of_length_le (by rw [Hml.out]; omega)]; exact HMC.out
            rw [hmm]
            clear hmm
            go_wp2_with fail
            refine wp_region_seq S 57 [(0, false), (1, false), (2, true), (3, false), (4, false), (5, false), (6, true), (7, false), (8, false), (9, false), (10, false), (12, false), (13, false), (14, false), (11, true), (15, true), (16, false), (17, false), (18, false), (19, false), (20, false), (21, false), (22, false), (24, false), (25, false), (26, false), (27, false), (23, true), (28, true), (29, false), (30, false), (31, false), (32, false), (33, false), (34, false), (35, false), (37, false), (38, false), (39, false), (40, false), (36, true), (41, true), (42, false), (43, false), (44, false), (45, false), (46, false), (47, false), (49, false), (50, false), (48, true), (51, false), (52, false), (53, false), (54, true), (55, false), (56, false)] (by kernel_rfl) rfl (by kernel_rfl) (by kernel_rfl) (by kernel_rfl) (fun _ _ d _ _ h => by cases d <;> exact h) s0 ?_
            refine wpSeq_load rfl rfl 30 (.tmp 18) rfl Xa 0 rfl E1 _ FA.out Tryd.underlying30 rfl HIA.out ?_
            try simp only [Act.put, List.setIfInBounds_toArray, List.set_cons_zero, List.set_cons_succ]
            refine wpSeq_load rfl rfl 30 (.tmp 19) rfl Xb 0 rfl E2 _ FB.out Tryd.underlying30 rfl HIB.out ?_
            try simp only [Act.put, List.setIfInBounds_toArray, List.set_cons_zero, List.set_cons_succ]
            refine wpSeq_write rfl rfl ?_
            go_simp
            refine (HCS.out _ s0).mono ?_
            rintro e u1 ⟨rfl, hbu1⟩
            have s1 : S u1 := FS.out _ _ s0 hbu1
            refine ⟨s1, ?_⟩
            try simp only [Act.put, List.setIfInBounds_toArray, List.set_cons_zero, List.set_cons_succ]
            iterate 1 (refine wpSeq_read rfl rfl ⟨?_, fun w1 hS => ?_, ?_⟩; rotate_left; (focus (go_simp; (try go_bits); try rfl)); simp only [Act.put, List.setIfInBounds_toArray, List.set_cons_zero, List.set_cons_succ])
            refine wpSeq_load rfl rfl 28 (.tmp 8) rfl w.heap.size 0 rfl V _ FV.out Tryd.underlying28 rfl HIV.out ?_
            try simp only [Act.put, List.setIfInBounds_toArray, List.set_cons_zero, List.set_cons_succ]
            refine wpSeq_load rfl rfl 30 (.tmp 18) rfl Xa 0 rfl E1 _ FA.out Tryd.underlying30 rfl HIA.out ?_
            try simp only [Act.put, List.setIfInBounds_toArray, List.set_cons_zero, List.set_cons_succ]
            refine wpSeq_write rfl rfl ?_
            go_simp
            refine (HCG.out _ s1).mono ?_
            rintro e u2 ⟨rfl, hbu2⟩
            have s2 : S u2 := FS.out _ _ s1 hbu2
            refine ⟨s2, ?_⟩
            try simp only [Act.put, List.setIfInBounds_toArray, List.set_cons_zero, List.set_cons_succ]
            iterate 2 (refine wpSeq_read rfl rfl ⟨?_, fun w1 hS => ?_, ?_⟩; rotate_left; (focus (go_simp; (try go_bits); try rfl)); simp only [Act.put, List.setIfInBounds_toArray, List.set_cons_zero, List.set_cons_succ])
            refine wpSeq_load rfl rfl 28 (.tmp 8) rfl w.heap.size 0 rfl V _ FV.out Tryd.underlying28 rfl HIV.out ?_
            try simp only [Act.put, List.setIfInBounds_toArray, List.set_cons_zero, List.set_cons_succ]
            refine wpSeq_load rfl rfl 30 (.tmp 11) rfl (w.heap.size + 1) 0 rfl E _ FE.out Tryd.underlying30 rfl HIE.out ?_
            try simp only [Act.put, List.setIfInBounds_toArray, List.set_cons_zero, List.set_cons_succ]
            iterate 1 (refine wpSeq_read rfl rfl ⟨?_, fun w1 hS => ?_, ?_⟩; rotate_left; (focus (go_simp; (try go_bits); try rfl)); simp only [Act.put, List.setIfInBounds_toArray, List.set_cons_zero, List.set_cons_succ])
            refine wpSeq_load rfl rfl 28 (.tmp 8) rfl w.heap.size 0 rfl V _ FV.out Tryd.underlying28 rfl HIV.out ?_
            try simp only [Act.put, List.setIfInBounds_toArray, List.set_cons_zero, List.set_cons_succ]
            refine wpSeq_load rfl rfl 30 (.tmp 11) rfl (w.heap.size + 1) 0 rfl E _ FE.out Tryd.underlying30 rfl HIE.out ?_
            try simp only [Act.put, List.setIfInBounds_toArray, List.set_cons_zero, List.set_cons_succ]
            refine wpSeq_write rfl rfl ?_
            go_simp
            refine (HCX.out _ s2).mono ?_
            rintro e u3 ⟨rfl, hbu3⟩
            have s3 : S u3 := FS.out _ _ s2 hbu3
            refine ⟨s3, ?_⟩
            try simp only [Act.put, List.setIfInBounds_toArray, List.set_cons_zero, List.set_cons_succ]
            refine wpSeq_write rfl rfl ?_
            go_simp
            refine (HCX2.out _ s3).mono ?_
            rintro e u4 ⟨rfl, hbu4⟩
            have s4 : S u4 := FS.out _ _ s3 hbu4
            refine ⟨s4, ?_⟩
            try simp only [Act.put, List.setIfInBounds_toArray, List.set_cons_zero, List.set_cons_succ]
            iterate 3 (refine wpSeq_read rfl rfl ⟨?_, fun w1 hS => ?_, ?_⟩; rotate_left; (focus (go_simp; (try go_bits); try rfl)); simp only [Act.put, List.setIfInBounds_toArray, List.set_cons_zero, List.set_cons_succ])
            refine wpSeq_load rfl rfl 30 (.tmp 18) rfl Xa 0 rfl E1 _ FA.out Tryd.underlying30 rfl HIA.out ?_
            try simp only [Act.put, List.setIfInBounds_toArray, List.set_cons_zero, List.set_cons_succ]
            iterate 3 (refine wpSeq_read rfl rfl ⟨?_, fun w1 hS => ?_, ?_⟩; rotate_left; (focus (go_simp; (try go_bits); try rfl)); simp only [Act.put, List.setIfInBounds_toArray, List.set_cons_zero, List.set_cons_succ])
            refine wpSeq_load rfl rfl 30 (.tmp 19) rfl Xb 0 rfl E2 _ FB.out Tryd.underlying30 rfl HIB.out ?_
            try simp only [Act.put, List.setIfInBounds_toArray, List.set_cons_zero, List.set_cons_succ]
            iterate 3 (refine wpSeq_read rfl rfl ⟨?_, fun w1 hS => ?_, ?_⟩; rotate_left; (focus (go_simp; (try go_bits); try rfl)); simp only [Act.put, List.setIfInBounds_toArray, List.set_cons_zero, List.set_cons_succ])
            refine wpSeq_write rfl rfl ?_
            go_simp
            refine (HCH1.out _ s4).mono ?_
            rintro e u5 ⟨rfl, hbu5⟩
            have s5 : S u5 := FS.out _ _ s4 hbu5
            refine ⟨s5, ?_⟩
            try simp only [Act.put, List.setIfInBounds_toArray, List.set_cons_zero, List.set_cons_succ]
            refine wpSeq_write rfl rfl ?_
            go_simp
            refine (HCH2.out _ s5).mono ?_
            rintro e u6 ⟨rfl, hbu6⟩
            have s6 : S u6 := FS.out _ _ s5 hbu6
            refine ⟨s6, ?_⟩
            try simp only [Act.put, List.setIfInBounds_toArray, List.set_cons_zero, List.set_cons_succ]
            iterate 3 (refine wpSeq_read rfl rfl ⟨?_, fun w1 hS => ?_, ?_⟩; rotate_left; (focus (go_simp; (try go_bits); try rfl)); simp only [Act.put, List.setIfInBounds_toArray, List.set_cons_zero, List.set_cons_succ])
            refine wpSeq_load rfl rfl 30 (.tmp 11) rfl (w.heap.size + 1) 0 rfl E _ FE.out Tryd.underlying30 rfl HIE.out ?_
            try simp only [Act.put, List.setIfInBounds_toArray, List.set_cons_zero, List.set_cons_succ]
            iterate 3 (refine wpSeq_read rfl rfl ⟨?_, fun w1 hS => ?_, ?_⟩; rotate_left; (focus (go_simp; (try go_bits); try rfl)); simp only [Act.put, List.setIfInBounds_toArray, List.set_cons_zero, List.set_cons_succ])
            refine wpSeq_load rfl rfl 30 (.tmp 11) rfl (w.heap.size + 1) 0 rfl E _ FE.out Tryd.underlying30 rfl HIE.out ?_
            try simp only [Act.put, List.setIfInBounds_toArray, List.set_cons_zero, List.set_cons_succ]
            iterate 3 (refine wpSeq_read rfl rfl ⟨?_, fun w1 hS => ?_, ?_⟩; rotate_left; (focus (go_simp; (try go_bits); try rfl)); simp only [Act.put, List.setIfInBounds_toArray, List.set_cons_zero, List.set_cons_succ])
            refine wpSeq_write rfl rfl ?_
            go_simp
            refine (HCH3.out _ s6).mono ?_
            rintro e u7 ⟨rfl, hbu7⟩
            have s7 : S u7 := FS.out _ _ s6 hbu7
            refine ⟨s7, ?_⟩
            try simp only [Act.put, List.setIfInBounds_toArray, List.set_cons_zero, List.set_cons_succ]
            refine wpSeq_write rfl rfl ?_
            go_simp
            refine (HCH4.out _ s7).mono ?_
            rintro e u8 ⟨rfl, hbu8⟩
            have s8 : S u8 := FS.out _ _ s7 hbu8
            refine ⟨s8, ?_⟩
            try simp only [Act.put, List.setIfInBounds_toArray, List.set_cons_zero, List.set_cons_succ]
            iterate 3 (refine wpSeq_read rfl rfl ⟨?_, fun w1 hS => ?_, ?_⟩; rotate_left; (focus (go_simp; (try go_bits); try rfl)); simp only [Act.put, List.setIfInBounds_toArray, List.set_cons_zero, List.set_cons_succ])
            refine wpSeq_load rfl rfl 28 (.tmp 8) rfl w.heap.size 0 rfl V _ FV.out Tryd.underlying28 rfl HIV.out ?_
            try simp only [Act.put, List.setIfInBounds_toArray, List.set_cons_zero, List.set_cons_succ]
            iterate 1 (refine wpSeq_read rfl rfl ⟨?_, fun w1 hS => ?_, ?_⟩; rotate_left; (focus (go_simp; (try go_bits); try rfl)); simp only [Act.put, List.setIfInBounds_toArray, List.set_cons_zero, List.set_cons_succ])
            refine wpSeq_load rfl rfl 30 (.tmp 18) rfl Xa 0 rfl E1 _ FA.out Tryd.underlying30 rfl HIA.out ?_
            try simp only [Act.put, List.setIfInBounds_toArray, List.set_cons_zero, List.set_cons_succ]
            iterate 2 (refine wpSeq_read rfl rfl ⟨?_, fun w1 hS => ?_, ?_⟩; rotate_left; (focus (go_simp; (try go_bits); try rfl)); simp only [Act.put, List.setIfInBounds_toArray, List.set_cons_zero, List.set_cons_succ])
            refine wpSeq_write rfl rfl ?_
            go_simp
            refine (HCF.out _ s8).mono ?_
            rintro e u9 ⟨rfl, hbu9⟩
            have s9 : S u9 := FS.out _ _ s8 hbu9
            refine ⟨s9, ?_⟩
            try simp only [Act.put, List.setIfInBounds_toArray, List.set_cons_zero, List.set_cons_succ]
            iterate 3 (refine wpSeq_read rfl rfl ⟨?_, fun w1 hS => ?_, ?_⟩; rotate_left; (focus (go_simp; (try go_bits); try rfl)); simp only [Act.put, List.setIfInBounds_toArray, List.set_cons_zero, List.set_cons_succ])
            refine wpSeq_write rfl rfl ?_
            go_simp
            refine (HCK.out _ s9).mono ?_
            rintro e u10 ⟨rfl, hbu10⟩
            have s10 : S u10 := FS.out _ _ s9 hbu10
            refine ⟨s10, ?_⟩
            try simp only [Act.put, List.setIfInBounds_toArray, List.set_cons_zero, List.set_cons_succ]
            iterate 2 (refine wpSeq_read rfl rfl ⟨?_, fun w1 hS => ?_, ?_⟩; rotate_left; (focus (go_simp; (try go_bits); try rfl)); simp only [Act.put, List.setIfInBounds_toArray, List.set_cons_zero, List.set_cons_succ])
            refine wpSeq_nil ?_
            go_wp2_with fail
            go_ret
            rw [HS.out] at s10
            exact ⟨rfl, (B0.out.trans ((hb.out.trans (s10.mono hb.out.size)).mono B0.out.size))⟩

end Go.Proofs.YtamhggndcegndaaDoor
