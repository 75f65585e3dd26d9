/-
  deponentlaw12.TokenOrders: true.
-/
import Derived.Test.YtamhggndcegndaaDoorKn12
namespace Go.Proofs.YtamhggndcegndaaDoor
open Go.RowKit
set_option linter.unusedVariables false
set_option maxRecDepth 100000

theorem nar_step (root : List Nat) (t : Tok) (c : Int × Nat) (h : Gen root t) (hok : t.Ok) (hk : 1 ≤ c.1 ∧ c.1 ≤ 3) (hl : t.2.1.length < 4) (hN : c.2 < 4294967296) :
    ∃ r, narRes t c = r ∧ r.2 = 0 ∧ r.1.Ok ∧ r.1.2.1 = t.2.1 ++ [c] ∧ Gen root r.1 := by
  have hkb : kindB c.1 = true := by simp [kindB]; omega
  have h0 : (narRes t c).2 = 0 := by unfold narRes; rw [if_pos hkb, if_pos hl]
  exact ⟨_, rfl, h0, narRes_ok t c hok hN, by rw [narRes_ok0 h0], gen_narrow h h0⟩

theorem holds_comm (op tree : Int) (clock : Nat) (a b : Int × Nat) : holdsB op tree clock [b, a] = holdsB op tree clock [a, b] := by
  simp [holdsB, Bool.and_comm]

/-- What a token's value in memory wants of a walk. -/
structure TokAt (w : World) (g : Nat) (L : List Value) : Prop where
  blk : Blk w g 30 L.toArray
  len : L.length = 34

theorem TokAt.load {w : World} {g : Nat} {L : List Value} (h : TokAt w g L) : w.rangeAt g 0 L := rangeAt_blk h.blk 0 L (fun j u h => by simpa using h)
theorem TokAt.info {w : World} {g : Nat} {L : List Value} (h : TokAt w g L) : (Tryd.prog.info? 30).map (·.size) = some L.length := by rw [h.len]; exact Tryd.tok_info
theorem TokAt.below {w w' : World} {g B : Nat} {L : List Value} (h : TokAt w g L) (hb : Below B w w') (hg : g < B) : TokAt w' g L := ⟨h.blk.below hb hg, h.len⟩
theorem TokAt.lt {w : World} {g : Nat} {L : List Value} (h : TokAt w g L) : g < w.heap.size := h.blk.lt

theorem OwnC.reads {w : World} {base : Nat} {A : Option Addr} {n c : Nat} {l : List (Int × Nat)} (h : OwnC w base (.slice A n c) l) : Reads w w.heap.size 2 A n (cavv l) := by
  obtain ⟨A', n', c', e, -, -, -, h'⟩ := h.sl
  injection e with e1 e2 e3
  subst e1 e2
  exact h'

/-- A token's cells: named, with what a store wants. -/
theorem tok_cells (id : Nat) (A : Option Addr) (n c : Nat) (tag : List Nat) (h : tag.length = 32) :
    ∃ L, tokv id (.slice A n c) tag = L ∧ L.length = 34 ∧ (∀ u ∈ L, u.oneCell' = true) ∧ (Tryd.prog.info? 30).map (·.size) = some L.toArray.size := by
  refine ⟨_, rfl, tokv_len _ _ _ h, tokv_one _ _ rfl _, ?_⟩
  rw [List.size_toArray, tokv_len _ _ _ h]
  exact Tryd.tok_info

-- END BY HAND
set_option maxHeartbeats 8000000 in
theorem orders_walk (id : Nat) (k1 : Int) (N1 : Nat) (k2 : Int) (N2 : Nat) (op tree : Int) (clock : Nat) (w : World) (hT : Tabs w) (hid : id < 4294967296)
    (hk1 : -9223372036854775808 ≤ k1 ∧ k1 ≤ 9223372036854775807) (hk2 : -9223372036854775808 ≤ k2 ∧ k2 ≤ 9223372036854775807) (hN1 : N1 < 4294967296) (hN2 : N2 < 4294967296) :
    Calls Tryd.prog 4 #[.int .u32 id, .agg #[.int .i64 k1, .int .u32 N1], .agg #[.int .i64 k2, .int .u32 N2], .int .i64 op, .int .i64 tree, .int .u64 clock] w fun e w' => e = .returned (.bool true) ∧ Below w.heap.size w w' := by
  have hx := within_bd k1 0 2 (by omega)
  have hy := within_bd k2 0 2 (by omega)
  have WA := fun w => book_within k1 0 2 w (by omega) (by omega) (by omega) hk1.1 hk1.2
  have WB := fun w => book_within k2 0 2 w (by omega) (by omega) (by omega) hk2.1 hk2.2
  obtain ⟨x, hxx⟩ : ∃ x, within k1 0 2 = x := ⟨_, rfl⟩
  obtain ⟨y, hyy⟩ : ∃ y, within k2 0 2 = y := ⟨_, rfl⟩
  rw [hxx] at hx
  rw [hyy] at hy
  simp only [hxx] at WA
  simp only [hyy] at WB
  clear hxx hyy hk1 hk2
  have okT : (minted (rootb 6) id).Ok := minted_ok _ _ hid
  obtain ⟨r1, e1, z1, o1, c1, q1⟩ := nar_step (rootb 6) (minted (rootb 6) id) (1 + x, N1) (gen_minted _ _) okT ⟨by dsimp only; omega, by dsimp only; omega⟩ (by simp [minted]) hN1
  obtain ⟨r2, e2, z2, o2, c2, q2⟩ := nar_step (rootb 6) r1.1 (1 + y, N2) q1 o1 ⟨by dsimp only; omega, by dsimp only; omega⟩ (by rw [c1]; simp [minted]) hN2
  obtain ⟨r3, e3, z3, o3, c3, q3⟩ := nar_step (rootb 6) (minted (rootb 6) id) (1 + y, N2) (gen_minted _ _) okT ⟨by dsimp only; omega, by dsimp only; omega⟩ (by simp [minted]) hN2
  obtain ⟨r4, e4, z4, o4, c4, q4⟩ := nar_step (rootb 6) r3.1 (1 + x, N1) q3 o3 ⟨by dsimp only; omega, by dsimp only; omega⟩ (by rw [c3]; simp [minted]) hN1
  have c1' : r1.1.2.1 = [(1 + x, N1)] := c1
  have c3' : r3.1.2.1 = [(1 + y, N2)] := c3
  have c2' : r2.1.2.1 = [(1 + x, N1), (1 + y, N2)] := by rw [c2, c1']; rfl
  have c4' : r4.1.2.1 = [(1 + y, N2), (1 + x, N1)] := by rw [c4, c3']; rfl
  have hsame : x = y → N1 = N2 → r2 = r4 := by
    rintro rfl rfl
    obtain rfl : r1 = r3 := e1.symm.trans e3
    exact e2.symm.trans e4
  have R6 := fun w => law_root 6 w
  have M1 := fun w h => token_mint (rootb 6) id w (rootb_length 6) (rootb_lt 6 (by decide)) hid h
  have NA := fun w h => token_narrow (minted (rootb 6) id) none 0 0 (1 + x) N1 w Reads.none_ (Nat.le_refl _) (by omega) okT.2.2.1 okT.2.2.2 hN1 h
  have NB := fun w h => token_narrow (minted (rootb 6) id) none 0 0 (1 + y) N2 w Reads.none_ (Nat.le_refl _) (by omega) okT.2.2.1 okT.2.2.2 hN2 h
  have NAB := fun A n c w a b d h => token_narrow r1.1 A n c (1 + y) N2 w a b d o1.2.2.1 o1.2.2.2 hN2 h
  have NBA := fun A n c w a b d h => token_narrow r3.1 A n c (1 + x) N1 w a b d o3.2.2.1 o3.2.2.2 hN1 h
  have GX := fun A n c w a b d h => token_genuine (rootb 6) r2.1 A n c w (rootb_length 6) (rootb_lt 6 (by decide)) a b d o2 h
  have GY := fun A n c w a b d h => token_genuine (rootb 6) r4.1 A n c w (rootb_length 6) (rootb_lt 6 (by decide)) a b d o4 h
  have HX := fun A n c w a b d => token_holds op tree clock r2.1 A n c w a b d o2
  have HY := fun A n c w a b d => token_holds op tree clock r4.1 A n c w a b d o4
  simp only [e1, z1] at NA
  simp only [e3, z3] at NB
  simp only [e2, z2] at NAB
  simp only [e4, z4] at NBA
  simp only [gen_true q2] at GX
  simp only [gen_true q4] at GY
  have c4h : holdsB op tree clock r4.1.2.1 = holdsB op tree clock r2.1.2.1 := by rw [c4', c2', holds_comm]
  simp only [c4h] at HY
  simp only [show (minted (rootb 6) id).1 = id from rfl, show (minted (rootb 6) id).2.2 = mintTag (rootb 6) id from rfl] at NA NB
  obtain ⟨LT, hLT, lLT, oLT, iLT⟩ := tok_cells id none 0 0 (mintTag (rootb 6) id) (mac_length _ _)
  simp only [hLT] at M1 NA NB
  obtain ⟨K, hK⟩ : ∃ K, byv (rootb 6) = K := ⟨_, rfl⟩
  simp only [hK] at R6 M1 GX GY
  obtain ⟨hb, hhb⟩ : ∃ b, holdsB op tree clock r2.1.2.1 = b := ⟨_, rfl⟩
  simp only [hhb] at HX HY
  have n1 : r1.1.2.1.length = 1 := by rw [c1']; rfl
  have n2 : r2.1.2.1.length = 2 := by rw [c2']; rfl
  have n3 : r3.1.2.1.length = 1 := by rw [c3']; rfl
  have n4 : r4.1.2.1.length = 2 := by rw [c4']; rfl
  obtain ⟨W0, hW0⟩ : ∃ x, x = (w.alloc (.cells #[.int .i64 k1, .int .u32 N1] 37)).alloc (.cells #[.int .i64 k2, .int .u32 N2] 37) := ⟨_, rfl⟩
  have a0 : Blk W0 w.heap.size 37 #[.int .i64 k1, .int .u32 N1] := by rw [hW0]; exact (Blk.new w _ _).alloc _
  have b0 : Blk W0 (w.heap.size + 1) 37 #[.int .i64 k2, .int .u32 N2] := by
    have h := Blk.new (w.alloc (.cells #[.int .i64 k1, .int .u32 N1] 37)) 37 #[.int .i64 k2, .int .u32 N2]
    rw [alloc_size] at h
    rw [hW0]
    exact h
  have bl0 : Below w.heap.size w W0 := by rw [hW0]; exact below_new (below_new (Below.refl _ _) _) _
  have lW : w.heap.size + 1 < W0.heap.size := b0.lt
  have a00 := a0.cell 0
  have b00 := b0.cell 0
  have fa0 := a0.frozen 0
  have fb0 := b0.frozen 0
  rw [show (#[Value.int .i64 k1, .int .u32 N1] : Array Value)[0]? = some (.int .i64 k1) from rfl] at a00
  rw [show (#[Value.int .i64 k2, .int .u32 N2] : Array Value)[0]? = some (.int .i64 k2) from rfl] at b00
  have A0 := Lib.hid a0
  have B0 := Lib.hid b0
  have BL0 := Lib.hid bl0
  have HW0 := Lib.hid hW0
  have HT := Lib.hid hT
  have HSAME := Lib.hid hsame
  have HR6 := Lib.hid R6
  have HM1 := Lib.hid M1
  have HNA := Lib.hid NA
  have HNB := Lib.hid NB
  have HNAB := Lib.hid NAB
  have HNBA := Lib.hid NBA
  have HGX := Lib.hid GX
  have HGY := Lib.hid GY
  have HHX := Lib.hid HX
  have HHY := Lib.hid HY
  have OLT := Lib.hid oLT
  have ILT := Lib.hid iLT
  have LLT := Lib.hid lLT
  have O1 := Lib.hid o1
  have O2 := Lib.hid o2
  have O3 := Lib.hid o3
  have O4 := Lib.hid o4
  have E1 := Lib.hid n1
  have E2 := Lib.hid n2
  have E3 := Lib.hid n3
  have E4 := Lib.hid n4
  clear a0 b0 bl0 hW0 hT hsame R6 M1 NA NB NAB NBA GX GY HX HY oLT iLT lLT o1 o2 o3 o4 n1 n2 n3 n4 c1 c2 c3 c4 c1' c2' c3' c4' q1 q2 q3 q4 e1 e2 e3 e4 z1 z2 z3 z4 hLT hK hhb c4h okT
  go_enter Tryd.func4, Tryd.ntmps4
  go_upto_region 1 with (fail)
  rw [← HW0.out]
  go_upto_region 2 with ((with_reducible refine (WA _).mono ?_); (rintro _ _ ⟨rfl, rfl⟩))
  go_upto_region 3 with ((with_reducible refine (WB _).mono ?_); (rintro _ _ ⟨rfl, rfl⟩))
  obtain ⟨W1, hW1⟩ : ∃ u, u = (W0.setCell ⟨w.heap.size, 0, none⟩ (.int .i64 (1 + x))).setCell ⟨w.heap.size + 1, 0, none⟩ (.int .i64 (1 + y)) := ⟨_, rfl⟩
  rw [← hW1]
  have a1 : Blk W1 w.heap.size 37 #[.int .i64 (1 + x), .int .u32 N1] := by
    rw [hW1]
    exact (A0.out.set_ 0 _).far (by simp) _
  have b1 : Blk W1 (w.heap.size + 1) 37 #[.int .i64 (1 + y), .int .u32 N2] := by
    rw [hW1]
    exact (B0.out.far (by simp) _).set_ 0 _
  have bl1 : Below w.heap.size w W1 := by
    rw [hW1]
    exact (BL0.out.setCell (Nat.le_refl _) _).setCell (by simp) _
  clear hW1 a00 b00 fa0 fb0
  go_wp2_with fail
  refine (HR6.out W1).mono ?_
  rintro e w1 ⟨rfl, hb1⟩
  go_wp2_with fail
  refine (HM1.out w1 (HT.out.below (bl1.trans (hb1.mono bl1.size)) HT.out.size)).mono ?_
  rintro e w2 ⟨rfl, hb2⟩
  have bl2 : Below W1.heap.size W1 w2 := hb1.trans (hb2.mono hb1.size)
  clear hb1 hb2
  have Z2 := Lib.hid (Blk.new w2 30 #[.int .u32 0, .slice none 0 0, .int .u8 0, .int .u8 0, .int .u8 0, .int .u8 0, .int .u8 0, .int .u8 0, .int .u8 0, .int .u8 0, .int .u8 0, .int .u8 0, .int .u8 0, .int .u8 0, .int .u8 0, .int .u8 0, .int .u8 0, .int .u8 0, .int .u8 0, .int .u8 0, .int .u8 0, .int .u8 0, .int .u8 0, .int .u8 0, .int .u8 0, .int .u8 0, .int .u8 0, .int .u8 0, .int .u8 0, .int .u8 0, .int .u8 0, .int .u8 0, .int .u8 0, .int .u8 0])
  go_upto_region 4 with (refine wpList_store_row rfl 30 (.tmp 13) (.tmp 32) rfl w2.heap.size LT.toArray rfl rfl 30 _ Z2.out ILT.out (by simp [LLT.out]) (by simpa using OLT.out) ?_)
  obtain ⟨w3, hw3⟩ : ∃ x, x = (w2.alloc (.cells #[.int .u32 0, .slice none 0 0, .int .u8 0, .int .u8 0, .int .u8 0, .int .u8 0, .int .u8 0, .int .u8 0, .int .u8 0, .int .u8 0, .int .u8 0, .int .u8 0, .int .u8 0, .int .u8 0, .int .u8 0, .int .u8 0, .int .u8 0, .int .u8 0, .int .u8 0, .int .u8 0, .int .u8 0, .int .u8 0, .int .u8 0, .int .u8 0, .int .u8 0, .int .u8 0, .int .u8 0, .int .u8 0, .int .u8 0, .int .u8 0, .int .u8 0, .int .u8 0, .int .u8 0, .int .u8 0] 30)).setRow w2.heap.size LT.toArray := ⟨_, rfl⟩
  rw [← hw3]
  have tw3 : TokAt w3 w2.heap.size LT := by rw [hw3]; exact ⟨Blk.setRow (Blk.new _ _ _) _, LLT.out⟩
  have bw3 : Below w2.heap.size w2 w3 := by rw [hw3]; exact below_setRow ((Below.refl _ _).alloc (Nat.le_refl _) _) (Nat.le_refl _) _
  clear hw3
  have bl3 : Below W1.heap.size W1 w3 := bl2.trans (bw3.mono bl2.size)
  have a3 := a1.below bl3 a1.lt
  have b3 := b1.below bl3 b1.lt
  have tb3 := HT.out.below (bl1.trans (bl3.mono bl1.size)) HT.out.size
  have BL3 := Lib.hid (bl1.trans (bl3.mono bl1.size))
  clear bl1 bl2 bl3 a1 b1 bw3 Z2 lW
  have a30 := a3.cell 0
  have a31 := a3.cell 1
  have b30 := b3.cell 0
  have b31 := b3.cell 1
  rw [show (#[Value.int .i64 (1 + x), .int .u32 N1] : Array Value)[0]? = some (.int .i64 (1 + x)) from rfl] at a30
  rw [show (#[Value.int .i64 (1 + x), .int .u32 N1] : Array Value)[1]? = some (.int .u32 N1) from rfl] at a31
  rw [show (#[Value.int .i64 (1 + y), .int .u32 N2] : Array Value)[0]? = some (.int .i64 (1 + y)) from rfl] at b30
  rw [show (#[Value.int .i64 (1 + y), .int .u32 N2] : Array Value)[1]? = some (.int .u32 N2) from rfl] at b31
  have A3 := Lib.hid a3
  have B3 := Lib.hid b3
  have TB3 := Lib.hid tb3
  have T3 := Lib.hid tw3
  have RG3 := Lib.hid tw3.load
  have IG3 := Lib.hid tw3.info
  clear a3 b3 tb3 tw3
  -- the first narrowed
  go_wp2_with (refine load_mid_want rfl 30 (.tmp 13) rfl w2.heap.size 0 rfl LT _ RG3.out Tryd.underlying30 rfl IG3.out ?_)
  refine (HNA.out w3 TB3.out).mono ?_
  rintro e w4 ⟨v4, rfl, own4, hb4⟩
  obtain ⟨A4, m4, cc4, rfl, em4, nc4, -, rd4⟩ := own4.sl
  have hm4 : m4 = 1 := by rw [em4, E1.out]
  subst hm4
  obtain ⟨L1, hL1, lL1, oL1, iL1⟩ := tok_cells r1.1.1 A4 1 cc4 r1.1.2.2 O1.out.2.2.1
  have N5 := fun w a h => HNAB.out A4 1 cc4 w a nc4 (by omega) h
  simp only [hL1] at N5 ⊢
  have HN5 := Lib.hid N5
  have LL1 := Lib.hid lL1
  have OL1 := Lib.hid oL1
  have IL1 := Lib.hid iL1
  have RD4 := Lib.hid rd4
  have HB4 := Lib.hid hb4
  have Z4 := Lib.hid (Blk.new w4 30 #[.int .u32 0, .slice none 0 0, .int .u8 0, .int .u8 0, .int .u8 0, .int .u8 0, .int .u8 0, .int .u8 0, .int .u8 0, .int .u8 0, .int .u8 0, .int .u8 0, .int .u8 0, .int .u8 0, .int .u8 0, .int .u8 0, .int .u8 0, .int .u8 0, .int .u8 0, .int .u8 0, .int .u8 0, .int .u8 0, .int .u8 0, .int .u8 0, .int .u8 0, .int .u8 0, .int .u8 0, .int .u8 0, .int .u8 0, .int .u8 0, .int .u8 0, .int .u8 0, .int .u8 0, .int .u8 0])
  clear N5 lL1 oL1 iL1 hL1 rd4 own4 em4 hb4 a30 a31 b30 b31
  go_upto_region 5 with (refine wpList_store_row rfl 30 (.tmp 14) (.tmp 37) rfl w4.heap.size L1.toArray rfl rfl 30 _ Z4.out IL1.out (by simp [LL1.out]) (by simpa using OL1.out) ?_)
  obtain ⟨w5, hw5⟩ : ∃ x, x = (w4.alloc (.cells #[.int .u32 0, .slice none 0 0, .int .u8 0, .int .u8 0, .int .u8 0, .int .u8 0, .int .u8 0, .int .u8 0, .int .u8 0, .int .u8 0, .int .u8 0, .int .u8 0, .int .u8 0, .int .u8 0, .int .u8 0, .int .u8 0, .int .u8 0, .int .u8 0, .int .u8 0, .int .u8 0, .int .u8 0, .int .u8 0, .int .u8 0, .int .u8 0, .int .u8 0, .int .u8 0, .int .u8 0, .int .u8 0, .int .u8 0, .int .u8 0, .int .u8 0, .int .u8 0, .int .u8 0, .int .u8 0] 30)).setRow w4.heap.size L1.toArray := ⟨_, rfl⟩
  rw [← hw5]
  have tw5 : TokAt w5 w4.heap.size L1 := by rw [hw5]; exact ⟨Blk.setRow (Blk.new _ _ _) _, LL1.out⟩
  have bw5 : Below w4.heap.size w4 w5 := by rw [hw5]; exact below_setRow ((Below.refl _ _).alloc (Nat.le_refl _) _) (Nat.le_refl _) _
  clear hw5
  have b35 : Below w3.heap.size w3 w5 := HB4.out.trans (bw5.mono HB4.out.size)
  have a5 := A3.out.below b35 A3.out.lt
  have b5 := B3.out.below b35 B3.out.lt
  have t5 := T3.out.below b35 T3.out.lt
  have tb5 := TB3.out.below b35 TB3.out.size
  have bl5 := BL3.out.trans (b35.mono BL3.out.size)
  have rd5 := RD4.out.call bw5
  have RG5 := Lib.hid tw5.load
  have IG5 := Lib.hid tw5.info
  have B35 := Lib.hid b35
  have TB5 := Lib.hid tb5
  have T5 := Lib.hid tw5
  have RD5 := Lib.hid rd5
  have a50 := a5.cell 0
  have a51 := a5.cell 1
  have b50 := b5.cell 0
  have b51 := b5.cell 1
  rw [show (#[Value.int .i64 (1 + x), .int .u32 N1] : Array Value)[0]? = some (.int .i64 (1 + x)) from rfl] at a50
  rw [show (#[Value.int .i64 (1 + x), .int .u32 N1] : Array Value)[1]? = some (.int .u32 N1) from rfl] at a51
  rw [show (#[Value.int .i64 (1 + y), .int .u32 N2] : Array Value)[0]? = some (.int .i64 (1 + y)) from rfl] at b50
  rw [show (#[Value.int .i64 (1 + y), .int .u32 N2] : Array Value)[1]? = some (.int .u32 N2) from rfl] at b51
  clear a5 b5 t5 tb5 bl5 tw5 bw5 rd5 b35 Z4
  -- the second, over it
  go_wp2_with (refine load_mid_want rfl 30 (.tmp 14) rfl w4.heap.size 0 rfl L1 _ RG5.out Tryd.underlying30 rfl IG5.out ?_)
  refine (HN5.out w5 RD5.out TB5.out).mono ?_
  rintro e w6 ⟨v6, rfl, own6, hb6⟩
  obtain ⟨A6, m6, cc6, rfl, em6, nc6, -, -⟩ := own6.sl
  have hm6 : m6 = 2 := by rw [em6, E2.out]
  subst hm6
  obtain ⟨L2, hL2, lL2, oL2, iL2⟩ := tok_cells r2.1.1 A6 2 cc6 r2.1.2.2 O2.out.2.2.1
  have G6 := fun w a h => HGX.out A6 2 cc6 w a nc6 (by omega) h
  have H6 := fun w a => HHX.out A6 2 cc6 w a nc6 (by omega)
  simp only [hL2] at G6 H6 ⊢
  have HG6 := Lib.hid G6
  have HH6 := Lib.hid H6
  have LL2 := Lib.hid lL2
  have OL2 := Lib.hid oL2
  have IL2 := Lib.hid iL2
  have EL2 := Lib.hid hL2
  have OWN6 := Lib.hid own6
  have HB6 := Lib.hid hb6
  have t6 := T5.out.below hb6 T5.out.lt
  have T6 := Lib.hid t6.blk
  have T6' := Lib.hid t6
  clear G6 H6 lL2 oL2 iL2 hL2 own6 em6 hb6 t6 a50 a51 b50 b51
  go_upto_region 6 with (refine wpList_store_row rfl 30 (.tmp 14) (.tmp 43) rfl w4.heap.size L2.toArray rfl rfl 30 _ T6.out IL2.out (by simp [LL2.out, LL1.out]) (by simpa using OL2.out) ?_)
  obtain ⟨w7, hw7⟩ : ∃ x, x = w6.setRow w4.heap.size L2.toArray := ⟨_, rfl⟩
  rw [← hw7]
  have tw7 : TokAt w7 w4.heap.size L2 := by rw [hw7]; exact ⟨Blk.setRow T6'.out.blk _, LL2.out⟩
  have b37 : Below w3.heap.size w3 w7 := by
    rw [hw7]
    exact below_setRow (B35.out.trans (HB6.out.mono B35.out.size)) HB4.out.size _
  have own7 : OwnC w7 w5.heap.size (.slice A6 2 cc6) r2.1.2.1 := by
    rw [hw7]
    exact World.ownsRow.kept OWN6.out (grown_setRow _ _ _) (.inr (own_blk_ne OWN6.out T6.out (by decide)))
  have a7 := A3.out.below b37 A3.out.lt
  have b7 := B3.out.below b37 B3.out.lt
  have t7 := T3.out.below b37 T3.out.lt
  have tb7 := TB3.out.below b37 TB3.out.size
  have bl7 := BL3.out.trans (b37.mono BL3.out.size)
  have rd7 := own7.reads
  have a70 := a7.cell 0
  have a71 := a7.cell 1
  have b70 := b7.cell 0
  have b71 := b7.cell 1
  rw [show (#[Value.int .i64 (1 + x), .int .u32 N1] : Array Value)[0]? = some (.int .i64 (1 + x)) from rfl] at a70
  rw [show (#[Value.int .i64 (1 + x), .int .u32 N1] : Array Value)[1]? = some (.int .u32 N1) from rfl] at a71
  rw [show (#[Value.int .i64 (1 + y), .int .u32 N2] : Array Value)[0]? = some (.int .i64 (1 + y)) from rfl] at b70
  rw [show (#[Value.int .i64 (1 + y), .int .u32 N2] : Array Value)[1]? = some (.int .u32 N2) from rfl] at b71
  have RG7 := Lib.hid t7.load
  have IG7 := Lib.hid t7.info
  have A7 := Lib.hid a7
  have B7 := Lib.hid b7
  have TB7 := Lib.hid tb7
  have X7 := Lib.hid tw7
  have BL7 := Lib.hid bl7
  have RD7 := Lib.hid rd7
  clear a7 b7 t7 tb7 tw7 bl7 b37 own7 rd7 hw7 T6 T6' OWN6 HB6 HB4 A3 B3 T3 TB3 BL3 B35 RD5 T5 TB5 RG5 IG5
  -- the third
  go_wp2_with (refine load_mid_want rfl 30 (.tmp 13) rfl w2.heap.size 0 rfl LT _ RG7.out Tryd.underlying30 rfl IG7.out ?_)
  refine (HNB.out w7 TB7.out).mono ?_
  rintro e w8 ⟨v8, rfl, own8, hb8⟩
  obtain ⟨A8, m8, cc8, rfl, em8, nc8, -, rd8⟩ := own8.sl
  have hm8 : m8 = 1 := by rw [em8, E3.out]
  subst hm8
  obtain ⟨L3, hL3, lL3, oL3, iL3⟩ := tok_cells r3.1.1 A8 1 cc8 r3.1.2.2 O3.out.2.2.1
  have N9 := fun w a h => HNBA.out A8 1 cc8 w a nc8 (by omega) h
  simp only [hL3] at N9 ⊢
  have HN9 := Lib.hid N9
  have LL3 := Lib.hid lL3
  have OL3 := Lib.hid oL3
  have IL3 := Lib.hid iL3
  have RD8 := Lib.hid rd8
  have HB8 := Lib.hid hb8
  have Z8 := Lib.hid (Blk.new w8 30 #[.int .u32 0, .slice none 0 0, .int .u8 0, .int .u8 0, .int .u8 0, .int .u8 0, .int .u8 0, .int .u8 0, .int .u8 0, .int .u8 0, .int .u8 0, .int .u8 0, .int .u8 0, .int .u8 0, .int .u8 0, .int .u8 0, .int .u8 0, .int .u8 0, .int .u8 0, .int .u8 0, .int .u8 0, .int .u8 0, .int .u8 0, .int .u8 0, .int .u8 0, .int .u8 0, .int .u8 0, .int .u8 0, .int .u8 0, .int .u8 0, .int .u8 0, .int .u8 0, .int .u8 0, .int .u8 0])
  clear N9 lL3 oL3 iL3 hL3 rd8 own8 em8 hb8 a70 a71 b70 b71
  go_upto_region 7 with (refine wpList_store_row rfl 30 (.tmp 17) (.tmp 49) rfl w8.heap.size L3.toArray rfl rfl 30 _ Z8.out IL3.out (by simp [LL3.out]) (by simpa using OL3.out) ?_)
  obtain ⟨w9, hw9⟩ : ∃ x, x = (w8.alloc (.cells #[.int .u32 0, .slice none 0 0, .int .u8 0, .int .u8 0, .int .u8 0, .int .u8 0, .int .u8 0, .int .u8 0, .int .u8 0, .int .u8 0, .int .u8 0, .int .u8 0, .int .u8 0, .int .u8 0, .int .u8 0, .int .u8 0, .int .u8 0, .int .u8 0, .int .u8 0, .int .u8 0, .int .u8 0, .int .u8 0, .int .u8 0, .int .u8 0, .int .u8 0, .int .u8 0, .int .u8 0, .int .u8 0, .int .u8 0, .int .u8 0, .int .u8 0, .int .u8 0, .int .u8 0, .int .u8 0] 30)).setRow w8.heap.size L3.toArray := ⟨_, rfl⟩
  rw [← hw9]
  have tw9 : TokAt w9 w8.heap.size L3 := by rw [hw9]; exact ⟨Blk.setRow (Blk.new _ _ _) _, LL3.out⟩
  have bw9 : Below w8.heap.size w8 w9 := by rw [hw9]; exact below_setRow ((Below.refl _ _).alloc (Nat.le_refl _) _) (Nat.le_refl _) _
  clear hw9
  have b79 : Below w7.heap.size w7 w9 := HB8.out.trans (bw9.mono HB8.out.size)
  have a9 := A7.out.below b79 A7.out.lt
  have b9 := B7.out.below b79 B7.out.lt
  have tb9 := TB7.out.below b79 TB7.out.size
  have rd9 := RD8.out.call bw9
  have RG9 := Lib.hid tw9.load
  have IG9 := Lib.hid tw9.info
  have B79 := Lib.hid b79
  have TB9 := Lib.hid tb9
  have T9 := Lib.hid tw9
  have RD9 := Lib.hid rd9
  have a90 := a9.cell 0
  have a91 := a9.cell 1
  have b90 := b9.cell 0
  have b91 := b9.cell 1
  rw [show (#[Value.int .i64 (1 + x), .int .u32 N1] : Array Value)[0]? = some (.int .i64 (1 + x)) from rfl] at a90
  rw [show (#[Value.int .i64 (1 + x), .int .u32 N1] : Array Value)[1]? = some (.int .u32 N1) from rfl] at a91
  rw [show (#[Value.int .i64 (1 + y), .int .u32 N2] : Array Value)[0]? = some (.int .i64 (1 + y)) from rfl] at b90
  rw [show (#[Value.int .i64 (1 + y), .int .u32 N2] : Array Value)[1]? = some (.int .u32 N2) from rfl] at b91
  clear a9 b9 tb9 tw9 bw9 rd9 b79 Z8
  -- the fourth, over it
  go_wp2_with (refine load_mid_want rfl 30 (.tmp 17) rfl w8.heap.size 0 rfl L3 _ RG9.out Tryd.underlying30 rfl IG9.out ?_)
  refine (HN9.out w9 RD9.out TB9.out).mono ?_
  rintro e w10 ⟨v10, rfl, own10, hb10⟩
  obtain ⟨A10, m10, cc10, rfl, em10, nc10, -, -⟩ := own10.sl
  have hm10 : m10 = 2 := by rw [em10, E4.out]
  subst hm10
  obtain ⟨L4, hL4, lL4, oL4, iL4⟩ := tok_cells r4.1.1 A10 2 cc10 r4.1.2.2 O4.out.2.2.1
  have G10 := fun w a h => HGY.out A10 2 cc10 w a nc10 (by omega) h
  have H10 := fun w a => HHY.out A10 2 cc10 w a nc10 (by omega)
  simp only [hL4] at G10 H10 ⊢
  have HG10 := Lib.hid G10
  have HH10 := Lib.hid H10
  have LL4 := Lib.hid lL4
  have OL4 := Lib.hid oL4
  have IL4 := Lib.hid iL4
  have EL4 := Lib.hid hL4
  have OWN10 := Lib.hid own10
  have HB10 := Lib.hid hb10
  have t10 := T9.out.below hb10 T9.out.lt
  have T10 := Lib.hid t10.blk
  have T10' := Lib.hid t10
  clear G10 H10 lL4 oL4 iL4 hL4 own10 em10 hb10 t10 a90 a91 b90 b91
  go_upto_region 10 with (refine wpList_store_row rfl 30 (.tmp 17) (.tmp 55) rfl w8.heap.size L4.toArray rfl rfl 30 _ T10.out IL4.out (by simp [LL4.out, LL3.out]) (by simpa using OL4.out) ?_)
  obtain ⟨w11, hw11⟩ : ∃ x, x = w10.setRow w8.heap.size L4.toArray := ⟨_, rfl⟩
  rw [← hw11]
  have tw11 : TokAt w11 w8.heap.size L4 := by rw [hw11]; exact ⟨Blk.setRow T10'.out.blk _, LL4.out⟩
  have b711 : Below w7.heap.size w7 w11 := by
    rw [hw11]
    exact below_setRow (B79.out.trans (HB10.out.mono B79.out.size)) HB8.out.size _
  have own11 : OwnC w11 w9.heap.size (.slice A10 2 cc10) r4.1.2.1 := by
    rw [hw11]
    exact World.ownsRow.kept OWN10.out (grown_setRow _ _ _) (.inr (own_blk_ne OWN10.out T10.out (by decide)))
  have a11 := A7.out.below b711 A7.out.lt
  have b11 := B7.out.below b711 B7.out.lt
  have x11 := X7.out.below b711 X7.out.lt
  have tb11 := TB7.out.below b711 TB7.out.size
  have BL11 := Lib.hid (BL7.out.trans (b711.mono BL7.out.size))
  have rx11 := RD7.out.call b711
  have ry11 := own11.reads
  obtain ⟨S, HS⟩ : ∃ S : World → Prop, Hid (∀ w', S w' = Below w11.heap.size w11 w') := ⟨_, fun _ => rfl⟩
  have F2 : Hid (∀ w', S w' → w'.rangeAt w4.heap.size 0 L2) := fun w' h => by
    rw [HS.out] at h
    exact (x11.below h x11.lt).load
  have F4 : Hid (∀ w', S w' → w'.rangeAt w8.heap.size 0 L4) := fun w' h => by
    rw [HS.out] at h
    exact (tw11.below h tw11.lt).load
  have FA : Hid (∀ w', S w' → w'.rangeAt w.heap.size 0 [.int .i64 (1 + x), .int .u32 N1]) := fun w' h => by
    rw [HS.out] at h
    exact rangeAt_blk (l := [.int .i64 (1 + x), .int .u32 N1]) (a11.below h a11.lt) 0 _ (fun j u h => by simpa using h)
  have FB : Hid (∀ w', S w' → w'.rangeAt (w.heap.size + 1) 0 [.int .i64 (1 + y), .int .u32 N2]) := fun w' h => by
    rw [HS.out] at h
    exact rangeAt_blk (l := [.int .i64 (1 + y), .int .u32 N2]) (b11.below h b11.lt) 0 _ (fun j u h => by simpa using h)
  have D2 : Hid (∀ w', S w' → w'.rangeAt w4.heap.size 2 (byv r2.1.2.2)) := fun w' h => by
    rw [HS.out] at h
    exact rangeAt_blk (x11.below h x11.lt).blk 2 _ (fun j u h => by
      rw [← EL2.out, show 2 + j = j + 1 + 1 by omega, tokv, List.getElem?_cons_succ, List.getElem?_cons_succ]
      exact h)
  have D4 : Hid (∀ w', S w' → w'.rangeAt w8.heap.size 2 (byv r4.1.2.2)) := fun w' h => by
    rw [HS.out] at h
    exact rangeAt_blk (tw11.below h tw11.lt).blk 2 _ (fun j u h => by
      rw [← EL4.out, show 2 + j = j + 1 + 1 by omega, tokv, List.getElem?_cons_succ, List.getElem?_cons_succ]
      exact h)
  have FX : Hid (∀ w', S w' → Reads w' w'.heap.size 2 A6 2 (cavv r2.1.2.1)) := fun w' h => by
    rw [HS.out] at h
    exact rx11.call h
  have FY : Hid (∀ w', S w' → Reads w' w'.heap.size 2 A10 2 (cavv r4.1.2.1)) := fun w' h => by
    rw [HS.out] at h
    exact ry11.call h
  have FT : Hid (∀ w', S w' → Tabs w') := fun w' h => by
    rw [HS.out] at h
    exact tb11.below h tb11.size
  have FS : Hid (∀ w' w'', S w' → Below w'.heap.size w' w'' → S w'') := fun w' w'' h k => by
    rw [HS.out] at h ⊢
    exact h.trans (k.mono h.size)
  have s0 : S w11.drew := (HS.out _).mpr (Below.refl _ w11).drew
  have IX := Lib.hid x11.info
  have IY := Lib.hid tw11.info
  have IC : Hid ((Tryd.prog.info? 37).map (·.size) = some 2) := by
    show _ = _
    kernel_rfl
  have HK := Lib.hid (fun w h => known12 w h)
  have C2 := Lib.hid (show (byv r2.1.2.2).length = 32 by rw [byv_length]; exact O2.out.2.2.1)
  have C4 := Lib.hid (show (byv r4.1.2.2).length = 32 by rw [byv_length]; exact O4.out.2.2.1)
  clear a11 b11 x11 tb11 rx11 ry11 tw11 b711 own11 hw11 A7 B7 X7 T9 TB7 TB9 RG7 RG9 IG7 IG9 IG3 RG3 HB10 HB8 B79 T10 T10' OWN10 RD9 RD8 RD7 BL7
  refine wp_region_seq S 37 [(1, false), (0, true), (2, true), (3, false), (5, false), (4, true), (6, true), (7, false), (8, false), (9, false), (10, false), (11, false), (12, false), (13, false), (14, false), (15, false), (16, false), (17, false), (18, false), (19, false), (20, false), (21, false), (22, false), (23, false), (24, false), (26, false), (27, false), (28, false), (29, false), (25, true), (30, true), (31, false), (32, false), (33, false), (34, true), (35, false), (36, false)] (by kernel_rfl) rfl (by kernel_rfl) (by kernel_rfl) (by kernel_rfl) (fun _ _ d _ _ h => by cases d <;> exact h) s0 ?_
  refine wpSeq_load rfl rfl 30 (.tmp 14) rfl w4.heap.size 0 rfl L2 _ F2.out Tryd.underlying30 rfl IX.out ?_
  try simp only [Act.put, List.setIfInBounds_toArray, List.set_cons_zero, List.set_cons_succ]
  refine wpSeq_write rfl rfl ?_
  go_simp
  refine (HR6.out _).mono ?_
  rintro e wa ⟨rfl, hbwa⟩
  have sa : S wa := FS.out _ _ s0 hbwa
  refine ⟨sa, ?_⟩
  try simp only [Act.put, List.setIfInBounds_toArray, List.set_cons_zero, List.set_cons_succ]
  refine wpSeq_write rfl rfl ?_
  go_simp
  refine (HG6.out _ (FX.out _ sa) (FT.out _ sa)).mono ?_
  rintro e wb ⟨rfl, hbwb⟩
  have sb : S wb := FS.out _ _ sa hbwb
  refine ⟨sb, ?_⟩
  try simp only [Act.put, List.setIfInBounds_toArray, List.set_cons_zero, List.set_cons_succ]
  iterate 1 (refine wpSeq_read rfl rfl ⟨?_, fun w1 hS => ?_, ?_⟩; rotate_left; (focus (go_simp; (try go_bits); try rfl)); simp only [Act.put, List.setIfInBounds_toArray, List.set_cons_zero, List.set_cons_succ])
  refine wpSeq_load rfl rfl 30 (.tmp 17) rfl w8.heap.size 0 rfl L4 _ F4.out Tryd.underlying30 rfl IY.out ?_
  try simp only [Act.put, List.setIfInBounds_toArray, List.set_cons_zero, List.set_cons_succ]
  refine wpSeq_write rfl rfl ?_
  go_simp
  refine (HR6.out _).mono ?_
  rintro e wc ⟨rfl, hbwc⟩
  have sc : S wc := FS.out _ _ sb hbwc
  refine ⟨sc, ?_⟩
  try simp only [Act.put, List.setIfInBounds_toArray, List.set_cons_zero, List.set_cons_succ]
  refine wpSeq_write rfl rfl ?_
  go_simp
  refine (HG10.out _ (FY.out _ sc) (FT.out _ sc)).mono ?_
  rintro e wd ⟨rfl, hbwd⟩
  have sd : S wd := FS.out _ _ sc hbwd
  refine ⟨sd, ?_⟩
  try simp only [Act.put, List.setIfInBounds_toArray, List.set_cons_zero, List.set_cons_succ]
  iterate 2 (refine wpSeq_read rfl rfl ⟨?_, fun w1 hS => ?_, ?_⟩; rotate_left; (focus (go_simp; (try go_bits); try rfl)); simp only [Act.put, List.setIfInBounds_toArray, List.set_cons_zero, List.set_cons_succ])
  refine wpSeq_load rfl rfl 37 (.tmp 7) rfl w.heap.size 0 rfl [.int .i64 (1 + x), .int .u32 N1] _ FA.out Tryd.underlying37 rfl IC.out ?_
  try simp only [Act.put, List.setIfInBounds_toArray, List.set_cons_zero, List.set_cons_succ]
  refine wpSeq_load rfl rfl 37 (.tmp 8) rfl (w.heap.size + 1) 0 rfl [.int .i64 (1 + y), .int .u32 N2] _ FB.out Tryd.underlying37 rfl IC.out ?_
  try simp only [Act.put, List.setIfInBounds_toArray, List.set_cons_zero, List.set_cons_succ]
  by_cases heq : x = y ∧ N1 = N2
  · obtain ⟨rfl, rfl⟩ := heq
    have h24 := HSAME.out rfl rfl
    have htag : (r2.1.2.2 == r4.1.2.2) = true := by rw [h24]; simp
    refine wpSeq_read rfl rfl ⟨.bool false, fun w1 hS => by go_simp, ?_⟩
    try simp only [Act.put, List.setIfInBounds_toArray, List.set_cons_zero, List.set_cons_succ]
    iterate 2 (refine wpSeq_read rfl rfl ⟨?_, fun w1 hS => ?_, ?_⟩; rotate_left; (focus (go_simp; (try go_bits); try rfl)); simp only [Act.put, List.setIfInBounds_toArray, List.set_cons_zero, List.set_cons_succ])
    have qe := fun w => run_eql_digest w r2.1.2.2 r4.1.2.2 O2.out.2.2.1 O4.out.2.2.1 O2.out.2.2.2 O4.out.2.2.2
    rw [htag] at qe
    have I2 := Lib.hid (show (Tryd.prog.info? 28).map (·.size) = some (byv r2.1.2.2).length by rw [C2.out]; exact Tryd.dig_info)
    have I4 := Lib.hid (show (Tryd.prog.info? 28).map (·.size) = some (byv r4.1.2.2).length by rw [C4.out]; exact Tryd.dig_info)
    clear htag h24
    obtain ⟨U1, hU1⟩ : ∃ U, byv r2.1.2.2 = U := ⟨_, rfl⟩
    obtain ⟨U2, hU2⟩ : ∃ U, byv r4.1.2.2 = U := ⟨_, rfl⟩
    rw [hU1] at D2 I2
    rw [hU2] at D4 I4
    simp only [hU1, hU2] at qe
    clear hU1 hU2
    refine wpSeq_load rfl rfl 28 (.tmp 84) rfl w4.heap.size 2 rfl U1 _ D2.out Tryd.underlying28 rfl I2.out ?_
    try simp only [Act.put, List.setIfInBounds_toArray, List.set_cons_zero, List.set_cons_succ]
    iterate 1 (refine wpSeq_read rfl rfl ⟨?_, fun w1 hS => ?_, ?_⟩; rotate_left; (focus (go_simp; (try go_bits); try rfl)); simp only [Act.put, List.setIfInBounds_toArray, List.set_cons_zero, List.set_cons_succ])
    refine wpSeq_load rfl rfl 28 (.tmp 86) rfl w8.heap.size 2 rfl U2 _ D4.out Tryd.underlying28 rfl I4.out ?_
    try simp only [Act.put, List.setIfInBounds_toArray, List.set_cons_zero, List.set_cons_succ]
    iterate 1 (refine wpSeq_read rfl rfl ⟨?_, fun w1 hS => ?_, ?_⟩; rotate_left; (focus (go_simp; (try go_bits); try rfl)); simp only [Act.put, List.setIfInBounds_toArray, List.set_cons_zero, List.set_cons_succ])
    iterate 3 (refine wpSeq_read rfl rfl ⟨?_, fun w1 hS => ?_, ?_⟩; rotate_left; (focus (go_simp; (try go_bits); try rfl)); simp only [Act.put, List.setIfInBounds_toArray, List.set_cons_zero, List.set_cons_succ])
    refine wpSeq_load rfl rfl 30 (.tmp 14) rfl w4.heap.size 0 rfl L2 _ F2.out Tryd.underlying30 rfl IX.out ?_
    try simp only [Act.put, List.setIfInBounds_toArray, List.set_cons_zero, List.set_cons_succ]
    iterate 3 (refine wpSeq_read rfl rfl ⟨?_, fun w1 hS => ?_, ?_⟩; rotate_left; (focus (go_simp; (try go_bits); try rfl)); simp only [Act.put, List.setIfInBounds_toArray, List.set_cons_zero, List.set_cons_succ])
    refine wpSeq_load rfl rfl 30 (.tmp 17) rfl w8.heap.size 0 rfl L4 _ F4.out Tryd.underlying30 rfl IY.out ?_
    try simp only [Act.put, List.setIfInBounds_toArray, List.set_cons_zero, List.set_cons_succ]
    iterate 3 (refine wpSeq_read rfl rfl ⟨?_, fun w1 hS => ?_, ?_⟩; rotate_left; (focus (go_simp; (try go_bits); try rfl)); simp only [Act.put, List.setIfInBounds_toArray, List.set_cons_zero, List.set_cons_succ])
    refine wpSeq_write rfl rfl ?_
    go_simp
    refine (HH6.out _ (FX.out _ sd)).mono ?_
    rintro e we ⟨rfl, hbwe⟩
    have se : S we := FS.out _ _ sd hbwe
    refine ⟨se, ?_⟩
    try simp only [Act.put, List.setIfInBounds_toArray, List.set_cons_zero, List.set_cons_succ]
    refine wpSeq_write rfl rfl ?_
    go_simp
    refine (HH10.out _ (FY.out _ se)).mono ?_
    rintro e wf ⟨rfl, hbwf⟩
    have sf : S wf := FS.out _ _ se hbwf
    refine ⟨sf, ?_⟩
    try simp only [Act.put, List.setIfInBounds_toArray, List.set_cons_zero, List.set_cons_succ]
    iterate 3 (refine wpSeq_read rfl rfl ⟨?_, fun w1 hS => ?_, ?_⟩; rotate_left; (focus (go_simp; (try go_bits); try rfl)); simp only [Act.put, List.setIfInBounds_toArray, List.set_cons_zero, List.set_cons_succ])
    refine wpSeq_write rfl rfl ?_
    go_simp
    refine (HK.out _ (FT.out _ sf)).mono ?_
    rintro e wg ⟨rfl, hbwg⟩
    have sg : S wg := FS.out _ _ sf hbwg
    refine ⟨sg, ?_⟩
    try simp only [Act.put, List.setIfInBounds_toArray, List.set_cons_zero, List.set_cons_succ]
    iterate 2 (refine wpSeq_read rfl rfl ⟨?_, fun w1 hS => ?_, ?_⟩; rotate_left; (focus (go_simp; (try go_bits); try rfl)); simp only [Act.put, List.setIfInBounds_toArray, List.set_cons_zero, List.set_cons_succ])
    refine wpSeq_nil ?_
    go_wp2_with fail
    go_ret
    rw [HS.out] at sg
    exact ⟨rfl, BL11.out.trans (sg.mono BL11.out.size)⟩
  · refine wpSeq_read rfl rfl ⟨.bool true, fun w1 hS => by go_simp; intro h1 h2; exact heq ⟨h1, by omega⟩, ?_⟩
    try simp only [Act.put, List.setIfInBounds_toArray, List.set_cons_zero, List.set_cons_succ]
    iterate 1 (refine wpSeq_read rfl rfl ⟨?_, fun w1 hS => ?_, ?_⟩; rotate_left; (focus (go_simp; (try go_bits); try rfl)); simp only [Act.put, List.setIfInBounds_toArray, List.set_cons_zero, List.set_cons_succ])
    iterate 5 (refine wpSeq_skip rfl rfl ?_; simp only [Act.put, List.setIfInBounds_toArray, List.set_cons_zero, List.set_cons_succ])
    iterate 3 (refine wpSeq_read rfl rfl ⟨?_, fun w1 hS => ?_, ?_⟩; rotate_left; (focus (go_simp; (try go_bits); try rfl)); simp only [Act.put, List.setIfInBounds_toArray, List.set_cons_zero, List.set_cons_succ])
    refine wpSeq_load rfl rfl 30 (.tmp 14) rfl w4.heap.size 0 rfl L2 _ F2.out Tryd.underlying30 rfl IX.out ?_
    try simp only [Act.put, List.setIfInBounds_toArray, List.set_cons_zero, List.set_cons_succ]
    iterate 3 (refine wpSeq_read rfl rfl ⟨?_, fun w1 hS => ?_, ?_⟩; rotate_left; (focus (go_simp; (try go_bits); try rfl)); simp only [Act.put, List.setIfInBounds_toArray, List.set_cons_zero, List.set_cons_succ])
    refine wpSeq_load rfl rfl 30 (.tmp 17) rfl w8.heap.size 0 rfl L4 _ F4.out Tryd.underlying30 rfl IY.out ?_
    try simp only [Act.put, List.setIfInBounds_toArray, List.set_cons_zero, List.set_cons_succ]
    iterate 3 (refine wpSeq_read rfl rfl ⟨?_, fun w1 hS => ?_, ?_⟩; rotate_left; (focus (go_simp; (try go_bits); try rfl)); simp only [Act.put, List.setIfInBounds_toArray, List.set_cons_zero, List.set_cons_succ])
    refine wpSeq_write rfl rfl ?_
    go_simp
    refine (HH6.out _ (FX.out _ sd)).mono ?_
    rintro e we ⟨rfl, hbwe⟩
    have se : S we := FS.out _ _ sd hbwe
    refine ⟨se, ?_⟩
    try simp only [Act.put, List.setIfInBounds_toArray, List.set_cons_zero, List.set_cons_succ]
    refine wpSeq_write rfl rfl ?_
    go_simp
    refine (HH10.out _ (FY.out _ se)).mono ?_
    rintro e wf ⟨rfl, hbwf⟩
    have sf : S wf := FS.out _ _ se hbwf
    refine ⟨sf, ?_⟩
    try simp only [Act.put, List.setIfInBounds_toArray, List.set_cons_zero, List.set_cons_succ]
    iterate 3 (refine wpSeq_read rfl rfl ⟨?_, fun w1 hS => ?_, ?_⟩; rotate_left; (focus (go_simp; (try go_bits); try rfl)); simp only [Act.put, List.setIfInBounds_toArray, List.set_cons_zero, List.set_cons_succ])
    refine wpSeq_write rfl rfl ?_
    go_simp
    refine (HK.out _ (FT.out _ sf)).mono ?_
    rintro e wg ⟨rfl, hbwg⟩
    have sg : S wg := FS.out _ _ sf hbwg
    refine ⟨sg, ?_⟩
    try simp only [Act.put, List.setIfInBounds_toArray, List.set_cons_zero, List.set_cons_succ]
    iterate 2 (refine wpSeq_read rfl rfl ⟨?_, fun w1 hS => ?_, ?_⟩; rotate_left; (focus (go_simp; (try go_bits); try rfl)); simp only [Act.put, List.setIfInBounds_toArray, List.set_cons_zero, List.set_cons_succ])
    refine wpSeq_nil ?_
    go_wp2_with fail
    go_ret
    rw [HS.out] at sg
    exact ⟨rfl, BL11.out.trans (sg.mono BL11.out.size)⟩

end Go.Proofs.YtamhggndcegndaaDoor
