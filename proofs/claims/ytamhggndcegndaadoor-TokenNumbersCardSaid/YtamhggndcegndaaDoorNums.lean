/-
  deponentlaw12.TokenNumbers: true.
-/
import Derived.Test.YtamhggndcegndaaDoorNumsP
import Derived.Test.YtamhggndcegndaaDoorCodes
import Derived.Test.YtamhggndcegndaaDoorTwo
namespace Go.Proofs.YtamhggndcegndaaDoor
open Go.RowKit
set_option linter.unusedVariables false
set_option maxRecDepth 100000

/-- A slice's first k elements. -/
theorem Reads.preN {w : World} {B n k size : Nat} {A : Option Addr} {xs : List Value} (h : Reads w B size A n xs) (hk : k ≤ n) : Reads w B size A k (xs.take (k * size)) := by
  refine ⟨by rw [List.length_take, h.1]; exact Nat.min_eq_left (Nat.mul_le_mul_right _ hk), fun hk0 => ?_⟩
  obtain ⟨ad, e, hb, hc⟩ := h.2 (by omega)
  exact ⟨ad, e, hb, fun j u hu => hc j u (by rw [List.getElem?_take] at hu; split at hu <;> simp_all)⟩

theorem cavv_take (l : List (Int × Nat)) : ∀ k, (cavv l).take (k * 2) = cavv (l.take k) := by
  induction l with
  | nil => intro k; simp [cavv]
  | cons c l ih =>
    intro k
    cases k with
    | zero => simp [cavv]
    | succ k =>
      rw [show (k + 1) * 2 = k * 2 + 1 + 1 by omega]
      have e : cavv (c :: l) = Value.int .i64 c.1 :: Value.int .u32 (c.2 : Int) :: cavv l := by simp [cavv]
      rw [e, List.take_succ_cons, List.take_succ_cons, ih k]
      simp [cavv]

theorem wpSteps_load {P : Program} {Q : Exit → Act → World → Prop} {S : World → Prop} {K : Act → World → Prop} {l : List Oper} {i : Nat} {r : List (Nat × Bool)} {a : Act} {w : World} {op : Oper} (hi : nth l i = some op) (hw : Region.wanted op (yielded l.toArray a.tmps) = true)
    (ty : TypeId) (x : Operand) (ho : op.op = .load ty x) (b o : Nat) (hx : a.eval x = .pointer (some ⟨b, o, none⟩)) (cs : List Value) (d : TypeDesc) (hS : ∀ w, S w → w.rangeAt b o cs)
    (hu : P.underlying ty = some d) (hd : d.isRow = true) (hsz : (P.info? ty).map (·.size) = some cs.length)
    (h : wpSteps P l.toArray Q S K r (a.put op.dst (.agg cs.toArray)) w) : wpSteps P l.toArray Q S K ((i, false) :: r) a w :=
  ⟨op, _, (nth_eq l i).symm.trans hi, yieldsIf_load_mid hw ty x ho b o hx cs d hS hu hd hsz, h⟩

-- END BY HAND
set_option maxHeartbeats 8000000 in
theorem nums_walk (w : World) (hT : Tabs w)
    (hE : w.cell? ⟨0, 0, none⟩ = some (.iface 152 (.agg #[.pointer (some ⟨3, 61, none⟩)]))) :
    Calls Tryd.prog 8 #[] w fun e w' => e = .returned (.bool true) ∧ Below w.heap.size w w' := by
  have gT : Gen (rootb 2) (minted (rootb 2) 0) := gen_minted _ _
  have okT : (minted (rootb 2) 0).Ok := minted_ok _ _ (by decide)
  obtain ⟨tag, htag⟩ : ∃ tag, mintTag (rootb 2) 0 = tag := ⟨_, rfl⟩
  have hM : minted (rootb 2) 0 = (0, [], tag) := by rw [← htag]; rfl
  have ltag : tag.length = 32 := by rw [← htag]; exact mac_length _ _
  have btag : ∀ x ∈ tag, x < 256 := by rw [← htag]; exact mac_lt _ _
  have CH := chain_facts (rootb 2) (minted (rootb 2) 0) (3, 9) gT okT rfl ⟨by decide, by decide⟩ (by decide)
  obtain ⟨CT, hCT⟩ : ∃ CT, chain (minted (rootb 2) 0) (3, 9) = CT := ⟨_, rfl⟩
  have hfalse := nums_false
  rw [hCT] at CH hfalse
  have hC0 : CT 0 = (0, [], tag) := by rw [← hCT]; exact hM
  obtain ⟨x1, ex1, x10, xok, xl, xg⟩ := nar_step (rootb 2) (minted (rootb 2) 0) (3, 0) gT okT ⟨by decide, by decide⟩ (by rw [hM]; simp) (by decide)
  obtain ⟨y1, ey1, y10, yok, yl, yg⟩ := nar_step (rootb 2) (minted (rootb 2) 0) (2, 1) gT okT ⟨by decide, by decide⟩ (by rw [hM]; simp) (by decide)
  have hxl : x1.1.2.1 = [(3, 0)] := by rw [xl, hM]; rfl
  have hyl : y1.1.2.1 = [(2, 1)] := by rw [yl, hM]; rfl
  have hbad : narRes (minted (rootb 2) 0) (4, 0) = (zeroTok, 1) := by unfold narRes; rw [if_neg (by decide)]
  have R2 := fun w => law_root 2 w
  have M2 := fun w h => token_mint (rootb 2) 0 w (rootb_length 2) (rootb_lt 2 (by decide)) (by decide) h
  have NX := fun k N w hN h => token_narrow (minted (rootb 2) 0) none 0 0 k N w Reads.none_ (Nat.le_refl _) (by omega) okT.2.2.1 okT.2.2.2 hN h
  have NB := fun w h => NX 4 0 w (by decide) h
  have NX0 := fun w h => NX 3 0 w (by decide) h
  have NY := fun w h => NX 2 1 w (by decide) h
  obtain ⟨L1, hL1, lL1, oL1, iL1⟩ := tok_cells 0 none 0 0 tag ltag
  have EN := fun w => token_encode 0 [] none 0 tag w Reads.none_ (Nat.le_refl _) (by simp [maxLen]) (by decide) (by simp) ltag
  obtain ⟨y, hy⟩ : ∃ y, be 0 4 ++ be 0 1 ++ cavb [] ++ tag = y := ⟨_, rfl⟩
  have hres : tokRes 0 [] tag = (0, y) := by rw [← hy]; rfl
  have ly : y.length = 37 := by rw [← hy]; simp [be_length, cavb, ltag]
  have yb : ∀ x ∈ y, x < 256 := by have h := tokRes_lt 0 [] tag btag; rw [hres] at h; exact h
  have dy : tokDec y = (none, (0, [], tag)) := by have h := (tokDec_res 0 [] tag (by decide) (by simp) ltag (by rw [hres])).1; rw [hres] at h; exact h
  have dshort : tokDec (y.take 36) = (some (36, 10), zeroTok) := by rw [← hy]; exact tokDec_short tag ltag
  rw [hM] at ex1 ey1 hbad NB NX0 NY
  rw [hres] at EN
  simp only [ex1, x10] at NX0
  simp only [ey1, y10] at NY
  simp only [hbad] at NB
  simp only [hL1, List.length_nil] at NX0 NY NB EN
  rw [show mintTag (rootb 2) 0 = tag from htag] at M2
  simp only [hL1] at M2
  obtain ⟨K, hK⟩ : ∃ K, byv (rootb 2) = K := ⟨_, rfl⟩
  have GX := fun (t : Tok) A n c w a b d h e => token_genuine (rootb 2) t A n c w (rootb_length 2) (rootb_lt 2 (by decide)) a b d h e
  have FO := fun (ms : List Nat) B k d w a b h => token_forged (rootb 2) ms (minted (rootb 2) 0) B k d none 0 0 w (rootb_length 2) (rootb_lt 2 (by decide)) a b Reads.none_ (Nat.le_refl _) (by omega) okT h
  rw [hM, gen_true (by rw [← hM]; exact gT)] at FO
  simp only [hL1] at FO
  simp only [hK] at R2 M2 GX FO
  have HR2 := Lib.hid R2
  have HM2 := Lib.hid M2
  have HGX := Lib.hid GX
  have HFO := Lib.hid FO
  have HNB := Lib.hid NB
  have HNX := Lib.hid NX0
  have HNY := Lib.hid NY
  have HEN := Lib.hid EN
  have OL1 := Lib.hid oL1
  have IL1 := Lib.hid iL1
  have LL1 := Lib.hid lL1
  have HL1 := Lib.hid hL1
  have HCH := Lib.hid CH
  have HFALSE := Lib.hid hfalse
  have HC0 := Lib.hid hC0
  have HT := Lib.hid hT
  have HE := Lib.hid hE
  have XOK := Lib.hid xok
  have YOK := Lib.hid yok
  have HXL := Lib.hid hxl
  have HYL := Lib.hid hyl
  have LTG := Lib.hid ltag
  have BTG := Lib.hid btag
  have LY := Lib.hid ly
  have YB := Lib.hid yb
  have DY := Lib.hid dy
  have DS := Lib.hid dshort
  clear hC0 R2 M2 GX FO NB NX0 NY NX EN oL1 iL1 lL1 hL1 CH hfalse hT hE xok yok hxl hyl ltag btag ly yb dy dshort hres hy hK hM hCT htag gT okT hbad ex1 ey1 x10 y10 xl yl xg yg
  go_enter Tryd.func8, Tryd.ntmps8
  go_wp2_with fail
  refine (HR2.out w).mono ?_
  rintro e w1 ⟨rfl, b1⟩
  go_wp2_with fail
  refine (HM2.out w1 (HT.out.below b1 HT.out.size)).mono ?_
  rintro e w2 ⟨rfl, b2⟩
  have B2 := Lib.hid (b1.trans (b2.mono b1.size))
  clear b1 b2
  have Z2 := Lib.hid (Blk.new w2 30 #[.int .u32 0, .slice none 0 0, .int .u8 0, .int .u8 0, .int .u8 0, .int .u8 0, .int .u8 0, .int .u8 0, .int .u8 0, .int .u8 0, .int .u8 0, .int .u8 0, .int .u8 0, .int .u8 0, .int .u8 0, .int .u8 0, .int .u8 0, .int .u8 0, .int .u8 0, .int .u8 0, .int .u8 0, .int .u8 0, .int .u8 0, .int .u8 0, .int .u8 0, .int .u8 0, .int .u8 0, .int .u8 0, .int .u8 0, .int .u8 0, .int .u8 0, .int .u8 0, .int .u8 0, .int .u8 0])
  go_upto_region 2 with (refine wpList_store_row rfl 30 (.tmp 1) (.tmp 20) rfl w2.heap.size L1.toArray rfl rfl 30 _ Z2.out IL1.out (by simp [LL1.out]) (by simpa using OL1.out) ?_)
  obtain ⟨w3, hw3⟩ : ∃ x, x = (w2.alloc (.cells #[.int .u32 0, .slice none 0 0, .int .u8 0, .int .u8 0, .int .u8 0, .int .u8 0, .int .u8 0, .int .u8 0, .int .u8 0, .int .u8 0, .int .u8 0, .int .u8 0, .int .u8 0, .int .u8 0, .int .u8 0, .int .u8 0, .int .u8 0, .int .u8 0, .int .u8 0, .int .u8 0, .int .u8 0, .int .u8 0, .int .u8 0, .int .u8 0, .int .u8 0, .int .u8 0, .int .u8 0, .int .u8 0, .int .u8 0, .int .u8 0, .int .u8 0, .int .u8 0, .int .u8 0, .int .u8 0] 30)).setRow w2.heap.size L1.toArray := ⟨_, rfl⟩
  rw [← hw3]
  have tw3 : TokAt w3 w2.heap.size L1 := by rw [hw3]; exact ⟨Blk.setRow (Blk.new _ _ _) _, LL1.out⟩
  have bw3 : Below w2.heap.size w2 w3 := by rw [hw3]; exact below_setRow ((Below.refl _ _).alloc (Nat.le_refl _) _) (Nat.le_refl _) _
  clear hw3
  have B3 := Lib.hid (B2.out.trans (bw3.mono B2.out.size))
  have T3 := Lib.hid tw3
  have HT3 := Lib.hid (HT.out.below B3.out HT.out.size)
  have HE3 := Lib.hid ((B3.out.cell (p := ⟨0, 0, none⟩) (World.block_lt_of_cell? _ _ HE.out)).trans HE.out)
  have I1 := Lib.hid tw3.info
  clear tw3 bw3 Z2 B2 HT HE
  have RG := Lib.hid T3.out.load
  go_wp2_with (refine load_mid_want rfl 30 (.tmp 1) rfl w2.heap.size 0 rfl L1 _ RG.out Tryd.underlying30 rfl I1.out ?_)
  refine (HEN.out w3).mono ?_
  rintro e w4 ⟨v4, rfl, own4, b4⟩
  have own4' : OwnB w4 w3.heap.size v4 y := own4
  obtain ⟨A4, n4, c4, rfl, nc4, -, rd4⟩ := own4'.sl
  have ln4 : 37 = n4 := by rw [← LY.out]; exact reads_bytes_le rd4
  subst ln4
  have RD4 := Lib.hid rd4
  have C4 := Lib.hid b4
  have hDE := token_decode y A4 37 c4 w4 rd4 (by omega) YB.out ((b4.cell (p := ⟨0, 0, none⟩) (World.block_lt_of_cell? _ _ HE3.out)).trans HE3.out)
  rw [DY.out] at hDE
  have HDE := Lib.hid hDE
  clear own4 own4' rd4 b4 hDE RG
  go_wp2_with fail
  refine HDE.out.mono ?_
  rintro e w5 ⟨v5, r5, rfl, own5, er5, b5⟩
  have er5' : r5 = .nilIface := er5
  subst er5'
  obtain ⟨A5, n5, c5, rfl, en5, nc5, -, rd5⟩ := OwnC.sl own5
  have en5' : n5 = 0 := en5
  subst en5'
  obtain ⟨L5, hL5, lL5, oL5, iL5⟩ := tok_cells 0 A5 0 c5 tag LTG.out
  rw [show tokv ((none : Option (Nat × Nat)), ((0 : Nat), ([] : List (Int × Nat)), tag)).2.1 (.slice A5 0 c5) ((none : Option (Nat × Nat)), ((0 : Nat), ([] : List (Int × Nat)), tag)).2.2.2 = L5 from hL5]
  have SM := fun w a b => same_token 0 none A5 0 0 c5 [] tag w LTG.out BTG.out a b (by omega)
  simp only [HL1.out, hL5] at SM
  have HSM := Lib.hid SM
  have OL5 := Lib.hid oL5
  have IL5 := Lib.hid iL5
  have LL5 := Lib.hid lL5
  have C5 := Lib.hid (C4.out.trans (b5.mono C4.out.size))
  have RD5 := Lib.hid (RD4.out.call b5)
  have RE5 := Lib.hid rd5
  have Z5 := Lib.hid (Blk.new w5 30 #[.int .u32 0, .slice none 0 0, .int .u8 0, .int .u8 0, .int .u8 0, .int .u8 0, .int .u8 0, .int .u8 0, .int .u8 0, .int .u8 0, .int .u8 0, .int .u8 0, .int .u8 0, .int .u8 0, .int .u8 0, .int .u8 0, .int .u8 0, .int .u8 0, .int .u8 0, .int .u8 0, .int .u8 0, .int .u8 0, .int .u8 0, .int .u8 0, .int .u8 0, .int .u8 0, .int .u8 0, .int .u8 0, .int .u8 0, .int .u8 0, .int .u8 0, .int .u8 0, .int .u8 0, .int .u8 0])
  clear SM oL5 iL5 lL5 hL5 own5 er5 en5 rd5 b5 HDE RD4 C4
  go_upto_region 4 with (refine wpList_store_row rfl 30 (.tmp 4) (.tmp 29) rfl w5.heap.size L5.toArray rfl rfl 30 _ Z5.out IL5.out (by simp [LL5.out]) (by simpa using OL5.out) ?_)
  obtain ⟨w6, hw6⟩ : ∃ x, x = (w5.alloc (.cells #[.int .u32 0, .slice none 0 0, .int .u8 0, .int .u8 0, .int .u8 0, .int .u8 0, .int .u8 0, .int .u8 0, .int .u8 0, .int .u8 0, .int .u8 0, .int .u8 0, .int .u8 0, .int .u8 0, .int .u8 0, .int .u8 0, .int .u8 0, .int .u8 0, .int .u8 0, .int .u8 0, .int .u8 0, .int .u8 0, .int .u8 0, .int .u8 0, .int .u8 0, .int .u8 0, .int .u8 0, .int .u8 0, .int .u8 0, .int .u8 0, .int .u8 0, .int .u8 0, .int .u8 0, .int .u8 0] 30)).setRow w5.heap.size L5.toArray := ⟨_, rfl⟩
  rw [← hw6]
  have tw6 : TokAt w6 w5.heap.size L5 := by rw [hw6]; exact ⟨Blk.setRow (Blk.new _ _ _) _, LL5.out⟩
  have bw6 : Below w5.heap.size w5 w6 := by rw [hw6]; exact below_setRow ((Below.refl _ _).alloc (Nat.le_refl _) _) (Nat.le_refl _) _
  clear hw6
  have C6 := Lib.hid (C5.out.trans (bw6.mono C5.out.size))
  have RD6 := Lib.hid (RD5.out.call bw6)
  have HS6 := Lib.hid (HSM.out w6 Reads.none_ (RE5.out.call bw6))
  have RGA := Lib.hid (T3.out.below C6.out T3.out.lt).load
  have RGB := Lib.hid tw6.load
  have IB := Lib.hid tw6.info
  clear tw6 bw6 Z5 RD5 RE5 C5 HSM
  go_wp2_with (first
    | (refine load_mid_want rfl 30 (.tmp 1) rfl w2.heap.size 0 rfl L1 _ RGA.out Tryd.underlying30 rfl I1.out ?_)
    | (refine load_mid_want rfl 30 (.tmp 4) rfl w5.heap.size 0 rfl L5 _ RGB.out Tryd.underlying30 rfl IB.out ?_))
  refine HS6.out.mono ?_
  rintro e w7 ⟨rfl, b7⟩
  have C7 := Lib.hid (C6.out.trans (b7.mono C6.out.size))
  have RD7 := Lib.hid (RD6.out.call b7)
  clear b7 C6 RD6 RGA RGB IB HS6
  have rd36 := RD7.out.pre (k := 36) (by omega)
  rw [show (byv y).take 36 = byv (y.take 36) by simp [byv]] at rd36
  have hDS := token_decode (y.take 36) A4 36 c4 w7 rd36 (by omega) (fun x hx => YB.out x (List.mem_of_mem_take hx)) ((C7.out.cell (p := ⟨0, 0, none⟩) (World.block_lt_of_cell? _ _ HE3.out)).trans HE3.out)
  rw [DS.out] at hDS
  have HDS := Lib.hid hDS
  clear rd36 hDS
  have q36 : (36 : Int) ≤ c4 := by omega
  go_wp2_with fail
  refine HDS.out.mono ?_
  rintro e w8 ⟨v8, r8, rfl, own8, er8, b8⟩
  obtain ⟨A8, n8, c8, rfl, en8, nc8, -, -⟩ := OwnC.sl own8
  obtain ⟨L8, hL8, lL8, oL8, iL8⟩ := tok_cells zeroTok.1 A8 n8 c8 zeroTok.2.2 (by simp [zeroTok])
  rw [show tokv (some ((36, 10) : Nat × Nat), zeroTok).2.1 (.slice A8 n8 c8) (some ((36, 10) : Nat × Nat), zeroTok).2.2.2 = L8 from hL8]
  have er8' : RErr w8 w7.heap.size r8 (some (36, 10)) := er8
  have ER8 := Lib.hid er8'
  have OL8 := Lib.hid oL8
  have IL8 := Lib.hid iL8
  have LL8 := Lib.hid lL8
  have C8 := Lib.hid (C7.out.trans (b8.mono C7.out.size))
  have Z8 := Lib.hid (Blk.new w8 30 #[.int .u32 0, .slice none 0 0, .int .u8 0, .int .u8 0, .int .u8 0, .int .u8 0, .int .u8 0, .int .u8 0, .int .u8 0, .int .u8 0, .int .u8 0, .int .u8 0, .int .u8 0, .int .u8 0, .int .u8 0, .int .u8 0, .int .u8 0, .int .u8 0, .int .u8 0, .int .u8 0, .int .u8 0, .int .u8 0, .int .u8 0, .int .u8 0, .int .u8 0, .int .u8 0, .int .u8 0, .int .u8 0, .int .u8 0, .int .u8 0, .int .u8 0, .int .u8 0, .int .u8 0, .int .u8 0])
  obtain ⟨kk, hr8, -, -⟩ := id er8'
  subst hr8
  clear oL8 iL8 lL8 hL8 own8 er8 er8' en8 nc8 b8 HDS RD7 C7 q36
  go_upto_region 7 with (refine wpList_store_row rfl 30 (.tmp 6) (.tmp 52) rfl w8.heap.size L8.toArray rfl rfl 30 _ Z8.out IL8.out (by simp [LL8.out]) (by simpa using OL8.out) ?_)
  obtain ⟨w9, hw9⟩ : ∃ x, x = (w8.alloc (.cells #[.int .u32 0, .slice none 0 0, .int .u8 0, .int .u8 0, .int .u8 0, .int .u8 0, .int .u8 0, .int .u8 0, .int .u8 0, .int .u8 0, .int .u8 0, .int .u8 0, .int .u8 0, .int .u8 0, .int .u8 0, .int .u8 0, .int .u8 0, .int .u8 0, .int .u8 0, .int .u8 0, .int .u8 0, .int .u8 0, .int .u8 0, .int .u8 0, .int .u8 0, .int .u8 0, .int .u8 0, .int .u8 0, .int .u8 0, .int .u8 0, .int .u8 0, .int .u8 0, .int .u8 0, .int .u8 0] 30)).setRow w8.heap.size L8.toArray := ⟨_, rfl⟩
  rw [← hw9]
  have tw9 : TokAt w9 w8.heap.size L8 := by rw [hw9]; exact ⟨Blk.setRow (Blk.new _ _ _) _, LL8.out⟩
  have bw9 : Below w8.heap.size w8 w9 := by rw [hw9]; exact below_setRow ((Below.refl _ _).alloc (Nat.le_refl _) _) (Nat.le_refl _) _
  clear hw9
  have D9 := Lib.hid bw9
  have RG9 := Lib.hid (T3.out.below (C8.out.trans (bw9.mono C8.out.size)) T3.out.lt).load
  have TB9 := Lib.hid (HT3.out.below (C8.out.trans (bw9.mono C8.out.size)) HT3.out.size)
  clear tw9 bw9 Z8
  go_wp2_with (refine load_mid_want rfl 30 (.tmp 1) rfl w2.heap.size 0 rfl L1 _ RG9.out Tryd.underlying30 rfl I1.out ?_)
  refine (HNB.out w9 TB9.out).mono ?_
  rintro e w10 ⟨v10, rfl, own10, b10⟩
  obtain ⟨A10, n10, c10, rfl, -, -, -, -⟩ := OwnC.sl own10
  obtain ⟨La, hLa, lLa, oLa, iLa⟩ := tok_cells zeroTok.1 A10 n10 c10 zeroTok.2.2 (by simp [zeroTok])
  rw [show tokv (zeroTok, (1 : Nat)).1.1 (.slice A10 n10 c10) (zeroTok, (1 : Nat)).1.2.2 = La from hLa]
  have OLa := Lib.hid oLa
  have ILa := Lib.hid iLa
  have LLa := Lib.hid lLa
  have D10 := Lib.hid (D9.out.trans (b10.mono D9.out.size))
  have Za := Lib.hid (Blk.new w10 30 #[.int .u32 0, .slice none 0 0, .int .u8 0, .int .u8 0, .int .u8 0, .int .u8 0, .int .u8 0, .int .u8 0, .int .u8 0, .int .u8 0, .int .u8 0, .int .u8 0, .int .u8 0, .int .u8 0, .int .u8 0, .int .u8 0, .int .u8 0, .int .u8 0, .int .u8 0, .int .u8 0, .int .u8 0, .int .u8 0, .int .u8 0, .int .u8 0, .int .u8 0, .int .u8 0, .int .u8 0, .int .u8 0, .int .u8 0, .int .u8 0, .int .u8 0, .int .u8 0, .int .u8 0, .int .u8 0])
  clear oLa iLa lLa hLa own10 b10 RG9 TB9 D9
  go_upto_region 8 with (refine wpList_store_row rfl 30 (.tmp 8) (.tmp 58) rfl w10.heap.size La.toArray rfl rfl 30 _ Za.out ILa.out (by simp [LLa.out]) (by simpa using OLa.out) ?_)
  obtain ⟨w11, hw11⟩ : ∃ x, x = (w10.alloc (.cells #[.int .u32 0, .slice none 0 0, .int .u8 0, .int .u8 0, .int .u8 0, .int .u8 0, .int .u8 0, .int .u8 0, .int .u8 0, .int .u8 0, .int .u8 0, .int .u8 0, .int .u8 0, .int .u8 0, .int .u8 0, .int .u8 0, .int .u8 0, .int .u8 0, .int .u8 0, .int .u8 0, .int .u8 0, .int .u8 0, .int .u8 0, .int .u8 0, .int .u8 0, .int .u8 0, .int .u8 0, .int .u8 0, .int .u8 0, .int .u8 0, .int .u8 0, .int .u8 0, .int .u8 0, .int .u8 0] 30)).setRow w10.heap.size La.toArray := ⟨_, rfl⟩
  rw [← hw11]
  have tw11 : TokAt w11 w10.heap.size La := by rw [hw11]; exact ⟨Blk.setRow (Blk.new _ _ _) _, LLa.out⟩
  have bw11 : Below w10.heap.size w10 w11 := by rw [hw11]; exact below_setRow ((Below.refl _ _).alloc (Nat.le_refl _) _) (Nat.le_refl _) _
  clear hw11
  have D11 := Lib.hid (D10.out.trans (bw11.mono D10.out.size))
  have RG11 := Lib.hid (T3.out.below (C8.out.trans (D11.out.mono C8.out.size)) T3.out.lt).load
  have Zb := Lib.hid (Blk.new w11 30 #[.int .u32 0, .slice none 0 0, .int .u8 0, .int .u8 0, .int .u8 0, .int .u8 0, .int .u8 0, .int .u8 0, .int .u8 0, .int .u8 0, .int .u8 0, .int .u8 0, .int .u8 0, .int .u8 0, .int .u8 0, .int .u8 0, .int .u8 0, .int .u8 0, .int .u8 0, .int .u8 0, .int .u8 0, .int .u8 0, .int .u8 0, .int .u8 0, .int .u8 0, .int .u8 0, .int .u8 0, .int .u8 0, .int .u8 0, .int .u8 0, .int .u8 0, .int .u8 0, .int .u8 0, .int .u8 0])
  clear tw11 bw11 Za D10
  go_upto_region 9 with (first
    | (refine load_mid_want rfl 30 (.tmp 1) rfl w2.heap.size 0 rfl L1 _ RG11.out Tryd.underlying30 rfl I1.out ?_)
    | (refine wpList_store_row rfl 30 (.tmp 10) (.tmp 60) rfl w11.heap.size L1.toArray rfl rfl 30 _ Zb.out IL1.out (by simp [LL1.out]) (by simpa using OL1.out) ?_))
  obtain ⟨w12, hw12⟩ : ∃ x, x = (w11.alloc (.cells #[.int .u32 0, .slice none 0 0, .int .u8 0, .int .u8 0, .int .u8 0, .int .u8 0, .int .u8 0, .int .u8 0, .int .u8 0, .int .u8 0, .int .u8 0, .int .u8 0, .int .u8 0, .int .u8 0, .int .u8 0, .int .u8 0, .int .u8 0, .int .u8 0, .int .u8 0, .int .u8 0, .int .u8 0, .int .u8 0, .int .u8 0, .int .u8 0, .int .u8 0, .int .u8 0, .int .u8 0, .int .u8 0, .int .u8 0, .int .u8 0, .int .u8 0, .int .u8 0, .int .u8 0, .int .u8 0] 30)).setRow w11.heap.size L1.toArray := ⟨_, rfl⟩
  rw [← hw12]
  have tw12 : TokAt w12 w11.heap.size L1 := by rw [hw12]; exact ⟨Blk.setRow (Blk.new _ _ _) _, LL1.out⟩
  have bw12 : Below w11.heap.size w11 w12 := by rw [hw12]; exact below_setRow ((Below.refl _ _).alloc (Nat.le_refl _) _) (Nat.le_refl _) _
  clear hw12
  have D12 := Lib.hid (D11.out.trans (bw12.mono D11.out.size))
  have F12 := Lib.hid bw12
  have T12 := Lib.hid tw12.blk
  obtain ⟨G10, hG10⟩ : ∃ G, w11.heap.size = G := ⟨_, rfl⟩
  rw [hG10] at T12 F12 ⊢
  have HG10 := Lib.hid hG10
  have hs8 : w8.heap.size ≤ G10 := by rw [← HG10.out]; exact D11.out.size
  have hG3 : 3 ≤ G10 := by have := HT3.out.size; have := C8.out.size; omega
  have HTl := Lib.hid (HT3.out.below (C8.out.trans (D12.out.mono C8.out.size)) HT3.out.size)
  clear tw12 bw12 Zb D11 RG11 hG10
  go_wp2_with fail
  go_loopw [11] (fun i wr => ∃ (k : Nat) (v : Value), k ≤ 4 ∧ i = .int .i64 k ∧ Hid (Blk wr G10 30 (tokv (CT k).1 v (CT k).2.2).toArray) ∧ Hid (OwnC wr G10 v (CT k).2.1) ∧ Hid (Below G10 w12 wr)) (fun i _ => 4 - (intOf i).toNat)
  case atStart => exact ⟨0, .slice none 0 0, by omega, rfl, by rw [HC0.out, show tokv (0, ([] : List (Int × Nat)), tag).1 (.slice none 0 0) (0, ([] : List (Int × Nat)), tag).2.2 = L1 from HL1.out]; exact T12.out, by rw [HC0.out]; exact OwnC.nil _ _, Below.refl _ _⟩
  case round =>
    obtain ⟨k, v, hk, rfl, htb, hov, hbl⟩ := hrel
    obtain ⟨gk, ok, lk, ik, nk⟩ := HCH.out k hk
    obtain ⟨A, n, c, rfl, en, nc, -, rd⟩ := hov.out.sl
    obtain ⟨M, hM, lM, oM, iM⟩ := tok_cells (CT k).1 A n c (CT k).2.2 ok.2.2.1
    rw [hM] at htb
    have RGM := Lib.hid (rangeAt_blk htb.out 0 M (fun j u h => by simpa using h))
    have IM := Lib.hid (show (Tryd.prog.info? 30).map (·.size) = some M.length by rw [lM]; exact Tryd.tok_info)
    have LM := Lib.hid lM
    have EN' := Lib.hid en
    have RD := Lib.hid rd
    have LK := Lib.hid lk
    have HTr := Lib.hid (HTl.out.below hbl.out hG3)
    by_cases hk4 : k < 4
    · have qk : (k : Int) < 4 := by omega
      have hnn : n ≤ 8796093022000 := by have := EN'.out; rw [LK.out] at this; simp at this; omega
      have hN := token_narrow (CT k) A n c 3 9 wr RD.out nc hnn ok.2.2.1 ok.2.2.2 (by decide) HTr.out
      rw [nk hk4, hM] at hN
      have HN := Lib.hid hN
      have OKN := Lib.hid (HCH.out (k + 1) (by omega)).2.1
      clear hN gk lk ik nk en rd lM oM iM hM
      go_wp2_with (refine load_mid_want rfl 30 (.tmp 10) rfl G10 0 rfl M _ RGM.out Tryd.underlying30 rfl IM.out ?_)
      refine HN.out.mono ?_
      rintro e w13 ⟨v13, rfl, own13, b13⟩
      obtain ⟨A13, n13, c13, rfl, -, -, -, -⟩ := OwnC.sl own13
      obtain ⟨N, hN, lN, oN, iN⟩ := tok_cells (CT (k + 1)).1 A13 n13 c13 (CT (k + 1)).2.2 OKN.out.2.2.1
      rw [show tokv ((CT (k + 1)), (0 : Nat)).1.1 (.slice A13 n13 c13) ((CT (k + 1)), (0 : Nat)).1.2.2 = N from hN]
      have t13 := htb.out.below b13 htb.out.lt
      have own13' : OwnC w13 wr.heap.size (.slice A13 n13 c13) (CT (k + 1)).2.1 := own13
      have T13 := Lib.hid t13
      have IN := Lib.hid iN
      have LN := Lib.hid lN
      have ON := Lib.hid oN
      have HN' := Lib.hid hN
      have O13 := Lib.hid own13'
      have B13 := Lib.hid (hbl.out.trans (b13.mono (Nat.le_of_lt htb.out.lt)))
      have hGw := htb.out.lt
      clear t13 own13 own13' lN oN iN hN b13
      go_wp2_with (refine wpList_store_row rfl 30 (.tmp 10) (.tmp 69) rfl G10 N.toArray rfl rfl 30 _ T13.out IN.out (by simp [LN.out, LM.out]) (by simpa using ON.out) ?_)
      go_roundw
      case rel =>
        refine ⟨k + 1, .slice A13 n13 c13, by omega, by go_num, ?_, ?_, ?_⟩
        · rw [HN'.out]
          exact T13.out.setRow _
        · exact OwnC.mono (World.ownsRow.kept O13.out (grown_setRow _ _ _) (.inr (own_blk_ne O13.out T13.out (by decide)))) (Nat.le_of_lt hGw)
        · exact below_setRow B13.out (Nat.le_refl _) _
      case measure => simp [intOf]; omega
    · obtain rfl : k = 4 := by omega
      have qk : ¬ ((4 : Nat) : Int) < 4 := by omega
      have hn4 : n = 4 := by rw [en, lk]; rfl
      subst hn4
      have hmany : narRes (CT 4) (3, 0) = (zeroTok, 4) := nar_many _ _ ⟨by decide, by decide⟩ (by rw [lk]; rfl)
      have hN := token_narrow (CT 4) A 4 c 3 0 wr RD.out nc (by omega) ok.2.2.1 ok.2.2.2 (by decide) HTr.out
      rw [hmany, hM] at hN
      have HN := Lib.hid hN
      have OK4 := Lib.hid ok
      have GK4 := Lib.hid gk
      have IK4 := Lib.hid ik
      have HM := Lib.hid hM
      have IM' := Lib.hid iM
      have OM := Lib.hid oM
      have D13 := Lib.hid (D12.out.trans (hbl.out.mono hs8))
      have hGw := htb.out.lt
      have c3 : (3 : Int) ≤ c := by omega
      have NC := Lib.hid nc
      clear hN gk lk ik nk en rd lM oM iM hM hmany ok F12 D12 nc
      obtain ⟨wl, rfl⟩ : ∃ x, x = wr := ⟨_, rfl⟩
      go_wp2_with (refine load_mid_want rfl 30 (.tmp 10) rfl G10 0 rfl M _ RGM.out Tryd.underlying30 rfl IM.out ?_)
      refine HN.out.mono ?_
      rintro e w14 ⟨v14, rfl, own14, b14⟩
      obtain ⟨Ab, nb, cb, rfl, -, -, -, -⟩ := OwnC.sl own14
      obtain ⟨Lb, hLb, lLb, oLb, iLb⟩ := tok_cells zeroTok.1 Ab nb cb zeroTok.2.2 (by simp [zeroTok])
      rw [show tokv (zeroTok, (4 : Nat)).1.1 (.slice Ab nb cb) (zeroTok, (4 : Nat)).1.2.2 = Lb from hLb]
      have OLb := Lib.hid oLb
      have ILb := Lib.hid iLb
      have LLb := Lib.hid lLb
      have E14 := Lib.hid b14
      have Zc := Lib.hid (Blk.new w14 30 #[.int .u32 0, .slice none 0 0, .int .u8 0, .int .u8 0, .int .u8 0, .int .u8 0, .int .u8 0, .int .u8 0, .int .u8 0, .int .u8 0, .int .u8 0, .int .u8 0, .int .u8 0, .int .u8 0, .int .u8 0, .int .u8 0, .int .u8 0, .int .u8 0, .int .u8 0, .int .u8 0, .int .u8 0, .int .u8 0, .int .u8 0, .int .u8 0, .int .u8 0, .int .u8 0, .int .u8 0, .int .u8 0, .int .u8 0, .int .u8 0, .int .u8 0, .int .u8 0, .int .u8 0, .int .u8 0])
      clear oLb iLb lLb hLb own14 b14 HN RGM
      go_upto_region 14 with (refine wpList_store_row rfl 30 (.tmp 12) (.tmp 75) rfl w14.heap.size Lb.toArray rfl rfl 30 _ Zc.out ILb.out (by simp [LLb.out]) (by simpa using OLb.out) ?_)
      obtain ⟨w15, hw15⟩ : ∃ x, x = (w14.alloc (.cells #[.int .u32 0, .slice none 0 0, .int .u8 0, .int .u8 0, .int .u8 0, .int .u8 0, .int .u8 0, .int .u8 0, .int .u8 0, .int .u8 0, .int .u8 0, .int .u8 0, .int .u8 0, .int .u8 0, .int .u8 0, .int .u8 0, .int .u8 0, .int .u8 0, .int .u8 0, .int .u8 0, .int .u8 0, .int .u8 0, .int .u8 0, .int .u8 0, .int .u8 0, .int .u8 0, .int .u8 0, .int .u8 0, .int .u8 0, .int .u8 0, .int .u8 0, .int .u8 0, .int .u8 0, .int .u8 0] 30)).setRow w14.heap.size Lb.toArray := ⟨_, rfl⟩
      rw [← hw15]
      have tw15 : TokAt w15 w14.heap.size Lb := by rw [hw15]; exact ⟨Blk.setRow (Blk.new _ _ _) _, LLb.out⟩
      have bw15 : Below w14.heap.size w14 w15 := by rw [hw15]; exact below_setRow ((Below.refl _ _).alloc (Nat.le_refl _) _) (Nat.le_refl _) _
      clear hw15
      have E15 := Lib.hid (E14.out.trans (bw15.mono E14.out.size))
      have RGM := Lib.hid (rangeAt_blk (htb.out.below E15.out htb.out.lt) 0 M (fun j u h => by simpa using h))
      have Zd := Lib.hid (Blk.new w15 30 #[.int .u32 0, .slice none 0 0, .int .u8 0, .int .u8 0, .int .u8 0, .int .u8 0, .int .u8 0, .int .u8 0, .int .u8 0, .int .u8 0, .int .u8 0, .int .u8 0, .int .u8 0, .int .u8 0, .int .u8 0, .int .u8 0, .int .u8 0, .int .u8 0, .int .u8 0, .int .u8 0, .int .u8 0, .int .u8 0, .int .u8 0, .int .u8 0, .int .u8 0, .int .u8 0, .int .u8 0, .int .u8 0, .int .u8 0, .int .u8 0, .int .u8 0, .int .u8 0, .int .u8 0, .int .u8 0])
      clear tw15 bw15 Zc E14
      go_upto_region 15 with (first
        | (refine load_mid_want rfl 30 (.tmp 10) rfl G10 0 rfl M _ RGM.out Tryd.underlying30 rfl IM.out ?_)
        | (refine wpList_store_row rfl 30 (.tmp 14) (.tmp 77) rfl w15.heap.size M.toArray rfl rfl 30 _ Zd.out IM'.out (by simp [LM.out]) (by simpa using OM.out) ?_))
      obtain ⟨w16, hw16⟩ : ∃ x, x = (w15.alloc (.cells #[.int .u32 0, .slice none 0 0, .int .u8 0, .int .u8 0, .int .u8 0, .int .u8 0, .int .u8 0, .int .u8 0, .int .u8 0, .int .u8 0, .int .u8 0, .int .u8 0, .int .u8 0, .int .u8 0, .int .u8 0, .int .u8 0, .int .u8 0, .int .u8 0, .int .u8 0, .int .u8 0, .int .u8 0, .int .u8 0, .int .u8 0, .int .u8 0, .int .u8 0, .int .u8 0, .int .u8 0, .int .u8 0, .int .u8 0, .int .u8 0, .int .u8 0, .int .u8 0, .int .u8 0, .int .u8 0] 30)).setRow w15.heap.size M.toArray := ⟨_, rfl⟩
      rw [← hw16]
      have t16 : Blk w16 w15.heap.size 30 M.toArray := by rw [hw16]; exact Zd.out.setRow _
      have b16 : Below w15.heap.size w15 w16 := by rw [hw16]; exact below_setRow ((Below.refl _ _).alloc (Nat.le_refl _) _) (Nat.le_refl _) _
      have E16 := Lib.hid (E15.out.trans (b16.mono E15.out.size))
      have m16 := htb.out.below E16.out htb.out.lt
      have k10 := m16.cell 1
      have hM1 : M[1]? = some (.slice A 4 c) := by rw [← HM.out]; rfl
      rw [List.getElem?_toArray, hM1] at k10
      have k14 := t16.cell 1
      have f14 := t16.frozen 1
      rw [List.getElem?_toArray, hM1] at k14
      have hne : G10 ≠ w15.heap.size := by have := E15.out.size; omega
      have T16 := Lib.hid t16
      have S15 := Lib.hid b16.size
      clear hw16 t16 b16 Zd RGM m16 hM1
      go_upto_region 16 with (fail)
      obtain ⟨w17, hw17⟩ : ∃ x, x = w16.setCell ⟨w15.heap.size, 1, none⟩ (.slice A 3 c) := ⟨_, rfl⟩
      rw [← hw17]
      obtain ⟨M3, hM3, lM3, oM3, iM3⟩ := tok_cells (CT 4).1 A 3 c (CT 4).2.2 OK4.out.2.2.1
      have t17 : Blk w17 w15.heap.size 30 M3.toArray := by
        rw [hw17, ← hM3]
        have h := T16.out.set_ 1 (.slice A 3 c)
        rw [← HM.out, show (tokv (CT 4).1 (.slice A 4 c) (CT 4).2.2).toArray.setIfInBounds 1 (.slice A 3 c) = (tokv (CT 4).1 (.slice A 3 c) (CT 4).2.2).toArray by simp [tokv]] at h
        exact h
      have E17 := Lib.hid (show Below wl.heap.size wl w17 by rw [hw17]; exact E16.out.setCell (p := ⟨w15.heap.size, 1, none⟩) E15.out.size _)
      have CC17 := Lib.hid (C8.out.trans ((D13.out.trans (E17.out.mono D13.out.size)).mono C8.out.size))
      have TK17 := Lib.hid t17
      have HM3 := Lib.hid hM3
      have LM3 := Lib.hid lM3
      have RG17 := Lib.hid (T3.out.below CC17.out T3.out.lt).load
      have TB17 := Lib.hid (HT3.out.below CC17.out HT3.out.size)
      clear hw17 t17 hM3 lM3 oM3 iM3 k10 k14 f14 T16 E16 c3
      go_wp2_with (refine load_mid_want rfl 30 (.tmp 1) rfl w2.heap.size 0 rfl L1 _ RG17.out Tryd.underlying30 rfl I1.out ?_)
      refine (HNX.out w17 TB17.out).mono ?_
      rintro e w18 ⟨v18, rfl, own18, b18⟩
      obtain ⟨Ax, nx, cx, rfl, enx, ncx, -, rdx⟩ := OwnC.sl own18
      have hnx : nx = 1 := by rw [enx, HXL.out]; rfl
      subst hnx
      obtain ⟨LX, hLX, lLX, oLX, iLX⟩ := tok_cells x1.1.1 Ax 1 cx x1.1.2.2 XOK.out.2.2.1
      rw [show tokv (x1.1, (0 : Nat)).1.1 (.slice Ax 1 cx) (x1.1, (0 : Nat)).1.2.2 = LX from hLX]
      have OLX := Lib.hid oLX
      have ILX := Lib.hid iLX
      have LLX := Lib.hid lLX
      have HLX := Lib.hid hLX
      have U18 := Lib.hid b18
      have RDX := Lib.hid rdx
      have Ze := Lib.hid (Blk.new w18 30 #[.int .u32 0, .slice none 0 0, .int .u8 0, .int .u8 0, .int .u8 0, .int .u8 0, .int .u8 0, .int .u8 0, .int .u8 0, .int .u8 0, .int .u8 0, .int .u8 0, .int .u8 0, .int .u8 0, .int .u8 0, .int .u8 0, .int .u8 0, .int .u8 0, .int .u8 0, .int .u8 0, .int .u8 0, .int .u8 0, .int .u8 0, .int .u8 0, .int .u8 0, .int .u8 0, .int .u8 0, .int .u8 0, .int .u8 0, .int .u8 0, .int .u8 0, .int .u8 0, .int .u8 0, .int .u8 0])
      clear oLX iLX lLX hLX own18 b18 rdx enx RG17 TB17
      go_upto_region 17 with (refine wpList_store_row rfl 30 (.tmp 15) (.tmp 86) rfl w18.heap.size LX.toArray rfl rfl 30 _ Ze.out ILX.out (by simp [LLX.out]) (by simpa using OLX.out) ?_)
      obtain ⟨w19, hw19⟩ : ∃ x, x = (w18.alloc (.cells #[.int .u32 0, .slice none 0 0, .int .u8 0, .int .u8 0, .int .u8 0, .int .u8 0, .int .u8 0, .int .u8 0, .int .u8 0, .int .u8 0, .int .u8 0, .int .u8 0, .int .u8 0, .int .u8 0, .int .u8 0, .int .u8 0, .int .u8 0, .int .u8 0, .int .u8 0, .int .u8 0, .int .u8 0, .int .u8 0, .int .u8 0, .int .u8 0, .int .u8 0, .int .u8 0, .int .u8 0, .int .u8 0, .int .u8 0, .int .u8 0, .int .u8 0, .int .u8 0, .int .u8 0, .int .u8 0] 30)).setRow w18.heap.size LX.toArray := ⟨_, rfl⟩
      rw [← hw19]
      have tw19 : TokAt w19 w18.heap.size LX := by rw [hw19]; exact ⟨Blk.setRow (Blk.new _ _ _) _, LLX.out⟩
      have bw19 : Below w18.heap.size w18 w19 := by rw [hw19]; exact below_setRow ((Below.refl _ _).alloc (Nat.le_refl _) _) (Nat.le_refl _) _
      clear hw19
      have U19 := Lib.hid (U18.out.trans (bw19.mono U18.out.size))
      have CC19 := Lib.hid (CC17.out.trans (U19.out.mono CC17.out.size))
      have TK19 := Lib.hid tw19
      have RDX19 := Lib.hid (RDX.out.call bw19)
      have RG19 := Lib.hid (T3.out.below CC19.out T3.out.lt).load
      have TB19 := Lib.hid (HT3.out.below CC19.out HT3.out.size)
      clear tw19 bw19 Ze RDX U18
      go_wp2_with (refine load_mid_want rfl 30 (.tmp 1) rfl w2.heap.size 0 rfl L1 _ RG19.out Tryd.underlying30 rfl I1.out ?_)
      refine (HNY.out w19 TB19.out).mono ?_
      rintro e w20 ⟨v20, rfl, own20, b20⟩
      obtain ⟨Ay, ny, cy, rfl, eny, ncy, -, rdy⟩ := OwnC.sl own20
      have hny : ny = 1 := by rw [eny, HYL.out]; rfl
      subst hny
      obtain ⟨LY', hLY, lLY, oLY, iLY⟩ := tok_cells y1.1.1 Ay 1 cy y1.1.2.2 YOK.out.2.2.1
      rw [show tokv (y1.1, (0 : Nat)).1.1 (.slice Ay 1 cy) (y1.1, (0 : Nat)).1.2.2 = LY' from hLY]
      have OLY := Lib.hid oLY
      have ILY := Lib.hid iLY
      have LLY := Lib.hid lLY
      have HLY := Lib.hid hLY
      have V20 := Lib.hid b20
      have RDY := Lib.hid rdy
      have Zf := Lib.hid (Blk.new w20 30 #[.int .u32 0, .slice none 0 0, .int .u8 0, .int .u8 0, .int .u8 0, .int .u8 0, .int .u8 0, .int .u8 0, .int .u8 0, .int .u8 0, .int .u8 0, .int .u8 0, .int .u8 0, .int .u8 0, .int .u8 0, .int .u8 0, .int .u8 0, .int .u8 0, .int .u8 0, .int .u8 0, .int .u8 0, .int .u8 0, .int .u8 0, .int .u8 0, .int .u8 0, .int .u8 0, .int .u8 0, .int .u8 0, .int .u8 0, .int .u8 0, .int .u8 0, .int .u8 0, .int .u8 0, .int .u8 0])
      clear oLY iLY lLY hLY own20 b20 rdy eny RG19 TB19
      go_upto_region 18 with (refine wpList_store_row rfl 30 (.tmp 17) (.tmp 92) rfl w20.heap.size LY'.toArray rfl rfl 30 _ Zf.out ILY.out (by simp [LLY.out]) (by simpa using OLY.out) ?_)
      obtain ⟨w21, hw21⟩ : ∃ x, x = (w20.alloc (.cells #[.int .u32 0, .slice none 0 0, .int .u8 0, .int .u8 0, .int .u8 0, .int .u8 0, .int .u8 0, .int .u8 0, .int .u8 0, .int .u8 0, .int .u8 0, .int .u8 0, .int .u8 0, .int .u8 0, .int .u8 0, .int .u8 0, .int .u8 0, .int .u8 0, .int .u8 0, .int .u8 0, .int .u8 0, .int .u8 0, .int .u8 0, .int .u8 0, .int .u8 0, .int .u8 0, .int .u8 0, .int .u8 0, .int .u8 0, .int .u8 0, .int .u8 0, .int .u8 0, .int .u8 0, .int .u8 0] 30)).setRow w20.heap.size LY'.toArray := ⟨_, rfl⟩
      rw [← hw21]
      have tw21 : TokAt w21 w20.heap.size LY' := by rw [hw21]; exact ⟨Blk.setRow (Blk.new _ _ _) _, LLY.out⟩
      have bw21 : Below w20.heap.size w20 w21 := by rw [hw21]; exact below_setRow ((Below.refl _ _).alloc (Nat.le_refl _) _) (Nat.le_refl _) _
      clear hw21
      have V21 := Lib.hid (V20.out.trans (bw21.mono V20.out.size))
      have CC21 := Lib.hid (CC19.out.trans (V21.out.mono CC19.out.size))
      have U21 := Lib.hid (U19.out.trans (V21.out.mono U19.out.size))
      have E21 := Lib.hid (E17.out.trans (U21.out.mono E17.out.size))
      have D21 := Lib.hid (D13.out.trans (E21.out.mono D13.out.size))
      have RDY21 := Lib.hid (RDY.out.call bw21)
      have RDX21 := Lib.hid (RDX19.out.call V21.out)
      have TK21 := Lib.hid tw21
      have RM21 := Lib.hid (RD.out.call E21.out)
      clear tw21 bw21 Zf RDY V20 RDX19
      have M21 := Lib.hid (rangeAt_blk (htb.out.below E21.out htb.out.lt) 0 M (fun j u h => by simpa using h))
      have hT1 := T3.out.below CC21.out T3.out.lt
      have hM3 := TK17.out.below U21.out TK17.out.lt
      have hMM := htb.out.below E21.out htb.out.lt
      have hXX := TK19.out.below V21.out TK19.out.lt
      have hYY := TK21.out
      have hTB := HT3.out.below CC21.out HT3.out.size
      have hER : RErr w21 w7.heap.size (.iface 101 (.pointer (some ⟨kk, 0, none⟩))) (some (36, 10)) := ER8.out.below D21.out
      have GA := fun w a h => HGX.out (CT 4) A 4 c w a NC.out (by omega) OK4.out h
      simp only [gen_true GK4.out, HM.out] at GA
      have GB := fun w a h => HGX.out ((CT 4).1, List.replicate 3 (3, 9), (CT 4).2.2) A 3 c w a (by have := NC.out; omega) (by omega) ⟨OK4.out.1, fun d hd => by rw [List.mem_replicate] at hd; rw [hd.2]; decide, OK4.out.2.2⟩ h
      simp only [HFALSE.out, HM3.out] at GB
      have HA := fun w a => token_holds 1 1 0 x1.1 Ax 1 cx w a ncx (by omega) XOK.out
      simp only [HLX.out, show holdsB 1 1 0 x1.1.2.1 = false by rw [HXL.out]; decide] at HA
      have HB := fun w a => token_holds 1 1 0 y1.1 Ay 1 cy w a ncy (by omega) YOK.out
      simp only [HLY.out, show holdsB 1 1 0 y1.1.2.1 = false by rw [HYL.out]; decide] at HB
      have F1 := fun w h => HFO.out [] none 0 0 w Reads.none_ (by omega) h
      have F2 := fun B k d w a h => HFO.out [5, 0] B k d w a h
      simp only [List.contains_nil, Bool.not_false, Bool.and_true] at F1
      simp only [show ([5, 0] : List Nat).contains 0 = true from rfl, Bool.not_true, Bool.and_false] at F2
      have LM' := Lib.hid (show (Tryd.prog.info? 30).map (·.size) = some M3.length by rw [LM3.out]; exact Tryd.tok_info)
      have IX := Lib.hid (show (Tryd.prog.info? 30).map (·.size) = some LX.length by rw [LLX.out]; exact Tryd.tok_info)
      have IY := Lib.hid (show (Tryd.prog.info? 30).map (·.size) = some LY'.length by rw [LLY.out]; exact Tryd.tok_info)
      have hBW := B3.out.trans (CC21.out.mono B3.out.size)
      have hr3 := RM21.out.preN (k := 3) (by omega)
      rw [cavv_take, LK.out, show (List.replicate 4 ((3, 9) : Int × Nat)).take 3 = List.replicate 3 (3, 9) from rfl] at hr3
      have HBW := Lib.hid hBW
      have HGA := Lib.hid GA
      have HGB := Lib.hid GB
      have HHA := Lib.hid HA
      have HHB := Lib.hid HB
      have HF1 := Lib.hid F1
      have HF2 := Lib.hid F2
      obtain ⟨S, HS⟩ : ∃ S : World → Prop, Hid (∀ w', S w' = Below w21.heap.size w21 w') := ⟨_, fun _ => rfl⟩
      have E1 : Hid (∀ w', S w' → w'.rangeAt w2.heap.size 0 L1) := fun w' h => by
        rw [HS.out] at h
        exact (hT1.below h hT1.lt).load
      have E2 : Hid (∀ w', S w' → w'.rangeAt G10 0 M) := fun w' h => by
        rw [HS.out] at h
        exact rangeAt_blk (hMM.below h hMM.lt) 0 M (fun j u h => by simpa using h)
      have E3 : Hid (∀ w', S w' → w'.rangeAt w15.heap.size 0 M3) := fun w' h => by
        rw [HS.out] at h
        exact rangeAt_blk (hM3.below h hM3.lt) 0 M3 (fun j u h => by simpa using h)
      have E4 : Hid (∀ w', S w' → w'.rangeAt w18.heap.size 0 LX) := fun w' h => by
        rw [HS.out] at h
        exact (hXX.below h hXX.lt).load
      have E5 : Hid (∀ w', S w' → w'.rangeAt w20.heap.size 0 LY') := fun w' h => by
        rw [HS.out] at h
        exact (hYY.below h hYY.lt).load
      have FT : Hid (∀ w', S w' → Tabs w') := fun w' h => by
        rw [HS.out] at h
        exact hTB.below h hTB.size
      have FR : Hid (∀ w', S w' → Reads w' w'.heap.size 2 A 4 (cavv (CT 4).2.1)) := fun w' h => by
        rw [HS.out] at h
        exact RM21.out.call h
      have FR3 : Hid (∀ w', S w' → Reads w' w'.heap.size 2 A 3 (cavv (List.replicate 3 (3, 9)))) := fun w' h => by
        rw [HS.out] at h
        exact hr3.call h
      have FX : Hid (∀ w', S w' → Reads w' w'.heap.size 2 Ax 1 (cavv x1.1.2.1)) := fun w' h => by
        rw [HS.out] at h
        exact RDX21.out.call h
      have FY : Hid (∀ w', S w' → Reads w' w'.heap.size 2 Ay 1 (cavv y1.1.2.1)) := fun w' h => by
        rw [HS.out] at h
        exact RDY21.out.call h
      have FE : Hid (∀ w', S w' → Calls Tryd.prog 32 #[.iface 101 (.pointer (some ⟨kk, 0, none⟩)), .int .i64 36, .int .i64 10] w' fun e w'' => e = .returned (.bool true) ∧ w'' = w') := fun w' h => by
        rw [HS.out] at h
        exact refused12 (some (36, 10)) (.iface 101 (.pointer (some ⟨kk, 0, none⟩))) w7.heap.size w' (hER.below h) (fun x hx => by injection hx with hx; subst hx; exact (by decide : (10 : Nat) ≠ 0))
      have FS : Hid (∀ w' w'', S w' → Below w'.heap.size w' w'' → S w'') := fun w' w'' h k => by
        rw [HS.out] at h ⊢
        exact h.trans (k.mono h.size)
      have HK := Lib.hid (fun w h => known12 w h)
      have s0 : S w21.drew := (HS.out _).mpr (Below.refl _ w21).drew
      clear hT1 hM3 hMM hXX hYY hTB hER GA GB HA HB F1 F2 hBW hr3 M21 ER8 T3 HT3 HE3 TK17 TK19 TK21 RM21 RDX21 RDY21 CC17 CC19 CC21 C8 D13 E15 E17 U19 U21 V21 E21 D21 RD htb hov hbl HNB HNX HNY HEN HM2 HGX HFO HCH HTr HTl S15
      refine wp_region_fork S 47 [131, 132] [(0, false), (1, true), (2, false), (3, false), (4, false), (5, false), (6, false), (7, false), (8, false), (9, false), (10, false), (12, false), (11, true), (13, true), (14, false), (15, false), (17, false), (16, true), (18, true), (19, false), (20, false), (21, false), (22, false), (23, true), (24, false), (25, false), (26, false), (27, false), (28, true), (29, false), (30, false), (31, false), (33, false), (32, true), (34, true), (35, false), (36, false), (39, false)] 2 (.two 37 (.one 38 .done) 38 (.one 37 .done)) [(40, true), (41, false), (42, false), (43, false), (44, true), (45, false), (46, false)] #[true, true, true, true, true, true, true, true, true, true, true, true, true, true, true, true, true, true, true, true, true, true, true, true, true, true, true, true, true, true, true, true, true, true, true, true, true, false, false, true, false, false, false, false, false, false, false] #[true, true, true, true, true, true, true, true, true, true, true, true, true, true, true, true, true, true, true, true, true, true, true, true, true, true, true, true, true, true, true, true, true, true, true, true, true, true, true, true, false, false, false, false, false, false, false] (by kernel_rfl) rfl (by kernel_rfl) (by kernel_rfl) (by kernel_rfl) (by kernel_rfl) (by kernel_rfl) (fun _ _ d _ _ h => by cases d <;> exact h) s0 ?_
      iterate 1 (refine wpSteps_read rfl rfl ⟨?_, fun w1 hS => ?_, ?_⟩; rotate_left; (focus (go_simp; (try go_bits); try rfl)); simp only [Act.put, List.setIfInBounds_toArray, List.set_cons_zero, List.set_cons_succ])
      refine wpSteps_write rfl rfl ?_
      go_simp
      refine (FE.out _ s0).mono ?_
      rintro e wa ⟨rfl, rfl⟩
      refine ⟨s0, ?_⟩
      try simp only [Act.put, List.setIfInBounds_toArray, List.set_cons_zero, List.set_cons_succ]
      iterate 9 (refine wpSteps_read rfl rfl ⟨?_, fun w1 hS => ?_, ?_⟩; rotate_left; (focus (go_simp; (try go_bits); try rfl)); simp only [Act.put, List.setIfInBounds_toArray, List.set_cons_zero, List.set_cons_succ])
      refine wpSteps_load rfl rfl 30 (.tmp 10) rfl G10 0 rfl M _ E2.out Tryd.underlying30 rfl IM.out ?_
      try simp only [Act.put, List.setIfInBounds_toArray, List.set_cons_zero, List.set_cons_succ]
      refine wpSteps_write rfl rfl ?_
      go_simp
      refine (HR2.out _).mono ?_
      rintro e wb ⟨rfl, hbwb⟩
      have sb : S wb := FS.out _ _ s0 hbwb
      refine ⟨sb, ?_⟩
      try simp only [Act.put, List.setIfInBounds_toArray, List.set_cons_zero, List.set_cons_succ]
      refine wpSteps_write rfl rfl ?_
      go_simp
      refine (HGA.out _ (FR.out _ sb) (FT.out _ sb)).mono ?_
      rintro e wd ⟨rfl, hbwd⟩
      have sd : S wd := FS.out _ _ sb hbwd
      refine ⟨sd, ?_⟩
      try simp only [Act.put, List.setIfInBounds_toArray, List.set_cons_zero, List.set_cons_succ]
      iterate 2 (refine wpSteps_read rfl rfl ⟨?_, fun w1 hS => ?_, ?_⟩; rotate_left; (focus (go_simp; (try go_bits); try rfl)); simp only [Act.put, List.setIfInBounds_toArray, List.set_cons_zero, List.set_cons_succ])
      refine wpSteps_load rfl rfl 30 (.tmp 14) rfl w15.heap.size 0 rfl M3 _ E3.out Tryd.underlying30 rfl LM'.out ?_
      try simp only [Act.put, List.setIfInBounds_toArray, List.set_cons_zero, List.set_cons_succ]
      refine wpSteps_write rfl rfl ?_
      go_simp
      refine (HR2.out _).mono ?_
      rintro e we ⟨rfl, hbwe⟩
      have se : S we := FS.out _ _ sd hbwe
      refine ⟨se, ?_⟩
      try simp only [Act.put, List.setIfInBounds_toArray, List.set_cons_zero, List.set_cons_succ]
      refine wpSteps_write rfl rfl ?_
      go_simp
      refine (HGB.out _ (FR3.out _ se) (FT.out _ se)).mono ?_
      rintro e wf ⟨rfl, hbwf⟩
      have sf : S wf := FS.out _ _ se hbwf
      refine ⟨sf, ?_⟩
      try simp only [Act.put, List.setIfInBounds_toArray, List.set_cons_zero, List.set_cons_succ]
      iterate 3 (refine wpSteps_read rfl rfl ⟨?_, fun w1 hS => ?_, ?_⟩; rotate_left; (focus (go_simp; (try go_bits); try rfl)); simp only [Act.put, List.setIfInBounds_toArray, List.set_cons_zero, List.set_cons_succ])
      refine wpSteps_load rfl rfl 30 (.tmp 15) rfl w18.heap.size 0 rfl LX _ E4.out Tryd.underlying30 rfl IX.out ?_
      try simp only [Act.put, List.setIfInBounds_toArray, List.set_cons_zero, List.set_cons_succ]
      refine wpSteps_write rfl rfl ?_
      go_simp
      refine (HHA.out _ (FX.out _ sf)).mono ?_
      rintro e wg ⟨rfl, hbwg⟩
      have sg : S wg := FS.out _ _ sf hbwg
      refine ⟨sg, ?_⟩
      try simp only [Act.put, List.setIfInBounds_toArray, List.set_cons_zero, List.set_cons_succ]
      iterate 3 (refine wpSteps_read rfl rfl ⟨?_, fun w1 hS => ?_, ?_⟩; rotate_left; (focus (go_simp; (try go_bits); try rfl)); simp only [Act.put, List.setIfInBounds_toArray, List.set_cons_zero, List.set_cons_succ])
      refine wpSteps_load rfl rfl 30 (.tmp 17) rfl w20.heap.size 0 rfl LY' _ E5.out Tryd.underlying30 rfl IY.out ?_
      try simp only [Act.put, List.setIfInBounds_toArray, List.set_cons_zero, List.set_cons_succ]
      refine wpSteps_write rfl rfl ?_
      go_simp
      refine (HHB.out _ (FY.out _ sg)).mono ?_
      rintro e wh ⟨rfl, hbwh⟩
      have sh : S wh := FS.out _ _ sg hbwh
      refine ⟨sh, ?_⟩
      try simp only [Act.put, List.setIfInBounds_toArray, List.set_cons_zero, List.set_cons_succ]
      iterate 3 (refine wpSteps_read rfl rfl ⟨?_, fun w1 hS => ?_, ?_⟩; rotate_left; (focus (go_simp; (try go_bits); try rfl)); simp only [Act.put, List.setIfInBounds_toArray, List.set_cons_zero, List.set_cons_succ])
      refine wpSteps_load rfl rfl 30 (.tmp 1) rfl w2.heap.size 0 rfl L1 _ E1.out Tryd.underlying30 rfl I1.out ?_
      try simp only [Act.put, List.setIfInBounds_toArray, List.set_cons_zero, List.set_cons_succ]
      refine wpSteps_write rfl rfl ?_
      go_simp
      refine (HR2.out _).mono ?_
      rintro e wi ⟨rfl, hbwi⟩
      have si : S wi := FS.out _ _ sh hbwi
      refine ⟨si, ?_⟩
      try simp only [Act.put, List.setIfInBounds_toArray, List.set_cons_zero, List.set_cons_succ]
      refine wpSteps_write rfl rfl ?_
      go_simp
      refine (HF1.out _ (FT.out _ si)).mono ?_
      rintro e wj ⟨rfl, hbwj⟩
      have sj : S wj := FS.out _ _ si hbwj
      refine ⟨sj, ?_⟩
      try simp only [Act.put, List.setIfInBounds_toArray, List.set_cons_zero, List.set_cons_succ]
      iterate 2 (refine wpSteps_read rfl rfl ⟨?_, fun w1 hS => ?_, ?_⟩; rotate_left; (focus (go_simp; (try go_bits); try rfl)); simp only [Act.put, List.setIfInBounds_toArray, List.set_cons_zero, List.set_cons_succ])
      refine wpSteps_load rfl rfl 30 (.tmp 1) rfl w2.heap.size 0 rfl L1 _ E1.out Tryd.underlying30 rfl I1.out ?_
      try simp only [Act.put, List.setIfInBounds_toArray, List.set_cons_zero, List.set_cons_succ]
      refine wpSteps_nil ?_
      refine ⟨fun vs w' => ∃ g, vs = [.agg K.toArray, .slice (some ⟨g, 0, none⟩) 2 2] ∧ Reads w' w'.heap.size 1 (some ⟨g, 0, none⟩) 2 (u32v [5, 0]) ∧ S w', ?_, ?_⟩
      · refine wpTree_two rfl rfl rfl rfl ?_ ?_
        · go_simp
          refine (HR2.out _).mono ?_
          rintro e wk ⟨rfl, hbk⟩
          have sk := FS.out _ _ sj hbk
          refine ⟨sk, ?_⟩
          try simp only [Act.put, List.setIfInBounds_toArray, List.set_cons_zero, List.set_cons_succ]
          refine wpTree_one rfl rfl ?_
          go_simp
          have sk' := FS.out _ _ sk ((Below.refl wk.heap.size wk).alloc (Nat.le_refl _) (.cells #[.int .u32 5, .int .u32 0] 22))
          refine ⟨sk', ?_⟩
          refine wpTree_done ⟨[.agg K.toArray, .slice (some ⟨wk.heap.size, 0, none⟩) 2 2], rfl, wk.heap.size, rfl, ?_, sk'⟩
          have := Reads.new wk 22 [.int .u32 5, .int .u32 0] 1 2 rfl
          rw [alloc_size]
          exact this
        · go_simp
          obtain ⟨w3', hw3⟩ : ∃ x, x = wj.alloc (.cells #[.int .u32 5, .int .u32 0] 22) := ⟨_, rfl⟩
          have b3 : Below wj.heap.size wj w3' := by rw [hw3]; exact (Below.refl _ _).alloc (Nat.le_refl _) _
          have r3 : Reads w3' w3'.heap.size 1 (some ⟨wj.heap.size, 0, none⟩) 2 (u32v [5, 0]) := by
            have := Reads.new wj 22 [.int .u32 5, .int .u32 0] 1 2 rfl
            rw [hw3, alloc_size]
            exact this
          have s3 := FS.out _ _ sj b3
          rw [← hw3]
          have B3' := Lib.hid b3
          have R3' := Lib.hid r3
          clear hw3 b3 r3
          refine ⟨s3, ?_⟩
          try simp only [Act.put, List.setIfInBounds_toArray, List.set_cons_zero, List.set_cons_succ]
          refine wpTree_one rfl rfl ?_
          go_simp
          refine (HR2.out _).mono ?_
          rintro e wk ⟨rfl, hbk⟩
          have sk := FS.out _ _ s3 hbk
          refine ⟨sk, ?_⟩
          refine wpTree_done ⟨[.agg K.toArray, .slice (some ⟨wj.heap.size, 0, none⟩) 2 2], rfl, wj.heap.size, rfl, R3'.out.call hbk, sk⟩
      · rintro vs wk - ⟨g, rfl, rk, sk⟩
        simp only [puts, Act.put, List.setIfInBounds_toArray, List.set_cons_zero, List.set_cons_succ]
        refine wpSeq_write rfl rfl ?_
        go_simp
        refine (HF2.out (some ⟨g, 0, none⟩) 2 2 _ rk (by omega) (FT.out _ sk)).mono ?_
        rintro e wl2 ⟨rfl, hbwl2⟩
        have sl : S wl2 := FS.out _ _ sk hbwl2
        refine ⟨sl, ?_⟩
        try simp only [Act.put, List.setIfInBounds_toArray, List.set_cons_zero, List.set_cons_succ]
        iterate 3 (refine wpSeq_read rfl rfl ⟨?_, fun w1 hS => ?_, ?_⟩; rotate_left; (focus (go_simp; (try go_bits); try rfl)); simp only [Act.put, List.setIfInBounds_toArray, List.set_cons_zero, List.set_cons_succ])
        refine wpSeq_write rfl rfl ?_
        go_simp
        refine (HK.out _ (FT.out _ sl)).mono ?_
        rintro e wm ⟨rfl, hbwm⟩
        have sm : S wm := FS.out _ _ sl hbwm
        refine ⟨sm, ?_⟩
        try simp only [Act.put, List.setIfInBounds_toArray, List.set_cons_zero, List.set_cons_succ]
        iterate 2 (refine wpSeq_read rfl rfl ⟨?_, fun w1 hS => ?_, ?_⟩; rotate_left; (focus (go_simp; (try go_bits); try rfl)); simp only [Act.put, List.setIfInBounds_toArray, List.set_cons_zero, List.set_cons_succ])
        refine wpSeq_nil ?_
        go_wp2_with fail
        go_ret
        rw [HS.out] at sm
        exact ⟨rfl, HBW.out.trans (sm.mono HBW.out.size)⟩

end Go.Proofs.YtamhggndcegndaaDoor
