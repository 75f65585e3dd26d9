/-
  deponentlaw12.TokenCodes: true.
-/
import Derived.Test.YtamhggndcegndaaDoorKn12
import Derived.Test.YtamhggndcegndaaDoorTokLaw
import Derived.Test.YtamhggndcegndaaDoorRoomy
namespace Go.Proofs.YtamhggndcegndaaDoor
open Go.RowKit
set_option linter.unusedVariables false
set_option maxRecDepth 100000

theorem tok_cells (id : Nat) (A : Option Addr) (n c : Nat) (tag : List Nat) (h : tag.length = 32) :
    ∃ L, tokv id (.slice A n c) tag = L ∧ L.length = 34 ∧ (∀ u ∈ L, u.oneCell' = true) ∧ (Tryd.prog.info? 30).map (·.size) = some L.toArray.size := by
  refine ⟨_, rfl, tokv_len _ _ _ h, tokv_one _ _ rfl _, ?_⟩
  rw [List.size_toArray, tokv_len _ _ _ h]
  exact Tryd.tok_info

theorem RErr.below {w w' : World} {B : Nat} {v : Value} {E : Option (Nat × Nat)} (h : RErr w B v E) (hb : Below w.heap.size w w') : RErr w' B v E := by
  cases E with
  | none => exact h
  | some x =>
    obtain ⟨k, e, hB, hk⟩ := h
    exact ⟨k, e, hB, hk.below hb hk.lt⟩

theorem tokRes_lt (id : Nat) (l : List (Int × Nat)) (tag : List Nat) (h : ∀ x ∈ tag, x < 256) : ∀ x ∈ (tokRes id l tag).2, x < 256 := by
  unfold tokRes
  split
  · intro x hx
    simp at hx
  · split
    · intro x hx
      simp only [List.mem_append] at hx
      rcases hx with ((hx | hx) | hx) | hx
      · exact be_lt _ _ x hx
      · exact be_lt _ _ x hx
      · obtain ⟨c, _, hc⟩ := List.mem_flatMap.1 hx
        rcases List.mem_append.1 hc with hc | hc
        · exact be_lt _ _ x hc
        · exact be_lt _ _ x hc
      · exact h x hx
    · intro x hx
      simp at hx

-- END BY HAND
set_option maxHeartbeats 8000000 in
theorem codes_walk (id : Nat) (l : List (Int × Nat)) (A : Option Addr) (c : Nat) (tag : List Nat) (B : Option Addr) (k d : Nat) (bs0 : List Nat) (w : World) (hT : Tabs w)
    (hE : w.cell? ⟨0, 0, none⟩ = some (.iface 152 (.agg #[.pointer (some ⟨3, 61, none⟩)])))
    (hr : Reads w w.heap.size 2 A l.length (cavv l)) (hlc : l.length ≤ c) (hc : c ≤ maxLen) (hid : id < 4294967296) (hln : ∀ x ∈ l, x.2 < 4294967296) (ht : tag.length = 32) (htb : ∀ b ∈ tag, b < 256)
    (hrb : Reads w w.heap.size 1 B k (byv bs0)) (hkd : k ≤ d) (hd : d ≤ maxLen) (hb0 : ∀ x ∈ bs0, x < 256) :
    Calls Tryd.prog 7 #[.agg (tokv id (.slice A l.length c) tag).toArray, .slice B k d] w fun e w' => e = .returned (.bool true) ∧ Below w.heap.size w w' := by
  obtain ⟨n, hn⟩ : ∃ n, min k 200 = n := ⟨_, rfl⟩
  obtain ⟨bs, hbs⟩ : ∃ bs, bs0.take n = bs := ⟨_, rfl⟩
  have hrn := hrb.pre (k := n) (by omega)
  rw [show (byv bs0).take n = byv bs by rw [← hbs]; simp [byv]] at hrn
  have hbn : ∀ x ∈ bs, x < 256 := fun x hx => hb0 x (by rw [← hbs] at hx; exact List.mem_of_mem_take hx)
  have hnd : n ≤ d := by omega
  have hn200 : n ≤ 200 := by omega
  obtain ⟨L, hL⟩ : ∃ L, tokv id (.slice A l.length c) tag = L := ⟨_, rfl⟩
  have lL : L.length = 34 := by rw [← hL]; exact tokv_len _ _ _ ht
  obtain ⟨W0, hW0⟩ : ∃ x, x = w.alloc (.cells L.toArray 30) := ⟨_, rfl⟩
  have x0 : Blk W0 w.heap.size 30 L.toArray := by rw [hW0]; exact Blk.new _ _ _
  have b0 : Below w.heap.size w W0 := by rw [hW0]; exact below_new (Below.refl _ _) _
  have EN := fun A' w h => token_encode id l A' c tag w h hlc hc hid hln ht
  have RN := fun A' w h => ref12_encode id l A' c tag w h hlc hc hid hln ht
  have EN := EN A
  have RN := RN A
  rw [hL] at EN RN ⊢
  have HW0 := Lib.hid hW0
  have X0 := Lib.hid x0
  have B0 := Lib.hid b0
  have HR := Lib.hid (hr.call b0)
  have HRB := Lib.hid (hrn.call b0)
  have HT := Lib.hid (hT.below b0 hT.size)
  have HE := Lib.hid ((b0.cell (p := ⟨0, 0, none⟩) (World.block_lt_of_cell? _ _ hE)).trans hE)
  have HBS := Lib.hid hbn
  have LL := Lib.hid lL
  have IL := Lib.hid (show (Tryd.prog.info? 30).map (·.size) = some L.length by rw [lL]; exact Tryd.tok_info)
  have HEN := Lib.hid EN
  have HRN := Lib.hid RN
  have HL := Lib.hid hL
  have HLN := Lib.hid hln
  have HTB := Lib.hid htb
  have HBK := Lib.hid hbs
  clear hW0 x0 b0 hr hrb hrn hT hE hbn lL EN RN hL hln htb hb0 hbs
  go_enter Tryd.func7, Tryd.ntmps7
  go_upto_region 1 with (fail)
  rw [← HW0.out]
  go_upto_if 21 with (fail)
  go_cut [1] (fun s1 wx => s1 = .slice B n d ∧ wx = W0)
  case first =>
    by_cases hk : 200 < k
    · have q : (200 : Int) < k := by omega
      obtain rfl : n = 200 := by omega
      go_wp2
      go_meet
      case rel => exact ⟨rfl, rfl⟩
    · have q : ¬ (200 : Int) < k := by omega
      obtain rfl : k = n := by omega
      go_wp2
      go_meet
      case rel => exact ⟨rfl, rfl⟩
  case rest =>
    obtain ⟨rfl, rfl⟩ := hcut
    obtain ⟨⟨cd, y⟩, hres⟩ : ∃ x, tokRes id l tag = x := ⟨_, rfl⟩
    rw [hres] at HEN HRN
    have HRES := Lib.hid hres
    have hyl : y.length ≤ 60 := by have := tokRes_len id l tag ht; rw [hres] at this; exact this
    have RG0 := Lib.hid (rangeAt_blk X0.out 0 L (fun j u h => by simpa using h))
    clear hres
    go_wp2_with (refine load_mid_want rfl 30 (.tmp 2) rfl w.heap.size 0 rfl L _ RG0.out Tryd.underlying30 rfl IL.out ?_)
    refine (HEN.out wc HR.out).mono ?_
    rintro e w1 ⟨v1, rfl, own1, b1⟩
    obtain ⟨A1, n1, c1, rfl, nc1, -, rd1⟩ := (OwnB.of own1).sl
    have ln1 := reads_bytes_le rd1
    have RG1 := Lib.hid (rangeAt_blk (X0.out.below b1 X0.out.lt) 0 L (fun j u h => by simpa using h))
    have RD1 := Lib.hid rd1
    have HR1 := Lib.hid (HR.out.call b1)
    have B1 := Lib.hid b1
    clear own1 rd1 b1 RG0
    go_wp2_with (refine load_mid_want rfl 30 (.tmp 2) rfl w.heap.size 0 rfl L _ RG1.out Tryd.underlying30 rfl IL.out ?_)
    refine (HRN.out w1 HR1.out).mono ?_
    rintro e w2 ⟨v2, rfl, own2, b2⟩
    obtain ⟨A2, n2, c2, rfl, nc2, -, rd2⟩ := own2.sl
    have q1 := run_str (c := c1) (RD1.out.call b2)
    have q2 := run_str (c := c2) rd2
    obtain ⟨st, hst⟩ : ∃ st, bstr y = st := ⟨_, rfl⟩
    rw [hst] at q1 q2
    have B02 := Lib.hid (B1.out.trans (b2.mono B1.out.size))
    have RD2 := Lib.hid (RD1.out.call b2)
    clear own2 rd2 hst RG1
    go_upto_if 45 with (fail)
    have ycd : cd = 0 → tokDec y = (none, (id, l, tag)) ∧ l.length ≤ 4 := fun h0 => by
      have h := tokDec_res id l tag hid HLN.out ht (by rw [HRES.out]; exact h0)
      rw [HRES.out] at h
      exact h
    have yb : ∀ x ∈ y, x < 256 := by
      have h := tokRes_lt id l tag HTB.out
      rw [HRES.out] at h
      exact h
    have YCD := Lib.hid ycd
    have YB := Lib.hid yb
    have HX2 := Lib.hid (X0.out.below B02.out X0.out.lt)
    have HE2 := Lib.hid ((B02.out.cell (p := ⟨0, 0, none⟩) (World.block_lt_of_cell? _ _ HE.out)).trans HE.out)
    have HR2 := Lib.hid (HR.out.call B02.out)
    clear ycd yb q1 q2 HR1 RD1
    go_cut [6, 8] (fun s6 s8 wx => Hid (Below w2.heap.size w2 wx))
    case first =>
      by_cases h0 : cd = 0
      · obtain ⟨hdec, hl4⟩ := YCD.out h0
        have h0i : (cd : Int) = 0 := by omega
        have hDE := token_decode y A1 n1 c1 w2 RD2.out (by omega) YB.out HE2.out
        rw [hdec] at hDE
        have HDE := Lib.hid hDE
        clear hDE hdec h0
        go_wp2_with fail
        refine HDE.out.mono ?_
        rintro e w3 ⟨v3, r3, rfl, own3, er3, b3⟩
        have er3' : r3 = .nilIface := er3
        subst er3'
        obtain ⟨A3, n3, c3, rfl, en3, nc3, -, rd3⟩ := OwnC.sl own3
        obtain ⟨M, hM, lM, oM, iM⟩ := tok_cells id A3 n3 c3 tag ht
        have en3' : n3 = l.length := en3
        have SM := fun w a b => same_token id A3 A n3 c3 c l tag w ht HTB.out a b (by omega)
        rw [en3'] at SM hM
        rw [HL.out, hM] at SM
        have hX3 := HX2.out.below b3 HX2.out.lt
        have HSM := Lib.hid SM
        have LM := Lib.hid lM
        have OM := Lib.hid oM
        have IM := Lib.hid iM
        have B3 := Lib.hid b3
        have RD3 := Lib.hid rd3
        have X3 := Lib.hid hX3
        have HM := Lib.hid hM
        have EN3 := Lib.hid en3'
        have HR3 := Lib.hid (HR2.out.call b3)
        have Z3 := Lib.hid (Blk.new w3 30 #[.int .u32 0, .slice none 0 0, .int .u8 0, .int .u8 0, .int .u8 0, .int .u8 0, .int .u8 0, .int .u8 0, .int .u8 0, .int .u8 0, .int .u8 0, .int .u8 0, .int .u8 0, .int .u8 0, .int .u8 0, .int .u8 0, .int .u8 0, .int .u8 0, .int .u8 0, .int .u8 0, .int .u8 0, .int .u8 0, .int .u8 0, .int .u8 0, .int .u8 0, .int .u8 0, .int .u8 0, .int .u8 0, .int .u8 0, .int .u8 0, .int .u8 0, .int .u8 0, .int .u8 0, .int .u8 0])
        clear SM lM oM iM b3 rd3 hX3 own3 en3 hM
        have tM : Hid (tokv id (.slice A3 n3 c3) tag = M) := by
          show _ = _
          rw [EN3.out]
          exact HM.out
        rw [show tokv ((none : Option (Nat × Nat)), (id, l, tag)).2.1 (.slice A3 n3 c3) ((none : Option (Nat × Nat)), (id, l, tag)).2.2.2 = M from tM.out]
        go_upto_region 9 with (refine wpList_store_row rfl 30 (.tmp 9) (.tmp 49) rfl w3.heap.size M.toArray rfl rfl 30 _ Z3.out IM.out (by simp [LM.out]) (by simpa using OM.out) ?_)
        obtain ⟨w4, h4⟩ : ∃ x, x = (w3.alloc (.cells #[.int .u32 0, .slice none 0 0, .int .u8 0, .int .u8 0, .int .u8 0, .int .u8 0, .int .u8 0, .int .u8 0, .int .u8 0, .int .u8 0, .int .u8 0, .int .u8 0, .int .u8 0, .int .u8 0, .int .u8 0, .int .u8 0, .int .u8 0, .int .u8 0, .int .u8 0, .int .u8 0, .int .u8 0, .int .u8 0, .int .u8 0, .int .u8 0, .int .u8 0, .int .u8 0, .int .u8 0, .int .u8 0, .int .u8 0, .int .u8 0, .int .u8 0, .int .u8 0, .int .u8 0, .int .u8 0] 30)).setRow w3.heap.size M.toArray := ⟨_, rfl⟩
        rw [← h4]
        have t4 : Blk w4 w3.heap.size 30 M.toArray := by rw [h4]; exact Z3.out.setRow _
        have b34 : Below w3.heap.size w3 w4 := by rw [h4]; exact below_setRow ((Below.refl _ _).alloc (Nat.le_refl _) _) (Nat.le_refl _) _
        have x4 := X3.out.below b34 X3.out.lt
        have HS4 := Lib.hid (HSM.out w4 (by have := RD3.out.call b34; rwa [EN3.out] at this) (HR3.out.call b34))
        have RGA := Lib.hid (rangeAt_blk t4 0 M (fun j u h => by simpa using h))
        have RGB := Lib.hid (rangeAt_blk x4 0 L (fun j u h => by simpa using h))
        have IM' := Lib.hid (show (Tryd.prog.info? 30).map (·.size) = some M.length by rw [LM.out]; exact Tryd.tok_info)
        have B24 := Lib.hid (B3.out.trans (b34.mono B3.out.size))
        clear h4 t4 b34 x4 Z3
        go_wp2_with (first
          | (refine load_mid_want rfl 30 (.tmp 9) rfl w3.heap.size 0 rfl M _ RGA.out Tryd.underlying30 rfl IM'.out ?_)
          | (refine load_mid_want rfl 30 (.tmp 2) rfl w.heap.size 0 rfl L _ RGB.out Tryd.underlying30 rfl IL.out ?_))
        refine HS4.out.mono ?_
        rintro e w5 ⟨rfl, b5⟩
        have B25 := Lib.hid (B24.out.trans (b5.mono B24.out.size))
        clear b5
        go_wp2
        go_meet
        case rel => exact B25.out
      · have h0i : ¬ (cd : Int) = 0 := by omega
        go_wp2
        go_meet
        case rel => exact Below.refl _ _
    case rest =>
      obtain ⟨wq, rfl⟩ : ∃ x, x = wc := ⟨_, rfl⟩
      have B0q := Lib.hid (B02.out.trans (hcut.out.mono B02.out.size))
      obtain ⟨⟨E, T⟩, hET⟩ : ∃ x, tokDec bs = x := ⟨_, rfl⟩
      have hwhy := tokDec_why bs
      have hok := tokDec_Ok bs HBS.out
      rw [hET] at hwhy hok
      dsimp only at hwhy hok
      have HET := Lib.hid hET
      have HOK := Lib.hid hok
      have HWHY := Lib.hid hwhy
      have HRBq := Lib.hid (HRB.out.call B0q.out)
      have HTq := Lib.hid (HT.out.below B0q.out HT.out.size)
      have HEq := Lib.hid ((B0q.out.cell (p := ⟨0, 0, none⟩) (World.block_lt_of_cell? _ _ HE.out)).trans HE.out)
      have HBq := Lib.hid (B0.out.trans (B0q.out.mono B0.out.size))
      have hRO := roomy bs B n d 165 wq HRBq.out (by omega)
      obtain ⟨N, hN⟩ : ∃ N, n + 80 = N := ⟨_, rfl⟩
      rw [hN] at hRO
      have hnN : (n : Int) ≤ N := by omega
      have HN := Lib.hid hN
      have HRO := Lib.hid hRO
      clear hET hok hwhy hRO hN HX2 HE2 HR2 YB YCD HRES RD2 B02 B1 HR HRB HT HE B0 X0 HRN HEN HL HLN HTB
      go_wp2_with fail
      refine HRO.out.mono ?_
      rintro e w6 ⟨rfl, g6, b6⟩
      have l6 : bs.length = n := reads_bytes_le HRBq.out
      have rd6 : Reads w6 w6.heap.size 1 (some ⟨wq.heap.size, 0, none⟩) n (byv bs) := reads_mid (o := 0) g6 (by rw [byv_length]; exact l6) (fun j u hu => by
        rw [Nat.zero_add, byv_append, List.getElem?_append_left (List.getElem?_eq_some_iff.1 hu).1]
        exact hu)
      have hDE := token_decode bs (some ⟨wq.heap.size, 0, none⟩) n N w6 rd6 (by omega) HBS.out ((b6.cell (p := ⟨0, 0, none⟩) (World.block_lt_of_cell? _ _ HEq.out)).trans HEq.out)
      rw [HET.out] at hDE
      have HDE := Lib.hid hDE
      have G6 := Lib.hid g6
      have B6 := Lib.hid b6
      clear hDE g6 b6 rd6
      go_wp2_with fail
      refine HDE.out.mono ?_
      rintro e w7 ⟨v7, r7, rfl, own7, er7, b7⟩
      dsimp only at own7 er7 ⊢
      obtain ⟨A7, n7, c7, rfl, en7, nc7, mc7, rd7⟩ := OwnC.sl own7
      obtain ⟨P, hP, lP, oP, iP⟩ := tok_cells T.1 A7 n7 c7 T.2.2 HOK.out.1.2.2.1
      rw [hP]
      have HP := Lib.hid hP
      have LP := Lib.hid lP
      have OP := Lib.hid oP
      have IP := Lib.hid iP
      have B7 := Lib.hid (B6.out.trans (b7.mono B6.out.size))
      have G7 := Lib.hid (G6.out.below b7 G6.out.lt)
      have RD7 := Lib.hid rd7
      have ER7 := Lib.hid er7
      have ER := er7
      have Z7 := Lib.hid (Blk.new w7 30 #[.int .u32 0, .slice none 0 0, .int .u8 0, .int .u8 0, .int .u8 0, .int .u8 0, .int .u8 0, .int .u8 0, .int .u8 0, .int .u8 0, .int .u8 0, .int .u8 0, .int .u8 0, .int .u8 0, .int .u8 0, .int .u8 0, .int .u8 0, .int .u8 0, .int .u8 0, .int .u8 0, .int .u8 0, .int .u8 0, .int .u8 0, .int .u8 0, .int .u8 0, .int .u8 0, .int .u8 0, .int .u8 0, .int .u8 0, .int .u8 0, .int .u8 0, .int .u8 0, .int .u8 0, .int .u8 0])
      have E7 := Lib.hid en7
      clear hP lP oP iP b7 rd7 er7 own7 G6 B6 en7
      go_upto_region 13 with (refine wpList_store_row rfl 30 (.tmp 12) (.tmp 67) rfl w7.heap.size P.toArray rfl rfl 30 _ Z7.out IP.out (by simp [LP.out]) (by simpa using OP.out) ?_)
      obtain ⟨w8, h8⟩ : ∃ x, x = (w7.alloc (.cells #[.int .u32 0, .slice none 0 0, .int .u8 0, .int .u8 0, .int .u8 0, .int .u8 0, .int .u8 0, .int .u8 0, .int .u8 0, .int .u8 0, .int .u8 0, .int .u8 0, .int .u8 0, .int .u8 0, .int .u8 0, .int .u8 0, .int .u8 0, .int .u8 0, .int .u8 0, .int .u8 0, .int .u8 0, .int .u8 0, .int .u8 0, .int .u8 0, .int .u8 0, .int .u8 0, .int .u8 0, .int .u8 0, .int .u8 0, .int .u8 0, .int .u8 0, .int .u8 0, .int .u8 0, .int .u8 0] 30)).setRow w7.heap.size P.toArray := ⟨_, rfl⟩
      rw [← h8]
      have t8 : Blk w8 w7.heap.size 30 P.toArray := by rw [h8]; exact Z7.out.setRow _
      have b78 : Below w7.heap.size w7 w8 := by rw [h8]; exact below_setRow ((Below.refl _ _).alloc (Nat.le_refl _) _) (Nat.le_refl _) _
      have B8 := Lib.hid (B7.out.trans (b78.mono B7.out.size))
      have T8 := Lib.hid t8
      have G8 := Lib.hid (G7.out.below b78 G7.out.lt)
      have RD8 := Lib.hid (RD7.out.call b78)
      have ER8 := Lib.hid (ER7.out.below b78)
      have hRD := ref12_decode bs B n d w8 (HRBq.out.call B8.out) hnd (by omega) HBS.out
      rw [HET.out] at hRD
      have HRD := Lib.hid hRD
      clear h8 t8 b78 hRD Z7 G7 RD7 ER7 B7
      go_wp2_with fail
      refine HRD.out.mono ?_
      rintro e w9 ⟨v9, rfl, own9, b9⟩
      dsimp only at own9 ⊢
      obtain ⟨A9, n9, c9, rfl, en9, nc9, mc9, rd9⟩ := OwnC.sl own9
      obtain rfl : n9 = n7 := en9.trans E7.out.symm
      obtain ⟨Q, hQ, lQ, oQ, iQ⟩ := tok_cells T.1 A9 n9 c9 T.2.2 HOK.out.1.2.2.1
      rw [hQ]
      have HQ := Lib.hid hQ
      have LQ := Lib.hid lQ
      have OQ := Lib.hid oQ
      have IQ := Lib.hid iQ
      have B9 := Lib.hid (B8.out.trans (b9.mono B8.out.size))
      have T9 := Lib.hid (T8.out.below b9 T8.out.lt)
      have G9 := Lib.hid (G8.out.below b9 G8.out.lt)
      have RD9 := Lib.hid (RD8.out.call b9)
      have ER9 := Lib.hid (ER8.out.below b9)
      have RQ9 := Lib.hid rd9
      have Z9 := Lib.hid (Blk.new w9 30 #[.int .u32 0, .slice none 0 0, .int .u8 0, .int .u8 0, .int .u8 0, .int .u8 0, .int .u8 0, .int .u8 0, .int .u8 0, .int .u8 0, .int .u8 0, .int .u8 0, .int .u8 0, .int .u8 0, .int .u8 0, .int .u8 0, .int .u8 0, .int .u8 0, .int .u8 0, .int .u8 0, .int .u8 0, .int .u8 0, .int .u8 0, .int .u8 0, .int .u8 0, .int .u8 0, .int .u8 0, .int .u8 0, .int .u8 0, .int .u8 0, .int .u8 0, .int .u8 0, .int .u8 0, .int .u8 0])
      clear hQ lQ oQ iQ b9 rd9 own9 T8 G8 RD8 ER8 B8 en9
      go_upto_region 14 with (refine wpList_store_row rfl 30 (.tmp 14) (.tmp 72) rfl w9.heap.size Q.toArray rfl rfl 30 _ Z9.out IQ.out (by simp [LQ.out]) (by simpa using OQ.out) ?_)
      obtain ⟨wt, ht⟩ : ∃ x, x = (w9.alloc (.cells #[.int .u32 0, .slice none 0 0, .int .u8 0, .int .u8 0, .int .u8 0, .int .u8 0, .int .u8 0, .int .u8 0, .int .u8 0, .int .u8 0, .int .u8 0, .int .u8 0, .int .u8 0, .int .u8 0, .int .u8 0, .int .u8 0, .int .u8 0, .int .u8 0, .int .u8 0, .int .u8 0, .int .u8 0, .int .u8 0, .int .u8 0, .int .u8 0, .int .u8 0, .int .u8 0, .int .u8 0, .int .u8 0, .int .u8 0, .int .u8 0, .int .u8 0, .int .u8 0, .int .u8 0, .int .u8 0] 30)).setRow w9.heap.size Q.toArray := ⟨_, rfl⟩
      rw [← ht]
      have t10 : Blk wt w9.heap.size 30 Q.toArray := by rw [ht]; exact Z9.out.setRow _
      have b910 : Below w9.heap.size w9 wt := by rw [ht]; exact below_setRow ((Below.refl _ _).alloc (Nat.le_refl _) _) (Nat.le_refl _) _
      have BT := Lib.hid (B9.out.trans (b910.mono B9.out.size))
      have PT := Lib.hid (T9.out.below b910 T9.out.lt)
      have QT := Lib.hid t10
      have GT := Lib.hid (G9.out.below b910 G9.out.lt)
      have RDT := Lib.hid (RD9.out.call b910)
      have RQT := Lib.hid (RQ9.out.call b910)
      have ERT := Lib.hid (ER9.out.below b910)
      have HRF := Lib.hid (refused12 E r7 w6.heap.size wt ERT.out HWHY.out)
      have IP' := Lib.hid (show (Tryd.prog.info? 30).map (·.size) = some P.length by rw [LP.out]; exact Tryd.tok_info)
      have IQ' := Lib.hid (show (Tryd.prog.info? 30).map (·.size) = some Q.length by rw [LQ.out]; exact Tryd.tok_info)
      have RGP := Lib.hid (rangeAt_blk PT.out 0 P (fun j u h => by simpa using h))
      have RGQ := Lib.hid (rangeAt_blk QT.out 0 Q (fun j u h => by simpa using h))
      have hSM := same_token T.1 A7 A9 n9 c7 c9 T.2.1 T.2.2 wt HOK.out.1.2.2.1 HOK.out.1.2.2.2 RDT.out RQT.out (by have := E7.out; have := HOK.out.2; omega)
      rw [HP.out, HQ.out] at hSM
      have HSM := Lib.hid hSM
      clear ht t10 b910 Z9 T9 G9 RD9 RQ9 ER9 B9 hSM
      go_wp2_with fail
      refine HRF.out.mono ?_
      rintro e wu ⟨rfl, rfl⟩
      go_wp2_with (first
        | (refine load_mid_want rfl 30 (.tmp 12) rfl w7.heap.size 0 rfl P _ RGP.out Tryd.underlying30 rfl IP'.out ?_)
        | (refine load_mid_want rfl 30 (.tmp 14) rfl w9.heap.size 0 rfl Q _ RGQ.out Tryd.underlying30 rfl IQ'.out ?_))
      refine HSM.out.mono ?_
      rintro e w11 ⟨rfl, b11⟩
      have G11 := GT.out.below b11 GT.out.lt
      have B11 := Lib.hid (BT.out.trans (b11.mono BT.out.size))
      have hIN := intact bs B n d wq.heap.size N 165 w11 (HRBq.out.call B11.out) G11 (by omega) (by have := HN.out; omega)
      rw [HN.out] at hIN
      have HIN := Lib.hid hIN
      have P11 := Lib.hid (PT.out.below b11 PT.out.lt)
      have RD11 := Lib.hid (RDT.out.call b11)
      clear hIN b11 G11 PT QT GT RDT RQT ERT HSM RGP RGQ BT
      go_wp2_with fail
      refine HIN.out.mono ?_
      rintro e w12 ⟨rfl, b12⟩
      have B12 := Lib.hid (B11.out.trans (b12.mono B11.out.size))
      have P12 := Lib.hid (P11.out.below b12 P11.out.lt)
      have RD12 := Lib.hid (RD11.out.call b12)
      have HT12 := Lib.hid (HTq.out.below B12.out HTq.out.size)
      clear b12 P11 RD11 B11 HIN
      cases E with
      | some x =>
        obtain ⟨hh, rfl, -, -⟩ := ER
        go_wp2_with fail
        refine (known12 _ HT12.out).mono ?_
        rintro e w13 ⟨rfl, b13⟩
        have BF := Lib.hid (HBq.out.trans ((B12.out.trans (b13.mono B12.out.size)).mono HBq.out.size))
        clear b13
        go_wp2_with fail
        go_ret
        exact ⟨rfl, BF.out⟩
      | none =>
        have er0 : r7 = .nilIface := ER
        subst er0
        obtain ⟨id', l', tag', e1, -, h42, -, -, -, e2⟩ := tokDec_ok bs HBS.out (by rw [HET.out])
        have hTe : T = (id', l', tag') := by
          have h := e1
          rw [HET.out] at h
          injection h
        have hres : tokRes T.1 T.2.1 T.2.2 = (0, bs) := by rw [hTe]; exact e2
        have E7' : n9 = T.2.1.length := E7.out
        have hEn := token_encode T.1 T.2.1 A7 c7 T.2.2 w12 (by have := RD12.out; rw [E7'] at this; exact this) (by rw [← E7']; exact nc7) mc7 HOK.out.1.1 HOK.out.1.2.1 HOK.out.1.2.2.1
        rw [hres, ← E7', HP.out] at hEn
        have HEn := Lib.hid hEn
        have RGP := Lib.hid (rangeAt_blk P12.out 0 P (fun j u h => by simpa using h))
        clear hEn e1 e2 hTe hres h42 E7' ER
        go_wp2_with (refine load_mid_want rfl 30 (.tmp 12) rfl w7.heap.size 0 rfl P _ RGP.out Tryd.underlying30 rfl IP'.out ?_)
        refine HEn.out.mono ?_
        rintro e w13 ⟨v13, rfl, own13, b13⟩
        obtain ⟨A13, n13, c13, rfl, nc13, -, rd13⟩ := (OwnB.of own13).sl
        have q1 := run_str (c := c13) rd13
        have B13 := Lib.hid (B12.out.trans (b13.mono B12.out.size))
        have q2 := run_str (c := d) (HRBq.out.call B13.out)
        obtain ⟨st2, hst2⟩ : ∃ st, bstr bs = st := ⟨_, rfl⟩
        rw [hst2] at q1 q2
        have HT13 := Lib.hid (HT12.out.below b13 HT12.out.size)
        clear own13 rd13 b13 hst2
        go_wp2_with fail
        refine (known12 _ HT13.out).mono ?_
        rintro e w14 ⟨rfl, b14⟩
        have BF := Lib.hid (HBq.out.trans ((B13.out.trans (b14.mono B13.out.size)).mono HBq.out.size))
        clear b14
        go_wp2_with fail
        go_ret
        exact ⟨rfl, BF.out⟩

end Go.Proofs.YtamhggndcegndaaDoor
