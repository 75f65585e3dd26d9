/-
  deponentlaw18.RequestReads: true.
-/
import Derived.Test.YtbkdccamimakoaaDoorRReq
import Derived.Test.YtbkdccamimakoaaDoorRoomy
import Derived.Test.YtbkdccamimakoaaDoorSame
import Derived.Test.YtbkdccamimakoaaDoorKnown18
namespace Go.Proofs.YtbkdccamimakoaaDoor
open Go.RowKit
set_option linter.unusedVariables false
set_option maxRecDepth 100000

theorem reqGo_fine (bs : List Nat) (hb : ∀ x ∈ bs, x < 256) : ∀ (l : List Fld) (s : RSt) (R : Req), R.Fine → (reqGo bs l s R).2.Fine
  | [], s, R, h => h
  | f :: l, s, R, h => by
    unfold reqGo
    split
    · exact reqGo_fine bs hb l _ _ ⟨h.tag, h.tagb, h.tid, h.cavn, h.cavl, rBytes_lt bs s 256 hb, rBytes_len bs s 256 hb⟩
    · exact reqGo_fine bs hb l _ _ (h.put _ _)

theorem reqDec_fine (bs : List Nat) (hb : ∀ x ∈ bs, x < 256) : (reqDec bs).2.Fine := by
  have hT := tokDec_Ok (rBytes bs (0, none) 77).2 (rBytes_lt bs (0, none) 77 hb)
  have h0 : ∀ k : Int, (req0 (reqT bs) k).Fine := fun k => ⟨hT.1.2.2.1, hT.1.2.2.2, hT.1.1, hT.1.2.1, hT.2, by simp [req0], by simp [req0]⟩
  have hz : zeroReq.Fine := ⟨by simp [zeroReq, req0, zeroTok], by intro x hx; simp [zeroReq, req0, zeroTok] at hx; omega, by decide, fun c hc => (nomatch hc), by decide, fun c hc => (nomatch hc), by decide⟩
  have hS : (reqDecS bs).2.Fine := by
    unfold reqDecS
    split
    · exact h0 _
    · exact reqGo_fine bs hb _ _ _ (h0 _)
  unfold reqDec
  split
  · exact hS
  · exact hz

theorem RErr.below {w w' : World} {B : Nat} {v : Value} {E : Option (Nat × Nat)} (h : RErr w B v E) (hb : Below w.heap.size w w') : RErr w' B v E := by
  cases E with
  | none => exact h
  | some x =>
    obtain ⟨k, e, hB, hk⟩ := h
    exact ⟨k, e, hB, hk.below hb hk.lt⟩

-- END BY HAND
set_option maxHeartbeats 8000000 in
theorem reads_walk (B : Option Addr) (k d : Nat) (bs0 : List Nat) (w : World)
    (hE : w.cell? ⟨0, 0, none⟩ = some (.iface 148 (.agg #[.pointer (some ⟨1, 34, none⟩)])))
    (hrb : Reads w w.heap.size 1 B k (byv bs0)) (hkd : k ≤ d) (hd : d ≤ maxLen) (hb0 : ∀ x ∈ bs0, x < 256) :
    Calls Tryd.prog 3 #[.slice B k d] w fun e w' => e = .returned (.bool true) ∧ Below w.heap.size w w' := by
  obtain ⟨n, hn⟩ : ∃ n, min k 600 = n := ⟨_, rfl⟩
  obtain ⟨bs, hbs⟩ : ∃ bs, bs0.take n = bs := ⟨_, rfl⟩
  have hrn := hrb.pre (k := n) (by omega)
  rw [show (byv bs0).take n = byv bs by rw [← hbs]; simp [byv]] at hrn
  have hbn : ∀ x ∈ bs, x < 256 := fun x hx => hb0 x (by rw [← hbs] at hx; exact List.mem_of_mem_take hx)
  have hnd : n ≤ d := by omega
  have hn6 : n ≤ 600 := by omega
  have hRO := roomy bs B n d 165 w hrn (by omega)
  obtain ⟨N, hN⟩ : ∃ N, n + 80 = N := ⟨_, rfl⟩
  rw [hN] at hRO
  have hnN : (n : Int) ≤ N := by omega
  have hwhy := reqDec_why bs
  have hfine := reqDec_fine bs hbn
  obtain ⟨⟨E, R⟩, hER⟩ : ∃ x, reqDec bs = x := ⟨_, rfl⟩
  rw [hER] at hwhy hfine
  dsimp only at hwhy hfine
  have HFINE := Lib.hid hfine
  have HN := Lib.hid hN
  have HRO := Lib.hid hRO
  have HRB := Lib.hid hrn
  have HBS := Lib.hid hbn
  have HE := Lib.hid hE
  have HER := Lib.hid hER
  have HWHY := Lib.hid hwhy
  clear hN hRO hrn hrb hbn hE hER hwhy hfine hb0 hbs
  go_enter Tryd.func3, Tryd.ntmps3
  go_upto_if 11 with (fail)
  go_cut [0] (fun s0 wx => s0 = .slice B n d ∧ wx = w)
  case first =>
    by_cases hk : 600 < k
    · have q : (600 : Int) < k := by omega
      obtain rfl : n = 600 := by omega
      go_wp2
      go_meet
      case rel => exact ⟨rfl, rfl⟩
    · have q : ¬ (600 : Int) < k := by omega
      obtain rfl : k = n := by omega
      go_wp2
      go_meet
      case rel => exact ⟨rfl, rfl⟩
  case rest =>
    obtain ⟨rfl, rfl⟩ := hcut
    go_wp2_with fail
    refine (HRO.out).mono ?_
    rintro e w6 ⟨rfl, g6, b6⟩
    have l6 : bs.length = n := reads_bytes_le HRB.out
    have rd6 : Reads w6 w6.heap.size 1 (some ⟨wc.heap.size, 0, none⟩) n (byv bs) := reads_mid (o := 0) g6 (by rw [byv_length]; exact l6) (fun j u hu => by
      rw [Nat.zero_add, byv_append, List.getElem?_append_left (List.getElem?_eq_some_iff.1 hu).1]
      exact hu)
    have hDE := request_decode bs (some ⟨wc.heap.size, 0, none⟩) n N w6 rd6 (by omega) HBS.out ((b6.cell (p := ⟨0, 0, none⟩) (World.block_lt_of_cell? _ _ HE.out)).trans HE.out)
    rw [HER.out] at hDE
    dsimp only at hDE
    have HDE := Lib.hid hDE
    have G6 := Lib.hid g6
    have B6 := Lib.hid b6
    clear hDE g6 b6 rd6
    go_wp2_with fail
    refine HDE.out.mono ?_
    rintro e w7 ⟨cav7, lv7, r7, rfl, oc7, ol7, er7, b7⟩
    obtain ⟨A7, n7, c7, rfl, en7, nc7, -, rdc7⟩ := OwnC.sl oc7
    obtain ⟨Al7, m7, cl7, rfl, ml7, -, rdl7⟩ := OwnB.sl ol7
    have em7 : R.leaf.length = m7 := reads_bytes_le rdl7
    have lP := req_size R (.slice A7 n7 c7) (.slice Al7 m7 cl7) HFINE.out.tag
    have oP := reqv_one R (.slice A7 n7 c7) (.slice Al7 m7 cl7) rfl rfl
    obtain ⟨P, hP⟩ : ∃ P, reqv R (.slice A7 n7 c7) (.slice Al7 m7 cl7) = P := ⟨_, rfl⟩
    rw [hP] at lP oP ⊢
    have IP := Lib.hid (show (Tryd.prog.info? 32).map (·.size) = some P.toArray.size by rw [List.size_toArray, lP]; exact Tryd.req_info)
    have IP' := Lib.hid (show (Tryd.prog.info? 32).map (·.size) = some P.length by rw [lP]; exact Tryd.req_info)
    have LP := Lib.hid lP
    have OP := Lib.hid oP
    have HP := Lib.hid hP
    have B7 := Lib.hid (B6.out.trans (b7.mono B6.out.size))
    have G7 := Lib.hid (G6.out.below b7 G6.out.lt)
    have RC7 := Lib.hid rdc7
    have RL7 := Lib.hid rdl7
    have ER7 := Lib.hid er7
    have Z7 := Lib.hid (Blk.new w7 32 #[.int .i64 0, .int .u32 0, .slice none 0 0, .int .u8 0, .int .u8 0, .int .u8 0, .int .u8 0, .int .u8 0, .int .u8 0, .int .u8 0, .int .u8 0, .int .u8 0, .int .u8 0, .int .u8 0, .int .u8 0, .int .u8 0, .int .u8 0, .int .u8 0, .int .u8 0, .int .u8 0, .int .u8 0, .int .u8 0, .int .u8 0, .int .u8 0, .int .u8 0, .int .u8 0, .int .u8 0, .int .u8 0, .int .u8 0, .int .u8 0, .int .u8 0, .int .u8 0, .int .u8 0, .int .u8 0, .int .u8 0, .int .i64 0, .int .i64 0, .int .i64 0, .int .i64 0, .int .i64 0, .int .u32 0, .int .u64 0, .int .u64 0, .int .u32 0, .int .u32 0, .int .u32 0, .int .u64 0, .slice none 0 0])
    have E7 := Lib.hid en7
    have M7 := Lib.hid em7
    clear lP oP hP b7 rdc7 rdl7 er7 oc7 ol7 G6 B6 en7 em7
    go_upto_region 5 with (refine wpList_store_row rfl 32 (.tmp 4) (.tmp 22) rfl w7.heap.size P.toArray rfl rfl 32 _ Z7.out IP.out (by simp [LP.out]) (by simpa using OP.out) ?_)
    obtain ⟨w8, h8⟩ : ∃ x, x = (w7.alloc (.cells #[.int .i64 0, .int .u32 0, .slice none 0 0, .int .u8 0, .int .u8 0, .int .u8 0, .int .u8 0, .int .u8 0, .int .u8 0, .int .u8 0, .int .u8 0, .int .u8 0, .int .u8 0, .int .u8 0, .int .u8 0, .int .u8 0, .int .u8 0, .int .u8 0, .int .u8 0, .int .u8 0, .int .u8 0, .int .u8 0, .int .u8 0, .int .u8 0, .int .u8 0, .int .u8 0, .int .u8 0, .int .u8 0, .int .u8 0, .int .u8 0, .int .u8 0, .int .u8 0, .int .u8 0, .int .u8 0, .int .u8 0, .int .i64 0, .int .i64 0, .int .i64 0, .int .i64 0, .int .i64 0, .int .u32 0, .int .u64 0, .int .u64 0, .int .u32 0, .int .u32 0, .int .u32 0, .int .u64 0, .slice none 0 0] 32)).setRow w7.heap.size P.toArray := ⟨_, rfl⟩
    rw [← h8]
    have t8 : Blk w8 w7.heap.size 32 P.toArray := by rw [h8]; exact Z7.out.setRow _
    have b78 : Below w7.heap.size w7 w8 := by rw [h8]; exact below_setRow ((Below.refl _ _).alloc (Nat.le_refl _) _) (Nat.le_refl _) _
    have B8 := Lib.hid (B7.out.trans (b78.mono B7.out.size))
    have T8 := Lib.hid t8
    have G8 := Lib.hid (G7.out.below b78 G7.out.lt)
    have RC8 := Lib.hid (RC7.out.call b78)
    have RL8 := Lib.hid (RL7.out.call b78)
    have ER8 := Lib.hid (ER7.out.below b78)
    have hRD := ref18_decode bs B n d w8 (HRB.out.call B8.out) hnd (by omega) HBS.out
    rw [HER.out] at hRD
    dsimp only at hRD
    have HRD := Lib.hid hRD
    clear h8 t8 b78 hRD Z7 G7 RC7 RL7 ER7 B7
    go_wp2_with fail
    refine HRD.out.mono ?_
    rintro e w9 ⟨cav9, lv9, rfl, oc9, ol9, b9⟩
    obtain ⟨A9, n9, c9, rfl, en9, nc9, -, rdc9⟩ := OwnC.sl oc9
    obtain ⟨Al9, m9, cl9, rfl, ml9, -, rdl9⟩ := OwnB.sl ol9
    have em9 : R.leaf.length = m9 := reads_bytes_le rdl9
    obtain rfl : n9 = n7 := en9.trans E7.out.symm
    obtain rfl : m9 = m7 := em9.symm.trans M7.out
    have lQ := req_size R (.slice A9 n9 c9) (.slice Al9 m9 cl9) HFINE.out.tag
    have oQ := reqv_one R (.slice A9 n9 c9) (.slice Al9 m9 cl9) rfl rfl
    obtain ⟨Q, hQ⟩ : ∃ Q, reqv R (.slice A9 n9 c9) (.slice Al9 m9 cl9) = Q := ⟨_, rfl⟩
    rw [hQ] at lQ oQ ⊢
    have IQ := Lib.hid (show (Tryd.prog.info? 32).map (·.size) = some Q.toArray.size by rw [List.size_toArray, lQ]; exact Tryd.req_info)
    have IQ' := Lib.hid (show (Tryd.prog.info? 32).map (·.size) = some Q.length by rw [lQ]; exact Tryd.req_info)
    have LQ := Lib.hid lQ
    have OQ := Lib.hid oQ
    have HQ := Lib.hid hQ
    have B9 := Lib.hid (B8.out.trans (b9.mono B8.out.size))
    have T9 := Lib.hid (T8.out.below b9 T8.out.lt)
    have G9 := Lib.hid (G8.out.below b9 G8.out.lt)
    have RC9 := Lib.hid (RC8.out.call b9)
    have RL9 := Lib.hid (RL8.out.call b9)
    have ER9 := Lib.hid (ER8.out.below b9)
    have SC9 := Lib.hid rdc9
    have SL9 := Lib.hid rdl9
    have Z9 := Lib.hid (Blk.new w9 32 #[.int .i64 0, .int .u32 0, .slice none 0 0, .int .u8 0, .int .u8 0, .int .u8 0, .int .u8 0, .int .u8 0, .int .u8 0, .int .u8 0, .int .u8 0, .int .u8 0, .int .u8 0, .int .u8 0, .int .u8 0, .int .u8 0, .int .u8 0, .int .u8 0, .int .u8 0, .int .u8 0, .int .u8 0, .int .u8 0, .int .u8 0, .int .u8 0, .int .u8 0, .int .u8 0, .int .u8 0, .int .u8 0, .int .u8 0, .int .u8 0, .int .u8 0, .int .u8 0, .int .u8 0, .int .u8 0, .int .u8 0, .int .i64 0, .int .i64 0, .int .i64 0, .int .i64 0, .int .i64 0, .int .u32 0, .int .u64 0, .int .u64 0, .int .u32 0, .int .u32 0, .int .u32 0, .int .u64 0, .slice none 0 0])
    clear lQ oQ hQ b9 rdc9 rdl9 oc9 ol9 T8 G8 RC8 RL8 ER8 B8 en9 em9
    go_upto_region 6 with (refine wpList_store_row rfl 32 (.tmp 6) (.tmp 27) rfl w9.heap.size Q.toArray rfl rfl 32 _ Z9.out IQ.out (by simp [LQ.out]) (by simpa using OQ.out) ?_)
    obtain ⟨wt, ht⟩ : ∃ x, x = (w9.alloc (.cells #[.int .i64 0, .int .u32 0, .slice none 0 0, .int .u8 0, .int .u8 0, .int .u8 0, .int .u8 0, .int .u8 0, .int .u8 0, .int .u8 0, .int .u8 0, .int .u8 0, .int .u8 0, .int .u8 0, .int .u8 0, .int .u8 0, .int .u8 0, .int .u8 0, .int .u8 0, .int .u8 0, .int .u8 0, .int .u8 0, .int .u8 0, .int .u8 0, .int .u8 0, .int .u8 0, .int .u8 0, .int .u8 0, .int .u8 0, .int .u8 0, .int .u8 0, .int .u8 0, .int .u8 0, .int .u8 0, .int .u8 0, .int .i64 0, .int .i64 0, .int .i64 0, .int .i64 0, .int .i64 0, .int .u32 0, .int .u64 0, .int .u64 0, .int .u32 0, .int .u32 0, .int .u32 0, .int .u64 0, .slice none 0 0] 32)).setRow w9.heap.size Q.toArray := ⟨_, rfl⟩
    rw [← ht]
    have t10 : Blk wt w9.heap.size 32 Q.toArray := by rw [ht]; exact Z9.out.setRow _
    have b910 : Below w9.heap.size w9 wt := by rw [ht]; exact below_setRow ((Below.refl _ _).alloc (Nat.le_refl _) _) (Nat.le_refl _) _
    have BT := Lib.hid (B9.out.trans (b910.mono B9.out.size))
    have PT := Lib.hid (T9.out.below b910 T9.out.lt)
    have QT := Lib.hid t10
    have GT := Lib.hid (G9.out.below b910 G9.out.lt)
    have HRF := Lib.hid (refused18 E r7 w6.heap.size wt (ER9.out.below b910) HWHY.out)
    have RGP := Lib.hid (rangeAt_blk PT.out 0 P (fun j u h => by simpa using h))
    have RGQ := Lib.hid (rangeAt_blk QT.out 0 Q (fun j u h => by simpa using h))
    have hSM := same_request R A7 A9 n9 c7 c9 Al7 Al9 m9 cl7 cl9 wt HFINE.out.tag HFINE.out.tagb (RC9.out.call b910) (SC9.out.call b910) (by have := E7.out; have := HFINE.out.cavl; omega) (RL9.out.call b910) (SL9.out.call b910) (by have := M7.out; have := HFINE.out.leafl; omega)
    rw [HP.out, HQ.out] at hSM
    have HSM := Lib.hid hSM
    clear ht t10 b910 Z9 T9 G9 RC9 RL9 ER9 SC9 SL9 B9 hSM
    go_wp2_with fail
    refine HRF.out.mono ?_
    rintro e wu ⟨rfl, rfl⟩
    go_wp2_with (first
      | (refine load_mid_want rfl 32 (.tmp 4) rfl w7.heap.size 0 rfl P _ RGP.out Tryd.underlying32 rfl IP'.out ?_)
      | (refine load_mid_want rfl 32 (.tmp 6) rfl w9.heap.size 0 rfl Q _ RGQ.out Tryd.underlying32 rfl IQ'.out ?_))
    refine HSM.out.mono ?_
    rintro e w11 ⟨rfl, b11⟩
    have G11 := GT.out.below b11 GT.out.lt
    have B11 := Lib.hid (BT.out.trans (b11.mono BT.out.size))
    have hIN := intact bs B n d wc.heap.size N 165 w11 (HRB.out.call B11.out) G11 (by omega) (by have := HN.out; omega)
    rw [HN.out] at hIN
    have HIN := Lib.hid hIN
    clear hIN b11 G11 PT QT GT HSM RGP RGQ BT
    go_wp2_with fail
    refine HIN.out.mono ?_
    rintro e w12 ⟨rfl, b12⟩
    have B12 := Lib.hid (B11.out.trans (b12.mono B11.out.size))
    clear b12 B11 HIN
    go_wp2_with fail
    refine (known18 _).mono ?_
    rintro e w13 ⟨rfl, b13⟩
    have BF := Lib.hid (B12.out.trans (b13.mono B12.out.size))
    clear b13
    go_wp2_with fail
    go_ret
    exact ⟨rfl, BF.out⟩

end Go.Proofs.YtbkdccamimakoaaDoor
