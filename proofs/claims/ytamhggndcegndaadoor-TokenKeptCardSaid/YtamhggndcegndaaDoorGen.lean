/-
  token.Genuine.
-/
import Derived.Test.YtamhggndcegndaaDoorNar
namespace Go.Proofs.YtamhggndcegndaaDoor
open Go.RowKit
set_option linter.unusedVariables false
set_option maxRecDepth 100000

/-- A token narrowed by one caveat after the other, if it can be. -/
def genGo (x : Tok) : List (Int × Nat) → Option Tok
  | [] => some x
  | c :: l => if (narRes x c).2 = 0 then genGo (narRes x c).1 l else none

theorem genGo_append (x : Tok) (a b : List (Int × Nat)) : genGo x (a ++ b) = (genGo x a).bind fun y => genGo y b := by
  induction a generalizing x with
  | nil => rfl
  | cons c a ih =>
    simp only [List.cons_append, genGo]
    split
    · exact ih _
    · rfl

def minted (root : List Nat) (id : Nat) : Tok := (id, [], mintTag root id)

def genuineB (root : List Nat) (t : Tok) : Bool :=
  match genGo (minted root t.1) t.2.1 with
  | none => false
  | some x => x.2.2 == t.2.2

theorem genGo_step {x0 x : Tok} {l : List (Int × Nat)} {k : Nat} {c : Int × Nat} (h : genGo x0 (l.take k) = some x) (hc : l[k]? = some c) (h0 : (narRes x c).2 = 0) : genGo x0 (l.take (k + 1)) = some (narRes x c).1 := by
  rw [List.take_add_one, hc, genGo_append, h]
  simp [genGo, h0]

theorem genGo_none {x0 x : Tok} {l : List (Int × Nat)} {k : Nat} {c : Int × Nat} (h : genGo x0 (l.take k) = some x) (hc : l[k]? = some c) (h0 : (narRes x c).2 ≠ 0) : genGo x0 l = none := by
  obtain ⟨hk, e⟩ := List.getElem?_eq_some_iff.1 hc
  rw [← List.take_append_drop k l, genGo_append, h, List.drop_eq_getElem_cons hk, e]
  simp [genGo, h0]

theorem minted_ok (root : List Nat) (id : Nat) (h : id < 4294967296) : (minted root id).Ok := ⟨h, fun c hc => (nomatch hc), mac_length _ _, mac_lt _ _⟩

theorem narRes_ok (t : Tok) (c : Int × Nat) (ht : t.Ok) (hc : c.2 < 4294967296) : (narRes t c).1.Ok := by
  have hz : zeroTok.Ok := ⟨by decide, fun c hc => (nomatch hc), by simp [zeroTok], by intro x hx; simp [zeroTok] at hx; omega⟩
  unfold narRes
  split
  · split
    · refine ⟨ht.1, ?_, mac_length _ _, mac_lt _ _⟩
      intro d hd
      simp only [List.mem_append, List.mem_singleton] at hd
      rcases hd with hd | rfl
      · exact ht.2.1 d hd
      · exact hc
    · exact hz
  · exact hz

theorem narRes_len (t : Tok) (c : Int × Nat) : (narRes t c).1.2.1.length ≤ t.2.1.length + 1 := by
  unfold narRes
  split
  · split
    · simp
    · simp [zeroTok]
  · simp [zeroTok]

-- END BY HAND
set_option maxHeartbeats 4000000 in
theorem token_genuine (root : List Nat) (t : Tok) (A : Option Addr) (n c : Nat) (w : World) (hrl : root.length = 32) (hrb : ∀ x ∈ root, x < 256) (hr : Reads w w.heap.size 2 A n (cavv t.2.1)) (hnc : n ≤ c) (hn : n ≤ 8796093022000) (ht : t.Ok) (hT : Tabs w) :
    Calls Tryd.prog 14 #[.agg (byv root).toArray, .agg (tokv t.1 (.slice A n c) t.2.2).toArray] w fun e w' => e = .returned (.bool (genuineB root t)) ∧ Below w.heap.size w w' := by
  have hl : t.2.1.length = n := by have := hr.1; rw [cavv_length] at this; omega
  have hlen := tokv_len t.1 (.slice A n c) t.2.2 ht.2.2.1
  have d0 : (tokv t.1 (.slice A n c) t.2.2)[0]? = some (.int .u32 (t.1 : Int)) := rfl
  have d1 : (tokv t.1 (.slice A n c) t.2.2)[1]? = some (.slice A n c) := rfl
  have d2 : ∀ j u, (byv t.2.2)[j]? = some u → (tokv t.1 (.slice A n c) t.2.2)[2 + j]? = some u := fun j u h => by
    unfold tokv
    rw [show 2 + j = j + 1 + 1 by omega, List.getElem?_cons_succ, List.getElem?_cons_succ]
    exact h
  obtain ⟨D, hD⟩ : ∃ D, tokv t.1 (.slice A n c) t.2.2 = D := ⟨_, rfl⟩
  have lR : (byv root).length = 32 := by rw [byv_length]; exact hrl
  have M0 := fun w h => token_mint root t.1 w hrl hrb ht.1 h
  obtain ⟨V, hV⟩ : ∃ V, byv root = V := ⟨_, rfl⟩
  rw [hD] at hlen d0 d1 d2 ⊢
  rw [hV] at lR ⊢
  simp only [hV] at M0
  obtain ⟨W0, hW0⟩ : ∃ x, x = (w.alloc (.cells V.toArray 28)).alloc (.cells D.toArray 30) := ⟨_, rfl⟩
  have k0 : Blk W0 w.heap.size 28 V.toArray := by rw [hW0]; exact (Blk.new w _ _).alloc _
  have t0 : Blk W0 (w.heap.size + 1) 30 D.toArray := by
    have h := Blk.new (w.alloc (.cells V.toArray 28)) 30 D.toArray
    rw [alloc_size] at h
    rw [hW0]
    exact h
  have b0 : Below w.heap.size w W0 := by rw [hW0]; exact below_new (below_new (Below.refl _ _) _) _
  have lW : w.heap.size + 1 < W0.heap.size := t0.lt
  have c0 := t0.cell 0
  rw [List.getElem?_toArray, d0] at c0
  have HRG := Lib.hid (rangeAt_blk k0 0 V (fun j u h => by simpa using h))
  have HI := Lib.hid (show (Tryd.prog.info? 28).map (·.size) = some V.length by rw [lR]; exact Tryd.dig_info)
  have HW0 := Lib.hid hW0
  have HLEN := Lib.hid hlen
  have D1 := Lib.hid d1
  have D2 := Lib.hid d2
  have K0 := Lib.hid k0
  have T0 := Lib.hid t0
  have B0 := Lib.hid b0
  have HR := Lib.hid hr
  have HT := Lib.hid hT
  have Hl := Lib.hid hl
  have HM := Lib.hid (M0 W0 (HT.out.below b0 HT.out.size))
  have HtO := Lib.hid ht
  have HLR := Lib.hid lR
  clear hW0 hlen d1 d2 k0 t0 b0 hr hT hl M0 d0 hD hV ht lR
  go_enter Tryd.func14, Tryd.ntmps14
  go_upto_region 1 with (fail)
  rw [← HW0.out]
  go_wp2_with (refine load_mid_want rfl 28 (.tmp 2) rfl w.heap.size 0 rfl V _ HRG.out Tryd.underlying28 rfl HI.out ?_)
  refine HM.out.mono ?_
  rintro e w1 ⟨rfl, b1⟩
  obtain ⟨L0, hL0⟩ : ∃ L, tokv t.1 (.slice none 0 0) (mintTag root t.1) = L := ⟨_, rfl⟩
  have lL0 : L0.length = 34 := by rw [← hL0]; exact tokv_len _ _ _ (mac_length _ _)
  have oL0 : ∀ v ∈ L0, v.oneCell' = true := by rw [← hL0]; exact tokv_one _ _ rfl _
  rw [hL0]
  have z1 := Blk.new w1 30 #[.int .u32 0, .slice none 0 0, .int .u8 0, .int .u8 0, .int .u8 0, .int .u8 0, .int .u8 0, .int .u8 0, .int .u8 0, .int .u8 0, .int .u8 0, .int .u8 0, .int .u8 0, .int .u8 0, .int .u8 0, .int .u8 0, .int .u8 0, .int .u8 0, .int .u8 0, .int .u8 0, .int .u8 0, .int .u8 0, .int .u8 0, .int .u8 0, .int .u8 0, .int .u8 0, .int .u8 0, .int .u8 0, .int .u8 0, .int .u8 0, .int .u8 0, .int .u8 0, .int .u8 0, .int .u8 0]
  have Z1 := Lib.hid z1
  have LL0 := Lib.hid lL0
  have OL0 := Lib.hid oL0
  have HI0 := Lib.hid (show (Tryd.prog.info? 30).map (·.size) = some L0.toArray.size by rw [List.size_toArray, lL0]; exact Tryd.tok_info)
  have b1' := b1
  have B1 := Lib.hid b1
  have EL0 := Lib.hid hL0
  clear z1 lL0 oL0 b1 hL0 c0
  have t1 := T0.out.below B1.out T0.out.lt
  have c1 := (Blk.alloc t1 (.cells #[.int .u32 0, .slice none 0 0, .int .u8 0, .int .u8 0, .int .u8 0, .int .u8 0, .int .u8 0, .int .u8 0, .int .u8 0, .int .u8 0, .int .u8 0, .int .u8 0, .int .u8 0, .int .u8 0, .int .u8 0, .int .u8 0, .int .u8 0, .int .u8 0, .int .u8 0, .int .u8 0, .int .u8 0, .int .u8 0, .int .u8 0, .int .u8 0, .int .u8 0, .int .u8 0, .int .u8 0, .int .u8 0, .int .u8 0, .int .u8 0, .int .u8 0, .int .u8 0, .int .u8 0, .int .u8 0] 30)).setRow_far (g := w1.heap.size) (by have := t1.lt; omega) L0.toArray |>.cell 1
  rw [List.getElem?_toArray, D1.out] at c1
  go_wp2_with (refine wpList_store_row rfl 30 (.tmp 5) (.tmp 12) rfl w1.heap.size L0.toArray rfl rfl 30 _ Z1.out HI0.out (by simp [LL0.out]) (by simpa using OL0.out) ?_)
  obtain ⟨W2, hW2⟩ : ∃ x, x = (w1.alloc (.cells #[.int .u32 0, .slice none 0 0, .int .u8 0, .int .u8 0, .int .u8 0, .int .u8 0, .int .u8 0, .int .u8 0, .int .u8 0, .int .u8 0, .int .u8 0, .int .u8 0, .int .u8 0, .int .u8 0, .int .u8 0, .int .u8 0, .int .u8 0, .int .u8 0, .int .u8 0, .int .u8 0, .int .u8 0, .int .u8 0, .int .u8 0, .int .u8 0, .int .u8 0, .int .u8 0, .int .u8 0, .int .u8 0, .int .u8 0, .int .u8 0, .int .u8 0, .int .u8 0, .int .u8 0, .int .u8 0] 30)).setRow w1.heap.size L0.toArray := ⟨_, rfl⟩
  rw [← hW2]
  have x2 : Blk W2 w1.heap.size 30 L0.toArray := by rw [hW2]; exact Z1.out.setRow _
  have t2 : Blk W2 (w.heap.size + 1) 30 D.toArray := by rw [hW2]; exact (Blk.alloc t1 _).setRow_far (by have := t1.lt; omega) _
  have b2 : Below w.heap.size w W2 := by rw [hW2]; exact below_setRow ((B0.out.trans (B1.out.mono B0.out.size)).alloc (Nat.le_trans B0.out.size B1.out.size) _) (Nat.le_trans B0.out.size B1.out.size) _
  have lX : w.heap.size + 1 < w1.heap.size := t1.lt
  have X2 := Lib.hid x2
  have T2 := Lib.hid t2
  have B2 := Lib.hid b2
  clear hW2 x2 t2 b2 t1 c1 b1'
  obtain ⟨X, hX⟩ : ∃ X, w1.heap.size = X := ⟨_, rfl⟩
  rw [hX] at X2 lX ⊢
  go_loopw [16] (fun i wr => ∃ (k : Nat) (x : Tok) (v : Value), k ≤ n ∧ i = .int .i64 k ∧ Hid (genGo (minted root t.1) (t.2.1.take k) = some x) ∧ Hid x.Ok ∧ x.2.1.length ≤ k ∧ Hid (Blk wr X 30 (tokv x.1 v x.2.2).toArray) ∧ Hid (OwnC wr w.heap.size v x.2.1) ∧ Hid (Below w.heap.size w wr) ∧ Hid (Blk wr (w.heap.size + 1) 30 D.toArray)) (fun i _ => n - (intOf i).toNat)
  case atStart => exact ⟨0, minted root t.1, .slice none 0 0, by omega, rfl, by rw [List.take_zero]; exact rfl, minted_ok root t.1 HtO.out.1, by simp [minted], by rw [show tokv (minted root t.1).1 (.slice none 0 0) (minted root t.1).2.2 = L0 from EL0.out]; exact X2.out, OwnC.nil _ _, B2.out, T2.out⟩
  case round =>
    obtain ⟨k, x, v, hk, rfl, hg, hxo, hxl, hX, hv, hb, htb⟩ := hrel
    by_cases hkn : k < n
    · have qk : (k : Int) < n := by omega
      obtain ⟨cav, hcav⟩ : ∃ c, t.2.1[k]? = some c := ⟨_, List.getElem?_eq_getElem (by rw [Hl.out]; exact hkn)⟩
      obtain ⟨gb, go, hA, hgb, hrd⟩ := HR.out.mid (by omega) (by omega)
      obtain ⟨e0, e1⟩ := cavv_at t.2.1 k cav hcav
      have m0 := (hb.out.cell (p := ⟨gb, go + k * 2, none⟩) hgb).trans (hrd _ _ e0)
      have m1 := (hb.out.cell (p := ⟨gb, go + (k * 2 + 1), none⟩) hgb).trans (hrd _ _ e1)
      subst hA
      obtain ⟨kk, NN⟩ := cav
      dsimp only at m0 m1
      rw [← Nat.add_assoc] at m1
      have HC := Lib.hid hcav
      clear e0 e1 hrd hcav
      go_upto_region 6 with (fail)
      obtain ⟨W3, hW3⟩ : ∃ y, y = wr.alloc (.cells #[.int .i64 kk, .int .u32 NN] 37) := ⟨_, rfl⟩
      rw [← hW3]
      have x3 : Blk W3 X 30 (tokv x.1 v x.2.2).toArray := by rw [hW3]; exact hX.out.alloc _
      have v3 : Blk W3 wr.heap.size 37 #[.int .i64 kk, .int .u32 NN] := by rw [hW3]; exact Blk.new _ _ _
      have o3 : OwnC W3 w.heap.size v x.2.1 := by rw [hW3]; exact hv.out.alloc _
      have b3 : Below w.heap.size w W3 := by rw [hW3]; exact below_new hb.out _
      have tb3 : Blk W3 (w.heap.size + 1) 30 D.toArray := by rw [hW3]; exact htb.out.alloc _
      have cv0 := v3.cell 0
      have cv1 := v3.cell 1
      rw [show (#[Value.int .i64 kk, Value.int .u32 NN] : Array Value)[0]? = some (.int .i64 kk) from rfl] at cv0
      rw [show (#[Value.int .i64 kk, Value.int .u32 NN] : Array Value)[1]? = some (.int .u32 NN) from rfl] at cv1
      clear hW3
      obtain ⟨Ax, nx, cx, rfl, enx, ncx, -, rx⟩ := o3.sl
      have hN : NN < 4294967296 := HtO.out.2.1 (kk, NN) (List.mem_of_getElem? HC.out)
      have N3 := token_narrow x Ax nx cx kk NN W3 rx ncx (by omega) hxo.out.2.2.1 hxo.out.2.2.2 hN (HT.out.below b3 HT.out.size)
      have lX3 := tokv_len x.1 (.slice Ax nx cx) x.2.2 hxo.out.2.2.1
      obtain ⟨E, hE⟩ : ∃ E, tokv x.1 (.slice Ax nx cx) x.2.2 = E := ⟨_, rfl⟩
      rw [hE] at x3 N3 lX3
      have HRX := Lib.hid (rangeAt_blk x3 0 E (fun j u h => by simpa using h))
      have HIX := Lib.hid (show (Tryd.prog.info? 30).map (·.size) = some E.length by rw [lX3]; exact Tryd.tok_info)
      have HN3 := Lib.hid N3
      have X3 := Lib.hid x3
      have O3 := Lib.hid o3
      have B3 := Lib.hid b3
      have TB3 := Lib.hid tb3
      have HNN := Lib.hid hN
      have LX3 := Lib.hid lX3
      have Hok' := Lib.hid (narRes_ok x (kk, NN) hxo.out hN)
      have Hlen' := Lib.hid (narRes_len x (kk, NN))
      clear N3 x3 o3 b3 tb3 hN lX3 hE enx ncx rx hX hv v3 m0 m1
      go_wp2_with (refine load_mid_want rfl 30 (.tmp 5) rfl X 0 rfl E _ HRX.out Tryd.underlying30 rfl HIX.out ?_)
      refine HN3.out.mono ?_
      rintro e w4 ⟨v4, rfl, o4, b4⟩
      obtain ⟨r, hr⟩ : ∃ r, narRes x (kk, NN) = r := ⟨_, rfl⟩
      rw [hr] at Hok' Hlen' o4 ⊢
      obtain ⟨A4, n4, c4, rfl, -, -, -, -⟩ := o4.sl
      have hlF := tokv_len r.1.1 (.slice A4 n4 c4) r.1.2.2 Hok'.out.2.2.1
      have hoF := tokv_one r.1.1 (.slice A4 n4 c4) rfl r.1.2.2
      obtain ⟨F, hF⟩ : ∃ F, tokv r.1.1 (.slice A4 n4 c4) r.1.2.2 = F := ⟨_, rfl⟩
      rw [hF] at hlF hoF ⊢
      have x4 := X3.out.below b4 X3.out.lt
      have HIF := Lib.hid (show (Tryd.prog.info? 30).map (·.size) = some F.toArray.size by rw [List.size_toArray, hlF]; exact Tryd.tok_info)
      have HLF := Lib.hid hlF
      have HOF := Lib.hid hoF
      have HF := Lib.hid hF
      have X4 := Lib.hid x4
      have O4 := Lib.hid o4
      have B4 := Lib.hid b4
      have HR4 := Lib.hid hr
      clear hlF hoF hF x4 o4 b4 hr
      obtain ⟨q, hq⟩ : ∃ q, r.2 = q := ⟨_, rfl⟩
      rw [hq]
      have HQ := Lib.hid hq
      clear hq cv0 cv1
      by_cases h0 : q = 0
      · have h0' : (q : Int) = 0 := by omega
        go_wp2_with (refine wpList_store_row rfl 30 (.tmp 5) (.tmp 24) rfl X F.toArray rfl rfl 30 _ X4.out HIF.out (by simp [HLF.out, LX3.out]) (by simpa using HOF.out) ?_)
        go_roundw
        case rel =>
          have hr0 : (narRes x (kk, NN)).2 = 0 := by rw [HR4.out, HQ.out, h0]
          refine ⟨k + 1, r.1, .slice A4 n4 c4, by omega, by go_num, ?_, Hok'.out, by have := Hlen'.out; omega, ?_, ?_, ?_, ?_⟩
          · have := genGo_step hg.out HC.out hr0
            rw [HR4.out] at this
            exact this
          · rw [HF.out]
            exact X4.out.setRow _
          · exact OwnC.mono (World.ownsRow.kept O4.out (grown_setRow _ _ _) (.inr (own_blk_ne O4.out X4.out (by decide)))) B3.out.size
          · exact below_setRow (B3.out.trans (B4.out.mono B3.out.size)) (by omega) _
          · exact (TB3.out.below B4.out TB3.out.lt).setRow_far (by omega) _
        case measure => simp [intOf]; omega
      · have h0' : ¬ (q : Int) = 0 := by omega
        go_wp2_with (refine wpList_store_row rfl 30 (.tmp 5) (.tmp 24) rfl X F.toArray rfl rfl 30 _ X4.out HIF.out (by simp [HLF.out, LX3.out]) (by simpa using HOF.out) ?_)
        have hf : genuineB root t = false := by
          unfold genuineB
          rw [genGo_none hg.out HC.out (by rw [HR4.out, HQ.out]; exact h0)]
        go_ret
        exact ⟨by rw [hf]; rfl, below_setRow (B3.out.trans (B4.out.mono B3.out.size)) (by omega) _⟩
    · have qk : ¬ (k : Int) < n := by omega
      have hg' := hg.out
      rw [List.take_of_length_le (by rw [Hl.out]; omega)] at hg'
      have hgen : genuineB root t = (x.2.2 == t.2.2) := by
        unfold genuineB
        rw [hg']
      have qe := fun w => run_eql_digest w x.2.2 t.2.2 hxo.out.2.2.1 HtO.out.2.2.1 hxo.out.2.2.2 HtO.out.2.2.2
      have l1 : (byv x.2.2).length = 32 := by rw [byv_length]; exact hxo.out.2.2.1
      have l2 : (byv t.2.2).length = 32 := by rw [byv_length]; exact HtO.out.2.2.1
      have r1 : wr.rangeAt X 2 (byv x.2.2) := rangeAt_blk hX.out 2 (byv x.2.2) (fun j u h => by
        unfold tokv
        rw [show 2 + j = j + 1 + 1 by omega, List.getElem?_cons_succ, List.getElem?_cons_succ]
        exact h)
      have r2 : wr.rangeAt (w.heap.size + 1) 2 (byv t.2.2) := rangeAt_blk htb.out 2 (byv t.2.2) D2.out
      obtain ⟨U1, hU1⟩ : ∃ U, byv x.2.2 = U := ⟨_, rfl⟩
      obtain ⟨U2, hU2⟩ : ∃ U, byv t.2.2 = U := ⟨_, rfl⟩
      rw [hU1] at l1 r1
      rw [hU2] at l2 r2
      simp only [hU1, hU2] at qe
      have R1 := Lib.hid r1
      have R2 := Lib.hid r2
      have I1 := Lib.hid (show (Tryd.prog.info? 28).map (·.size) = some U1.length by rw [l1]; exact Tryd.dig_info)
      have I2 := Lib.hid (show (Tryd.prog.info? 28).map (·.size) = some U2.length by rw [l2]; exact Tryd.dig_info)
      have HG := Lib.hid hgen
      clear hg' hgen l1 l2 r1 r2 hU1 hU2
      go_wp2_with (first
        | (refine load_mid_want rfl 28 (.tmp 29) rfl X 2 rfl U1 _ R1.out Tryd.underlying28 rfl I1.out ?_)
        | (refine load_mid_want rfl 28 (.tmp 31) rfl (w.heap.size + 1) 2 rfl U2 _ R2.out Tryd.underlying28 rfl I2.out ?_))
      go_ret
      exact ⟨by rw [HG.out]; rfl, hb.out⟩

end Go.Proofs.YtamhggndcegndaaDoor
