/-
  deponentlaw12.TokenKept: true.
-/
import Derived.Test.YtamhggndcegndaaDoorApart
import Derived.Test.YtamhggndcegndaaDoorTokLaw
namespace Go.Proofs.YtamhggndcegndaaDoor
open Go.RowKit
set_option linter.unusedVariables false
set_option maxRecDepth 100000

theorem tokRes_lt2 (id : Nat) (l : List (Int × Nat)) (tag : List Nat) (h : ∀ x ∈ tag, x < 256) : ∀ x ∈ (tokRes id l tag).2, x < 256 := by
  unfold tokRes
  split
  · intro x hx
    simp at hx
  · split
    · intro x hx
      simp only [List.mem_append] at hx
      rcases hx with ((hx | hx) | hx) | hx
      · exact be_lt _ _ x hx
      · exact be_lt _ _ x hx
      · obtain ⟨c, _, hc⟩ := List.mem_flatMap.1 hx
        rcases List.mem_append.1 hc with hc | hc
        · exact be_lt _ _ x hc
        · exact be_lt _ _ x hc
      · exact h x hx
    · intro x hx
      simp at hx

theorem narRes_kind {t : Tok} {c : Int × Nat} (h : (narRes t c).2 = 0) : kindB c.1 = true ∧ t.2.1.length < 4 := by
  unfold narRes at h
  split at h
  · rename_i h1
    split at h
    · rename_i h2; exact ⟨h1, h2⟩
    · simp at h
  · simp at h

theorem all_snoc {l : List (Int × Nat)} {c : Int × Nat} (h : l.all (fun c => kindB c.1) = true) (hc : kindB c.1 = true) : (l ++ [c]).all (fun c => kindB c.1) = true := by
  rw [List.all_append, h]
  simp [hc]

theorem OwnC.blk_lt {w : World} {base : Nat} {v : Value} {l : List (Int × Nat)} (h : OwnC w base v l) {b : Nat} (e : v.ownBlock = some b) : base ≤ b ∧ b < w.heap.size := World.ownsRow.lt h b e

/-- What is fresh is none of those that are kept. -/
theorem fresh_ne {w w' : World} {B base : Nat} {its : List KIt} {v : Value} {l : List (Int × Nat)} (h : KOk w B its) (ho : OwnC w' base v l) (hb : w.heap.size ≤ base) (hl : 0 < l.length) : ∀ x ∈ its, x.v.ownBlock ≠ v.ownBlock := by
  intro x hx e
  obtain ⟨g, cap, C, ev, -⟩ := ho.blk hl
  rw [ev] at e
  have h1 := (h.own x hx).blk_lt (b := g) e
  have h2 := ho.blk_lt (b := g) (by rw [ev]; rfl)
  omega

theorem fresh_ne2 {w w' : World} {B base base' : Nat} {its its' : List KIt} {u v : Value} {l l' : List (Int × Nat)} {W : World} (h : KOk W B its) (hu : OwnC w base u l') (ho : OwnC w' base' v l) (hW : W.heap.size ≤ base') (hb : w.heap.size ≤ base') (hl : 0 < l.length) (hm : ∀ x ∈ its', x ∈ its ∨ x.v = u) : ∀ x ∈ its', x.v.ownBlock ≠ v.ownBlock := by
  intro x hx e
  rcases hm x hx with h1 | h1
  · exact fresh_ne h ho hW hl x h1 e
  · obtain ⟨g, cap, C, ev, -⟩ := ho.blk hl
    rw [ev, h1] at e
    have h2 := hu.blk_lt (b := g) e
    have h3 := ho.blk_lt (b := g) (by rw [ev]; rfl)
    omega

/-- A token's block written: the book is as it was. -/
theorem BookAt.tok {w w' : World} {B gb g : Nat} {v1 v2 : Value} {h : Int} {its : List KIt} {cs : Array Value} (hb : BookAt w B gb v1 v2 h its) (hg : w.grownBy w' (some g)) (ht : Blk w g 30 cs) : BookAt w' B gb v1 v2 h its := by
  have ho : ∀ (v : Value) (l : List (Int × Nat)), OwnC w B v l → OwnC w' B v l := fun v l h => World.ownsRow.kept h hg (.inr (own_blk_ne h ht (by decide)))
  exact ⟨hb.blk.grown hg (fun e => by injection e with e; exact (hb.blk.ne_ ht (by decide)) e), hb.le, hb.r1.grown hg (.inr (row_blk_ne hb.r1 ht (by decide))), hb.r2.grown hg (.inr (row_blk_ne hb.r2 ht (by decide))), hb.b1, hb.b2, hb.ap,
    ⟨fun it hi => ho _ _ (hb.ok.own it hi), fun it hi => ho _ _ (hb.ok.was it hi), hb.ok.ne, hb.ok.nodup⟩⟩

-- END BY HAND
set_option maxHeartbeats 8000000 in
theorem kept_walk (id : Nat) (l : List (Int × Nat)) (A : Option Addr) (n c : Nat) (w : World) (hT : Tabs w) (hE : w.cell? ⟨0, 0, none⟩ = some (.iface 152 (.agg #[.pointer (some ⟨3, 61, none⟩)])))
    (hid : id < 4294967296) (hr : Reads w w.heap.size 2 A n (cavv l)) (hnc : n ≤ c) (hn : n ≤ 8796093022000) (hlN : ∀ y ∈ l, y.2 < 4294967296) :
    Calls Tryd.prog 6 #[.int .u32 id, .slice A n c] w fun e w' => e = .returned (.bool true) ∧ Below w.heap.size w w' := by
  have hl : l.length = n := by have := hr.1; rw [cavv_length] at this; omega
  have R5 := fun w => law_root 5 w
  have M1 := fun w h => token_mint (rootb 5) id w (rootb_length 5) (rootb_lt 5 (by decide)) hid h
  obtain ⟨K, hK⟩ : ∃ K, byv (rootb 5) = K := ⟨_, rfl⟩
  simp only [hK] at R5 M1
  obtain ⟨LT, hLT, lLT, oLT, iLT⟩ := tok_cells id none 0 0 (mintTag (rootb 5) id) (mac_length _ _)
  simp only [hLT] at M1
  obtain ⟨B, hBB⟩ : ∃ B, w.heap.size = B := ⟨_, rfl⟩
  have HR5 := Lib.hid R5
  have HM1 := Lib.hid M1
  have OLT := Lib.hid oLT
  have ILT := Lib.hid iLT
  have LLT := Lib.hid lLT
  have EN0 : Hid (tokv (minted (rootb 5) id).1 (.slice none 0 0) (minted (rootb 5) id).2.2 = LT) := hLT
  have HT := Lib.hid hT
  have HE := Lib.hid hE
  have HR := Lib.hid hr
  have HlN := Lib.hid hlN
  have Hl := Lib.hid hl
  have HBQ := Lib.hid hBB
  have lE : 0 < w.heap.size := World.block_lt_of_cell? _ _ hE
  have lEB : 0 < B := by rw [← hBB]; exact lE
  clear R5 M1 hK oLT iLT lLT hLT hT hr hlN hl hE hBB
  go_enter Tryd.func6, Tryd.ntmps6
  go_wp2_with fail
  refine (HR5.out w).mono ?_
  rintro e w2 ⟨rfl, b2⟩
  go_wp2_with fail
  refine (HM1.out w2 (HT.out.below b2 HT.out.size)).mono ?_
  rintro e w3 ⟨rfl, b3⟩
  have B13 := Lib.hid (b2.trans (b3.mono b2.size))
  have Z3 := Lib.hid (Blk.new w3 30 #[.int .u32 0, .slice none 0 0, .int .u8 0, .int .u8 0, .int .u8 0, .int .u8 0, .int .u8 0, .int .u8 0, .int .u8 0, .int .u8 0, .int .u8 0, .int .u8 0, .int .u8 0, .int .u8 0, .int .u8 0, .int .u8 0, .int .u8 0, .int .u8 0, .int .u8 0, .int .u8 0, .int .u8 0, .int .u8 0, .int .u8 0, .int .u8 0, .int .u8 0, .int .u8 0, .int .u8 0, .int .u8 0, .int .u8 0, .int .u8 0, .int .u8 0, .int .u8 0, .int .u8 0, .int .u8 0])
  clear b2 b3
  go_upto_region 2 with (refine wpList_store_row rfl 30 (.tmp 5) (.tmp 18) rfl w3.heap.size LT.toArray rfl rfl 30 _ Z3.out ILT.out (by simp [LLT.out]) (by simpa using OLT.out) ?_)
  obtain ⟨w4, hw4⟩ : ∃ x, x = (w3.alloc (.cells #[.int .u32 0, .slice none 0 0, .int .u8 0, .int .u8 0, .int .u8 0, .int .u8 0, .int .u8 0, .int .u8 0, .int .u8 0, .int .u8 0, .int .u8 0, .int .u8 0, .int .u8 0, .int .u8 0, .int .u8 0, .int .u8 0, .int .u8 0, .int .u8 0, .int .u8 0, .int .u8 0, .int .u8 0, .int .u8 0, .int .u8 0, .int .u8 0, .int .u8 0, .int .u8 0, .int .u8 0, .int .u8 0, .int .u8 0, .int .u8 0, .int .u8 0, .int .u8 0, .int .u8 0, .int .u8 0] 30)).setRow w3.heap.size LT.toArray := ⟨_, rfl⟩
  rw [← hw4]
  have tw4 : TokAt w4 w3.heap.size LT := by rw [hw4]; exact ⟨Blk.setRow (Blk.new _ _ _) _, LLT.out⟩
  have bw4 : Below w3.heap.size w3 w4 := by rw [hw4]; exact below_setRow ((Below.refl _ _).alloc (Nat.le_refl _) _) (Nat.le_refl _) _
  clear hw4
  have X4 := Lib.hid tw4
  have B14 := Lib.hid (B13.out.trans (bw4.mono B13.out.size))
  have l3 : w.heap.size ≤ w3.heap.size := B13.out.size
  obtain ⟨Xa, hXa⟩ : ∃ y, w3.heap.size = y := ⟨_, rfl⟩
  rw [hXa] at X4 l3 ⊢
  clear hXa tw4 bw4 Z3 B13
  go_upto_region 3 with (fail)
  obtain ⟨w5, hw5⟩ : ∃ x, x = w4.alloc (.cells #[.slice none 0 0, .slice none 0 0, .int .i64 0, .bool false] 55) := ⟨_, rfl⟩
  have bk5 : Blk w5 w4.heap.size 55 #[.slice none 0 0, .slice none 0 0, .int .i64 0, .bool false] := by rw [hw5]; exact Blk.new _ _ _
  have b45 : Below w4.heap.size w4 w5 := by rw [hw5]; exact (Below.refl _ _).alloc (Nat.le_refl _) _
  change _
  rw [← hw5]
  have X5 := Lib.hid (X4.out.below b45 X4.out.lt)
  have B15 := Lib.hid (B14.out.trans (b45.mono B14.out.size))
  obtain ⟨gb, hgb⟩ : ∃ y, w4.heap.size = y := ⟨_, rfl⟩
  have l4 : w.heap.size ≤ gb := by have := B14.out.size; omega
  rw [hgb] at bk5 ⊢
  have HBK := Lib.hid (show BookAt w5 B gb (.slice none 0 0) (.slice none 0 0) 0 [] from ⟨bk5, by rw [← HBQ.out]; exact l4, Row.nil _ _ _, Row.nil _ _ _, fun g h => (nomatch h), fun g h => (nomatch h), fun g h => (nomatch h), KOk.nil _ _⟩)
  clear hw5 bk5 b45 hgb X4 B14
  go_wp2_with fail
  go_loopw [7, 8, 9, 10, 11, 12, 13, 14, 15, 29, 41, 56, 61] (fun i _ _ _ _ _ _ _ _ _ _ _ _ wr => ∃ (k : Nat) (y : Tok) (va v1 v2 : Value) (h : Int) (its : List KIt), k ≤ n ∧ k ≤ 3 ∧ i = .int .i64 k ∧ Hid (Gen (rootb 5) y) ∧ Hid y.Ok ∧ y.2.1.length ≤ k ∧ Hid (y.2.1.all (fun c => kindB c.1) = true) ∧ Hid (Blk wr Xa 30 (tokv y.1 va y.2.2).toArray) ∧ Hid (OwnC wr B va y.2.1) ∧ Hid (BookAt wr B gb v1 v2 h its) ∧ its.length ≤ 3 * k ∧ Hid (Below B w wr)) (fun i _ _ _ _ _ _ _ _ _ _ _ _ _ => n - (intOf i).toNat)
  case atStart => exact ⟨0, minted (rootb 5) id, .slice none 0 0, _, _, _, [], by omega, by omega, rfl, gen_minted _ id, minted_ok _ id hid, by simp [minted], Lib.hid rfl, by rw [show tokv (minted (rootb 5) id).1 (.slice none 0 0) (minted (rootb 5) id).2.2 = LT from EN0.out]; exact X5.out.blk, OwnC.nil _ _, HBK.out, by simp, by rw [← HBQ.out]; exact B15.out⟩
  case round =>
    obtain ⟨k, y, va, v1, v2, h, its, hk, hk3, rfl, hg, hyo, hyl, hya, hXa, hva, hbk, hitl, hb⟩ := hrel
    clear HBK X5 B15
    have lBw : B ≤ wr.heap.size := Nat.le_trans hbk.out.le (Nat.le_of_lt hbk.out.blk.lt)
    have HTR := Lib.hid (HT.out.below (by rw [HBQ.out]; exact hb.out) HT.out.size)
    have HER := Lib.hid (((hb.out.cell (p := ⟨0, 0, none⟩) (by rw [← HBQ.out]; exact lE)).trans HE.out))
    by_cases hc : k < n ∧ k < 3
    · obtain ⟨hkn, hkm⟩ := hc
      have qk : (k : Int) < n := by omega
      have q3 : (k : Int) < 3 := by omega
      obtain ⟨cav, hcav⟩ : ∃ c, l[k]? = some c := ⟨_, List.getElem?_eq_getElem (by rw [Hl.out]; exact hkn)⟩
      obtain ⟨gc, go, hA, hgb, hrd⟩ := HR.out.mid (by omega) (by omega)
      obtain ⟨e0, e1⟩ := cavv_at l k cav hcav
      rw [HBQ.out] at hgb
      have m0 := (hb.out.cell (p := ⟨gc, go + k * 2, none⟩) hgb).trans (hrd _ _ e0)
      have m1 := (hb.out.cell (p := ⟨gc, go + (k * 2 + 1), none⟩) hgb).trans (hrd _ _ e1)
      subst hA
      obtain ⟨kk, NN⟩ := cav
      dsimp only at m0 m1
      rw [← Nat.add_assoc] at m1
      have hN : NN < 4294967296 := HlN.out (kk, NN) (List.mem_of_getElem? hcav)
      have hgbr : gc < wr.heap.size := Nat.lt_of_lt_of_le hgb lBw
      obtain ⟨S, HS⟩ : ∃ S : World → Prop, Hid (∀ w', S w' = Below wr.heap.size wr w') := ⟨_, fun _ => rfl⟩
      have FC : Hid (∀ w', S w' → w'.rangeAt gc (go + k * 2) [.int .i64 kk, .int .u32 (NN : Int)]) := fun w' h j u hu => by
        rw [HS.out] at h
        rw [h.cell (p := ⟨gc, go + k * 2 + j, none⟩) hgbr]
        match j, hu with
        | 0, hu => simp at hu; subst hu; exact m0
        | 1, hu => simp at hu; subst hu; exact m1
      have FC2 := Lib.hid (show ∀ w', Below wr.heap.size wr w' → w'.rangeAt gc (go + k * 2) [.int .i64 kk, .int .u32 (NN : Int)] from fun w' h => FC.out w' ((HS.out _).mpr h))
      have HIC := Lib.hid (show (Tryd.prog.info? 37).map (·.size) = some [Value.int .i64 kk, .int .u32 (NN : Int)].length by kernel_rfl)
      obtain ⟨r, hr⟩ : ∃ r, narRes y (kk, NN) = r := ⟨_, rfl⟩
      have Hok' := Lib.hid (narRes_ok y (kk, NN) hyo.out hN)
      have Hlen' := Lib.hid (narRes_len y (kk, NN))
      obtain ⟨A1, n1, c1, rfl, en1, nc1, -, rx1⟩ := hva.out.sl
      have ln1 : n1 ≤ 3 := by omega
      have N1 := fun w' (h : Below wr.heap.size wr w') => token_narrow y A1 n1 c1 kk NN w' (rx1.call h) nc1 (by omega) hyo.out.2.2.1 hyo.out.2.2.2 hN (HTR.out.below h HTR.out.size)
      obtain ⟨E1, hE1, lE1, oE1, iE1⟩ := tok_cells y.1 A1 n1 c1 y.2.2 hyo.out.2.2.1
      simp only [hE1, hr] at N1
      have xa := hXa.out
      rw [hE1] at xa
      have FA : Hid (∀ w', S w' → w'.rangeAt Xa 0 E1) := fun w' h => by
        rw [HS.out] at h
        exact rangeAt_blk (xa.below h xa.lt) 0 E1 (fun j u h => by simpa using h)
      have FA2 := Lib.hid (show ∀ w', Below wr.heap.size wr w' → w'.rangeAt Xa 0 E1 from fun w' h => FA.out w' ((HS.out _).mpr h))
      have HIA := Lib.hid (show (Tryd.prog.info? 30).map (·.size) = some E1.length by rw [lE1]; exact Tryd.tok_info)
      have HN1 := Lib.hid N1
      have XA := Lib.hid xa
      have LE1 := Lib.hid lE1
      have HR4' := Lib.hid hr
      rw [hr] at Hok' Hlen'
      clear N1 xa hE1 lE1 oE1 iE1 rx1 hXa m0 m1 e0 e1 hrd hcav hr hgbr hN en1 hgb hva
      go_upto_region 6 with (fail)
      refine wp_region_fork S 12 [35, 29, 36, 37, 8] [(0, false), (1, false), (2, false), (3, false), (4, false)] 5 (.two 5 (.read 6 (.read 7 (.read 8 (.one 9 .done)))) 9 (.one 5 (.read 6 (.read 7 (.read 8 .done))))) [(10, true), (11, false)] #[true, true, true, true, true, false, false, false, false, false, false, false] #[true, true, true, true, true, true, true, true, true, true, false, false] (by kernel_rfl) rfl (by kernel_rfl) (by kernel_rfl) (by kernel_rfl) (by kernel_rfl) (by kernel_rfl) (fun _ _ d _ _ h => by cases d <;> exact h) ((HS.out _).mpr (Below.refl _ wr).drew) ?_
      refine wpSteps_load' rfl rfl 30 (.tmp 5) rfl Xa 0 rfl E1 _ FA.out Tryd.underlying30 rfl HIA.out ?_
      try simp only [Act.put, List.setIfInBounds_toArray, List.set_cons_zero, List.set_cons_succ]
      iterate 3 (refine wpSteps_read rfl rfl ⟨?_, fun w1 hS => ?_, ?_⟩; rotate_left; (focus (go_simp; (try go_bits); try rfl)); simp only [Act.put, List.setIfInBounds_toArray, List.set_cons_zero, List.set_cons_succ])
      refine wpSteps_load' rfl rfl 37 (.tmp 33) rfl gc (go + k * 2) rfl [.int .i64 kk, .int .u32 (NN : Int)] _ FC.out Tryd.underlying37 rfl HIC.out ?_
      try simp only [Act.put, List.setIfInBounds_toArray, List.set_cons_zero, List.set_cons_succ]
      refine wpSteps_nil ?_
      have hwdwr : Below wr.heap.size wr wr.drew := (Below.refl _ _).drew
      obtain ⟨Wdwr, hWdwr⟩ : ∃ x, x = wr.drew := ⟨_, rfl⟩
      have HWdwr := Lib.hid hWdwr
      rw [← hWdwr] at hwdwr ⊢
      clear hWdwr
      refine ⟨fun vs w' => ∃ A4 n4 c4 g9, vs = [.tuple #[.agg (tokv r.1.1 (.slice A4 n4 c4) r.1.2.2).toArray, .int .i64 (r.2 : Nat)], .tuple #[.agg (tokv r.1.1 (.slice A4 n4 c4) r.1.2.2).toArray, .int .i64 (r.2 : Nat)], .agg (tokv r.1.1 (.slice A4 n4 c4) r.1.2.2).toArray, .int .i64 (r.2 : Nat), .pointer (some ⟨g9, 0, none⟩)] ∧ OwnC w' wr.heap.size (.slice A4 n4 c4) r.1.2.1 ∧ Blk w' g9 30 zeroTokv.toArray ∧ wr.heap.size ≤ g9 ∧ Below wr.heap.size wr w', ?_, ?_⟩
      · refine wpTree_two rfl rfl rfl rfl ?_ ?_
        · go_simp
          refine (HN1.out Wdwr hwdwr).mono ?_
          rintro e w4 ⟨v4, rfl, o4, b4⟩
          obtain ⟨A4, n4, c4, rfl, -, -, -, -⟩ := o4.sl
          obtain ⟨F, hF⟩ : ∃ F, tokv r.1.1 (.slice A4 n4 c4) r.1.2.2 = F := ⟨_, rfl⟩
          rw [hF]
          have b4' := hwdwr.trans (b4.mono hwdwr.size)
          have o4' := OwnC.mono o4 hwdwr.size
          have HF := Lib.hid hF
          have HO := Lib.hid o4'
          have HB := Lib.hid b4'
          clear hF o4 b4 o4' b4'
          refine ⟨(HS.out _).mpr HB.out, ?_⟩
          try simp only [Act.put, List.setIfInBounds_toArray, List.set_cons_zero, List.set_cons_succ]
          iterate 3 (refine wpTree_read rfl rfl ⟨?_, fun w1 hS => ?_, ?_⟩; rotate_left; (focus (go_simp; (try go_bits); try rfl)); simp only [Act.put, List.setIfInBounds_toArray, List.set_cons_zero, List.set_cons_succ])
          refine wpTree_one rfl rfl ?_
          go_simp
          refine ⟨(HS.out _).mpr (HB.out.alloc HB.out.size _), wpTree_done ⟨[_, _, _, _, _], rfl, A4, n4, c4, w4.heap.size, by rw [HF.out], HO.out.alloc _, Blk.new _ _ _, HB.out.size, HB.out.alloc HB.out.size _⟩⟩
        · go_simp
          obtain ⟨w3, hw3⟩ : ∃ x, x = Wdwr.alloc (.cells #[.int .u32 0, .slice none 0 0, .int .u8 0, .int .u8 0, .int .u8 0, .int .u8 0, .int .u8 0, .int .u8 0, .int .u8 0, .int .u8 0, .int .u8 0, .int .u8 0, .int .u8 0, .int .u8 0, .int .u8 0, .int .u8 0, .int .u8 0, .int .u8 0, .int .u8 0, .int .u8 0, .int .u8 0, .int .u8 0, .int .u8 0, .int .u8 0, .int .u8 0, .int .u8 0, .int .u8 0, .int .u8 0, .int .u8 0, .int .u8 0, .int .u8 0, .int .u8 0, .int .u8 0, .int .u8 0] 30) := ⟨_, rfl⟩
          rw [← hw3]
          have z3 : Blk w3 Wdwr.heap.size 30 zeroTokv.toArray := by rw [hw3]; exact Blk.new _ _ _
          have b3 : Below wr.heap.size wr w3 := by rw [hw3]; exact hwdwr.alloc hwdwr.size _
          clear hw3
          refine ⟨(HS.out _).mpr b3, ?_⟩
          refine wpTree_one rfl rfl ?_
          go_simp
          refine (HN1.out w3 b3).mono ?_
          rintro e w4 ⟨v4, rfl, o4, b4⟩
          obtain ⟨A4, n4, c4, rfl, -, -, -, -⟩ := o4.sl
          obtain ⟨F, hF⟩ : ∃ F, tokv r.1.1 (.slice A4 n4 c4) r.1.2.2 = F := ⟨_, rfl⟩
          rw [hF]
          have b4' := b3.trans (b4.mono b3.size)
          have o4' := OwnC.mono o4 b3.size
          have z4 := z3.below b4 z3.lt
          have HF := Lib.hid hF
          have HO := Lib.hid o4'
          have HB := Lib.hid b4'
          have HZ := Lib.hid z4
          clear hF o4 b4 o4' b4' z4 z3 b3
          refine ⟨(HS.out _).mpr HB.out, ?_⟩
          try simp only [Act.put, List.setIfInBounds_toArray, List.set_cons_zero, List.set_cons_succ]
          iterate 3 (refine wpTree_read rfl rfl ⟨?_, fun w1 hS => ?_, ?_⟩; rotate_left; (focus (go_simp; (try go_bits); try rfl)); simp only [Act.put, List.setIfInBounds_toArray, List.set_cons_zero, List.set_cons_succ])
          refine wpTree_done ⟨[_, _, _, _, _], rfl, A4, n4, c4, Wdwr.heap.size, by rw [HF.out], HO.out, HZ.out, hwdwr.size, HB.out⟩
      rintro vs w4 - ⟨AK1, nK1, cK1, gK1, rfl, o4, z9, l9, b4⟩
      simp only [puts, Act.put, List.setIfInBounds_toArray, List.set_cons_zero, List.set_cons_succ]
      obtain ⟨FK1, hF, hlF, hoF, iF⟩ := tok_cells r.1.1 AK1 nK1 cK1 r.1.2.2 Hok'.out.2.2.1
      rw [hF]
      refine wpSeq_write rfl rfl ?_
      refine wp_store_row 30 (.tmp 8) (.tmp 36) rfl gK1 FK1.toArray rfl rfl 30 _ z9 iF (by simp [hlF, zeroTokv, tokv_len]) (by simpa using hoF) ?_
      obtain ⟨WK1, hW9⟩ : ∃ x, x = w4.setRow gK1 FK1.toArray := ⟨_, rfl⟩
      rw [← hW9]
      have fK1 : Blk WK1 gK1 30 FK1.toArray := by rw [hW9]; exact z9.setRow _
      have bK1 : Below wr.heap.size wr WK1 := by rw [hW9]; exact below_setRow b4 l9 _
      have oK1 : OwnC WK1 wr.heap.size (.slice AK1 nK1 cK1) r.1.2.1 := by rw [hW9]; exact World.ownsRow.kept o4 (grown_setRow _ _ _) (.inr (own_blk_ne o4 z9 (by decide)))
      have LFK1 := Lib.hid hlF
      have OFK1 := Lib.hid hoF
      have IFK1 := Lib.hid iF
      have EFK1 := Lib.hid hF
      have GLK1 := Lib.hid l9
      clear hW9 z9 b4 o4 iF hlF hoF hF l9
      refine ⟨fun _ => (HS.out _).mpr bK1, ?_⟩
      try simp only [Act.put, List.setIfInBounds_toArray, List.set_cons_zero, List.set_cons_succ]
      iterate 1 (refine wpSeq_read rfl rfl ⟨?_, fun w1 hS => ?_, ?_⟩; rotate_left; (focus (go_simp; (try go_bits); try rfl)); simp only [Act.put, List.setIfInBounds_toArray, List.set_cons_zero, List.set_cons_succ])
      refine wpSeq_nil ?_
      clear FA FC HS
      obtain ⟨q, hq⟩ : ∃ q, r.2 = q := ⟨_, rfl⟩
      rw [hq]
      have HQ := Lib.hid hq
      clear hq
      by_cases h0 : q = 0
      · subst h0
        have hr0 : (narRes y (kk, NN)).2 = 0 := by rw [HR4'.out, HQ.out]
        have e0 := narRes_ok0 hr0
        have hgen := gen_narrow hg.out hr0
        have hka := all_snoc hya.out (narRes_kind hr0).1
        rw [HR4'.out] at e0 hgen
        have er : r.1.2.1 = y.2.1 ++ [(kk, NN)] := by rw [e0]
        rw [← er] at hka
        have hrl : 0 < r.1.2.1.length := by rw [er]; simp
        have HGEN := Lib.hid hgen
        have HKA := Lib.hid hka
        have HFK1 := Lib.hid fK1
        have HBK1 := Lib.hid bK1
        have HOK1 := Lib.hid oK1
        have hq0 : ((0 : Nat) : Int) = 0 := rfl
        clear e0 hgen hka er
        obtain ⟨S, HS⟩ : ∃ S : World → Prop, Hid (∀ w', S w' = Below WK1.heap.size WK1 w') := ⟨_, fun _ => rfl⟩
        have FC : Hid (∀ w', S w' → w'.rangeAt gc (go + k * 2) [.int .i64 kk, .int .u32 (NN : Int)]) := fun w' h => by
          rw [HS.out] at h
          exact FC2.out w' (HBK1.out.trans (h.mono HBK1.out.size))
        have FA : Hid (∀ w', S w' → w'.rangeAt Xa 0 E1) := fun w' h => by
          rw [HS.out] at h
          exact FA2.out w' (HBK1.out.trans (h.mono HBK1.out.size))
        have HN2 := Lib.hid (fun w' (h : Below WK1.heap.size WK1 w') => HN1.out w' (HBK1.out.trans (h.mono HBK1.out.size)))
        clear bK1 fK1 oK1
        go_upto_region 9 with (fail)
        refine wp_region_fork S 12 [47, 41, 48, 49, 10] [(0, false), (1, false), (2, false), (3, false), (4, false)] 5 (.two 5 (.read 6 (.read 7 (.read 8 (.one 9 .done)))) 9 (.one 5 (.read 6 (.read 7 (.read 8 .done))))) [(10, true), (11, false)] #[true, true, true, true, true, false, false, false, false, false, false, false] #[true, true, true, true, true, true, true, true, true, true, false, false] (by kernel_rfl) rfl (by kernel_rfl) (by kernel_rfl) (by kernel_rfl) (by kernel_rfl) (by kernel_rfl) (fun _ _ d _ _ h => by cases d <;> exact h) ((HS.out _).mpr (Below.refl _ WK1).drew) ?_
        refine wpSteps_load' rfl rfl 30 (.tmp 5) rfl Xa 0 rfl E1 _ FA.out Tryd.underlying30 rfl HIA.out ?_
        try simp only [Act.put, List.setIfInBounds_toArray, List.set_cons_zero, List.set_cons_succ]
        iterate 3 (refine wpSteps_read rfl rfl ⟨?_, fun w1 hS => ?_, ?_⟩; rotate_left; (focus (go_simp; (try go_bits); try rfl)); simp only [Act.put, List.setIfInBounds_toArray, List.set_cons_zero, List.set_cons_succ])
        refine wpSteps_load' rfl rfl 37 (.tmp 45) rfl gc (go + k * 2) rfl [.int .i64 kk, .int .u32 (NN : Int)] _ FC.out Tryd.underlying37 rfl HIC.out ?_
        try simp only [Act.put, List.setIfInBounds_toArray, List.set_cons_zero, List.set_cons_succ]
        refine wpSteps_nil ?_
        have hwdWK1 : Below WK1.heap.size WK1 WK1.drew := (Below.refl _ _).drew
        obtain ⟨WdWK1, hWdWK1⟩ : ∃ x, x = WK1.drew := ⟨_, rfl⟩
        have HWdWK1 := Lib.hid hWdWK1
        rw [← hWdWK1] at hwdWK1 ⊢
        clear hWdWK1
        refine ⟨fun vs w' => ∃ A4 n4 c4 g9, vs = [.tuple #[.agg (tokv r.1.1 (.slice A4 n4 c4) r.1.2.2).toArray, .int .i64 (r.2 : Nat)], .tuple #[.agg (tokv r.1.1 (.slice A4 n4 c4) r.1.2.2).toArray, .int .i64 (r.2 : Nat)], .agg (tokv r.1.1 (.slice A4 n4 c4) r.1.2.2).toArray, .int .i64 (r.2 : Nat), .pointer (some ⟨g9, 0, none⟩)] ∧ OwnC w' WK1.heap.size (.slice A4 n4 c4) r.1.2.1 ∧ Blk w' g9 30 zeroTokv.toArray ∧ WK1.heap.size ≤ g9 ∧ Below WK1.heap.size WK1 w', ?_, ?_⟩
        · refine wpTree_two rfl rfl rfl rfl ?_ ?_
          · go_simp
            refine (HN2.out WdWK1 hwdWK1).mono ?_
            rintro e w4 ⟨v4, rfl, o4, b4⟩
            obtain ⟨A4, n4, c4, rfl, -, -, -, -⟩ := o4.sl
            obtain ⟨F, hF⟩ : ∃ F, tokv r.1.1 (.slice A4 n4 c4) r.1.2.2 = F := ⟨_, rfl⟩
            rw [hF]
            have b4' := hwdWK1.trans (b4.mono hwdWK1.size)
            have o4' := OwnC.mono o4 hwdWK1.size
            have HF := Lib.hid hF
            have HO := Lib.hid o4'
            have HB := Lib.hid b4'
            clear hF o4 b4 o4' b4'
            refine ⟨(HS.out _).mpr HB.out, ?_⟩
            try simp only [Act.put, List.setIfInBounds_toArray, List.set_cons_zero, List.set_cons_succ]
            iterate 3 (refine wpTree_read rfl rfl ⟨?_, fun w1 hS => ?_, ?_⟩; rotate_left; (focus (go_simp; (try go_bits); try rfl)); simp only [Act.put, List.setIfInBounds_toArray, List.set_cons_zero, List.set_cons_succ])
            refine wpTree_one rfl rfl ?_
            go_simp
            refine ⟨(HS.out _).mpr (HB.out.alloc HB.out.size _), wpTree_done ⟨[_, _, _, _, _], rfl, A4, n4, c4, w4.heap.size, by rw [HF.out], HO.out.alloc _, Blk.new _ _ _, HB.out.size, HB.out.alloc HB.out.size _⟩⟩
          · go_simp
            obtain ⟨w3, hw3⟩ : ∃ x, x = WdWK1.alloc (.cells #[.int .u32 0, .slice none 0 0, .int .u8 0, .int .u8 0, .int .u8 0, .int .u8 0, .int .u8 0, .int .u8 0, .int .u8 0, .int .u8 0, .int .u8 0, .int .u8 0, .int .u8 0, .int .u8 0, .int .u8 0, .int .u8 0, .int .u8 0, .int .u8 0, .int .u8 0, .int .u8 0, .int .u8 0, .int .u8 0, .int .u8 0, .int .u8 0, .int .u8 0, .int .u8 0, .int .u8 0, .int .u8 0, .int .u8 0, .int .u8 0, .int .u8 0, .int .u8 0, .int .u8 0, .int .u8 0] 30) := ⟨_, rfl⟩
            rw [← hw3]
            have z3 : Blk w3 WdWK1.heap.size 30 zeroTokv.toArray := by rw [hw3]; exact Blk.new _ _ _
            have b3 : Below WK1.heap.size WK1 w3 := by rw [hw3]; exact hwdWK1.alloc hwdWK1.size _
            clear hw3
            refine ⟨(HS.out _).mpr b3, ?_⟩
            refine wpTree_one rfl rfl ?_
            go_simp
            refine (HN2.out w3 b3).mono ?_
            rintro e w4 ⟨v4, rfl, o4, b4⟩
            obtain ⟨A4, n4, c4, rfl, -, -, -, -⟩ := o4.sl
            obtain ⟨F, hF⟩ : ∃ F, tokv r.1.1 (.slice A4 n4 c4) r.1.2.2 = F := ⟨_, rfl⟩
            rw [hF]
            have b4' := b3.trans (b4.mono b3.size)
            have o4' := OwnC.mono o4 b3.size
            have z4 := z3.below b4 z3.lt
            have HF := Lib.hid hF
            have HO := Lib.hid o4'
            have HB := Lib.hid b4'
            have HZ := Lib.hid z4
            clear hF o4 b4 o4' b4' z4 z3 b3
            refine ⟨(HS.out _).mpr HB.out, ?_⟩
            try simp only [Act.put, List.setIfInBounds_toArray, List.set_cons_zero, List.set_cons_succ]
            iterate 3 (refine wpTree_read rfl rfl ⟨?_, fun w1 hS => ?_, ?_⟩; rotate_left; (focus (go_simp; (try go_bits); try rfl)); simp only [Act.put, List.setIfInBounds_toArray, List.set_cons_zero, List.set_cons_succ])
            refine wpTree_done ⟨[_, _, _, _, _], rfl, A4, n4, c4, WdWK1.heap.size, by rw [HF.out], HO.out, HZ.out, hwdWK1.size, HB.out⟩
        rintro vs w4 - ⟨AK2, nK2, cK2, gK2, rfl, o4, z9, l9, b4⟩
        simp only [puts, Act.put, List.setIfInBounds_toArray, List.set_cons_zero, List.set_cons_succ]
        obtain ⟨FK2, hF, hlF, hoF, iF⟩ := tok_cells r.1.1 AK2 nK2 cK2 r.1.2.2 Hok'.out.2.2.1
        rw [hF]
        refine wpSeq_write rfl rfl ?_
        refine wp_store_row 30 (.tmp 10) (.tmp 48) rfl gK2 FK2.toArray rfl rfl 30 _ z9 iF (by simp [hlF, zeroTokv, tokv_len]) (by simpa using hoF) ?_
        obtain ⟨WK2, hW9⟩ : ∃ x, x = w4.setRow gK2 FK2.toArray := ⟨_, rfl⟩
        rw [← hW9]
        have fK2 : Blk WK2 gK2 30 FK2.toArray := by rw [hW9]; exact z9.setRow _
        have bK2 : Below WK1.heap.size WK1 WK2 := by rw [hW9]; exact below_setRow b4 l9 _
        have oK2 : OwnC WK2 WK1.heap.size (.slice AK2 nK2 cK2) r.1.2.1 := by rw [hW9]; exact World.ownsRow.kept o4 (grown_setRow _ _ _) (.inr (own_blk_ne o4 z9 (by decide)))
        have LFK2 := Lib.hid hlF
        have OFK2 := Lib.hid hoF
        have IFK2 := Lib.hid iF
        have EFK2 := Lib.hid hF
        have GLK2 := Lib.hid l9
        clear hW9 z9 b4 o4 iF hlF hoF hF l9
        refine ⟨fun _ => (HS.out _).mpr bK2, ?_⟩
        try simp only [Act.put, List.setIfInBounds_toArray, List.set_cons_zero, List.set_cons_succ]
        iterate 1 (refine wpSeq_read rfl rfl ⟨?_, fun w1 hS => ?_, ?_⟩; rotate_left; (focus (go_simp; (try go_bits); try rfl)); simp only [Act.put, List.setIfInBounds_toArray, List.set_cons_zero, List.set_cons_succ])
        refine wpSeq_nil ?_
        clear FA FC HS
        obtain ⟨hk1, hk2⟩ := narRes_kind hr0
        have nK1e : nK1 = r.1.2.1.length := by have := HOK1.out.reads.1; rw [cavv_length] at this; omega
        have nK2e : nK2 = r.1.2.1.length := by have := oK2.reads.1; rw [cavv_length] at this; omega
        have len4 : r.1.2.1.length ≤ 4 := by have := Hlen'.out; omega
        have b02 := HBK1.out.trans (bK2.mono HBK1.out.size)
        have bk2 := hbk.out.below b02
        have o1 : OwnC WK2 B (.slice AK1 nK1 cK1) r.1.2.1 := OwnC.mono (HOK1.out.kept bK2) lBw
        have o2 : OwnC WK2 B (.slice AK2 nK2 cK2) r.1.2.1 := OwnC.mono oK2 (by have := HBK1.out.size; omega)
        have t1 := HFK1.out.below bK2 HFK1.out.lt
        have c11 : WK2.cell? ⟨gK1, 1, none⟩ = some (.slice AK1 nK1 cK1) := by
          have h := t1.cell 1
          rw [← EFK1.out] at h
          exact h
        have KP1 := book_keep B gb v1 v2 h its AK1 nK1 cK1 r.1.2.1 WK2 bk2 o1 ⟨hrl, by omega⟩ (fresh_ne hbk.out.ok HOK1.out (Nat.le_refl _) hrl) (by omega)
        have HKP1 := Lib.hid KP1
        have BE2 := Lib.hid (hb.out.trans (b02.mono lBw))
        have X2 := Lib.hid (XA.out.below b02 XA.out.lt)
        have O1 := Lib.hid o1
        have O2 := Lib.hid o2
        have T1 := Lib.hid t1
        have T2 := Lib.hid fK2
        have OK2 := Lib.hid oK2
        have lX : Xa < WK2.heap.size := Nat.lt_of_lt_of_le XA.out.lt b02.size
        have HN1e := Lib.hid nK1e
        have HN2e := Lib.hid nK2e
        have HLB := Lib.hid (show B ≤ WK2.heap.size from Nat.le_trans lBw b02.size)
        clear KP1 b02 bk2 o1 o2 t1 fK2 oK2 bK2 nK1e nK2e hk1 hr0
        go_wp2_with fail
        refine HKP1.out.mono ?_
        rintro e w8 ⟨rfl, v1', v2', h', its', hb8, hl8, hm8, hk8, hbe8⟩
        have t2 : Blk w8 gK2 30 FK2.toArray := hk8 _ _ _ T2.out (by decide) (by decide)
        have c21 : w8.cell? ⟨gK2, 1, none⟩ = some (.slice AK2 nK2 cK2) := by
          have h := t2.cell 1
          rw [← EFK2.out] at h
          exact h
        have KP2 := book_keep B gb v1' v2' h' its' AK2 nK2 cK2 r.1.2.1 w8 hb8 (O2.out.kinds hk8) ⟨hrl, by omega⟩ (fresh_ne2 hbk.out.ok HOK1.out OK2.out HBK1.out.size (Nat.le_refl _) hrl hm8) (by omega)
        have HKP2 := Lib.hid KP2
        have O8 := Lib.hid (O1.out.kinds hk8)
        have T8 := Lib.hid (hk8 _ _ _ T1.out (by decide) (by decide))
        have X8 := Lib.hid (hk8 _ _ _ X2.out (by decide) (by decide))
        have BE8 := Lib.hid (BE2.out.trans hbe8)
        have L8 := Lib.hid hl8
        clear KP2 hb8 hl8 hm8 hk8 hbe8 t2 c11 O1 T1 X2 BE2 HKP1
        go_wp2_with fail
        refine HKP2.out.mono ?_
        rintro e w9 ⟨rfl, v1'', v2'', h'', its'', hb9, hl9, hm9, hk9, hbe9⟩
        have t9 := hk9 _ _ _ T8.out (by decide) (by decide)
        have o9 := O8.out.kinds hk9
        have x9 := hk9 _ _ _ X8.out (by decide) (by decide)
        have be9 := BE8.out.trans hbe9
        have RG9 := Lib.hid (rangeAt_blk t9 0 FK1 (fun j u h => by simpa using h))
        have IG9 := Lib.hid (show (Tryd.prog.info? 30).map (·.size) = some FK1.length by rw [LFK1.out]; exact Tryd.tok_info)
        obtain ⟨A9, n9, c9, e9, en9, nc9, mc9, rd9⟩ := o9.sl
        injection e9 with q1 q2 q3
        subst q1 q2 q3
        have hz : (tokRes r.1.1 r.1.2.1 r.1.2.2).1 = 0 := by unfold tokRes; rw [if_neg (by omega), if_pos HKA.out]
        have hdec := (tokDec_res r.1.1 r.1.2.1 r.1.2.2 Hok'.out.1 Hok'.out.2.1 Hok'.out.2.2.1 hz).1
        have hlt := tokRes_lt2 r.1.1 r.1.2.1 r.1.2.2 Hok'.out.2.2.2
        have hbl := tokRes_len r.1.1 r.1.2.1 r.1.2.2 Hok'.out.2.2.1
        have EN := token_encode r.1.1 r.1.2.1 AK1 cK1 r.1.2.2 w9 (by rw [← en9]; exact rd9) (by omega) mc9 Hok'.out.1 Hok'.out.2.1 Hok'.out.2.2.1
        rw [← en9, EFK1.out] at EN
        obtain ⟨bs, hbs⟩ : ∃ bs, (tokRes r.1.1 r.1.2.1 r.1.2.2).2 = bs := ⟨_, rfl⟩
        rw [hbs] at EN hdec hlt hbl
        have HEN := Lib.hid EN
        have HDEC := Lib.hid hdec
        have HLT := Lib.hid hlt
        have HBL := Lib.hid hbl
        have HB9 := Lib.hid hb9
        have T9 := Lib.hid t9
        have O9 := Lib.hid o9
        have X9 := Lib.hid x9
        have BE9 := Lib.hid be9
        have L9 := Lib.hid hl9
        clear EN hdec hlt hbl hb9 t9 o9 x9 be9 hl9 hm9 hk9 hbe9 hz en9 nc9 mc9 rd9 hbs c21 T8 O8 X8 BE8 HKP2
        go_wp2_with (refine load_mid_want rfl 30 (.tmp 8) rfl gK1 0 rfl FK1 _ RG9.out Tryd.underlying30 rfl IG9.out ?_)
        refine HEN.out.mono ?_
        rintro e w10 ⟨v10, rfl, own10, b10⟩
        obtain ⟨A10, n10, c10, rfl, nc10, -, rd10⟩ := (show OwnB w10 w9.heap.size v10 bs from own10).sl
        have ln10 := reads_bytes_le rd10
        have lB9 : B ≤ w9.heap.size := Nat.le_trans HB9.out.le (Nat.le_of_lt HB9.out.blk.lt)
        have DE := token_decode bs A10 n10 c10 w10 rd10 (by have := HBL.out; omega) HLT.out ((b10.cell (p := ⟨0, 0, none⟩) (Nat.lt_of_lt_of_le lEB lB9)).trans ((BE9.out.cell (p := ⟨0, 0, none⟩) lEB).trans HE.out))
        rw [HDEC.out] at DE
        have HDE := Lib.hid DE
        have HB10 := Lib.hid b10
        clear DE own10 rd10 b10 nc10 ln10
        go_wp2_with fail
        refine HDE.out.mono ?_
        rintro e w11 ⟨v11, r11, rfl, own11, er11, b11⟩
        have er' : r11 = .nilIface := er11
        subst er'
        obtain ⟨A11, n11, c11, rfl, en11, nc11, -, -⟩ := OwnC.sl own11
        try dsimp only at en11 own11
        obtain ⟨V, hV, lV, oV, iV⟩ := tok_cells r.1.1 A11 n11 c11 r.1.2.2 Hok'.out.2.2.1
        try dsimp only
        rw [hV]
        have HB11 := Lib.hid (HB10.out.trans (b11.mono HB10.out.size))
        have LV := Lib.hid lV
        have OV := Lib.hid oV
        have IV := Lib.hid iV
        have EV := Lib.hid hV
        have O11 := Lib.hid own11
        have Z11 := Lib.hid (Blk.new w11 30 #[.int .u32 0, .slice none 0 0, .int .u8 0, .int .u8 0, .int .u8 0, .int .u8 0, .int .u8 0, .int .u8 0, .int .u8 0, .int .u8 0, .int .u8 0, .int .u8 0, .int .u8 0, .int .u8 0, .int .u8 0, .int .u8 0, .int .u8 0, .int .u8 0, .int .u8 0, .int .u8 0, .int .u8 0, .int .u8 0, .int .u8 0, .int .u8 0, .int .u8 0, .int .u8 0, .int .u8 0, .int .u8 0, .int .u8 0, .int .u8 0, .int .u8 0, .int .u8 0, .int .u8 0, .int .u8 0])
        clear lV oV iV hV own11 er11 b11 en11 nc11
        go_upto_region 14 with (refine wpList_store_row rfl 30 (.tmp 14) (.tmp 64) rfl w11.heap.size V.toArray rfl rfl 30 _ Z11.out IV.out (by simp [LV.out]) (by simpa using OV.out) ?_)
        obtain ⟨w12, hw12⟩ : ∃ x, x = (w11.alloc (.cells #[.int .u32 0, .slice none 0 0, .int .u8 0, .int .u8 0, .int .u8 0, .int .u8 0, .int .u8 0, .int .u8 0, .int .u8 0, .int .u8 0, .int .u8 0, .int .u8 0, .int .u8 0, .int .u8 0, .int .u8 0, .int .u8 0, .int .u8 0, .int .u8 0, .int .u8 0, .int .u8 0, .int .u8 0, .int .u8 0, .int .u8 0, .int .u8 0, .int .u8 0, .int .u8 0, .int .u8 0, .int .u8 0, .int .u8 0, .int .u8 0, .int .u8 0, .int .u8 0, .int .u8 0, .int .u8 0] 30)).setRow w11.heap.size V.toArray := ⟨_, rfl⟩
        rw [← hw12]
        have tw12 : TokAt w12 w11.heap.size V := by rw [hw12]; exact ⟨Blk.setRow (Blk.new _ _ _) _, LV.out⟩
        have bw12 : Below w11.heap.size w11 w12 := by rw [hw12]; exact below_setRow ((Below.refl _ _).alloc (Nat.le_refl _) _) (Nat.le_refl _) _
        clear hw12
        have b912 := HB11.out.trans (bw12.mono HB11.out.size)
        have c121 : w12.cell? ⟨w11.heap.size, 1, none⟩ = some (.slice A11 n11 c11) := by
          have h := tw12.blk.cell 1
          rw [← EV.out] at h
          exact h
        have o12 : OwnC w12 w10.heap.size (.slice A11 n11 c11) r.1.2.1 := O11.out.kept bw12
        have KP3 := book_keep B gb v1'' v2'' h'' its'' A11 n11 c11 r.1.2.1 w12 (HB9.out.below b912) (OwnC.mono o12 (by have := HB10.out.size; omega)) ⟨hrl, by omega⟩ (fresh_ne HB9.out.ok o12 HB10.out.size hrl) (by have := L9.out; have := L8.out; omega)
        have HKP3 := Lib.hid KP3
        have T12 := Lib.hid (T9.out.below b912 T9.out.lt)
        have X12 := Lib.hid (X9.out.below b912 X9.out.lt)
        have O12 := Lib.hid (O9.out.kept b912)
        have BE12 := Lib.hid (BE9.out.trans (b912.mono lB9))
        clear KP3 b912 o12 tw12 bw12 Z11
        go_wp2_with fail
        refine HKP3.out.mono ?_
        rintro e w13 ⟨rfl, v13, v23, h13, its13, hb13, hl13, hm13, hk13, hbe13⟩
        have t13 := hk13 _ _ _ T12.out (by decide) (by decide)
        have RG13 := Lib.hid (rangeAt_blk t13 0 FK1 (fun j u h => by simpa using h))
        have X13 := Lib.hid (hk13 _ _ _ X12.out (by decide) (by decide))
        have O13 := Lib.hid (O12.out.kinds hk13)
        have HB13 := Lib.hid hb13
        have BE13 := Lib.hid (BE12.out.trans hbe13)
        have L13 := Lib.hid hl13
        clear t13 hb13 hl13 hm13 hk13 hbe13 c121
        go_wp2_with (first
          | (refine load_mid_want rfl 30 (.tmp 8) rfl gK1 0 rfl FK1 _ RG13.out Tryd.underlying30 rfl IG9.out ?_)
          | (refine wpList_store_row rfl 30 (.tmp 5) (.tmp 69) rfl Xa FK1.toArray rfl rfl 30 _ X13.out IFK1.out (by simp [LFK1.out, LE1.out]) (by simpa using OFK1.out) ?_)
          | fail)
        go_roundw
        case rel =>
          have hle := Hlen'.out
          have a1 := L8.out
          have a2 := L9.out
          have a3 := L13.out
          have hgr := grown_setRow w13 Xa FK1.toArray
          exact ⟨k + 1, r.1, .slice AK1 nK1 cK1, _, _, _, its13, by omega, by omega, by go_num, HGEN.out, Hok'.out, by omega, HKA.out, by rw [EFK1.out]; exact X13.out.setRow _, World.ownsRow.kept O13.out hgr (.inr (own_blk_ne O13.out X13.out (by decide))), HB13.out.tok hgr X13.out, by omega, below_setRow BE13.out (by rw [← HBQ.out]; exact l3) _⟩
        case measure => simp [intOf]; omega
      · have h0' : ¬ (q : Int) = 0 := by omega
        have KN := known12 WK1 (HTR.out.below bK1 HTR.out.size)
        have HKN := Lib.hid KN
        have BB := Lib.hid (hb.out.trans (bK1.mono lBw))
        clear KN bK1 fK1 oK1
        go_wp2_with fail
        refine HKN.out.mono ?_
        rintro e w9 ⟨rfl, b9⟩
        go_wp2_with fail
        go_ret
        refine ⟨rfl, ?_⟩
        have hs := BB.out.size
        rw [HBQ.out]
        exact BB.out.trans (b9.mono (by rw [← HBQ.out]; exact hs))
    · have AP := book_apart B gb v1 v2 h its wr hbk.out (by omega)
      have HAP := Lib.hid AP
      have hq : ¬ ((k : Int) < n) ∨ ((k : Int) < n ∧ ¬ ((k : Int) < 3)) := by omega
      clear AP hXa hva
      rcases hq with q1 | ⟨q1, q2⟩
      all_goals
        go_wp2_with fail
        refine HAP.out.mono ?_
        rintro e w9 ⟨rfl, b9⟩
        have be9 := hb.out.trans b9
        have KN := known12 w9 (HT.out.below (by rw [HBQ.out]; exact be9) HT.out.size)
        have HKN := Lib.hid KN
        have BB := Lib.hid be9
        clear KN be9 b9
        go_wp2_with fail
        refine HKN.out.mono ?_
        rintro e w10 ⟨rfl, b10⟩
        go_wp2_with fail
        go_ret
        refine ⟨rfl, ?_⟩
        have hs := BB.out.size
        rw [HBQ.out]
        exact BB.out.trans (b10.mono (by rw [← HBQ.out]; exact hs))

end Go.Proofs.YtamhggndcegndaaDoor
