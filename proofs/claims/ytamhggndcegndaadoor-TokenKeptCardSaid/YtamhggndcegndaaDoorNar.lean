/-
  token.Narrow.
-/
import Derived.Test.YtamhggndcegndaaDoorMint
namespace Go.Proofs.YtamhggndcegndaaDoor
open Go.RowKit
set_option linter.unusedVariables false
set_option maxRecDepth 100000

def cavText (c : Int × Nat) : List Nat := be c.1.toNat 1 ++ be c.2 4

/-- A token narrowed, or why not. -/
def narRes (t : Tok) (c : Int × Nat) : Tok × Nat :=
  if kindB c.1 then (if t.2.1.length < 4 then ((t.1, t.2.1 ++ [c], mac t.2.2 (cavText c)), 0) else (zeroTok, 4)) else (zeroTok, 1)

/-- slices.Clone at []api.Caveat. -/
theorem clone_cavs (A : Option Addr) (n c : Nat) (l : List (Int × Nat)) (w : World) (hr : Reads w w.heap.size 2 A n (cavv l)) (hn : n ≤ 8796093022208) :
    Calls Tryd.prog 43 #[.slice A n c] w fun e w' => ∃ v, e = .returned v ∧ OwnC w' w.heap.size v l ∧ Below w.heap.size w w' := by
  have qn : ∀ (w : World) (a : Option Addr) (n c n' c' : Nat), (binOp .eql 23 (.slice a n c) (.slice none n' c')).run Tryd.prog w = .ok (.bool a.isNone) w := fun w a n c n' c' => Lib.run_eql_slice_nil w _ _ a n c n' c' Tryd.underlying23
  have hl : l.length = n := by have := hr.1; rw [cavv_length] at this; omega
  cases A with
  | none =>
    obtain rfl : n = 0 := by
      rcases Nat.eq_zero_or_pos n with h | h
      · exact h
      · obtain ⟨ad, e, _⟩ := hr.2 h
        cases e
    obtain rfl : l = [] := List.eq_nil_of_length_eq_zero hl
    go_enter Tryd.func43, Tryd.ntmps43
    go_wp2
    go_ret
    exact ⟨_, rfl, OwnC.nil .., Below.refl _ _⟩
  | some ad =>
    have h0 : OwnC (w.alloc (.cells #[] 37)) w.heap.size (.slice (some ⟨w.heap.size, 0, none⟩) 0 0) [] := OwnC.made w [] (by simp [maxLen])
    have hr1 := hr.laid (.cells #[] 37)
    clear hl
    go_enter Tryd.func43, Tryd.ntmps43
    go_wp2_with (at_builtin; refine append_cavs rfl (.tmp 5) (.tmp 6) rfl w.heap.size _ [] rfl h0 (some ad) n c l rfl hr1 (by simp; omega) (by simp) ?_)
    intro v1 w1 hown1 hb1 hg1
    go_wp2
    go_ret
    exact ⟨_, rfl, by simpa using hown1, ((Below.refl _ _).alloc (Nat.le_refl _) _).trans hb1⟩

-- END BY HAND
set_option maxHeartbeats 4000000 in
theorem token_narrow (t : Tok) (A : Option Addr) (n c : Nat) (k : Int) (N : Nat) (w : World) (hr : Reads w w.heap.size 2 A n (cavv t.2.1)) (hnc : n ≤ c) (hn : n ≤ 8796093022000) (ht : t.2.2.length = 32) (hb : ∀ x ∈ t.2.2, x < 256) (hN : N < 4294967296) (hT : Tabs w) :
    Calls Tryd.prog 12 #[.agg (tokv t.1 (.slice A n c) t.2.2).toArray, .agg #[.int .i64 k, .int .u32 N]] w fun e w' => ∃ v, e = .returned (.tuple #[.agg (tokv (narRes t (k, N)).1.1 v (narRes t (k, N)).1.2.2).toArray, .int .i64 ((narRes t (k, N)).2 : Nat)]) ∧ OwnC w' w.heap.size v (narRes t (k, N)).1.2.1 ∧ Below w.heap.size w w' := by
  have hl : t.2.1.length = n := by have := hr.1; rw [cavv_length] at this; omega
  have hlen := tokv_len t.1 (.slice A n c) t.2.2 ht
  have d0 : (tokv t.1 (.slice A n c) t.2.2)[0]? = some (.int .u32 (t.1 : Int)) := rfl
  have d1 : (tokv t.1 (.slice A n c) t.2.2)[1]? = some (.slice A n c) := rfl
  have d2 : ∀ j u, (byv t.2.2)[j]? = some u → (tokv t.1 (.slice A n c) t.2.2)[2 + j]? = some u := fun j u h => by
    unfold tokv
    rw [show 2 + j = j + 1 + 1 by omega, List.getElem?_cons_succ, List.getElem?_cons_succ]
    exact h
  obtain ⟨D, hD⟩ : ∃ D, tokv t.1 (.slice A n c) t.2.2 = D := ⟨_, rfl⟩
  rw [hD] at hlen d0 d1 d2 ⊢
  obtain ⟨W0, hW0⟩ : ∃ x, x = ((w.alloc (.cells D.toArray 30)).alloc (.cells #[.int .i64 k, .int .u32 N] 37)).alloc (.cells #[.int .u32 0, .slice none 0 0, .int .u8 0, .int .u8 0, .int .u8 0, .int .u8 0, .int .u8 0, .int .u8 0, .int .u8 0, .int .u8 0, .int .u8 0, .int .u8 0, .int .u8 0, .int .u8 0, .int .u8 0, .int .u8 0, .int .u8 0, .int .u8 0, .int .u8 0, .int .u8 0, .int .u8 0, .int .u8 0, .int .u8 0, .int .u8 0, .int .u8 0, .int .u8 0, .int .u8 0, .int .u8 0, .int .u8 0, .int .u8 0, .int .u8 0, .int .u8 0, .int .u8 0, .int .u8 0] 30) := ⟨_, rfl⟩
  have t0 : Blk W0 w.heap.size 30 D.toArray := by rw [hW0]; exact ((Blk.new w _ _).alloc _).alloc _
  have v0 : Blk W0 (w.heap.size + 1) 37 #[.int .i64 k, .int .u32 N] := by
    have h := (Blk.new (w.alloc (.cells D.toArray 30)) 37 #[.int .i64 k, .int .u32 N]).alloc (.cells #[.int .u32 0, .slice none 0 0, .int .u8 0, .int .u8 0, .int .u8 0, .int .u8 0, .int .u8 0, .int .u8 0, .int .u8 0, .int .u8 0, .int .u8 0, .int .u8 0, .int .u8 0, .int .u8 0, .int .u8 0, .int .u8 0, .int .u8 0, .int .u8 0, .int .u8 0, .int .u8 0, .int .u8 0, .int .u8 0, .int .u8 0, .int .u8 0, .int .u8 0, .int .u8 0, .int .u8 0, .int .u8 0, .int .u8 0, .int .u8 0, .int .u8 0, .int .u8 0, .int .u8 0, .int .u8 0] 30)
    rw [alloc_size] at h
    rw [hW0]
    exact h
  have z0 : Blk W0 (w.heap.size + 1 + 1) 30 #[.int .u32 0, .slice none 0 0, .int .u8 0, .int .u8 0, .int .u8 0, .int .u8 0, .int .u8 0, .int .u8 0, .int .u8 0, .int .u8 0, .int .u8 0, .int .u8 0, .int .u8 0, .int .u8 0, .int .u8 0, .int .u8 0, .int .u8 0, .int .u8 0, .int .u8 0, .int .u8 0, .int .u8 0, .int .u8 0, .int .u8 0, .int .u8 0, .int .u8 0, .int .u8 0, .int .u8 0, .int .u8 0, .int .u8 0, .int .u8 0, .int .u8 0, .int .u8 0, .int .u8 0, .int .u8 0] := by
    have h := Blk.new ((w.alloc (.cells D.toArray 30)).alloc (.cells #[.int .i64 k, .int .u32 N] 37)) 30 #[.int .u32 0, .slice none 0 0, .int .u8 0, .int .u8 0, .int .u8 0, .int .u8 0, .int .u8 0, .int .u8 0, .int .u8 0, .int .u8 0, .int .u8 0, .int .u8 0, .int .u8 0, .int .u8 0, .int .u8 0, .int .u8 0, .int .u8 0, .int .u8 0, .int .u8 0, .int .u8 0, .int .u8 0, .int .u8 0, .int .u8 0, .int .u8 0, .int .u8 0, .int .u8 0, .int .u8 0, .int .u8 0, .int .u8 0, .int .u8 0, .int .u8 0, .int .u8 0, .int .u8 0, .int .u8 0]
    rw [alloc_size, alloc_size] at h
    rw [hW0]
    exact h
  have b0 : Below w.heap.size w W0 := by rw [hW0]; exact below_new (below_new (below_new (Below.refl _ _) _) _) _
  have lW : w.heap.size + 1 + 1 < W0.heap.size := z0.lt
  have ck := v0.cell 0
  have cs := t0.cell 1
  rw [show (#[Value.int .i64 k, .int .u32 N] : Array Value)[0]? = some (.int .i64 k) from rfl] at ck
  rw [List.getElem?_toArray, d1] at cs
  have HW0 := Lib.hid hW0
  have HD := Lib.hid hD
  have HLEN := Lib.hid hlen
  have D0 := Lib.hid d0
  have D1 := Lib.hid d1
  have D2 := Lib.hid d2
  have T0 := Lib.hid t0
  have V0 := Lib.hid v0
  have Z0 := Lib.hid z0
  have B0 := Lib.hid b0
  have HR := Lib.hid hr
  have HT := Lib.hid hT
  have Hl := Lib.hid hl
  clear hW0 hD hlen d0 d1 d2 t0 v0 z0 b0 hr hT hl
  go_enter Tryd.func12, Tryd.ntmps12
  go_upto_region 1 with (fail)
  rw [← HW0.out]
  by_cases hk : kindB k = true
  · go_upto_region 3 with ((with_reducible refine (token_kind k _).mono ?_); (rintro _ _ ⟨rfl, rfl⟩))
    by_cases h4 : n < 4
    · have hres : narRes t (k, N) = ((t.1, t.2.1 ++ [(k, N)], mac t.2.2 (cavText (k, N))), 0) := by unfold narRes; rw [if_pos hk, if_pos (by rw [Hl.out]; exact h4)]
      have k13 := kindB_bd hk
      have q4 : ¬ (n : Int) ≥ 4 := by omega
      have Hres := Lib.hid hres
      clear hres hk ck
      go_wp2_with fail
      refine (new_writer W0).mono ?_
      rintro e w1 ⟨rfl, hw1, hb1⟩
      have v1 := V0.out.below hb1 V0.out.lt
      have cv0 := v1.cell 0
      have cv1 := v1.cell 1
      rw [show (#[Value.int .i64 k, Value.int .u32 N] : Array Value)[0]? = some (.int .i64 k) from rfl] at cv0
      rw [show (#[Value.int .i64 k, Value.int .u32 N] : Array Value)[1]? = some (.int .u32 N) from rfl] at cv1
      have B1 := Lib.hid hb1
      clear v1 hb1 cs
      go_wp2_with fail
      refine (token_caveat W0.heap.size W0.heap.size [] k N w1 hw1 (by simp) k13.1 k13.2 hN).mono ?_
      rintro e w2 ⟨rfl, hw2, hb2, -⟩
      rw [List.nil_append, show be k.toNat 1 ++ be N 4 = cavText (k, N) from rfl] at hw2
      have b2 := B0.out.trans ((B1.out.mono B0.out.size).trans (hb2.mono B0.out.size))
      have t2 := (T0.out.below B1.out T0.out.lt).below hb2 T0.out.lt
      have v2 := (V0.out.below B1.out V0.out.lt).below hb2 V0.out.lt
      have z2 := (Z0.out.below B1.out Z0.out.lt).below hb2 Z0.out.lt
      have l02 : W0.heap.size ≤ w2.heap.size := Nat.le_trans B1.out.size hb2.size
      have b02 : Below W0.heap.size W0 w2 := B1.out.trans hb2
      have B02 := Lib.hid b2
      have T2 := Lib.hid t2
      have V2 := Lib.hid v2
      have Z2 := Lib.hid z2
      have W2 := Lib.hid hw2
      clear b2 t2 v2 z2 hw2 hb2 cv0 cv1 hw1 b02
      go_upto_region 7 with (fail)
      obtain ⟨S, HS⟩ : ∃ S : World → Prop, Hid (∀ w', S w' = Below (w.heap.size + 1 + 1) w2 w') := ⟨_, fun _ => rfl⟩
      have hle : w.heap.size + 1 + 1 ≤ w2.heap.size := by omega
      have f0 : ∀ w', S w' → w'.cell? ⟨w.heap.size, 0, none⟩ = some (.int .u32 (t.1 : Int)) := fun w' h => by
        rw [HS.out] at h
        rw [(T2.out.below h (by omega)).cell, List.getElem?_toArray, D0.out]
      have f1 : ∀ w', S w' → w'.cell? ⟨w.heap.size, 1, none⟩ = some (.slice A n c) := fun w' h => by
        rw [HS.out] at h
        rw [(T2.out.below h (by omega)).cell, List.getElem?_toArray, D1.out]
      have f2 : ∀ w', S w' → w'.cell? ⟨w.heap.size + 1, 0, none⟩ = some (.int .i64 k) := fun w' h => by
        rw [HS.out] at h
        rw [(V2.out.below h (by omega)).cell]; rfl
      have f3 : ∀ w', S w' → w'.cell? ⟨w.heap.size + 1, 1, none⟩ = some (.int .u32 N) := fun w' h => by
        rw [HS.out] at h
        rw [(V2.out.below h (by omega)).cell]; rfl
      have F0 := Lib.hid f0
      have F1 := Lib.hid f1
      have F2 := Lib.hid f2
      have F3 := Lib.hid f3
      clear f0 f1 f2 f3
      refine wp_region_fork S 16 [27, 29] [(0, false), (1, false), (2, false), (3, false), (5, false), (8, false), (9, false), (10, false)] 2 (.two 4 (.one 6 .done) 6 (.one 4 .done)) [(7, true), (11, true), (12, true), (13, false), (14, true), (15, false)] #[true, true, true, true, false, true, false, false, true, true, true, false, false, false, false, false] #[true, true, true, true, true, true, true, false, true, true, true, false, false, false, false, false] (by kernel_rfl) rfl (by kernel_rfl) (by kernel_rfl) (by kernel_rfl) (by kernel_rfl) (by kernel_rfl) (fun _ _ d _ _ h => by cases d <;> exact h) ((HS.out _).mpr (Below.refl _ w2).drew) ?_
      iterate 8 (refine wpSteps_read rfl rfl ⟨?_, fun w1 hS => ?_, ?_⟩; rotate_left; (focus (have g0 := F0.out w1 hS; have g1 := F1.out w1 hS; have g2 := F2.out w1 hS; have g3 := F3.out w1 hS; go_simp; try rfl)); simp only [Act.put, List.setIfInBounds_toArray, List.set_cons_zero, List.set_cons_succ])
      refine wpSteps_nil ?_
      have hrd : Reads w2.drew w2.drew.heap.size 2 A n (cavv t.2.1) := (HR.out.call B02.out).drewS
      have hwd : Wri w2.drew W0.heap.size W0.heap.size (cavText (k, N)) := W2.out.kept_call (Below.refl _ _).drew
      refine ⟨fun vs w' => ∃ v g, vs = [v, .slice (some ⟨g, 0, none⟩) 1 1] ∧ OwnC w' w2.heap.size v t.2.1 ∧ Reads w' w'.heap.size 2 (some ⟨g, 0, none⟩) 1 (cavv [(k, N)]) ∧ Below w2.heap.size w2 w', ?_, ?_⟩
      · refine wpTree_two rfl rfl rfl rfl ?_ ?_
        · go_simp
          refine (clone_cavs A n c t.2.1 w2.drew hrd (by omega)).mono ?_
          rintro e w3 ⟨v, rfl, ho, hb⟩
          have hb' : Below w2.heap.size w2 w3 := ⟨hb.os, hb.tape, hb.output, hb.size, hb.block⟩
          have ho' : OwnC w3 w2.heap.size v t.2.1 := ho
          refine ⟨(HS.out _).mpr (hb'.mono hle), ?_⟩
          try simp only [Act.put, List.setIfInBounds_toArray, List.set_cons_zero, List.set_cons_succ]
          refine wpTree_one rfl rfl ?_
          go_simp
          refine ⟨(HS.out _).mpr ((hb'.alloc hb'.size _).mono hle), ?_⟩
          refine wpTree_done ⟨[v, .slice (some ⟨w3.heap.size, 0, none⟩) 1 1], rfl, v, w3.heap.size, rfl, ho'.alloc _, ?_, hb'.alloc hb'.size _⟩
          have := Reads.new w3 37 [.int .i64 k, .int .u32 N] 2 1 rfl
          rw [alloc_size]
          exact this
        · go_simp
          obtain ⟨w3, hw3⟩ : ∃ x, x = (w2.alloc (.cells #[.int .i64 k, .int .u32 N] 37)).drew := ⟨_, rfl⟩
          have b3 : Below w2.heap.size w2 w3 := by rw [hw3]; exact ((Below.refl _ _).alloc (Nat.le_refl _) _).drew
          have s3 : w3.heap.size = w2.heap.size + 1 := by rw [hw3, drew_size, alloc_size]
          have r3 : Reads w3 w3.heap.size 2 (some ⟨w2.heap.size, 0, none⟩) 1 (cavv [(k, N)]) := by
            have := Reads.new w2 37 [.int .i64 k, .int .u32 N] 2 1 rfl
            rw [s3, hw3]
            exact this
          have E3 := Lib.hid hw3
          rw [← E3.out]
          clear hw3
          refine ⟨(HS.out _).mpr (b3.mono hle), ?_⟩
          refine wpTree_one rfl rfl ?_
          go_simp
          refine (clone_cavs A n c t.2.1 w3 ((HR.out.call B02.out).call b3) (by omega)).mono ?_
          rintro e w4 ⟨v, rfl, ho, hb⟩
          refine ⟨(HS.out _).mpr ((b3.trans (hb.mono (by omega))).mono hle), ?_⟩
          refine wpTree_done ⟨[v, .slice (some ⟨w2.heap.size, 0, none⟩) 1 1], rfl, v, w2.heap.size, rfl, ho.mono (by omega), r3.call hb, b3.trans (hb.mono (by omega))⟩
      · rintro vs w4 - ⟨v, g, rfl, o4, r4, b4⟩
        simp only [puts, Act.put, List.setIfInBounds_toArray, List.set_cons_zero, List.set_cons_succ]
        refine wpSeq_write rfl rfl ?_
        refine wp_append_cavs (.tmp 27) (.tmp 29) rfl w2.heap.size v t.2.1 rfl o4 _ 1 1 [(k, N)] rfl r4 (by have := Hl.out; omega) b4.size ?_
        intro v5 w5 o5 b5 _
        have b25 := b4.trans b5
        refine ⟨fun _ => (HS.out _).mpr (b25.mono hle), ?_⟩
        try simp only [Act.put, List.setIfInBounds_toArray, List.set_cons_zero, List.set_cons_succ]
        obtain ⟨A5, n5, c5, rfl, -, -, -, -⟩ := o5.sl
        have hw5 : Wri w5 W0.heap.size W0.heap.size (cavText (k, N)) := W2.out.kept_call b25
        have O5 := Lib.hid o5
        have B25 := Lib.hid b25
        have lc : (cavText (k, N)).length = 5 := by simp [cavText, be_length]
        clear o5 b25 o4 r4 b4 b5
        refine wpSeq_write rfl rfl ?_
        go_simp
        refine (writer_done _ _ _ w5 hw5 (by rw [lc]; omega)).mono ?_
        rintro e w6 ⟨v6, rfl, own6, b6⟩
        obtain ⟨A6, n6, c6, rfl, nc6, -, r6⟩ := (show OwnB w6 w5.heap.size v6 (cavText (k, N)) from own6).sl
        have ln6 := reads_bytes_le r6
        rw [lc] at ln6
        have b26 := B25.out.trans (b6.mono B25.out.size)
        have t6 := T2.out.below b26 T2.out.lt
        have rk := reads_mid (n := 32) t6 (by rw [byv_length]; exact ht) D2.out
        have M := sha_mac 32 32 n6 c6 _ A6 t.2.2 (cavText (k, N)) w6 rk r6 hb (by intro x hx; rcases List.mem_append.1 hx with h | h <;> exact be_lt _ _ x h) (by omega) (by omega) ((HT.out.below B02.out HT.out.size).below b26 (Nat.le_trans HT.out.size B02.out.size))
        have HM := Lib.hid M
        have B26 := Lib.hid b26
        have O6 := Lib.hid (O5.out.kept b6)
        clear M b26 t6 rk ln6 own6 r6 b6 hw5
        refine ⟨(HS.out _).mpr (B26.out.mono hle), ?_⟩
        try simp only [Act.put, List.setIfInBounds_toArray, List.set_cons_zero, List.set_cons_succ]
        refine wpSeq_write rfl rfl ?_
        go_simp
        refine HM.out.mono ?_
        rintro e w7 ⟨rfl, b7⟩
        obtain ⟨T, hT⟩ : ∃ T, tokv t.1 (.slice A5 n5 c5) (mac t.2.2 (cavText (k, N))) = T := ⟨_, rfl⟩
        have lT := tokv_len t.1 (.slice A5 n5 c5) (mac t.2.2 (cavText (k, N))) (mac_length _ _)
        have oT := tokv_one t.1 (.slice A5 n5 c5) rfl (mac t.2.2 (cavText (k, N)))
        have bT := built_token t.1 A5 n5 c5 (byv (mac t.2.2 (cavText (k, N)))) (by rw [byv_length]; exact mac_length _ _)
        rw [show (Value.int .u32 (t.1 : Int) :: Value.slice A5 n5 c5 :: byv (mac t.2.2 (cavText (k, N)))) = tokv t.1 (.slice A5 n5 c5) (mac t.2.2 (cavText (k, N))) from rfl] at bT
        rw [hT] at lT oT bT
        obtain ⟨E, hE⟩ : ∃ E, byv (mac t.2.2 (cavText (k, N))) = E := ⟨_, rfl⟩
        rw [hE] at bT ⊢
        have BT := Lib.hid bT
        have HTT := Lib.hid hT
        have b27 := B26.out.trans (b7.mono B26.out.size)
        have z7 := Z2.out.below b27 Z2.out.lt
        have O7 := Lib.hid (O6.out.kept b7)
        have HI := Lib.hid (show (Tryd.prog.info? 30).map (·.size) = some T.length by rw [lT]; exact Tryd.tok_info)
        have B27 := Lib.hid b27
        clear bT hT hE b7 b27
        refine ⟨(HS.out _).mpr (B27.out.mono hle), ?_⟩
        try simp only [Act.put, List.setIfInBounds_toArray, List.set_cons_zero, List.set_cons_succ]
        refine wpSeq_read rfl rfl ⟨.agg T.toArray, fun w1 hS => ?_, ?_⟩
        · exact run_built 30 _ rfl _ _ BT.out (by simp [Act.eval])
        try simp only [Act.put, List.setIfInBounds_toArray, List.set_cons_zero, List.set_cons_succ]
        refine wpSeq_write rfl rfl ?_
        refine wp_store_row 30 (.tmp 4) (.tmp 36) rfl (w.heap.size + 1 + 1) T.toArray rfl rfl 30 _ z7 (by simpa using HI.out) (by simp [lT]) (by simpa using oT) ?_
        have b8 : Below w.heap.size w (w7.setRow (w.heap.size + 1 + 1) T.toArray) := below_setRow (B02.out.trans (B27.out.mono B02.out.size)) (by omega) _
        have O8 : OwnC (w7.setRow (w.heap.size + 1 + 1) T.toArray) w2.heap.size (.slice A5 n5 c5) (t.2.1 ++ [(k, N)]) :=
          World.ownsRow.kept O7.out (grown_setRow _ _ _) (.inr (own_blk_ne O7.out z7 (by decide)))
        have z8 := z7.setRow T.toArray
        refine ⟨fun _ => (HS.out _).mpr (below_setRow (B27.out.mono hle) (Nat.le_refl _) _), ?_⟩
        try simp only [Act.put, List.setIfInBounds_toArray, List.set_cons_zero, List.set_cons_succ]
        iterate 1 (refine wpSeq_read rfl rfl ⟨?_, fun w1 hS => ?_, ?_⟩; rotate_left; (focus (go_simp; (try go_bits); try rfl)); simp only [Act.put, List.setIfInBounds_toArray, List.set_cons_zero, List.set_cons_succ])
        refine wpSeq_nil ?_
        go_wp2_with fail
        refine bodyPost_ret (results_cell_tmp rfl rfl (load_tok z8 lT)) rfl ⟨.slice A5 n5 c5, by rw [Hres.out, ← HTT.out]; rfl, by rw [Hres.out]; exact O8.mono (by have := B02.out.size; omega), b8⟩
    · have hres : narRes t (k, N) = (zeroTok, 4) := by unfold narRes; rw [if_pos hk, if_neg (by rw [Hl.out]; exact h4)]
      have q4 : (n : Int) ≥ 4 := by omega
      have Hres := Lib.hid hres
      clear hres hk ck
      go_wp2_with (refine wpList_store_row rfl 30 (.tmp 4) (.tmp 18) rfl (w.heap.size + 1 + 1) zeroTokv.toArray rfl rfl 30 _ Z0.out zeroTokv_info zeroTokv_size zeroTokv_one ?_)
      have z8 : Blk _ _ 30 zeroTokv.toArray := Z0.out.setRow zeroTokv.toArray
      refine bodyPost_ret (results_cell_tmp rfl rfl (load_tok z8 rfl)) rfl ⟨.slice none 0 0, by rw [Hres.out]; rfl, by rw [Hres.out]; exact OwnC.nil _ _, ?_⟩
      exact below_setRow B0.out (by omega) _
  · have hk' : kindB k = false := by simpa using hk
    have hres : narRes t (k, N) = (zeroTok, 1) := by unfold narRes; rw [if_neg hk]
    have Hres := Lib.hid hres
    clear hres hk
    go_wp2_with (first
      | ((with_reducible refine (token_kind k _).mono ?_); (rintro _ _ ⟨rfl, rfl⟩))
      | (refine wpList_store_row rfl 30 (.tmp 4) (.tmp 12) rfl (w.heap.size + 1 + 1) zeroTokv.toArray rfl rfl 30 _ Z0.out zeroTokv_info zeroTokv_size zeroTokv_one ?_))
    have z8 : Blk _ _ 30 zeroTokv.toArray := Z0.out.setRow zeroTokv.toArray
    refine bodyPost_ret (results_cell_tmp rfl rfl (load_tok z8 rfl)) rfl ⟨.slice none 0 0, by rw [Hres.out]; rfl, by rw [Hres.out]; exact OwnC.nil _ _, ?_⟩
    exact below_setRow B0.out (by omega) _

end Go.Proofs.YtamhggndcegndaaDoor
