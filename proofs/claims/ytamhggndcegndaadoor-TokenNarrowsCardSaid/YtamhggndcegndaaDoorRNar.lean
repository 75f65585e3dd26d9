/-
  deponentref12.Narrow: as token.Narrow.
-/
import Derived.Test.YtamhggndcegndaaDoorRNarP
import Derived.Test.YtamhggndcegndaaDoorRMint
import Derived.Test.YtamhggndcegndaaDoorRMac
import Derived.Test.YtamhggndcegndaaDoorBld1
import Derived.Test.YtamhggndcegndaaDoorRef12
import Derived.Test.YtamhggndcegndaaDoorOrders
namespace Go.Proofs.YtamhggndcegndaaDoor
open Go.RowKit
set_option linter.unusedVariables false
set_option maxRecDepth 100000

/-- One caveat, just laid. -/
theorem reads_cav1 {w : World} {g : Nat} {k : Int} {N : Nat} (h : Blk w g 37 #[.int .i64 k, .int .u32 (N : Int)]) : Reads w w.heap.size 2 (some ⟨g, 0, none⟩) 1 (cavv [(k, N)]) := by
  refine ⟨rfl, fun _ => ⟨_, rfl, h.lt, fun j u hu => ?_⟩⟩
  rw [Addr.add_mid, h.cell (0 + j)]
  simpa [cavv] using hu

theorem built_token1 (id : Nat) (A : Option Addr) (n c : Nat) : Tryd.prog.built 30 [(0, .int .u32 id), (1, .slice A n c)] = some (tokv id (.slice A n c) (List.replicate 32 0)).toArray := by kernel_rfl

-- END BY HAND
set_option maxHeartbeats 4000000 in
theorem ref12_narrow (tb : Nat) (t : Tok) (A : Option Addr) (n c : Nat) (k : Int) (N : Nat) (w : World) (hr : Reads w w.heap.size 2 A n (cavv t.2.1)) (hnc : n ≤ c) (hn : n ≤ 8796093022000) (ht : t.2.2.length = 32) (hb : ∀ x ∈ t.2.2, x < 256) (hN : N < 4294967296) (hT : RTab w tb) :
    Calls Tryd.prog 20 #[.pointer (some ⟨tb, 0, none⟩), .agg (tokv t.1 (.slice A n c) t.2.2).toArray, .agg #[.int .i64 k, .int .u32 N]] w fun e w' => ∃ v, e = .returned (.tuple #[.agg (tokv (narRes t (k, N)).1.1 v (narRes t (k, N)).1.2.2).toArray, .int .i64 ((narRes t (k, N)).2 : Nat)]) ∧ OwnC w' w.heap.size v (narRes t (k, N)).1.2.1 ∧ Below w.heap.size w w' := by
  have hl : t.2.1.length = n := by have := hr.1; rw [cavv_length] at this; omega
  have hlen := tokv_len t.1 (.slice A n c) t.2.2 ht
  have d0 : (tokv t.1 (.slice A n c) t.2.2)[0]? = some (.int .u32 (t.1 : Int)) := rfl
  have d1 : (tokv t.1 (.slice A n c) t.2.2)[1]? = some (.slice A n c) := rfl
  have d2 : ∀ j u, (byv t.2.2)[j]? = some u → (tokv t.1 (.slice A n c) t.2.2)[2 + j]? = some u := fun j u h => by
    unfold tokv
    rw [show 2 + j = j + 1 + 1 by omega, List.getElem?_cons_succ, List.getElem?_cons_succ]
    exact h
  obtain ⟨D, hD⟩ : ∃ D, tokv t.1 (.slice A n c) t.2.2 = D := ⟨_, rfl⟩
  rw [hD] at hlen d0 d1 d2 ⊢
  obtain ⟨W0, hW0⟩ : ∃ x, x = ((w.alloc (.cells D.toArray 30)).alloc (.cells #[.int .i64 k, .int .u32 N] 37)).alloc (.cells #[.int .u32 0, .slice none 0 0, .int .u8 0, .int .u8 0, .int .u8 0, .int .u8 0, .int .u8 0, .int .u8 0, .int .u8 0, .int .u8 0, .int .u8 0, .int .u8 0, .int .u8 0, .int .u8 0, .int .u8 0, .int .u8 0, .int .u8 0, .int .u8 0, .int .u8 0, .int .u8 0, .int .u8 0, .int .u8 0, .int .u8 0, .int .u8 0, .int .u8 0, .int .u8 0, .int .u8 0, .int .u8 0, .int .u8 0, .int .u8 0, .int .u8 0, .int .u8 0, .int .u8 0, .int .u8 0] 30) := ⟨_, rfl⟩
  have t0 : Blk W0 w.heap.size 30 D.toArray := by rw [hW0]; exact ((Blk.new w _ _).alloc _).alloc _
  have v0 : Blk W0 (w.heap.size + 1) 37 #[.int .i64 k, .int .u32 N] := by
    have h := (Blk.new (w.alloc (.cells D.toArray 30)) 37 #[.int .i64 k, .int .u32 N]).alloc (.cells #[.int .u32 0, .slice none 0 0, .int .u8 0, .int .u8 0, .int .u8 0, .int .u8 0, .int .u8 0, .int .u8 0, .int .u8 0, .int .u8 0, .int .u8 0, .int .u8 0, .int .u8 0, .int .u8 0, .int .u8 0, .int .u8 0, .int .u8 0, .int .u8 0, .int .u8 0, .int .u8 0, .int .u8 0, .int .u8 0, .int .u8 0, .int .u8 0, .int .u8 0, .int .u8 0, .int .u8 0, .int .u8 0, .int .u8 0, .int .u8 0, .int .u8 0, .int .u8 0, .int .u8 0, .int .u8 0] 30)
    rw [alloc_size] at h
    rw [hW0]
    exact h
  have z0 : Blk W0 (w.heap.size + 1 + 1) 30 #[.int .u32 0, .slice none 0 0, .int .u8 0, .int .u8 0, .int .u8 0, .int .u8 0, .int .u8 0, .int .u8 0, .int .u8 0, .int .u8 0, .int .u8 0, .int .u8 0, .int .u8 0, .int .u8 0, .int .u8 0, .int .u8 0, .int .u8 0, .int .u8 0, .int .u8 0, .int .u8 0, .int .u8 0, .int .u8 0, .int .u8 0, .int .u8 0, .int .u8 0, .int .u8 0, .int .u8 0, .int .u8 0, .int .u8 0, .int .u8 0, .int .u8 0, .int .u8 0, .int .u8 0, .int .u8 0] := by
    have h := Blk.new ((w.alloc (.cells D.toArray 30)).alloc (.cells #[.int .i64 k, .int .u32 N] 37)) 30 #[.int .u32 0, .slice none 0 0, .int .u8 0, .int .u8 0, .int .u8 0, .int .u8 0, .int .u8 0, .int .u8 0, .int .u8 0, .int .u8 0, .int .u8 0, .int .u8 0, .int .u8 0, .int .u8 0, .int .u8 0, .int .u8 0, .int .u8 0, .int .u8 0, .int .u8 0, .int .u8 0, .int .u8 0, .int .u8 0, .int .u8 0, .int .u8 0, .int .u8 0, .int .u8 0, .int .u8 0, .int .u8 0, .int .u8 0, .int .u8 0, .int .u8 0, .int .u8 0, .int .u8 0, .int .u8 0]
    rw [alloc_size, alloc_size] at h
    rw [hW0]
    exact h
  have b0 : Below w.heap.size w W0 := by rw [hW0]; exact below_new (below_new (below_new (Below.refl _ _) _) _) _
  have tb0 : RTab W0 tb := Blk.below hT b0 (Blk.lt hT)
  have lW : w.heap.size + 1 + 1 < W0.heap.size := z0.lt
  have ltb : tb < w.heap.size := Blk.lt hT
  have ck := v0.cell 0
  have cs := t0.cell 1
  rw [show (#[Value.int .i64 k, .int .u32 N] : Array Value)[0]? = some (.int .i64 k) from rfl] at ck
  rw [List.getElem?_toArray, d1] at cs
  have HW0 := Lib.hid hW0
  have HD := Lib.hid hD
  have HLEN := Lib.hid hlen
  have D0 := Lib.hid d0
  have D1 := Lib.hid d1
  have D2 := Lib.hid d2
  have T0 := Lib.hid t0
  have V0 := Lib.hid v0
  have Z0 := Lib.hid z0
  have B0 := Lib.hid b0
  have HR := Lib.hid (hr.call b0)
  have HT := Lib.hid tb0
  have Hl := Lib.hid hl
  clear hW0 hD hlen d0 d1 d2 t0 v0 z0 b0 hr hT tb0 hl
  go_enter Tryd.func20, Tryd.ntmps20
  go_upto_region 1 with (fail)
  rw [← HW0.out]
  by_cases hk : kindB k = true
  · go_upto_region 3 with ((with_reducible refine (ref12_kind k _).mono ?_); (rintro _ _ ⟨rfl, rfl⟩))
    by_cases h4 : n < 4
    · have hres : narRes t (k, N) = ((t.1, t.2.1 ++ [(k, N)], mac t.2.2 (cavText (k, N))), 0) := by unfold narRes; rw [if_pos hk, if_pos (by rw [Hl.out]; exact h4)]
      have k13 := kindB_bd hk
      have q4 : ¬ (n : Int) ≥ 4 := by omega
      have Hres := Lib.hid hres
      clear hres hk
      obtain ⟨m, rfl⟩ := Int.eq_ofNat_of_zero_le (by omega : 0 ≤ k)
      have ku : IntKind.u8.wrap (m : Int) = m := IntWalk.u8_in _ (by omega)
      have nu : IntKind.u64.wrap (N : Int) = N := IntWalk.u64_in _ (by omega)
      have KU := Lib.hid ku
      have NU := Lib.hid nu
      clear ku nu ck
      go_upto_region 5 with (fail)
      obtain ⟨S, HS⟩ : ∃ S : World → Prop, Hid (∀ w', S w' = Below W0.heap.size W0 w') := ⟨_, fun _ => rfl⟩
      have F0 : Hid (∀ w', S w' → w'.cell? ⟨w.heap.size, 0, none⟩ = some (.int .u32 (t.1 : Int))) := fun w' h => by
        rw [HS.out] at h
        rw [(T0.out.below h T0.out.lt).cell, List.getElem?_toArray, D0.out]
      have F1 : Hid (∀ w', S w' → w'.cell? ⟨w.heap.size, 1, none⟩ = some (.slice A n c)) := fun w' h => by
        rw [HS.out] at h
        rw [(T0.out.below h T0.out.lt).cell, List.getElem?_toArray, D1.out]
      have F2 : Hid (∀ w', S w' → w'.cell? ⟨w.heap.size + 1, 0, none⟩ = some (.int .i64 m)) := fun w' h => by
        rw [HS.out] at h
        rw [(V0.out.below h V0.out.lt).cell]; rfl
      have F3 : Hid (∀ w', S w' → w'.cell? ⟨w.heap.size + 1, 1, none⟩ = some (.int .u32 N)) := fun w' h => by
        rw [HS.out] at h
        rw [(V0.out.below h V0.out.lt).cell]; rfl
      have keepS : ∀ w' w'', S w' → W0.heap.size ≤ w'.heap.size → Below w'.heap.size w' w'' → S w'' := fun w' w'' h hl hb => by
        rw [HS.out] at h ⊢
        exact h.trans (hb.mono hl)
      refine wp_region_inv S 11 [21, 24, 26, 27, 28, 8] [(0, false), (1, false), (3, false), (4, false), (6, false)] 6 [(2, []), (5, [2]), (7, []), (8, [5, 7]), (9, [8]), (10, [])] [(11, true)] #[true, true, false, true, true, false, true, false, false, false, false, false] #[true, true, true, true, true, true, true, true, true, true, true, false] (by kernel_rfl) rfl (by kernel_rfl) (by kernel_rfl) (by kernel_rfl) (by kernel_rfl) (by kernel_rfl) (by kernel_rfl) (fun _ _ d _ _ h => by cases d <;> exact h) ((HS.out _).mpr (Below.refl _ W0).drew) ?_
      iterate 5 (refine wpSteps_read rfl rfl ⟨?_, fun w1 hS => ?_, ?_⟩; rotate_left; (focus (have g0 := F0.out w1 hS; have g1 := F1.out w1 hS; have g2 := F2.out w1 hS; have g3 := F3.out w1 hS; go_simp; try rfl)); simp only [Act.put, List.setIfInBounds_toArray, List.set_cons_zero, List.set_cons_succ])
      refine wpSteps_nil ?_
      refine ⟨fun Dn vs w' => ∃ x21 x24 x26 x27 x28 x8, vs = [x21, x24, x26, x27, x28, x8] ∧ NInv W0.heap.size t.1 t.2.1 ((m : Int), N) Dn x21 x24 x26 x27 x28 x8 w', ⟨[_, _, _, _, _, _], rfl, _, _, _, _, _, _, rfl, ?_⟩, ⟨?_, ?_, ?_, ?_, ?_, ?_, trivial⟩, ?_⟩
      · exact ⟨Nat.le_refl _, fun h => (nomatch h), fun h => (nomatch h), fun h => (nomatch h), fun h => (nomatch h), fun h => (nomatch h), fun h => (nomatch h), fun h => (nomatch h)⟩
      · rintro Dn vs w' hS ⟨x21, x24, x26, x27, x28, x8, rfl, hI⟩ hD hd
        simp only [puts, Act.put, List.setIfInBounds_toArray, List.set_cons_zero, List.set_cons_succ]
        refine wpOp_hid fun K hK => wpOp_at rfl rfl ?_
        go_simp
        exact hK _ _ ⟨keepS _ _ hS (hI.fB) ((Below.refl _ _).alloc (Nat.le_refl _) _), [_, _, _, _, _, _], rfl, _, _, _, _, _, _, rfl, hI.op2 hD⟩
      · rintro Dn vs w' hS ⟨x21, x24, x26, x27, x28, x8, rfl, hI⟩ hD hd
        simp only [puts, Act.put, List.setIfInBounds_toArray, List.set_cons_zero, List.set_cons_succ]
        have h2 := hd 2 (by simp)
        refine wpOp_hid fun K hK => wpOp_at rfl rfl ?_
        have hb' := hS
        rw [HS.out] at hb'
        refine wp_append_cavs (.tmp 21) (.tmp 23) rfl W0.heap.size _ [] rfl (hI.f2 h2 hD) A n c t.2.1 rfl (HR.out.call hb') (by simp; omega) hI.fB ?_
        intro v5 w5 o5 b5 g5
        exact hK _ _ ⟨(HS.out _).mpr (hb'.trans b5), [_, _, _, _, _, _], rfl, _, _, _, _, _, _, rfl, hI.op5 hD h2 (by simpa using o5) b5 g5⟩
      · rintro Dn vs w' hS ⟨x21, x24, x26, x27, x28, x8, rfl, hI⟩ hD hd
        simp only [puts, Act.put, List.setIfInBounds_toArray, List.set_cons_zero, List.set_cons_succ]
        refine wpOp_hid fun K hK => wpOp_at rfl rfl ?_
        go_simp
        exact hK _ _ ⟨keepS _ _ hS (hI.fB) ((Below.refl _ _).alloc (Nat.le_refl _) _), [_, _, _, _, _, _], rfl, _, _, _, _, _, _, rfl, hI.op7 hD⟩
      · rintro Dn vs w' hS ⟨x21, x24, x26, x27, x28, x8, rfl, hI⟩ hD hd
        simp only [puts, Act.put, List.setIfInBounds_toArray, List.set_cons_zero, List.set_cons_succ]
        have h5 := hd 5 (by simp)
        have h7 := hd 7 (by simp)
        obtain ⟨g, rfl, gb, -⟩ := hI.f7 h7 hD
        refine wpOp_hid fun K hK => wpOp_at rfl rfl ?_
        have hb' := hS
        rw [HS.out] at hb'
        refine wp_append_cavs (.tmp 24) (.tmp 26) rfl W0.heap.size _ t.2.1 rfl (hI.f5 h5 hD) _ 1 1 [((m : Int), N)] rfl (reads_cav1 gb) (by have := Hl.out; omega) hI.fB ?_
        intro v5 w5 o5 b5 g5
        exact hK _ _ ⟨(HS.out _).mpr (hb'.trans b5), [_, _, _, _, _, _], rfl, _, _, _, _, _, _, rfl, hI.op8 hD h5 o5 b5 g5⟩
      · rintro Dn vs w' hS ⟨x21, x24, x26, x27, x28, x8, rfl, hI⟩ hD hd
        simp only [puts, Act.put, List.setIfInBounds_toArray, List.set_cons_zero, List.set_cons_succ]
        have h8 := hd 8 (by simp)
        obtain ⟨A27, n27, c27, rfl, -, -, -, -⟩ := (hI.f8 h8).sl
        have bT := built_token1 t.1 A27 n27 c27
        refine wpOp_hid fun K hK => wpOp_at rfl rfl ?_
        refine wp_value (run_built 30 _ rfl _ _ bT (by simp [Act.eval])) ?_
        exact hK _ _ ⟨hS, [_, _, _, _, _, _], rfl, _, _, _, _, _, _, rfl, hI.op9 h8 rfl⟩
      · rintro Dn vs w' hS ⟨x21, x24, x26, x27, x28, x8, rfl, hI⟩ hD hd
        simp only [puts, Act.put, List.setIfInBounds_toArray, List.set_cons_zero, List.set_cons_succ]
        refine wpOp_hid fun K hK => wpOp_at rfl rfl ?_
        go_simp
        exact hK _ _ ⟨keepS _ _ hS (hI.fB) ((Below.refl _ _).alloc (Nat.le_refl _) _), [_, _, _, _, _, _], rfl, _, _, _, _, _, _, rfl, hI.op10⟩
      · rintro vs w5 hS5 ⟨x21, x24, x26, x27, x28, x8, rfl, hI⟩
        simp only [puts, Act.put, List.setIfInBounds_toArray, List.set_cons_zero, List.set_cons_succ]
        obtain ⟨-, A27, n27, c27, rfl, rfl⟩ := hI.f9 rfl
        obtain ⟨g8, rfl, z8, l8⟩ := hI.f10 rfl
        have o27 := hI.f8 rfl
        obtain ⟨T5, hT5, lT5, oT5, iT5⟩ := tok_cells t.1 A27 n27 c27 (List.replicate 32 0) (by simp)
        have htt := tok_tag' t.1 (.slice A27 n27 c27) (List.replicate 32 0) (mac t.2.2 (cavText (m, N))) (by simp) (mac_length _ _)
        have ltt := tokv_len t.1 (.slice A27 n27 c27) (mac t.2.2 (cavText (m, N))) (mac_length _ _)
        have ott := tokv_one t.1 (.slice A27 n27 c27) rfl (mac t.2.2 (cavText (m, N)))
        rw [hT5] at htt ⊢
        rw [HS.out] at hS5
        have b5 := hS5
        clear hT5 hS5 hI F0 F1 F2 F3 keepS HS
        refine wpSeq_write rfl rfl ?_
        refine wp_store_row 30 (.tmp 8) (.tmp 28) rfl g8 T5.toArray rfl rfl 30 _ z8 iT5 (by simp [lT5, zeroTokv, tokv_len]) (by simpa using oT5) ?_
        refine ⟨fun h => absurd h (by decide), ?_⟩
        obtain ⟨W6, hW6⟩ : ∃ x, x = (w5.setRow g8 T5.toArray).drew := ⟨_, rfl⟩
        have z6 : Blk W6 g8 30 T5.toArray := by rw [hW6]; exact z8.setRow _
        have o6 : OwnC W6 W0.heap.size (.slice A27 n27 c27) (t.2.1 ++ [((m : Int), N)]) := by
          rw [hW6]
          exact OwnC.kept (World.ownsRow.kept o27 (grown_setRow _ _ _) (.inr (own_blk_ne o27 z8 (by decide)))) (Below.refl _ _).drew
        have b6 : Below W0.heap.size W0 W6 := by rw [hW6]; exact (below_setRow b5 l8 _).drew
        have l86 := z6.lt
        have Z6 := Lib.hid z6
        have O6 := Lib.hid o6
        have B6 := Lib.hid b6
        have LT5 := Lib.hid lT5
        have HTT := Lib.hid htt
        have LTT := Lib.hid ltt
        have OTT := Lib.hid ott
        have L8 := Lib.hid l8
        have HW6 := Lib.hid hW6
        clear z6 o6 b6 lT5 htt ltt ott oT5 iT5 o27 z8 b5 hW6 l8 l86
        try simp only [Act.put, List.setIfInBounds_toArray, List.set_cons_zero, List.set_cons_succ]
        refine wpSeq_nil ?_
        go_upto_region 6 with (fail)
        obtain ⟨S, HS⟩ : ∃ S : World → Prop, Hid (∀ w', S w' = Below W6.heap.size W6 w') := ⟨_, fun _ => rfl⟩
        have F2 : Hid (∀ w', S w' → w'.cell? ⟨w.heap.size + 1, 0, none⟩ = some (.int .i64 m)) := fun w' h => by
          rw [HS.out] at h
          have v6 := V0.out.below B6.out V0.out.lt
          rw [(v6.below h v6.lt).cell]; rfl
        have F3 : Hid (∀ w', S w' → w'.cell? ⟨w.heap.size + 1, 1, none⟩ = some (.int .u32 N)) := fun w' h => by
          rw [HS.out] at h
          have v6 := V0.out.below B6.out V0.out.lt
          rw [(v6.below h v6.lt).cell]; rfl
        refine wp_region_seq S 13 [(0, false), (1, false), (2, false), (3, false), (4, false), (5, false), (7, false), (8, false), (9, false), (6, true), (10, true), (11, true), (12, false), (13, true)] (by kernel_rfl) rfl (by kernel_rfl) (by kernel_rfl) (by kernel_rfl) (fun _ _ d _ _ h => by cases d <;> exact h) ((HS.out _).mpr (by rw [HW6.out]; exact Below.refl _ _)) ?_
        rw [show (w5.setRow g8 T5.toArray).drew = W6 from HW6.out.symm]
        iterate 9 (refine wpSeq_read rfl rfl ⟨?_, fun w1 hS => ?_, ?_⟩; rotate_left; (focus (have g2 := F2.out w1 hS; have g3 := F3.out w1 hS; have ku := KU.out; have nu := NU.out; go_simp; try rfl)); simp only [Act.put, List.setIfInBounds_toArray, List.set_cons_zero, List.set_cons_succ])
        have B6d := B6.out
        have k6 := Z6.out
        obtain ⟨W7, hW7⟩ : ∃ x, x = W6.alloc (.cells #[.int .u8 (m : Int)] 5) := ⟨_, rfl⟩
        have y7 : Blk W7 W6.heap.size 5 #[.int .u8 (m : Int)] := by rw [hW7]; exact Blk.new _ _ _
        have b7 : Below W6.heap.size W6 W7 := by rw [hW7]; exact (Below.refl _ _).alloc (Nat.le_refl _) _
        have N7 := ref2_number (some ⟨W6.heap.size, 0, none⟩) 1 1 N 4 [m] W7 (reads_blk1 y7) (by simp) (by omega)
        rw [show sizeN 4 = 4 from rfl, show [m] ++ be N 4 = cavText ((m : Int), N) from by simp only [cavText, Int.toNat_natCast]; rw [be_one, Nat.mod_eq_of_lt (by omega)]] at N7
        have HN7 := Lib.hid N7
        have HW7 := Lib.hid hW7
        clear N7 hW7 y7 k6 B6d
        refine wpSeq_write rfl rfl ?_
        refine wp_build_byte (.tmp 34) rfl (m : Int) rfl ?_
        rw [show W6.alloc (.cells #[.int .u8 (m : Int)] 5) = W7 from HW7.out.symm]
        refine ⟨fun _ => (HS.out _).mpr b7, ?_⟩
        try simp only [Act.put, List.setIfInBounds_toArray, List.set_cons_zero, List.set_cons_succ]
        refine wpSeq_write rfl rfl ?_
        go_simp
        refine HN7.out.mono ?_
        rintro e w8 ⟨v8, rfl, own8, b8⟩
        obtain ⟨A8, n8, c8, rfl, nc8, -, r8⟩ := own8.sl
        have ln8 := reads_bytes_le r8
        have lc : (cavText ((m : Int), N)).length = 5 := by simp [cavText, be_length]
        rw [lc] at ln8
        have b68 := b7.trans (b8.mono b7.size)
        have t8 := (T0.out.below B6.out T0.out.lt).below b68 (Nat.lt_of_lt_of_le T0.out.lt B6.out.size)
        have rk := reads_mid (n := 32) t8 (by rw [byv_length]; exact ht) D2.out
        have M8 := ref1_mac tb 32 32 n8 c8 _ A8 t.2.2 (cavText ((m : Int), N)) w8 (Blk.below (Blk.below HT.out B6.out (Blk.lt HT.out)) b68 (Nat.lt_of_lt_of_le (Blk.lt HT.out) B6.out.size)) rk r8 hb (by intro x hx; rcases List.mem_append.1 hx with h | h <;> exact be_lt _ _ x h) (by omega) (by omega)
        have HM8 := Lib.hid M8
        have B68 := Lib.hid b68
        clear M8 rk t8 ln8 lc own8 r8 b68 b7 b8 nc8
        refine ⟨(HS.out _).mpr B68.out, ?_⟩
        try simp only [Act.put, List.setIfInBounds_toArray, List.set_cons_zero, List.set_cons_succ]
        refine wpSeq_write rfl rfl ?_
        go_simp
        refine HM8.out.mono ?_
        rintro e w9 ⟨rfl, b9⟩
        have b69 := B68.out.trans (b9.mono B68.out.size)
        have z9 := Z6.out.below b69 Z6.out.lt
        have o9 := O6.out.kept b69
        have bl9 := B6.out.trans (b69.mono B6.out.size)
        have lV : (byv (mac t.2.2 (cavText ((m : Int), N)))).length = 32 := by rw [byv_length]; exact mac_length _ _
        have TH := there_blk z9 2 32 (by rw [LT5.out]; decide)
        have SC := Blk.setCells (byv (mac t.2.2 (cavText ((m : Int), N)))) 2 w9 _ z9 (by rw [LT5.out, lV]; decide)
        rw [HTT.out] at SC
        have OV := all_oneCell_toArray (byv_one (mac t.2.2 (cavText ((m : Int), N))))
        obtain ⟨E, hE⟩ : ∃ E, byv (mac t.2.2 (cavText ((m : Int), N))) = E := ⟨_, rfl⟩
        rw [hE] at SC lV OV ⊢
        have IV : (Tryd.prog.info? 28).map (·.size) = some E.toArray.size := by rw [List.size_toArray, lV]; exact Tryd.dig_info
        have TH' : w9.there g8 2 E.toArray.size := by rw [List.size_toArray, lV]; exact TH
        obtain ⟨T, hTT⟩ : ∃ T, tokv t.1 (.slice A27 n27 c27) (mac t.2.2 (cavText ((m : Int), N))) = T := ⟨_, rfl⟩
        have LT := LTT.out
        have OT := OTT.out
        rw [hTT] at SC LT OT
        obtain ⟨W9, hW9⟩ : ∃ x, x = w9.setCells g8 2 E := ⟨_, rfl⟩
        rw [← hW9] at SC
        have gsc := grown_setCells g8 E 2 w9
        rw [← hW9] at gsc
        have O9 : OwnC W9 W0.heap.size (.slice A27 n27 c27) (t.2.1 ++ [((m : Int), N)]) := World.ownsRow.kept o9 gsc (.inr (own_blk_ne o9 z9 (by decide)))
        have BL9 : Below W0.heap.size W0 W9 := bl9.grown gsc (Nat.le_trans B6.out.size b69.size) (fun k hk => by injection hk with hk; rw [← hk]; exact L8.out)
        have z2 := Z0.out.below BL9 Z0.out.lt
        have HSC := Lib.hid SC
        have HO9 := Lib.hid O9
        have HBL9 := Lib.hid BL9
        have HTH := Lib.hid TH'
        have HIV := Lib.hid IV
        have HOV := Lib.hid OV
        have HLT := Lib.hid LT
        have HOT := Lib.hid OT
        have HTE := Lib.hid hTT
        have HZ2 := Lib.hid z2
        have HW9 := Lib.hid hW9
        have BS9 : S w9 := (HS.out _).mpr b69
        have HIT := Lib.hid (show (Tryd.prog.info? 30).map (·.size) = some T.length by rw [LT]; exact Tryd.tok_info)
        have HRG := Lib.hid (rangeAt_blk SC 0 T (fun j u h => by simpa using h))
        clear SC O9 BL9 TH TH' IV OV LT OT hTT z2 gsc b69 z9 o9 bl9 lV hE F2 F3 hW9
        refine ⟨BS9, ?_⟩
        clear BS9
        try simp only [Act.put, List.setIfInBounds_toArray, List.set_cons_zero, List.set_cons_succ]
        iterate 1 (refine wpSeq_read rfl rfl ⟨?_, fun w1 hS => ?_, ?_⟩; rotate_left; (focus (go_simp; (try go_bits); try rfl)); simp only [Act.put, List.setIfInBounds_toArray, List.set_cons_zero, List.set_cons_succ])
        refine wpSeq_write rfl rfl ?_
        refine wp_store_mid 28 (.tmp 41) (.tmp 40) rfl g8 2 E.toArray rfl rfl HTH.out HIV.out HOV.out ?_
        refine ⟨fun h => absurd h (by decide), ?_⟩
        rw [show w9.setCells g8 2 E.toArray.toList = W9 from HW9.out.symm]
        try simp only [Act.put, List.setIfInBounds_toArray, List.set_cons_zero, List.set_cons_succ]
        refine wpSeq_nil ?_
        go_wp2_with (first
          | (refine load_mid_want rfl 30 (.tmp 8) rfl g8 0 rfl T _ HRG.out Tryd.underlying30 rfl HIT.out ?_)
          | (refine wpList_store_row rfl 30 (.tmp 6) (.tmp 42) rfl (w.heap.size + 1 + 1) T.toArray rfl rfl 30 _ HZ2.out (by simpa using HIT.out) (by simp [HLT.out]) (by simpa using HOT.out) ?_))
        have z8 := HZ2.out.setRow T.toArray
        have O8 : OwnC (W9.setRow (w.heap.size + 1 + 1) T.toArray) W0.heap.size (.slice A27 n27 c27) (t.2.1 ++ [((m : Int), N)]) :=
          World.ownsRow.kept HO9.out (grown_setRow _ _ _) (.inr (own_blk_ne HO9.out HZ2.out (by decide)))
        refine bodyPost_ret (results_cell_tmp rfl rfl (load_tok z8 HLT.out)) rfl ⟨.slice A27 n27 c27, by rw [Hres.out, ← HTE.out]; rfl, by rw [Hres.out]; exact O8.mono B0.out.size, ?_⟩
        exact below_setRow (B0.out.trans (HBL9.out.mono B0.out.size)) (by omega) _
    · have hres : narRes t (k, N) = (zeroTok, 4) := by unfold narRes; rw [if_pos hk, if_neg (by rw [Hl.out]; exact h4)]
      have q4 : (n : Int) ≥ 4 := by omega
      have Hres := Lib.hid hres
      clear hres hk ck
      go_wp2_with (refine wpList_store_row rfl 30 (.tmp 6) (.tmp 18) rfl (w.heap.size + 1 + 1) zeroTokv.toArray rfl rfl 30 _ Z0.out zeroTokv_info zeroTokv_size zeroTokv_one ?_)
      have z8 : Blk _ _ 30 zeroTokv.toArray := Z0.out.setRow zeroTokv.toArray
      refine bodyPost_ret (results_cell_tmp rfl rfl (load_tok z8 rfl)) rfl ⟨.slice none 0 0, by rw [Hres.out]; rfl, by rw [Hres.out]; exact OwnC.nil _ _, ?_⟩
      exact below_setRow B0.out (by omega) _
  · have hk' : kindB k = false := by simpa using hk
    have hres : narRes t (k, N) = (zeroTok, 1) := by unfold narRes; rw [if_neg hk]
    have Hres := Lib.hid hres
    clear hres hk
    go_wp2_with (first
      | ((with_reducible refine (ref12_kind k _).mono ?_); (rintro _ _ ⟨rfl, rfl⟩))
      | (refine wpList_store_row rfl 30 (.tmp 6) (.tmp 13) rfl (w.heap.size + 1 + 1) zeroTokv.toArray rfl rfl 30 _ Z0.out zeroTokv_info zeroTokv_size zeroTokv_one ?_))
    have z8 : Blk _ _ 30 zeroTokv.toArray := Z0.out.setRow zeroTokv.toArray
    refine bodyPost_ret (results_cell_tmp rfl rfl (load_tok z8 rfl)) rfl ⟨.slice none 0 0, by rw [Hres.out]; rfl, by rw [Hres.out]; exact OwnC.nil _ _, ?_⟩
    exact below_setRow B0.out (by omega) _

end Go.Proofs.YtamhggndcegndaaDoor
