/-
  deponentref12.Decode: the same answer as token.Decode.
-/
import Derived.Test.YtamhggndcegndaaDoorDecode
import Derived.Test.YtamhggndcegndaaDoorRRd
import Derived.Test.YtamhggndcegndaaDoorRef12
namespace Go.Proofs.YtamhggndcegndaaDoor
open Go.RowKit
set_option linter.unusedVariables false
set_option maxRecDepth 100000

theorem rTake_ref (bs : List Nat) (s : RSt) (n : Nat) (x : Nat × Nat) (h : s.2 = some x) : rTake bs s n = (s, []) := by
  unfold rTake
  rw [h]

theorem rNum_ref (bs : List Nat) (s : RSt) (n : Nat) (x : Nat × Nat) (h : s.2 = some x) : rNum bs s n = (s, 0) := by
  unfold rNum
  rw [rTake_ref bs s n x h]
  rfl

theorem rRefuse_ref (s : RSt) (a y : Nat) (x : Nat × Nat) (h : s.2 = some x) : rRefuse s a y = s := by
  unfold rRefuse
  rw [h]

theorem rRefuse_some (s : RSt) (a y : Nat) : (rRefuse s a y).2 ≠ none := by
  unfold rRefuse
  split
  · simp
  · rename_i h
    simp [h]

theorem decCavs_ref (bs : List Nat) (n : Nat) (s : RSt) (l : List (Int × Nat)) (x : Nat × Nat) (h : s.2 = some x) : (decCavs bs n s l).1 = s := by
  cases n with
  | zero => rfl
  | succ n =>
    unfold decCavs
    rw [rNum_ref bs s 1 x h]
    simp [kindB, rRefuse_ref s s.1 12 x h]

/-- What the loop leaves: what codec's leaves, or a refusal like its. -/
def SameEnd (D : RSt × List (Int × Nat)) (s : RSt) (l : List (Int × Nat)) : Prop := (s.2 = none ∧ D = (s, l)) ∨ (∃ x, s.2 = some x ∧ D.1.2 = some x)

/-- On the way there. -/
def SameWay (bs : List Nat) (n : Nat) (D : RSt × List (Int × Nat)) (s : RSt) (l : List (Int × Nat)) : Prop := (s.2 = none ∧ decCavs bs n s l = D) ∨ (∃ x, s.2 = some x ∧ D.1.2 = some x)

theorem SameWay.step {bs : List Nat} {n : Nat} {D : RSt × List (Int × Nat)} {s : RSt} {l : List (Int × Nat)} (h : SameWay bs (n + 1) D s l) (hs : s.2 = none) :
    SameWay bs n D (rNum bs (if (rNum bs s 1).1.2 = none ∧ kindB ((rNum bs s 1).2 : Int) = false then rRefuse (rNum bs s 1).1 (rNum bs s 1).1.1 12 else (rNum bs s 1).1) 4).1
      (l ++ [(((rNum bs s 1).2 : Int), (rNum bs (if (rNum bs s 1).1.2 = none ∧ kindB ((rNum bs s 1).2 : Int) = false then rRefuse (rNum bs s 1).1 (rNum bs s 1).1.1 12 else (rNum bs s 1).1) 4).2)]) := by
  rcases h with ⟨-, h⟩ | ⟨x, hx, -⟩
  · cases hk : kindB ((rNum bs s 1).2 : Int) with
    | true =>
      unfold decCavs at h
      rw [if_pos hk] at h
      simp only [Bool.true_eq_false, and_false, if_false]
      cases h2 : (rNum bs (rNum bs s 1).1 4).1.2 with
      | none => exact .inl ⟨h2, h⟩
      | some x => exact .inr ⟨x, h2, by rw [← h, decCavs_ref bs n _ _ x h2]; exact h2⟩
    | false =>
      unfold decCavs at h
      rw [if_neg (by simp [hk])] at h
      cases h1 : (rNum bs s 1).1.2 with
      | none =>
        simp only [and_self, if_true]
        cases h3 : (rRefuse (rNum bs s 1).1 (rNum bs s 1).1.1 12).2 with
        | none => exact absurd h3 (rRefuse_some _ _ _)
        | some x =>
          refine .inr ⟨x, ?_, by rw [← h]; exact h3⟩
          rw [rNum_ref bs _ 4 x h3]
          exact h3
      | some x =>
        simp only [reduceCtorEq, false_and, if_false]
        refine .inr ⟨x, ?_, ?_⟩
        · rw [rNum_ref bs _ 4 x h1]
          exact h1
        · rw [← h, rRefuse_ref _ _ _ x h1]
          exact h1
  · rw [hs] at hx
    cases hx

theorem SameWay.stop {bs : List Nat} {n : Nat} {D : RSt × List (Int × Nat)} {s : RSt} {l : List (Int × Nat)} (h : SameWay bs n D s l) (hs : n = 0 ∨ s.2 ≠ none) : SameEnd D s l := by
  rcases h with ⟨h1, h⟩ | h
  · rcases hs with rfl | hs
    · exact .inl ⟨h1, h.symm⟩
    · exact absurd h1 hs
  · exact .inr h

/-- What is told at the end is the same. -/
theorem same_end (bs : List Nat) (D : RSt × List (Int × Nat)) (s : RSt) (l : List (Int × Nat)) (h : SameEnd D s l) :
    (∃ x, rEnd bs (rDig bs s).1 = some x ∧ rEnd bs (rDig bs D.1).1 = some x) ∨ D = (s, l) := by
  rcases h with ⟨-, h⟩ | ⟨x, h1, h2⟩
  · exact .inr h
  · refine .inl ⟨x, ?_, ?_⟩
    · unfold rDig
      rw [rTake_ref bs s 32 x h1]
      unfold rEnd
      simp only [h1]
    · unfold rDig
      rw [rTake_ref bs D.1 32 x h2]
      unfold rEnd
      simp only [h2]

theorem rNum_none (bs : List Nat) (s : RSt) (k : Nat) (h : (rNum bs s k).1.2 ≠ none) : (rNum bs s k).2 = 0 := by
  unfold rNum rTake at h ⊢
  split at h
  · rename_i x hx
    rfl
  · split at h
    · exact absurd rfl h
    · rename_i h1 h2
      simp [h2, num]

theorem SameWay.start (bs : List Nat) (s4 : RSt) (m : Nat) (h : s4.2 ≠ none → m = 0) :
    SameWay bs m (decCavs bs (decHead bs s4 m).2 (decHead bs s4 m).1 []) (if s4.2 = none ∧ 4 < m then rRefuse s4 s4.1 4 else s4) [] := by
  by_cases h4 : 4 < m
  · have h0 : s4.2 = none := by
      by_cases hh : s4.2 = none
      · exact hh
      · have := h hh; omega
    rw [if_pos ⟨h0, h4⟩]
    unfold decHead
    rw [if_pos h4]
    cases h3 : (rRefuse s4 s4.1 4).2 with
    | none => exact absurd h3 (rRefuse_some _ _ _)
    | some x => exact .inr ⟨x, h3, h3⟩
  · rw [if_neg (fun e => h4 e.2)]
    unfold decHead
    rw [if_neg h4]
    cases h3 : s4.2 with
    | none => exact .inl ⟨h3, rfl⟩
    | some x => exact .inr ⟨x, h3, by rw [decCavs_ref bs m s4 [] x h3]; exact h3⟩

theorem RRd.grown {w w' : World} {g base : Nat} {bs : List Nat} {s : RSt} {v : Value} {l : List (Int × Nat)} (h : RRd w g bs s) (ho : OwnC w base v l) (hg : w.grownBy w' v.ownBlock) (hb : g < base) : RRd w' g bs s := by
  rcases ho.2 with ⟨rfl, _⟩ | ⟨q, cap, cur, rfl, hq, hh, _⟩
  · exact h.below ⟨hg.os, hg.tape, hg.output, hg.size, fun k hk => hg.block k hk (by simp [Value.ownBlock])⟩
  · exact h.kept (k := q) (by simpa [Value.ownBlock] using hg) (by omega)

theorem RRd.flag {w : World} {g : Nat} {bs : List Nat} {s : RSt} (h : RRd w g bs s) : w.cell? ⟨g, 4, none⟩ = some (.bool s.2.isSome) := by
  obtain ⟨A, n, c, hg, -⟩ := h
  have c4 := hg.cell 4
  exact c4

theorem OwnC.ref {w w' : World} {base g : Nat} {bs : List Nat} {s : RSt} {v : Value} {l : List (Int × Nat)} (h : OwnC w base v l) (hr : RRd w g bs s) (hg : w.grownBy w' (some g)) : OwnC w' base v l :=
  World.ownsRow.kept h hg (.inr (fun e => by
    obtain ⟨A', n', c', hgb, -⟩ := hr
    exact own_blk_ne h hgb (by decide) e))

theorem RRd.new {w : World} {A : Option Addr} {n c : Nat} {bs : List Nat} (hr : Reads w w.heap.size 1 A n (byv bs)) (hc : n ≤ c) (hn : n ≤ 140737488355328) : RRd (w.alloc (.cells #[.slice A n c, .int .i64 0, .int .i64 0, .int .i64 0, .bool false] 107)) w.heap.size bs (0, none) :=
  ⟨A, n, c, Blk.new _ _ _, hr.alloc (Nat.le_refl _) _, (reads_bytes_le hr).symm, hc, Nat.zero_le _, hn⟩

/-- A refusal has a reason. -/
def Why (s : RSt) : Prop := ∀ x, s.2 = some x → x.2 ≠ 0

theorem Why.take {bs : List Nat} {s : RSt} {n : Nat} (h : Why s) : Why (rTake bs s n).1 := by
  unfold rTake
  split
  · exact h
  · split
    · intro x hx
      cases hx
    · intro x hx
      injection hx with hx
      subst hx
      exact (by decide : (10 : Nat) ≠ 0)

theorem Why.refuse {s : RSt} {a y : Nat} (h : Why s) (hy : y ≠ 0) : Why (rRefuse s a y) := by
  unfold rRefuse
  split
  · intro x hx
    injection hx with hx
    subst hx
    exact hy
  · exact h

theorem Why.cavs {bs : List Nat} : ∀ (n : Nat) (s : RSt) (l : List (Int × Nat)), Why s → Why (decCavs bs n s l).1
  | 0, s, l, h => h
  | n + 1, s, l, h => by
    unfold decCavs
    split
    · exact Why.cavs n _ _ h.take.take
    · exact h.take.refuse (by decide)

theorem Why.end {bs : List Nat} {s : RSt} (h : Why s) : ∀ x, rEnd bs s = some x → x.2 ≠ 0 := by
  unfold rEnd
  intro x hx
  split at hx
  · rename_i y hy
    injection hx with hx
    subst hx
    exact h _ hy
  · split at hx
    · injection hx with hx
      subst hx
      exact (by decide : (11 : Nat) ≠ 0)
    · cases hx

theorem Why.head {bs : List Nat} {s : RSt} {n : Nat} (h : Why s) : Why (decHead bs s n).1 := by
  unfold decHead
  split
  · exact h.refuse (by decide)
  · exact h

theorem Why.tok {bs : List Nat} {s : RSt} (h : Why s) : Why (decT bs s).1 := by
  unfold decT
  exact Why.take (Why.cavs _ _ _ (Why.head (Why.take (Why.take h))))

theorem tokDec_why (bs : List Nat) : ∀ x, (tokDec bs).1 = some x → x.2 ≠ 0 := by
  have h : Why (decT bs (0, none)).1 := Why.tok (fun x hx => by cases hx)
  intro x hx
  unfold tokDec at hx
  split at hx
  · cases hx
  · rename_i y hy
    injection hx with hx
    subst hx
    exact h.end _ hy

theorem results_cell_tmp2 {fn : Func} {t s r : Tmp} {ty : TypeId} {g : Nat} {P : Program} {w : World} {v : Value} {tmps : Array Value} (h : fn.results = #[.cell t ty, .tmp s, .tmp r]) (ht : tmps.getD t undef = .pointer (some ⟨g, 0, none⟩))
    (hl : (loadVar ty ⟨g, 0, none⟩).run P w = .ok v w) : (results fn tmps).run P w = .ok (.tuple #[v, tmps.getD s undef, tmps.getD r undef]) w := by
  unfold results
  rw [h]
  simp only [Array.getD_eq_getD_getElem?] at ht
  simp [ht, asAddr, hl, Sem.run_pure]

-- END BY HAND
set_option maxHeartbeats 4000000 in
theorem ref12_decode (bs : List Nat) (A : Option Addr) (n c : Nat) (w : World) (hr : Reads w w.heap.size 1 A n (byv bs)) (hnc : n ≤ c) (hn : n ≤ 140737488355328) (hb : ∀ x ∈ bs, x < 256) :
    Calls Tryd.prog 31 #[.slice A n c] w fun e w' => ∃ v, e = .returned (.tuple #[.agg (tokv (tokDec bs).2.1 v (tokDec bs).2.2.2).toArray, .int .i64 (atOf (tokDec bs).1 : Nat), .int .i64 (whyOf (tokDec bs).1 : Nat)]) ∧ OwnC w' w.heap.size v (tokDec bs).2.2.1 ∧ Below w.heap.size w w' := by
  have HB := Lib.hid hb
  obtain ⟨W0, hW0⟩ : ∃ x, x = (w.alloc (.cells #[.int .u32 0, .slice none 0 0, .int .u8 0, .int .u8 0, .int .u8 0, .int .u8 0, .int .u8 0, .int .u8 0, .int .u8 0, .int .u8 0, .int .u8 0, .int .u8 0, .int .u8 0, .int .u8 0, .int .u8 0, .int .u8 0, .int .u8 0, .int .u8 0, .int .u8 0, .int .u8 0, .int .u8 0, .int .u8 0, .int .u8 0, .int .u8 0, .int .u8 0, .int .u8 0, .int .u8 0, .int .u8 0, .int .u8 0, .int .u8 0, .int .u8 0, .int .u8 0, .int .u8 0, .int .u8 0] 30)).alloc (.cells #[.slice A n c, .int .i64 0, .int .i64 0, .int .i64 0, .bool false] 107) := ⟨_, rfl⟩
  obtain ⟨g, hg⟩ : ∃ g, w.heap.size + 1 = g := ⟨_, rfl⟩
  have h0 : RRd W0 g bs (0, none) := by
    have := RRd.new (hr.laid (.cells #[.int .u32 0, .slice none 0 0, .int .u8 0, .int .u8 0, .int .u8 0, .int .u8 0, .int .u8 0, .int .u8 0, .int .u8 0, .int .u8 0, .int .u8 0, .int .u8 0, .int .u8 0, .int .u8 0, .int .u8 0, .int .u8 0, .int .u8 0, .int .u8 0, .int .u8 0, .int .u8 0, .int .u8 0, .int .u8 0, .int .u8 0, .int .u8 0, .int .u8 0, .int .u8 0, .int .u8 0, .int .u8 0, .int .u8 0, .int .u8 0, .int .u8 0, .int .u8 0, .int .u8 0, .int .u8 0] 30)) hnc hn
    rw [alloc_size, hg] at this
    rw [hW0]
    exact this
  have r0 : Blk W0 w.heap.size 30 #[.int .u32 0, .slice none 0 0, .int .u8 0, .int .u8 0, .int .u8 0, .int .u8 0, .int .u8 0, .int .u8 0, .int .u8 0, .int .u8 0, .int .u8 0, .int .u8 0, .int .u8 0, .int .u8 0, .int .u8 0, .int .u8 0, .int .u8 0, .int .u8 0, .int .u8 0, .int .u8 0, .int .u8 0, .int .u8 0, .int .u8 0, .int .u8 0, .int .u8 0, .int .u8 0, .int .u8 0, .int .u8 0, .int .u8 0, .int .u8 0, .int .u8 0, .int .u8 0, .int .u8 0, .int .u8 0] := by rw [hW0]; exact (Blk.new w _ _).alloc _
  have b0 : Below w.heap.size w W0 := by rw [hW0]; exact below_new (below_new (Below.refl _ _) _) _
  have HW0 := Lib.hid hW0
  have H0 := Lib.hid h0
  have R0 := Lib.hid r0
  have B0 := Lib.hid b0
  clear hW0 h0 r0 b0 hr hb
  go_enter Tryd.func31, Tryd.ntmps31
  go_wp2_with fail
  rw [← HW0.out]
  refine (rreader_number g bs (0, none) 4 W0 H0.out HB.out).mono ?_
  rintro e w2 ⟨rfl, h2, g2⟩
  have bl2 := adv B0.out g2 (by omega) H0.out.lt
  have r2 := R0.out.grown g2 (by simp; omega)
  have a4 := rNum_lt bs (0, none) 4 HB.out
  have e4 : sizeN 4 = 4 := rfl
  rw [e4] at h2 ⊢
  clear e4
  obtain ⟨ra, hra⟩ : ∃ ra, rNum bs (0, none) 4 = ra := ⟨_, rfl⟩
  rw [hra] at h2 a4 ⊢
  obtain ⟨s2, id⟩ := ra
  dsimp only at h2 a4 ⊢
  have hid : id < 4294967296 := Nat.lt_of_lt_of_eq a4 (by decide)
  have u0 : IntKind.u32.wrap (id : Int) = id := by rw [IntKind.wrap_u32]; omega
  have RA := Lib.hid hra
  have H2 := Lib.hid h2
  have BL2 := Lib.hid bl2
  have R2 := Lib.hid r2
  clear h2 g2 bl2 r2 hra a4 H0 R0 B0
  have bD := built_id id
  have lD := tokv_len id (.slice none 0 0) (List.replicate 32 0) (by simp)
  have oD := tokv_one id (.slice none 0 0) rfl (List.replicate 32 0)
  obtain ⟨D, hD⟩ : ∃ D, tokv id (.slice none 0 0) (List.replicate 32 0) = D := ⟨_, rfl⟩
  rw [hD] at bD lD oD
  have I2 := Lib.hid (show (Tryd.prog.info? 30).map (·.size) = some D.toArray.size by rw [List.size_toArray, lD]; exact Tryd.tok_info)
  have Z2 := Lib.hid (Blk.new w2 30 #[.int .u32 0, .slice none 0 0, .int .u8 0, .int .u8 0, .int .u8 0, .int .u8 0, .int .u8 0, .int .u8 0, .int .u8 0, .int .u8 0, .int .u8 0, .int .u8 0, .int .u8 0, .int .u8 0, .int .u8 0, .int .u8 0, .int .u8 0, .int .u8 0, .int .u8 0, .int .u8 0, .int .u8 0, .int .u8 0, .int .u8 0, .int .u8 0, .int .u8 0, .int .u8 0, .int .u8 0, .int .u8 0, .int .u8 0, .int .u8 0, .int .u8 0, .int .u8 0, .int .u8 0, .int .u8 0])
  have BD := Lib.hid bD
  have LD := Lib.hid lD
  have OD := Lib.hid oD
  have HD := Lib.hid hD
  clear bD lD oD hD
  go_upto_region 3 with (first
    | (refine wpList_read rfl ⟨.agg D.toArray, run_built 30 _ rfl _ _ BD.out (by simp [Act.eval]), ?_⟩)
    | (refine wpList_store_row rfl 30 (.tmp 6) (.tmp 18) rfl w2.heap.size D.toArray rfl rfl 30 _ Z2.out I2.out (by simp [LD.out]) (by simpa using OD.out) ?_))
  obtain ⟨w3, hw3⟩ : ∃ x, x = (w2.alloc (.cells #[.int .u32 0, .slice none 0 0, .int .u8 0, .int .u8 0, .int .u8 0, .int .u8 0, .int .u8 0, .int .u8 0, .int .u8 0, .int .u8 0, .int .u8 0, .int .u8 0, .int .u8 0, .int .u8 0, .int .u8 0, .int .u8 0, .int .u8 0, .int .u8 0, .int .u8 0, .int .u8 0, .int .u8 0, .int .u8 0, .int .u8 0, .int .u8 0, .int .u8 0, .int .u8 0, .int .u8 0, .int .u8 0, .int .u8 0, .int .u8 0, .int .u8 0, .int .u8 0, .int .u8 0, .int .u8 0] 30)).setRow w2.heap.size D.toArray := ⟨_, rfl⟩
  rw [← hw3]
  obtain ⟨G5, hG5⟩ : ∃ x, w2.heap.size = x := ⟨_, rfl⟩
  have t3 : Blk w3 G5 30 D.toArray := by rw [hw3, ← hG5]; exact Z2.out.setRow _
  have b23 : Below w2.heap.size w2 w3 := by rw [hw3]; exact below_setRow ((Below.refl _ _).alloc (Nat.le_refl _) _) (Nat.le_refl _) _
  have h3 := H2.out.below b23
  have r3 := R2.out.below b23 R2.out.lt
  have bl3 : Below w.heap.size w w3 := BL2.out.trans (b23.mono BL2.out.size)
  have hgG : g < G5 := by rw [← hG5]; exact H2.out.lt
  rw [hG5]
  clear hw3 b23 hG5 Z2 H2 R2 BL2
  go_wp2_with fail
  refine (rreader_number g bs s2 1 w3 h3 HB.out).mono ?_
  rintro e w4 ⟨rfl, h4, g4⟩
  have bl4 := adv bl3 g4 (by omega) h3.lt
  have r4 := r3.grown g4 (by simp; omega)
  have t4 := t3.grown g4 (by simp; omega)
  have m4 := rNum_lt bs s2 1 HB.out
  have m0 := rNum_none bs s2 1
  have e1 : sizeN 1 = 1 := rfl
  rw [e1] at h4 ⊢
  clear e1
  obtain ⟨rb, hrb⟩ : ∃ rb, rNum bs s2 1 = rb := ⟨_, rfl⟩
  rw [hrb] at h4 m4 m0 ⊢
  obtain ⟨s4, m⟩ := rb
  dsimp only at h4 m4 m0 ⊢
  have m4' : m < 256 := Nat.lt_of_lt_of_eq m4 (by decide)
  have mw : IntKind.i64.wrap (m : Int) = m := IntWalk.i64_in _ (by omega)
  have RB := Lib.hid hrb
  have H4 := Lib.hid h4
  have BL4 := Lib.hid bl4
  have R4 := Lib.hid r4
  have T4 := Lib.hid t4
  have M0 := Lib.hid m0
  clear h3 h4 g4 bl3 bl4 r3 r4 t3 t4 hrb m4 m0
  have fl4 := H4.out.flag
  go_upto_region 4 with (fail)
  go_cut [30] (fun s30 wx => s30 = .bool (decide (s4.2 = none ∧ 4 < m)) ∧ wx = w4)
  case first =>
    by_cases hs : s4.2 = none
    · rw [hs, show (none : Option (Nat × Nat)).isSome = false from rfl] at fl4
      by_cases h4 : 4 < m
      · have q : (4 : Int) < m := by omega
        go_wp2
        go_meet
        case rel => exact ⟨by simp [hs, h4], rfl⟩
      · have q : ¬ (4 : Int) < m := by omega
        go_wp2
        go_meet
        case rel => exact ⟨by simp [hs, h4], rfl⟩
    · have hs' : s4.2.isSome = true := by
        cases h : s4.2 with
        | none => exact absurd h hs
        | some x => rfl
      rw [hs'] at fl4
      go_wp2
      go_meet
      case rel => exact ⟨by simp [hs], rfl⟩
  case rest =>
    obtain ⟨rfl, rfl⟩ := hcut
    clear fl4
    have SW := Lib.hid (SameWay.start bs s4 m M0.out)
    obtain ⟨DD, hDD⟩ : ∃ DD, decCavs bs (decHead bs s4 m).2 (decHead bs s4 m).1 [] = DD := ⟨_, rfl⟩
    rw [hDD] at SW
    have HDD := Lib.hid hDD
    clear hDD
    go_upto_if 30 with (fail)
    go_cut [] (fun wx => Hid (RRd wx g bs (if s4.2 = none ∧ 4 < m then rRefuse s4 s4.1 4 else s4)) ∧ Hid (Blk wx G5 30 D.toArray) ∧ Hid (Blk wx w.heap.size 30 #[.int .u32 0, .slice none 0 0, .int .u8 0, .int .u8 0, .int .u8 0, .int .u8 0, .int .u8 0, .int .u8 0, .int .u8 0, .int .u8 0, .int .u8 0, .int .u8 0, .int .u8 0, .int .u8 0, .int .u8 0, .int .u8 0, .int .u8 0, .int .u8 0, .int .u8 0, .int .u8 0, .int .u8 0, .int .u8 0, .int .u8 0, .int .u8 0, .int .u8 0, .int .u8 0, .int .u8 0, .int .u8 0, .int .u8 0, .int .u8 0, .int .u8 0, .int .u8 0, .int .u8 0, .int .u8 0]) ∧ Hid (Below w.heap.size w wx))
    case first =>
      by_cases hc : s4.2 = none ∧ 4 < m
      · rw [show decide (s4.2 = none ∧ 4 < m) = true by simpa using hc]
        go_wp2_with fail
        refine (rreader_fail g bs s4 4 _ H4.out (by decide)).mono ?_
        rintro e w5 ⟨rfl, h5, g5⟩
        have HB5 := Lib.hid (adv BL4.out g5 (by omega) H4.out.lt)
        have HR5 := Lib.hid (R4.out.grown g5 (by simp; omega))
        have HT5 := Lib.hid (T4.out.grown g5 (by simp; omega))
        have H5 := Lib.hid h5
        clear h5 g5
        go_wp2
        go_meet
        case rel => exact ⟨by rw [if_pos hc]; exact H5.out, HT5.out, HR5.out, HB5.out⟩
      · rw [show decide (s4.2 = none ∧ 4 < m) = false by simpa using hc]
        go_wp2
        go_meet
        case rel => exact ⟨by rw [if_neg hc]; exact H4.out, T4.out, R4.out, BL4.out⟩
    case rest =>
      obtain ⟨H5, T5, R5, BL5⟩ := hcut
      clear H4 T4 R4 BL4
      obtain ⟨s5, hs5⟩ : ∃ x, (if s4.2 = none ∧ 4 < m then rRefuse s4 s4.1 4 else s4) = x := ⟨_, rfl⟩
      rw [hs5] at H5 SW
      clear hs5
      go_upto_block 0 with fail
      go_cut [] (fun wx => ∃ (s : RSt) (l : List (Int × Nat)) (v : Value), Hid (SameEnd DD s l) ∧ Hid (RRd wx g bs s) ∧ Hid (OwnC wx (g + 1) v l) ∧ Hid (Blk wx G5 30 (tokv id v (List.replicate 32 0)).toArray) ∧ Hid (Blk wx w.heap.size 30 #[.int .u32 0, .slice none 0 0, .int .u8 0, .int .u8 0, .int .u8 0, .int .u8 0, .int .u8 0, .int .u8 0, .int .u8 0, .int .u8 0, .int .u8 0, .int .u8 0, .int .u8 0, .int .u8 0, .int .u8 0, .int .u8 0, .int .u8 0, .int .u8 0, .int .u8 0, .int .u8 0, .int .u8 0, .int .u8 0, .int .u8 0, .int .u8 0, .int .u8 0, .int .u8 0, .int .u8 0, .int .u8 0, .int .u8 0, .int .u8 0, .int .u8 0, .int .u8 0, .int .u8 0, .int .u8 0]) ∧ Hid (Below w.heap.size w wx))
      case first =>
        go_wp2_with fail
        go_loopw [8] (fun i wr => ∃ (j : Nat) (s : RSt) (l : List (Int × Nat)) (v : Value), j ≤ m ∧ i = .int .i64 j ∧ l.length ≤ j ∧ Hid (SameWay bs (m - j) DD s l) ∧ Hid (RRd wr g bs s) ∧ Hid (OwnC wr (g + 1) v l) ∧ Hid (Blk wr G5 30 (tokv id v (List.replicate 32 0)).toArray) ∧ Hid (Blk wr w.heap.size 30 #[.int .u32 0, .slice none 0 0, .int .u8 0, .int .u8 0, .int .u8 0, .int .u8 0, .int .u8 0, .int .u8 0, .int .u8 0, .int .u8 0, .int .u8 0, .int .u8 0, .int .u8 0, .int .u8 0, .int .u8 0, .int .u8 0, .int .u8 0, .int .u8 0, .int .u8 0, .int .u8 0, .int .u8 0, .int .u8 0, .int .u8 0, .int .u8 0, .int .u8 0, .int .u8 0, .int .u8 0, .int .u8 0, .int .u8 0, .int .u8 0, .int .u8 0, .int .u8 0, .int .u8 0, .int .u8 0]) ∧ Hid (Below w.heap.size w wr)) (fun i _ => m - (intOf i).toNat)
        case atStart => exact ⟨0, s5, [], .slice none 0 0, by omega, rfl, by simp, SW.out, H5.out, OwnC.nil _ _, by rw [HD.out]; exact T5.out, R5.out, BL5.out⟩
        case round =>
          clear H5 T5 R5 BL5
          obtain ⟨j, s, l, v, hj, rfl, hl, hway, hrd, hov, htb, hrb, hbl⟩ := hrel
          have fl := hrd.out.flag
          by_cases hjm : j < m
          · have qk : (j : Int) < m := by omega
            by_cases hs : s.2 = none
            · rw [hs, show (none : Option (Nat × Nat)).isSome = false from rfl] at fl
              go_wp2_with fail
              clear fl
              refine (rreader_number g bs s 1 wr hrd.out HB.out).mono ?_
              rintro e wa ⟨rfl, ha, ga⟩
              have hkl := rNum_lt bs s 1 HB.out
              have hstep := SameWay.step (n := m - (j + 1)) (by rw [show m - (j + 1) + 1 = m - j by omega]; exact hway.out) hs
              have e1 : sizeN 1 = 1 := rfl
              rw [e1] at ha ⊢
              clear e1
              obtain ⟨⟨sa, k⟩, hka⟩ : ∃ x, rNum bs s 1 = x := ⟨_, rfl⟩
              rw [hka] at ha hkl hstep ⊢
              dsimp only at ha hkl hstep ⊢
              have hk256 : k < 256 := Nat.lt_of_lt_of_eq hkl (by decide)
              have hki : IntKind.i64.wrap (k : Int) = k := IntWalk.i64_in _ (by omega)
              have BLa := Lib.hid (adv hbl.out ga (by omega) hrd.out.lt)
              have Ra := Lib.hid (hrb.out.grown ga (by simp; omega))
              have Ta := Lib.hid (htb.out.grown ga (by simp; omega))
              have Oa := Lib.hid (hov.out.ref hrd.out ga)
              have Ha := Lib.hid ha
              have HST := Lib.hid hstep
              have hjl : l.length < 256 := by omega
              have fla := ha.flag
              clear ha ga hkl hka hrd hov htb hrb hbl hstep hway
              go_upto_region 10 with (fail)
              go_cut [57] (fun s57 wx => s57 = .bool (decide (sa.2 = none ∧ kindB (k : Int) = false)) ∧ wx = wa)
              case first =>
                by_cases hsa : sa.2 = none
                · rw [hsa, show (none : Option (Nat × Nat)).isSome = false from rfl] at fla
                  cases hk : kindB (k : Int) with
                  | true =>
                    go_wp2_with fail
                    refine (ref12_kind k _).mono ?_
                    rintro e _ ⟨rfl, rfl⟩
                    rw [hk]
                    go_wp2
                    go_meet
                    case rel => exact ⟨by simp [hsa, hk], rfl⟩
                  | false =>
                    go_wp2_with fail
                    refine (ref12_kind k _).mono ?_
                    rintro e _ ⟨rfl, rfl⟩
                    rw [hk]
                    go_wp2
                    go_meet
                    case rel => exact ⟨by simp [hsa, hk], rfl⟩
                · have hs' : sa.2.isSome = true := by
                    cases h : sa.2 with
                    | none => exact absurd h hsa
                    | some x => rfl
                  rw [hs'] at fla
                  go_wp2
                  go_meet
                  case rel => exact ⟨by simp [hsa], rfl⟩
              case rest =>
                obtain ⟨rfl, rfl⟩ := hcut
                clear fla
                go_upto_if 57 with (fail)
                go_cut [] (fun wx => Hid (RRd wx g bs (if sa.2 = none ∧ kindB (k : Int) = false then rRefuse sa sa.1 12 else sa)) ∧ Hid (OwnC wx (g + 1) v l) ∧ Hid (Blk wx G5 30 (tokv id v (List.replicate 32 0)).toArray) ∧ Hid (Blk wx w.heap.size 30 #[.int .u32 0, .slice none 0 0, .int .u8 0, .int .u8 0, .int .u8 0, .int .u8 0, .int .u8 0, .int .u8 0, .int .u8 0, .int .u8 0, .int .u8 0, .int .u8 0, .int .u8 0, .int .u8 0, .int .u8 0, .int .u8 0, .int .u8 0, .int .u8 0, .int .u8 0, .int .u8 0, .int .u8 0, .int .u8 0, .int .u8 0, .int .u8 0, .int .u8 0, .int .u8 0, .int .u8 0, .int .u8 0, .int .u8 0, .int .u8 0, .int .u8 0, .int .u8 0, .int .u8 0, .int .u8 0]) ∧ Hid (Below w.heap.size w wx))
                case first =>
                  by_cases hc : sa.2 = none ∧ kindB (k : Int) = false
                  · rw [show decide (sa.2 = none ∧ kindB (k : Int) = false) = true by simpa using hc]
                    go_wp2_with fail
                    refine (rreader_fail g bs sa 12 _ Ha.out (by decide)).mono ?_
                    rintro e w5 ⟨rfl, h5, g5⟩
                    have HB5 := Lib.hid (adv BLa.out g5 (by omega) Ha.out.lt)
                    have HR5 := Lib.hid (Ra.out.grown g5 (by simp; omega))
                    have HT5 := Lib.hid (Ta.out.grown g5 (by simp; omega))
                    have HO5 := Lib.hid (Oa.out.ref Ha.out g5)
                    have H5 := Lib.hid h5
                    clear h5 g5
                    go_wp2
                    go_meet
                    case rel => exact ⟨by rw [if_pos hc]; exact H5.out, HO5.out, HT5.out, HR5.out, HB5.out⟩
                  · rw [show decide (sa.2 = none ∧ kindB (k : Int) = false) = false by simpa using hc]
                    go_wp2
                    go_meet
                    case rel => exact ⟨by rw [if_neg hc]; exact Ha.out, Oa.out, Ta.out, Ra.out, BLa.out⟩
                case rest =>
                  obtain ⟨Hb, Ob, Tb, Rb, BLb⟩ := hcut
                  clear Ha Oa Ta Ra BLa
                  obtain ⟨wa2, rfl⟩ : ∃ x, x = wc := ⟨_, rfl⟩
                  obtain ⟨s3, hs3⟩ : ∃ x, (if sa.2 = none ∧ kindB (k : Int) = false then rRefuse sa sa.1 12 else sa) = x := ⟨_, rfl⟩
                  rw [hs3] at Hb HST
                  clear hs3
                  go_upto_region 12 with (fail)
                  have t1 := Tb.out.cell 1
                  rw [show (tokv id v (List.replicate 32 0)).toArray[1]? = some v from rfl] at t1
                  have b4 := rNum_lt bs s3 4 HB.out
                  have RN := fun w h => rreader_number g bs s3 4 w h HB.out
                  have e4 : sizeN 4 = 4 := rfl
                  rw [e4] at RN
                  clear e4
                  obtain ⟨⟨sb, N⟩, hkb4⟩ : ∃ x, rNum bs s3 4 = x := ⟨_, rfl⟩
                  simp only [hkb4] at RN b4
                  rw [hkb4] at HST
                  have hN : N < 4294967296 := Nat.lt_of_lt_of_eq b4 (by decide)
                  have hNi : IntKind.u32.wrap (N : Int) = N := by rw [IntKind.wrap_u32]; omega
                  have HRN := Lib.hid RN
                  clear b4 hkb4 RN
                  have hlt : G5 < wa2.heap.size := Tb.out.lt
                  obtain ⟨S, HS⟩ : ∃ S : World → Prop, Hid (∀ w', S w' = (w'.cell? ⟨G5, 1, none⟩ = some v)) := ⟨_, fun _ => rfl⟩
                  refine wp_region_seq S 10 [(0, false), (1, false), (2, false), (3, false), (4, true), (5, false), (6, false), (7, true), (8, true), (9, false), (10, true)] (by kernel_rfl) rfl (by kernel_rfl) (by kernel_rfl) (by kernel_rfl) (fun _ _ d _ _ h => by cases d <;> exact h) ((HS.out _).mpr t1) ?_
                  repeat (refine wpSeq_read rfl rfl ⟨?_, fun w1 hS => ?_, ?_⟩; rotate_left; (focus (rw [HS.out] at hS; go_split_ands; go_simp; (try go_bits); try rfl)); simp only [Act.put, List.setIfInBounds_toArray, List.set_cons_zero, List.set_cons_succ])
                  refine wpSeq_write rfl rfl ?_
                  go_simp
                  refine (HRN.out wa2.drew Hb.out).mono ?_
                  rintro e wb ⟨rfl, hbb, gb⟩
                  have tb := (show Blk wa2.drew G5 30 _ from Tb.out).grown gb (by simp; omega)
                  have rb := (show Blk wa2.drew w.heap.size 30 _ from Rb.out).grown gb (by simp; omega)
                  have tb1 := tb.cell 1
                  rw [show (tokv id v (List.replicate 32 0)).toArray[1]? = some v from rfl] at tb1
                  have hgl : g < wa2.heap.size := Hb.out.lt
                  have blb := adv (show Below w.heap.size w wa2.drew from BLb.out.drew) gb (by omega) hgl
                  have ob : OwnC wb (g + 1) v l := OwnC.ref (w := wa2.drew) (show OwnC wa2.drew (g + 1) v l from Ob.out) (show RRd wa2.drew g bs s3 from Hb.out) gb
                  refine ⟨(HS.out _).mpr tb1, ?_⟩
                  try simp only [Act.put, List.setIfInBounds_toArray, List.set_cons_zero, List.set_cons_succ]
                  repeat (refine wpSeq_read rfl rfl ⟨?_, fun w1 hS => ?_, ?_⟩; rotate_left; (focus (rw [HS.out] at hS; go_split_ands; go_simp; (try go_bits); try rfl)); simp only [Act.put, List.setIfInBounds_toArray, List.set_cons_zero, List.set_cons_succ])
                  refine wpSeq_write rfl rfl ?_
                  go_simp
                  refine ⟨(HS.out _).mpr (cell_new tb1 _), ?_⟩
                  try simp only [Act.put, List.setIfInBounds_toArray, List.set_cons_zero, List.set_cons_succ]
                  have hbB := blb.size
                  have hgb' : g < wb.heap.size := hbb.lt
                  have rc : Reads (wb.alloc (.cells #[.int .i64 (k : Int), .int .u32 (N : Int)] 37)) (wb.alloc (.cells #[.int .i64 (k : Int), .int .u32 (N : Int)] 37)).heap.size 2 (some ⟨wb.heap.size, 0, none⟩) 1 (cavv [((k : Int), N)]) := by
                    have := Reads.new wb 37 (cavv [((k : Int), N)]) 2 1 (by rw [cavv_length]; rfl)
                    rw [alloc_size]
                    exact this
                  refine wpSeq_write rfl rfl ?_
                  refine wp_append_cavs (.tmp 61) (.tmp 67) rfl (g + 1) v l rfl (ob.alloc _) _ 1 1 [((k : Int), N)] rfl rc (by omega) (by rw [alloc_size]; omega) ?_
                  intro v9 wd od bd gd
                  obtain ⟨A9, n9, c9, rfl, -, -, -, -⟩ := od.sl
                  have td := (tb.alloc (.cells #[.int .i64 (k : Int), .int .u32 (N : Int)] 37)).grown gd (Ne.symm (own_blk_ne ob tb (by decide)))
                  have td1 := td.cell 1
                  rw [show (tokv id v (List.replicate 32 0)).toArray[1]? = some v from rfl] at td1
                  refine ⟨fun _ => (HS.out _).mpr td1, ?_⟩
                  try simp only [Act.put, List.setIfInBounds_toArray, List.set_cons_zero, List.set_cons_succ]
                  repeat (refine wpSeq_read rfl rfl ⟨?_, fun w1 hS => ?_, ?_⟩; rotate_left; (focus (rw [HS.out] at hS; go_split_ands; go_simp; (try go_bits); try rfl)); simp only [Act.put, List.setIfInBounds_toArray, List.set_cons_zero, List.set_cons_succ])
                  have td1f := td.frozen 1
                  have hd := (hbb.below ((Below.refl _ _).alloc (Nat.le_refl _) (.cells #[.int .i64 (k : Int), .int .u32 (N : Int)] 37))).grown (ob.alloc _) gd (by omega)
                  have rd := (rb.alloc (.cells #[.int .i64 (k : Int), .int .u32 (N : Int)] 37)).grown gd (Ne.symm (own_blk_ne ob rb (by decide)))
                  have bld : Below w.heap.size w wd := (below_new blb _).trans (bd.mono (by omega))
                  have ne1 := own_blk_ne od td (by decide)
                  refine wpSeq_write rfl rfl ?_
                  go_simp
                  refine wpSeq_nil ?_
                  have HD1 := Lib.hid (hd.kept (k := G5) (World.grownBy.refl _ _ |> fun q => only_setCell (p := ⟨G5, 1, none⟩) q (.inl rfl) (.slice A9 n9 c9)) hgG)
                  have TD1 : Hid (Blk (wd.setCell ⟨G5, 1, none⟩ (.slice A9 n9 c9)) G5 30 (tokv id (.slice A9 n9 c9) (List.replicate 32 0)).toArray) := by
                    have := td.set_ 1 (.slice A9 n9 c9)
                    rw [show (tokv id v (List.replicate 32 0)).toArray.setIfInBounds 1 (.slice A9 n9 c9) = (tokv id (.slice A9 n9 c9) (List.replicate 32 0)).toArray by simp [tokv]] at this
                    exact this
                  have RD1 := Lib.hid (rd.far (p := ⟨G5, 1, none⟩) (by show w.heap.size ≠ G5; omega) (.slice A9 n9 c9))
                  have OD1 := Lib.hid (show OwnC (wd.setCell ⟨G5, 1, none⟩ (.slice A9 n9 c9)) (g + 1) (.slice A9 n9 c9) (l ++ [((k : Int), N)]) from own_setCell_far od (p := ⟨G5, 1, none⟩) ne1 (.slice A9 n9 c9))
                  have BD1 := Lib.hid (bld.setCell (p := ⟨G5, 1, none⟩) (by show w.heap.size ≤ G5; omega) (.slice A9 n9 c9))
                  clear hd rd bld ne1 td td1 td1f tb tb1 rb blb ob od bd gd hbb gb rc Hb Ob Tb Rb BLb t1
                  go_wp2
                  go_roundw
                  case rel => exact ⟨j + 1, sb, l ++ [((k : Int), N)], .slice A9 n9 c9, by omega, by go_num, by rw [List.length_append]; simp; omega, HST.out, HD1.out, OD1.out, TD1.out, RD1.out, BD1.out⟩
                  case measure => simp [intOf]; omega
            · have hs' : s.2.isSome = true := by
                cases h : s.2 with
                | none => exact absurd h hs
                | some x => rfl
              rw [hs'] at fl
              have HSE := Lib.hid (hway.out.stop (.inr hs))
              go_wp2
              go_meet
              case rel => exact ⟨s, l, v, HSE.out, hrd.out, hov.out, htb.out, hrb.out, hbl.out⟩
          · have qk : ¬ (j : Int) < m := by omega
            have HSE := Lib.hid (hway.out.stop (.inl (by omega)))
            clear fl
            go_wp2
            go_meet
            case rel => exact ⟨s, l, v, HSE.out, hrd.out, hov.out, htb.out, hrb.out, hbl.out⟩
      case rest =>
        obtain ⟨s, l, v, hse, H6, O6, T6, R6, BL6⟩ := hcut
        clear H5 T5 R5 BL5
        go_wp2_with fail
        refine (rreader_digest g bs s wc H6.out).mono ?_
        rintro e w7 ⟨rfl, h7, g7⟩
        have ltag := rDig_length bs s
        have hsame := same_end bs DD s l hse.out
        obtain ⟨⟨s7, tag⟩, hdg⟩ : ∃ x, rDig bs s = x := ⟨_, rfl⟩
        rw [hdg] at h7 ltag hsame ⊢
        dsimp only at h7 ltag hsame ⊢
        have DG := Lib.hid hdg
        have t7 := T6.out.grown g7 (by simp; omega)
        have r7 := R6.out.grown g7 (by simp; omega)
        have bl7 := adv BL6.out g7 (by omega) H6.out.lt
        have o7 : OwnC w7 (g + 1) v l := O6.out.ref H6.out g7
        have htt := tok_tag id v (List.replicate 32 0) tag (by simp) ltag
        have lV : (byv tag).length = 32 := by rw [byv_length]; exact ltag
        have oV := byv_one tag
        have TH := Lib.hid (there_blk t7 2 32 (by rw [tokv_len _ _ _ (by simp)]; decide))
        have SC := Lib.hid (Blk.setCells (byv tag) 2 w7 _ t7 (by rw [tokv_len _ _ _ (by simp), lV]; decide))
        rw [htt] at SC
        obtain ⟨V, hV⟩ : ∃ V, byv tag = V := ⟨_, rfl⟩
        rw [hV] at SC lV oV ⊢
        have IV := Lib.hid (show (Tryd.prog.info? 28).map (·.size) = some V.toArray.size by rw [List.size_toArray, lV]; exact Tryd.dig_info)
        have TH' := Lib.hid (show w7.there G5 2 V.toArray.size by rw [List.size_toArray, lV]; exact TH.out)
        have OV := Lib.hid (all_oneCell_toArray oV)
        have gsc := grown_setCells G5 V 2 w7
        have H7 := Lib.hid (h7.kept gsc hgG)
        have O7 := Lib.hid (show OwnC (w7.setCells G5 2 V) (g + 1) v l from World.ownsRow.kept o7 gsc (.inr (own_blk_ne o7 t7 (by decide))))
        have R7 := Lib.hid (r7.grown gsc (by simp; omega))
        have BL7 := Lib.hid (adv bl7 gsc (by omega) t7.lt)
        have HSM := Lib.hid hsame
        clear h7 g7 t7 r7 bl7 o7 hdg htt lV oV hV TH gsc H6 O6 T6 R6 BL6 hsame
        go_upto_region 14 with (refine wpList_store_mid rfl 28 (.tmp 72) (.tmp 71) rfl G5 2 V.toArray rfl rfl TH'.out IV.out OV.out ?_)
        obtain ⟨w8, hw8⟩ : ∃ x, x = w7.setCells G5 2 V := ⟨_, rfl⟩
        rw [← hw8] at SC H7 O7 R7 BL7 ⊢
        clear hw8
        go_wp2_with fail
        refine (rreader_end g bs s7 w8 H7.out).mono ?_
        rintro e w10 ⟨rfl, b810⟩
        have t10 := SC.out.below b810 SC.out.lt
        have r10 := R7.out.below b810 R7.out.lt
        have o10 := O7.out.kept b810
        have bl10 := BL7.out.trans (b810.mono BL7.out.size)
        have HDT : Hid (decT bs (0, none) = ((rDig bs DD.1).1, (id, DD.2, (rDig bs DD.1).2))) := by
          show _ = _
          unfold decT
          simp only [RA.out, RB.out, HDD.out]
        have T10 := Lib.hid t10
        have R10 := Lib.hid r10
        have O10 := Lib.hid o10
        have BL10 := Lib.hid bl10
        have hWhy := tokDec_why bs
        clear b810 t10 r10 o10 bl10 SC H7 O7 R7 BL7
        cases hend : rEnd bs s7 with
        | none =>
          have hDD : DD = (s, l) := by
            rcases HSM.out with ⟨x, h1, -⟩ | h
            · rw [hend] at h1
              cases h1
            · exact h
          have HTD : Hid (tokDec bs = (none, (id, l, tag))) := by
            show _ = _
            unfold tokDec
            rw [HDT.out, hDD]
            simp only [DG.out, hend]
          clear hend hDD hWhy HSM hse
          rw [show ((atOf none : Nat) : Int) = 0 from rfl, show ((whyOf none : Nat) : Int) = 0 from rfl]
          have lT := tokv_len id v tag ltag
          obtain ⟨Av, nv, cv, rfl, -, -, -, -⟩ := O10.out.sl
          have oT := tokv_one id (.slice Av nv cv) rfl tag
          obtain ⟨T, hT⟩ : ∃ T, tokv id (.slice Av nv cv) tag = T := ⟨_, rfl⟩
          rw [hT] at T10 lT oT
          have RG := Lib.hid (rangeAt_blk T10.out 0 T (fun j u h => by simpa using h))
          have IT := Lib.hid (show (Tryd.prog.info? 30).map (·.size) = some T.length by rw [lT]; exact Tryd.tok_info)
          have IT' := Lib.hid (show (Tryd.prog.info? 30).map (·.size) = some T.toArray.size by rw [List.size_toArray, lT]; exact Tryd.tok_info)
          have LT := Lib.hid lT
          have OT := Lib.hid oT
          have ET := Lib.hid hT
          clear lT oT hT
          go_wp2_with (first
            | (refine load_mid_want rfl 30 (.tmp 6) rfl G5 0 rfl T _ RG.out Tryd.underlying30 rfl IT.out ?_)
            | (refine wpList_store_row rfl 30 (.tmp 2) (.tmp 83) rfl w.heap.size T.toArray rfl rfl 30 _ R10.out IT'.out (by simp [LT.out]) (by simpa using OT.out) ?_))
          have z := R10.out.setRow T.toArray
          refine bodyPost_ret (results_cell_tmp2 rfl rfl (load_tok z LT.out)) rfl ⟨.slice Av nv cv, ?_, ?_, ?_⟩
          · rw [HTD.out, ← ET.out]
            rfl
          · rw [HTD.out]
            exact OwnC.mono (World.ownsRow.kept O10.out (grown_setRow _ _ _) (.inr (own_blk_ne O10.out R10.out (by decide)))) (by omega)
          · exact below_setRow BL10.out (Nat.le_refl _) _
        | some x =>
          have hDE : rEnd bs (rDig bs DD.1).1 = some x := by
            rcases HSM.out with ⟨y, h1, h2⟩ | h
            · rw [hend] at h1
              rw [h2, h1]
            · rw [h]
              simp only [DG.out, hend]
          have htd : tokDec bs = (some x, zeroTok) := by
            unfold tokDec
            rw [HDT.out]
            simp only [hDE]
          have hx := hWhy x (by rw [htd])
          obtain ⟨xa, xy⟩ := x
          dsimp only at hx
          have hx' : ¬ (xy : Int) = 0 := by omega
          have HTD := Lib.hid htd
          clear hend hDE htd hWhy HSM hse hx
          rw [show atOf (some (xa, xy)) = xa from rfl, show whyOf (some (xa, xy)) = xy from rfl]
          go_wp2_with (first
            | (refine wpList_read rfl ⟨.agg zeroTokv.toArray, run_built 30 _ rfl _ _ built_zero (by simp [Act.eval]), ?_⟩)
            | (refine wpList_store_row rfl 30 (.tmp 2) (.tmp 80) rfl w.heap.size zeroTokv.toArray rfl rfl 30 _ R10.out zeroTokv_info zeroTokv_size zeroTokv_one ?_))
          have z := R10.out.setRow zeroTokv.toArray
          refine bodyPost_ret (results_cell_tmp2 rfl rfl (load_tok z rfl)) rfl ⟨.slice none 0 0, ?_, ?_, ?_⟩
          · rw [HTD.out]
            rfl
          · rw [HTD.out]
            exact OwnC.nil _ _
          · exact below_setRow BL10.out (Nat.le_refl _) _

end Go.Proofs.YtamhggndcegndaaDoor
