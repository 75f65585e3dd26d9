/-
  deponentref1.New: the table is sha's.
-/
import Derived.Test.YtamhggndcegndaaDoorRootT
namespace Go.Proofs.YtamhggndcegndaaDoor
open Go.RowKit
set_option linter.unusedVariables false
set_option maxRecDepth 100000

/-- The table's words: the constants, then the state at first. -/
def tab72 : List Nat := Kt ++ start0.list

def tabAt (j : Nat) : List Nat := tab72.take j ++ List.replicate (72 - j) 0

theorem tab72_length : tab72.length = 72 := by decide

theorem tab72_u32 : u32s tab72 := by
  intro x hx
  have h : (tab72.all fun x => decide (x < 4294967296)) = true := by decide +kernel
  simpa using List.all_eq_true.1 h x hx

theorem tabAt_length (j : Nat) (h : j ≤ 72) : (tabAt j).length = 72 := by
  simp only [tabAt, List.length_append, List.length_take, List.length_replicate, tab72_length]
  omega

theorem tabAt_full : tabAt 72 = tab72 := by
  unfold tabAt
  rw [List.take_of_length_le (by rw [tab72_length]; exact Nat.le_refl _)]
  simp

theorem tabAt_set (j x : Nat) (h : tab72[j]? = some x) : (tabAt j).set j x = tabAt (j + 1) := by
  have hj : j < 72 := by have := (List.getElem?_eq_some_iff.1 h).1; rwa [tab72_length] at this
  have lt : (tab72.take j).length = j := by rw [List.length_take, tab72_length]; omega
  unfold tabAt
  rw [List.set_append_right _ _ (by rw [lt]; exact Nat.le_refl _), lt, Nat.sub_self, show 72 - j = (72 - (j + 1)) + 1 by omega, List.replicate_succ, List.set_cons_zero, List.take_add_one, h]
  simp

theorem tabAt_at (j : Nat) (h : j < 72) : (tabAt j)[j]? = some 0 := by
  have lt : (tab72.take j).length = j := by rw [List.length_take, tab72_length]; omega
  unfold tabAt
  rw [List.getElem?_append_right (by rw [lt]; exact Nat.le_refl _), lt, Nat.sub_self, List.getElem?_replicate, if_pos (by omega)]

theorem wordv_at {l : List Nat} {i x : Nat} (h : l[i]? = some x) : (wordv l)[i]? = some (.int .u32 (x : Int)) := by simp [wordv, h]

theorem wordv_set (l : List Nat) (i x : Nat) : (wordv l).toArray.setIfInBounds i (.int .u32 (x : Int)) = (wordv (l.set i x)).toArray := by simp [wordv, List.map_set]

theorem roots_cube : ((List.range 64).all fun k => rootOk (primes64.getD k 0) (iroot (primes64.getD k 0) 3 7 * 4294967296 + tab72.getD k 0) true) = true := by decide +kernel

theorem roots_square : ((List.range 8).all fun k => rootOk (primes64.getD k 0) (iroot (primes64.getD k 0) 2 7 * 4294967296 + tab72.getD (64 + k) 0) false) = true := by decide +kernel

theorem root_cube (k r : Nat) (hk : k < 64) (h : IsRoot r (primes64.getD k 0) true) : tab72[k]? = some (r % 4294967296) := by
  have h1 := rootOk_is (List.all_eq_true.1 roots_cube k (List.mem_range.2 hk))
  rw [h.eq h1]
  have hl : k < tab72.length := by rw [tab72_length]; omega
  have hb := tab72_u32.getD k
  rw [Nat.mul_add_mod', Nat.mod_eq_of_lt hb, List.getD_eq_getElem?_getD, List.getElem?_eq_getElem hl]
  rfl

theorem root_square (k r : Nat) (hk : k < 8) (h : IsRoot r (primes64.getD k 0) false) : tab72[64 + k]? = some (r % 4294967296) := by
  have h1 := rootOk_is (List.all_eq_true.1 roots_square k (List.mem_range.2 hk))
  rw [h.eq h1]
  have hl : 64 + k < tab72.length := by rw [tab72_length]; omega
  have hb := tab72_u32.getD (64 + k)
  rw [Nat.mul_add_mod', Nat.mod_eq_of_lt hb, List.getD_eq_getElem?_getD, List.getElem?_eq_getElem hl]
  rfl

theorem primes64_lt (k : Nat) : primes64.getD k 0 < 1000 := by
  rw [List.getD_eq_getElem?_getD]
  rcases hx : primes64[k]? with _ | x
  · simp
  · have h : (primes64.all fun x => decide (x < 1000)) = true := by decide
    simpa using List.all_eq_true.1 h x (List.mem_of_getElem? hx)

theorem built_tab : Tryd.prog.built 78 [] = some (wordv (List.replicate 72 0)).toArray := by kernel_rfl

theorem Tryd.tab_info : (Tryd.prog.info? 78).map (·.size) = some 72 := by kernel_rfl

/-- Block g is the document's table. -/
def RTab (w : World) (g : Nat) : Prop := Blk w g 78 (wordv tab72).toArray

theorem below_only1 {w w' : World} {g B : Nat} (h : w.grownBy w' (some g)) (hB : B ≤ g) (hg : g < w.heap.size) : Below B w w' :=
  ⟨h.os, h.tape, h.output, h.size, fun k hk => h.block k (by omega) (fun e => by injection e; omega)⟩

-- END BY HAND
set_option maxHeartbeats 4000000 in
theorem ref1_new (w : World) :
    Calls Tryd.prog 9 #[] w fun e w' => e = .returned (.pointer (some ⟨w.heap.size, 0, none⟩)) ∧ RTab w' w.heap.size ∧ Below w.heap.size w w' := by
  have z0 : Blk (w.alloc (.cells Tryd.zeroCells78 78)) w.heap.size 78 (wordv (tabAt 0)).toArray := by
    have h := Blk.new w 78 Tryd.zeroCells78
    rw [show Tryd.zeroCells78 = (wordv (tabAt 0)).toArray by kernel_rfl] at h ⊢
    exact h
  have b0 : Below w.heap.size w (w.alloc (.cells Tryd.zeroCells78 78)) := (Below.refl _ _).alloc (Nat.le_refl _) _
  obtain ⟨W0, hW0⟩ : ∃ x, x = w.alloc (.cells Tryd.zeroCells78 78) := ⟨_, rfl⟩
  rw [← hW0] at z0 b0
  have HW0 := Lib.hid hW0
  have Z0 := Lib.hid z0
  have B0 := Lib.hid b0
  obtain ⟨g, hg⟩ : ∃ g, w.heap.size = g := ⟨_, rfl⟩
  have HG := Lib.hid hg
  clear hW0 z0 b0 hg
  go_enter Tryd.func9, Tryd.ntmps9
  go_wp2_with fail
  rw [← HW0.out]
  refine (ref1_primes W0).mono ?_
  rintro e w1 ⟨v, rfl, own1, b1⟩
  obtain ⟨A, n, c, rfl, hn, hnc, hcm, hrd⟩ := own1.sl
  obtain rfl : n = 64 := hn.trans (by decide)
  have z1 := Z0.out.below b1 Z0.out.lt
  have b1' := B0.out.trans (b1.mono B0.out.size)
  have hne := own_blk_ne own1 z1 (by decide)
  obtain ⟨b, o, rfl, hab, hcell⟩ := hrd.mid (by omega) (by omega)
  have hbg : b ≠ w.heap.size := fun e => hne (by simp [Value.ownBlock, e])
  have hgw : w.heap.size < w1.heap.size := z1.lt
  rw [HG.out] at z1 b1' hbg hgw ⊢
  have HC := Lib.hid hcell
  have Z1 := Lib.hid z1
  have B1 := Lib.hid b1'
  clear own1 b1 hrd hcell hn HW0 Z0 B0 z1 b1' hne
  go_wp2_with fail
  go_loopw [3] (fun i wr => ∃ k : Nat, k ≤ 64 ∧ i = .int .i64 k ∧ Hid (Blk wr g 78 (wordv (tabAt k)).toArray) ∧ Hid (w1.grownBy wr (some g))) (fun i _ => 64 - (intOf i).toNat)
  case atStart => exact ⟨0, by omega, rfl, Z1.out, World.grownBy.refl _ _⟩
  case round =>
    obtain ⟨k, hk, rfl, hz, hgr⟩ := hrel
    by_cases hlt : k < 64
    · obtain ⟨p, hp⟩ : ∃ p, primes64[k]? = some p := ⟨_, List.getElem?_eq_getElem (by rw [show primes64.length = 64 from by decide]; exact hlt)⟩
      have hpd : primes64.getD k 0 = p := by rw [List.getD_eq_getElem?_getD, hp]; rfl
      have ck : wr.cell? ⟨b, o + k, none⟩ = some (.int .u64 (p : Int)) := hgr.out.cell (HC.out k _ (u64v_at hp)) (by simp; omega)
      have hp1 : p < 1000 := by rw [← hpd]; exact primes64_lt k
      have hroot := root_cube k
      rw [hpd] at hroot
      have HRT := Lib.hid hroot
      have q1 : (k : Int) < 64 := by omega
      have hbw : b < wr.heap.size := World.block_lt_of_cell? _ _ ck
      clear hp hpd hroot
      go_upto_region 6 with (fail)
      obtain ⟨S, HS⟩ : ∃ S : World → Prop, Hid (∀ w', S w' = (w'.cell? ⟨b, o + k, none⟩ = some (.int .u64 (p : Int)))) := ⟨_, fun _ => rfl⟩
      refine wp_region_seq S 10 [(0, false), (1, false), (2, false), (3, false), (4, false), (5, false), (7, false), (8, false), (6, true), (9, false), (10, true)] (by kernel_rfl) rfl (by kernel_rfl) (by kernel_rfl) (by kernel_rfl) (fun _ _ d _ _ h => by cases d <;> exact h) ((HS.out _).mpr ck) ?_
      repeat (refine wpSeq_read rfl rfl ⟨?_, fun w1 hS => ?_, ?_⟩; rotate_left; (focus (rw [HS.out] at hS; go_split_ands; go_simp; (try go_bits); try rfl)); simp only [Act.put, List.setIfInBounds_toArray, List.set_cons_zero, List.set_cons_succ])
      refine wpSeq_write rfl rfl ?_
      go_simp
      refine (ref1_root p true wr.drew hp1).mono ?_
      rintro e w2 ⟨⟨r, hr, rfl⟩, b2⟩
      have hrk := HRT.out r hlt hr
      have z2 := (show Blk wr.drew g 78 (wordv (tabAt k)).toArray from hz.out).below b2 hz.out.lt
      obtain ⟨rr, hrr⟩ : ∃ x, r % 4294967296 = x := ⟨_, rfl⟩
      rw [hrr] at hrk ⊢
      have gr2 : w1.grownBy w2 (some g) := only_trans (only_drew hgr.out) (only_of_below b2 (some g)) (by rintro d ⟨rfl⟩; exact .inl rfl)
      refine ⟨(HS.out _).mpr ((b2.cell (p := ⟨b, o + k, none⟩) hbw).trans ck), ?_⟩
      try simp only [Act.put, List.setIfInBounds_toArray, List.set_cons_zero, List.set_cons_succ]
      repeat (refine wpSeq_read rfl rfl ⟨?_, fun w1 hS => ?_, ?_⟩; rotate_left; (focus (rw [HS.out] at hS; go_split_ands; go_simp; (try go_bits); try rfl)); simp only [Act.put, List.setIfInBounds_toArray, List.set_cons_zero, List.set_cons_succ])
      have zs := z2.set_ k (.int .u32 (rr : Int))
      rw [wordv_set, tabAt_set k rr hrk] at zs
      have ZS := Lib.hid zs
      have GS := Lib.hid (only_setCell (p := ⟨g, k, none⟩) gr2 (.inl rfl) (.int .u32 (rr : Int)))
      have zc := (z2.cell k).trans (show _ = some (.int .u32 0) by simpa using wordv_at (tabAt_at k (by omega)))
      have zf := z2.frozen k
      refine wpSeq_write rfl rfl ?_
      go_simp
      refine wpSeq_nil ?_
      clear zc zf zs gr2 z2 b2 hgr hz hrk hrr hr hbw ck
      go_wp2
      go_roundw
      case rel => exact ⟨k + 1, by omega, by go_num, ZS, GS⟩
      case measure => simp [intOf]; omega
    · obtain rfl : 64 = k := by omega
      clear Z1
      rw [show ((64 : Nat) : Int) = 64 from rfl]
      go_wp2_with fail
      go_loopw [4] (fun i wr => ∃ k : Nat, k ≤ 8 ∧ i = .int .i64 k ∧ Hid (Blk wr g 78 (wordv (tabAt (64 + k))).toArray) ∧ Hid (w1.grownBy wr (some g))) (fun i _ => 8 - (intOf i).toNat)
      case atStart => exact ⟨0, by omega, rfl, hz.out, hgr.out⟩
      case round =>
        clear hz hgr
        obtain ⟨k, hk, rfl, hz, hgr⟩ := hrel
        by_cases hlt : k < 8
        · obtain ⟨p, hp⟩ : ∃ p, primes64[k]? = some p := ⟨_, List.getElem?_eq_getElem (by rw [show primes64.length = 64 from by decide]; omega)⟩
          have hpd : primes64.getD k 0 = p := by rw [List.getD_eq_getElem?_getD, hp]; rfl
          have ck : wr.cell? ⟨b, o + k, none⟩ = some (.int .u64 (p : Int)) := hgr.out.cell (HC.out k _ (u64v_at hp)) (by simp; omega)
          have hp1 : p < 1000 := by rw [← hpd]; exact primes64_lt k
          have hroot := root_square k
          rw [hpd] at hroot
          have HRT := Lib.hid hroot
          have q1 : (k : Int) < 8 := by omega
          have q2 : (k : Int) < 64 := by omega
          have hbw : b < wr.heap.size := World.block_lt_of_cell? _ _ ck
          clear hp hpd hroot
          go_upto_region 10 with (fail)
          obtain ⟨S, HS⟩ : ∃ S : World → Prop, Hid (∀ w', S w' = (w'.cell? ⟨b, o + k, none⟩ = some (.int .u64 (p : Int)))) := ⟨_, fun _ => rfl⟩
          refine wp_region_seq S 10 [(0, false), (1, false), (2, false), (3, false), (4, false), (5, false), (7, false), (8, false), (6, true), (9, false), (10, true)] (by kernel_rfl) rfl (by kernel_rfl) (by kernel_rfl) (by kernel_rfl) (fun _ _ d _ _ h => by cases d <;> exact h) ((HS.out _).mpr ck) ?_
          repeat (refine wpSeq_read rfl rfl ⟨?_, fun w1 hS => ?_, ?_⟩; rotate_left; (focus (rw [HS.out] at hS; go_split_ands; go_simp; (try go_bits); try rfl)); simp only [Act.put, List.setIfInBounds_toArray, List.set_cons_zero, List.set_cons_succ])
          refine wpSeq_write rfl rfl ?_
          go_simp
          refine (ref1_root p false wr.drew hp1).mono ?_
          rintro e w2 ⟨⟨r, hr, rfl⟩, b2⟩
          have hrk := HRT.out r hlt hr
          have z2 := (show Blk wr.drew g 78 (wordv (tabAt (64 + k))).toArray from hz.out).below b2 hz.out.lt
          obtain ⟨rr, hrr⟩ : ∃ x, r % 4294967296 = x := ⟨_, rfl⟩
          rw [hrr] at hrk ⊢
          have gr2 : w1.grownBy w2 (some g) := only_trans (only_drew hgr.out) (only_of_below b2 (some g)) (by rintro d ⟨rfl⟩; exact .inl rfl)
          refine ⟨(HS.out _).mpr ((b2.cell (p := ⟨b, o + k, none⟩) hbw).trans ck), ?_⟩
          try simp only [Act.put, List.setIfInBounds_toArray, List.set_cons_zero, List.set_cons_succ]
          repeat (refine wpSeq_read rfl rfl ⟨?_, fun w1 hS => ?_, ?_⟩; rotate_left; (focus (rw [HS.out] at hS; go_split_ands; go_simp; (try go_bits); try rfl)); simp only [Act.put, List.setIfInBounds_toArray, List.set_cons_zero, List.set_cons_succ])
          have zs := z2.set_ (64 + k) (.int .u32 (rr : Int))
          rw [wordv_set, tabAt_set (64 + k) rr hrk] at zs
          have ZS := Lib.hid zs
          have GS := Lib.hid (only_setCell (p := ⟨g, 64 + k, none⟩) gr2 (.inl rfl) (.int .u32 (rr : Int)))
          have zc := (z2.cell (64 + k)).trans (show _ = some (.int .u32 0) by simpa using wordv_at (tabAt_at (64 + k) (by omega)))
          have zf := z2.frozen (64 + k)
          refine wpSeq_write rfl rfl ?_
          go_simp
          refine wpSeq_nil ?_
          clear zc zf zs gr2 z2 b2 hgr hz hrk hrr hr hbw ck
          go_wp2
          go_roundw
          case rel => exact ⟨k + 1, by omega, by go_num, ZS, GS⟩
          case measure => simp [intOf]; omega
        · obtain rfl : 8 = k := by omega
          have hz' := hz.out
          rw [show 64 + 8 = 72 from rfl, tabAt_full] at hz'
          have HZ := Lib.hid hz'
          have HB := Lib.hid (B1.out.trans (below_only1 hgr.out (Nat.le_refl _) hgw))
          clear hz' hz hgr
          go_wp2
          go_ret
          exact ⟨by rw [HG.out]; rfl, by rw [HG.out]; exact HZ.out, by rw [HG.out]; exact HB.out⟩

end Go.Proofs.YtamhggndcegndaaDoor
