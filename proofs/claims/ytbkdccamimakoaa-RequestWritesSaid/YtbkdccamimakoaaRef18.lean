/-
  deponentref18: bodies and requests as bytes.
-/
import Derived.Test.YtbkdccamimakoaaRef12
import Derived.Test.YtbkdccamimakoaaOwnI
import Derived.Test.YtbkdccamimakoaaEnc
namespace Go.Proofs.Ytbkdccamimakoaa
open Go.RowKit
set_option linter.unusedVariables false

def adminB (op : Int) : Bool := decide (6 ≤ op ∧ op ≤ 12)

theorem request_admin (op : Int) (w : World) :
    Calls Try.prog 15 #[.int .i64 op] w fun e w' => e = .returned (.bool (adminB op)) ∧ w = w' := by
  go_enter Try.func15, Try.ntmps15
  go_wp2
  all_goals
    go_ret
    exact ⟨ret_bool' (by simp_all [adminB]; try omega), rfl⟩

theorem ref18_trees (op : Int) (w : World) :
    Calls Try.prog 14 #[.int .i64 op] w fun e w' => e = .returned (.bool (treesB op)) ∧ w = w' := by
  go_enter Try.func14, Try.ntmps14
  go_wp2
  all_goals
    go_ret
    refine ⟨?_, rfl⟩
    exact ret_bool' (by rw [Bool.eq_iff_iff]; simp_all [treesB]; try omega)

theorem ref18_admin (op : Int) (w : World) :
    Calls Try.prog 16 #[.int .i64 op] w fun e w' => e = .returned (.bool (adminB op)) ∧ w = w' := by
  go_enter Try.func16, Try.ntmps16
  go_wp2
  all_goals
    go_ret
    refine ⟨?_, rfl⟩
    exact ret_bool' (by rw [Bool.eq_iff_iff]; simp_all [adminB]; try omega)

/-- The ints of a body that must be bytes. -/
def smallL (R : Req) : List Int :=
  [R.op] ++ ((if treesB R.op then [R.tree] else []) ++ (if R.op = 6 then [R.tenant, R.weight] else if R.op = 7 then [R.state] else if R.op = 8 then [R.weight] else if R.op = 10 then [R.tenant, R.role] else if R.op = 12 then [R.tenant] else []))

def isByte (x : Int) : Bool := decide (0 ≤ x ∧ x ≤ 255)

def smallB (R : Req) : Bool := (smallL R).all isByte

theorem isByte_lo {x : Int} (h : x < 0) : isByte x = false := by unfold isByte; simp; omega
theorem isByte_hi {x : Int} (h : 255 < x) : isByte x = false := by unfold isByte; simp; omega
theorem isByte_in {x : Int} (h : 0 ≤ x) (h' : x ≤ 255) : isByte x = true := by unfold isByte; simp; omega

theorem all_false {l : List Int} {k : Nat} {x : Int} (h : l[k]? = some x) (hx : isByte x = false) : l.all isByte = false := by
  rw [List.all_eq_false]
  exact ⟨x, List.mem_of_getElem? h, by simp [hx]⟩






set_option maxHeartbeats 1000000 in
theorem ref18_small_1 (R : Req) (cav leafv : Value) (w : World) (ht : R.tag.length = 32) (hop : R.op = 1) :
    Calls Try.prog 26 #[.agg (reqv R cav leafv).toArray] w fun e w' => e = .returned (.bool (smallB R)) ∧ Below w.heap.size w w' := by
  have hrr := reqv_rest R cav leafv ht
  have r0 : (reqv R cav leafv)[0]? = some (.int .i64 1) := by rw [← hop]; rfl
  have r35 := (hrr 0).trans (show _ = some (.int .i64 R.tree) from rfl)
  have r36 := (hrr 1).trans (show _ = some (.int .i64 R.tenant) from rfl)
  have r37 := (hrr 2).trans (show _ = some (.int .i64 R.role) from rfl)
  have r38 := (hrr 3).trans (show _ = some (.int .i64 R.state) from rfl)
  have r39 := (hrr 4).trans (show _ = some (.int .i64 R.weight) from rfl)
  obtain ⟨L, hL⟩ : ∃ L, reqv R cav leafv = L := ⟨_, rfl⟩
  rw [hL] at r0 r35 r36 r37 r38 r39 ⊢
  clear hrr hL
  have t0 : Blk (w.alloc (.cells L.toArray 31)) w.heap.size 31 L.toArray := Blk.new w _ _
  have htr : treesB 1 = true := rfl
  have hs0 : w.heap.size < (w.alloc (.cells L.toArray 31)).heap.size := t0.lt
  have hown : OwnI ((w.alloc (.cells L.toArray 31)).alloc (.cells #[.int .i64 1] 3)) (w.alloc (.cells L.toArray 31)).heap.size (.slice (some ⟨(w.alloc (.cells L.toArray 31)).heap.size, 0, none⟩) 1 1) [1] := OwnI.made (w.alloc (.cells L.toArray 31)) [1] (by simp [maxLen])
  have t1 := t0.alloc (.cells #[.int .i64 1] 3)
  have B3 : Below w.heap.size w ((w.alloc (.cells L.toArray 31)).alloc (.cells #[.int .i64 1] 3)) := below_new (below_new (Below.refl _ _) _) _
  rw [alloc_size] at hown
  have hcell : ∀ {i : Nat} {v : Value}, L[i]? = some v → L.toArray[i]? = some v := fun h => by simpa using h
  have c0 := (t0.cell 0).trans (hcell r0)
  have hz : (w.alloc (.cells L.toArray 31)).heap.size = w.heap.size + 1 := alloc_size _ _
  have R0 := Lib.hid r0
  have R35 := Lib.hid r35
  have R36 := Lib.hid r36
  have R37 := Lib.hid r37
  have R38 := Lib.hid r38
  have R39 := Lib.hid r39
  have HOP := Lib.hid hop
  clear r0 r35 r36 r37 r38 r39 hop t0 hz
  go_enter Try.func26, Try.ntmps26
  have c0 := (t1.cell 0).trans (hcell R0.out)
  go_wp2_with fail
  refine (ref18_trees _ _).mono ?_
  rintro e w1 ⟨rfl, rfl⟩
  have d35 := (t1.cell 35).trans (hcell R35.out)
  go_wp2_with (at_builtin; go_loud (refine append_ints rfl _ _ rfl (w.heap.size + 1) _ _ rfl (hown.alloc (.cells (inv [R.tree]).toArray 3)) _ _ _ [R.tree] rfl (reads_ints_at _ [R.tree] _ (by simp) _ rfl) (by simp) (by first | (simp only [alloc_size]; omega) | (have := B3.size; simp only [alloc_size]; omega) | (have := t1.lt; simp only [alloc_size]; omega)) ?_))
  intro v2 w2 hown2 hb2 hg2
  replace t1 := (t1.alloc (.cells (inv [R.tree]).toArray 3)).below hb2 (by omega)
  replace B3 := (B3.alloc B3.size (.cells (inv [R.tree]).toArray 3)).trans (hb2.mono (by omega))
  replace hown := hown2
  have c0 := (t1.cell 0).trans (hcell R0.out)
  clear hb2 hg2 hown2
  have HX := Lib.hid (by simp [smallL, HOP.out, htr] : smallL R = [1, R.tree])
  have hown9 := OwnI.cast hown HX.out
  obtain ⟨As, ns, cs, rfl, hns, hnc, hcm, hrs⟩ := hown9.sl
  have hfew : ns ≤ 5 := by rw [hns, HX.out]; simp
  clear hown9
  obtain ⟨X, hX⟩ : ∃ X, smallL R = X := ⟨_, rfl⟩
  rw [hX] at hns hrs
  have HB3 := Lib.hid B3
  have HXX := Lib.hid hX
  have Hns := Lib.hid hns
  clear hX hown HX hns
  have Hsb : Hid (smallB R = X.all isByte) := by unfold Hid smallB; rw [HXX.out]
  go_wp2
  go_loop [4] (fun i => ∃ k : Nat, k ≤ ns ∧ i = .int .i64 k ∧ (X.take k).all isByte = true) (fun i => ns - (intOf i).toNat)
  case atStart => exact ⟨0, by omega, rfl, by simp⟩
  case round =>
    obtain ⟨k, hk, rfl, hall⟩ := hrel
    have Hall := Lib.hid hall
    clear hall
    by_cases hlt : k < ns
    · have hxk : X[k]? = some (X[k]'(by rw [← Hns.out]; exact hlt)) := List.getElem?_eq_getElem _
      obtain ⟨x, hxe⟩ : ∃ x, X[k]'(by rw [← Hns.out]; exact hlt) = x := ⟨_, rfl⟩
      rw [hxe] at hxk
      clear hxe
      obtain ⟨bq, oq, rfl, -, hcell⟩ := hrs.mid (by omega) (by omega)
      have m0 := hcell k (.int .i64 x) (by unfold inv; rw [List.getElem?_map, hxk]; rfl)
      have Hxk := Lib.hid hxk
      clear hxk hcell hrs
      by_cases hx0 : x < 0
      · go_wp2
        go_ret
        exact ⟨ret_bool' (Hsb.out.trans (all_false Hxk.out (isByte_lo hx0))).symm, HB3.out⟩
      · by_cases hx1 : 255 < x
        · go_wp2
          go_ret
          exact ⟨ret_bool' (Hsb.out.trans (all_false Hxk.out (isByte_hi hx1))).symm, HB3.out⟩
        · go_wp2
          go_round
          case rel => exact ⟨k + 1, by omega, by go_num, by rw [List.take_add_one, Hxk.out, List.all_append, Hall.out]; simpa using isByte_in (Int.not_lt.1 hx0) (Int.not_lt.1 hx1)⟩
          case measure => simp [intOf]; omega
    · obtain rfl : k = ns := by omega
      go_wp2
      go_ret
      refine ⟨ret_bool' ?_, HB3.out⟩
      have := Hall.out
      rw [Hns.out, List.take_length] at this
      exact (Hsb.out.trans this).symm

set_option maxHeartbeats 1000000 in
theorem ref18_small_2 (R : Req) (cav leafv : Value) (w : World) (ht : R.tag.length = 32) (hop : R.op = 2) :
    Calls Try.prog 26 #[.agg (reqv R cav leafv).toArray] w fun e w' => e = .returned (.bool (smallB R)) ∧ Below w.heap.size w w' := by
  have hrr := reqv_rest R cav leafv ht
  have r0 : (reqv R cav leafv)[0]? = some (.int .i64 2) := by rw [← hop]; rfl
  have r35 := (hrr 0).trans (show _ = some (.int .i64 R.tree) from rfl)
  have r36 := (hrr 1).trans (show _ = some (.int .i64 R.tenant) from rfl)
  have r37 := (hrr 2).trans (show _ = some (.int .i64 R.role) from rfl)
  have r38 := (hrr 3).trans (show _ = some (.int .i64 R.state) from rfl)
  have r39 := (hrr 4).trans (show _ = some (.int .i64 R.weight) from rfl)
  obtain ⟨L, hL⟩ : ∃ L, reqv R cav leafv = L := ⟨_, rfl⟩
  rw [hL] at r0 r35 r36 r37 r38 r39 ⊢
  clear hrr hL
  have t0 : Blk (w.alloc (.cells L.toArray 31)) w.heap.size 31 L.toArray := Blk.new w _ _
  have htr : treesB 2 = true := rfl
  have hs0 : w.heap.size < (w.alloc (.cells L.toArray 31)).heap.size := t0.lt
  have hown : OwnI ((w.alloc (.cells L.toArray 31)).alloc (.cells #[.int .i64 2] 3)) (w.alloc (.cells L.toArray 31)).heap.size (.slice (some ⟨(w.alloc (.cells L.toArray 31)).heap.size, 0, none⟩) 1 1) [2] := OwnI.made (w.alloc (.cells L.toArray 31)) [2] (by simp [maxLen])
  have t1 := t0.alloc (.cells #[.int .i64 2] 3)
  have B3 : Below w.heap.size w ((w.alloc (.cells L.toArray 31)).alloc (.cells #[.int .i64 2] 3)) := below_new (below_new (Below.refl _ _) _) _
  rw [alloc_size] at hown
  have hcell : ∀ {i : Nat} {v : Value}, L[i]? = some v → L.toArray[i]? = some v := fun h => by simpa using h
  have c0 := (t0.cell 0).trans (hcell r0)
  have hz : (w.alloc (.cells L.toArray 31)).heap.size = w.heap.size + 1 := alloc_size _ _
  have R0 := Lib.hid r0
  have R35 := Lib.hid r35
  have R36 := Lib.hid r36
  have R37 := Lib.hid r37
  have R38 := Lib.hid r38
  have R39 := Lib.hid r39
  have HOP := Lib.hid hop
  clear r0 r35 r36 r37 r38 r39 hop t0 hz
  go_enter Try.func26, Try.ntmps26
  have c0 := (t1.cell 0).trans (hcell R0.out)
  go_wp2_with fail
  refine (ref18_trees _ _).mono ?_
  rintro e w1 ⟨rfl, rfl⟩
  have d35 := (t1.cell 35).trans (hcell R35.out)
  go_wp2_with (at_builtin; go_loud (refine append_ints rfl _ _ rfl (w.heap.size + 1) _ _ rfl (hown.alloc (.cells (inv [R.tree]).toArray 3)) _ _ _ [R.tree] rfl (reads_ints_at _ [R.tree] _ (by simp) _ rfl) (by simp) (by first | (simp only [alloc_size]; omega) | (have := B3.size; simp only [alloc_size]; omega) | (have := t1.lt; simp only [alloc_size]; omega)) ?_))
  intro v2 w2 hown2 hb2 hg2
  replace t1 := (t1.alloc (.cells (inv [R.tree]).toArray 3)).below hb2 (by omega)
  replace B3 := (B3.alloc B3.size (.cells (inv [R.tree]).toArray 3)).trans (hb2.mono (by omega))
  replace hown := hown2
  have c0 := (t1.cell 0).trans (hcell R0.out)
  clear hb2 hg2 hown2
  have HX := Lib.hid (by simp [smallL, HOP.out, htr] : smallL R = [2, R.tree])
  have hown9 := OwnI.cast hown HX.out
  obtain ⟨As, ns, cs, rfl, hns, hnc, hcm, hrs⟩ := hown9.sl
  have hfew : ns ≤ 5 := by rw [hns, HX.out]; simp
  clear hown9
  obtain ⟨X, hX⟩ : ∃ X, smallL R = X := ⟨_, rfl⟩
  rw [hX] at hns hrs
  have HB3 := Lib.hid B3
  have HXX := Lib.hid hX
  have Hns := Lib.hid hns
  clear hX hown HX hns
  have Hsb : Hid (smallB R = X.all isByte) := by unfold Hid smallB; rw [HXX.out]
  go_wp2
  go_loop [4] (fun i => ∃ k : Nat, k ≤ ns ∧ i = .int .i64 k ∧ (X.take k).all isByte = true) (fun i => ns - (intOf i).toNat)
  case atStart => exact ⟨0, by omega, rfl, by simp⟩
  case round =>
    obtain ⟨k, hk, rfl, hall⟩ := hrel
    have Hall := Lib.hid hall
    clear hall
    by_cases hlt : k < ns
    · have hxk : X[k]? = some (X[k]'(by rw [← Hns.out]; exact hlt)) := List.getElem?_eq_getElem _
      obtain ⟨x, hxe⟩ : ∃ x, X[k]'(by rw [← Hns.out]; exact hlt) = x := ⟨_, rfl⟩
      rw [hxe] at hxk
      clear hxe
      obtain ⟨bq, oq, rfl, -, hcell⟩ := hrs.mid (by omega) (by omega)
      have m0 := hcell k (.int .i64 x) (by unfold inv; rw [List.getElem?_map, hxk]; rfl)
      have Hxk := Lib.hid hxk
      clear hxk hcell hrs
      by_cases hx0 : x < 0
      · go_wp2
        go_ret
        exact ⟨ret_bool' (Hsb.out.trans (all_false Hxk.out (isByte_lo hx0))).symm, HB3.out⟩
      · by_cases hx1 : 255 < x
        · go_wp2
          go_ret
          exact ⟨ret_bool' (Hsb.out.trans (all_false Hxk.out (isByte_hi hx1))).symm, HB3.out⟩
        · go_wp2
          go_round
          case rel => exact ⟨k + 1, by omega, by go_num, by rw [List.take_add_one, Hxk.out, List.all_append, Hall.out]; simpa using isByte_in (Int.not_lt.1 hx0) (Int.not_lt.1 hx1)⟩
          case measure => simp [intOf]; omega
    · obtain rfl : k = ns := by omega
      go_wp2
      go_ret
      refine ⟨ret_bool' ?_, HB3.out⟩
      have := Hall.out
      rw [Hns.out, List.take_length] at this
      exact (Hsb.out.trans this).symm

set_option maxHeartbeats 1000000 in
theorem ref18_small_3 (R : Req) (cav leafv : Value) (w : World) (ht : R.tag.length = 32) (hop : R.op = 3) :
    Calls Try.prog 26 #[.agg (reqv R cav leafv).toArray] w fun e w' => e = .returned (.bool (smallB R)) ∧ Below w.heap.size w w' := by
  have hrr := reqv_rest R cav leafv ht
  have r0 : (reqv R cav leafv)[0]? = some (.int .i64 3) := by rw [← hop]; rfl
  have r35 := (hrr 0).trans (show _ = some (.int .i64 R.tree) from rfl)
  have r36 := (hrr 1).trans (show _ = some (.int .i64 R.tenant) from rfl)
  have r37 := (hrr 2).trans (show _ = some (.int .i64 R.role) from rfl)
  have r38 := (hrr 3).trans (show _ = some (.int .i64 R.state) from rfl)
  have r39 := (hrr 4).trans (show _ = some (.int .i64 R.weight) from rfl)
  obtain ⟨L, hL⟩ : ∃ L, reqv R cav leafv = L := ⟨_, rfl⟩
  rw [hL] at r0 r35 r36 r37 r38 r39 ⊢
  clear hrr hL
  have t0 : Blk (w.alloc (.cells L.toArray 31)) w.heap.size 31 L.toArray := Blk.new w _ _
  have htr : treesB 3 = true := rfl
  have hs0 : w.heap.size < (w.alloc (.cells L.toArray 31)).heap.size := t0.lt
  have hown : OwnI ((w.alloc (.cells L.toArray 31)).alloc (.cells #[.int .i64 3] 3)) (w.alloc (.cells L.toArray 31)).heap.size (.slice (some ⟨(w.alloc (.cells L.toArray 31)).heap.size, 0, none⟩) 1 1) [3] := OwnI.made (w.alloc (.cells L.toArray 31)) [3] (by simp [maxLen])
  have t1 := t0.alloc (.cells #[.int .i64 3] 3)
  have B3 : Below w.heap.size w ((w.alloc (.cells L.toArray 31)).alloc (.cells #[.int .i64 3] 3)) := below_new (below_new (Below.refl _ _) _) _
  rw [alloc_size] at hown
  have hcell : ∀ {i : Nat} {v : Value}, L[i]? = some v → L.toArray[i]? = some v := fun h => by simpa using h
  have c0 := (t0.cell 0).trans (hcell r0)
  have hz : (w.alloc (.cells L.toArray 31)).heap.size = w.heap.size + 1 := alloc_size _ _
  have R0 := Lib.hid r0
  have R35 := Lib.hid r35
  have R36 := Lib.hid r36
  have R37 := Lib.hid r37
  have R38 := Lib.hid r38
  have R39 := Lib.hid r39
  have HOP := Lib.hid hop
  clear r0 r35 r36 r37 r38 r39 hop t0 hz
  go_enter Try.func26, Try.ntmps26
  have c0 := (t1.cell 0).trans (hcell R0.out)
  go_wp2_with fail
  refine (ref18_trees _ _).mono ?_
  rintro e w1 ⟨rfl, rfl⟩
  have d35 := (t1.cell 35).trans (hcell R35.out)
  go_wp2_with (at_builtin; go_loud (refine append_ints rfl _ _ rfl (w.heap.size + 1) _ _ rfl (hown.alloc (.cells (inv [R.tree]).toArray 3)) _ _ _ [R.tree] rfl (reads_ints_at _ [R.tree] _ (by simp) _ rfl) (by simp) (by first | (simp only [alloc_size]; omega) | (have := B3.size; simp only [alloc_size]; omega) | (have := t1.lt; simp only [alloc_size]; omega)) ?_))
  intro v2 w2 hown2 hb2 hg2
  replace t1 := (t1.alloc (.cells (inv [R.tree]).toArray 3)).below hb2 (by omega)
  replace B3 := (B3.alloc B3.size (.cells (inv [R.tree]).toArray 3)).trans (hb2.mono (by omega))
  replace hown := hown2
  have c0 := (t1.cell 0).trans (hcell R0.out)
  clear hb2 hg2 hown2
  have HX := Lib.hid (by simp [smallL, HOP.out, htr] : smallL R = [3, R.tree])
  have hown9 := OwnI.cast hown HX.out
  obtain ⟨As, ns, cs, rfl, hns, hnc, hcm, hrs⟩ := hown9.sl
  have hfew : ns ≤ 5 := by rw [hns, HX.out]; simp
  clear hown9
  obtain ⟨X, hX⟩ : ∃ X, smallL R = X := ⟨_, rfl⟩
  rw [hX] at hns hrs
  have HB3 := Lib.hid B3
  have HXX := Lib.hid hX
  have Hns := Lib.hid hns
  clear hX hown HX hns
  have Hsb : Hid (smallB R = X.all isByte) := by unfold Hid smallB; rw [HXX.out]
  go_wp2
  go_loop [4] (fun i => ∃ k : Nat, k ≤ ns ∧ i = .int .i64 k ∧ (X.take k).all isByte = true) (fun i => ns - (intOf i).toNat)
  case atStart => exact ⟨0, by omega, rfl, by simp⟩
  case round =>
    obtain ⟨k, hk, rfl, hall⟩ := hrel
    have Hall := Lib.hid hall
    clear hall
    by_cases hlt : k < ns
    · have hxk : X[k]? = some (X[k]'(by rw [← Hns.out]; exact hlt)) := List.getElem?_eq_getElem _
      obtain ⟨x, hxe⟩ : ∃ x, X[k]'(by rw [← Hns.out]; exact hlt) = x := ⟨_, rfl⟩
      rw [hxe] at hxk
      clear hxe
      obtain ⟨bq, oq, rfl, -, hcell⟩ := hrs.mid (by omega) (by omega)
      have m0 := hcell k (.int .i64 x) (by unfold inv; rw [List.getElem?_map, hxk]; rfl)
      have Hxk := Lib.hid hxk
      clear hxk hcell hrs
      by_cases hx0 : x < 0
      · go_wp2
        go_ret
        exact ⟨ret_bool' (Hsb.out.trans (all_false Hxk.out (isByte_lo hx0))).symm, HB3.out⟩
      · by_cases hx1 : 255 < x
        · go_wp2
          go_ret
          exact ⟨ret_bool' (Hsb.out.trans (all_false Hxk.out (isByte_hi hx1))).symm, HB3.out⟩
        · go_wp2
          go_round
          case rel => exact ⟨k + 1, by omega, by go_num, by rw [List.take_add_one, Hxk.out, List.all_append, Hall.out]; simpa using isByte_in (Int.not_lt.1 hx0) (Int.not_lt.1 hx1)⟩
          case measure => simp [intOf]; omega
    · obtain rfl : k = ns := by omega
      go_wp2
      go_ret
      refine ⟨ret_bool' ?_, HB3.out⟩
      have := Hall.out
      rw [Hns.out, List.take_length] at this
      exact (Hsb.out.trans this).symm

set_option maxHeartbeats 1000000 in
theorem ref18_small_4 (R : Req) (cav leafv : Value) (w : World) (ht : R.tag.length = 32) (hop : R.op = 4) :
    Calls Try.prog 26 #[.agg (reqv R cav leafv).toArray] w fun e w' => e = .returned (.bool (smallB R)) ∧ Below w.heap.size w w' := by
  have hrr := reqv_rest R cav leafv ht
  have r0 : (reqv R cav leafv)[0]? = some (.int .i64 4) := by rw [← hop]; rfl
  have r35 := (hrr 0).trans (show _ = some (.int .i64 R.tree) from rfl)
  have r36 := (hrr 1).trans (show _ = some (.int .i64 R.tenant) from rfl)
  have r37 := (hrr 2).trans (show _ = some (.int .i64 R.role) from rfl)
  have r38 := (hrr 3).trans (show _ = some (.int .i64 R.state) from rfl)
  have r39 := (hrr 4).trans (show _ = some (.int .i64 R.weight) from rfl)
  obtain ⟨L, hL⟩ : ∃ L, reqv R cav leafv = L := ⟨_, rfl⟩
  rw [hL] at r0 r35 r36 r37 r38 r39 ⊢
  clear hrr hL
  have t0 : Blk (w.alloc (.cells L.toArray 31)) w.heap.size 31 L.toArray := Blk.new w _ _
  have htr : treesB 4 = true := rfl
  have hs0 : w.heap.size < (w.alloc (.cells L.toArray 31)).heap.size := t0.lt
  have hown : OwnI ((w.alloc (.cells L.toArray 31)).alloc (.cells #[.int .i64 4] 3)) (w.alloc (.cells L.toArray 31)).heap.size (.slice (some ⟨(w.alloc (.cells L.toArray 31)).heap.size, 0, none⟩) 1 1) [4] := OwnI.made (w.alloc (.cells L.toArray 31)) [4] (by simp [maxLen])
  have t1 := t0.alloc (.cells #[.int .i64 4] 3)
  have B3 : Below w.heap.size w ((w.alloc (.cells L.toArray 31)).alloc (.cells #[.int .i64 4] 3)) := below_new (below_new (Below.refl _ _) _) _
  rw [alloc_size] at hown
  have hcell : ∀ {i : Nat} {v : Value}, L[i]? = some v → L.toArray[i]? = some v := fun h => by simpa using h
  have c0 := (t0.cell 0).trans (hcell r0)
  have hz : (w.alloc (.cells L.toArray 31)).heap.size = w.heap.size + 1 := alloc_size _ _
  have R0 := Lib.hid r0
  have R35 := Lib.hid r35
  have R36 := Lib.hid r36
  have R37 := Lib.hid r37
  have R38 := Lib.hid r38
  have R39 := Lib.hid r39
  have HOP := Lib.hid hop
  clear r0 r35 r36 r37 r38 r39 hop t0 hz
  go_enter Try.func26, Try.ntmps26
  have c0 := (t1.cell 0).trans (hcell R0.out)
  go_wp2_with fail
  refine (ref18_trees _ _).mono ?_
  rintro e w1 ⟨rfl, rfl⟩
  have d35 := (t1.cell 35).trans (hcell R35.out)
  go_wp2_with (at_builtin; go_loud (refine append_ints rfl _ _ rfl (w.heap.size + 1) _ _ rfl (hown.alloc (.cells (inv [R.tree]).toArray 3)) _ _ _ [R.tree] rfl (reads_ints_at _ [R.tree] _ (by simp) _ rfl) (by simp) (by first | (simp only [alloc_size]; omega) | (have := B3.size; simp only [alloc_size]; omega) | (have := t1.lt; simp only [alloc_size]; omega)) ?_))
  intro v2 w2 hown2 hb2 hg2
  replace t1 := (t1.alloc (.cells (inv [R.tree]).toArray 3)).below hb2 (by omega)
  replace B3 := (B3.alloc B3.size (.cells (inv [R.tree]).toArray 3)).trans (hb2.mono (by omega))
  replace hown := hown2
  have c0 := (t1.cell 0).trans (hcell R0.out)
  clear hb2 hg2 hown2
  have HX := Lib.hid (by simp [smallL, HOP.out, htr] : smallL R = [4, R.tree])
  have hown9 := OwnI.cast hown HX.out
  obtain ⟨As, ns, cs, rfl, hns, hnc, hcm, hrs⟩ := hown9.sl
  have hfew : ns ≤ 5 := by rw [hns, HX.out]; simp
  clear hown9
  obtain ⟨X, hX⟩ : ∃ X, smallL R = X := ⟨_, rfl⟩
  rw [hX] at hns hrs
  have HB3 := Lib.hid B3
  have HXX := Lib.hid hX
  have Hns := Lib.hid hns
  clear hX hown HX hns
  have Hsb : Hid (smallB R = X.all isByte) := by unfold Hid smallB; rw [HXX.out]
  go_wp2
  go_loop [4] (fun i => ∃ k : Nat, k ≤ ns ∧ i = .int .i64 k ∧ (X.take k).all isByte = true) (fun i => ns - (intOf i).toNat)
  case atStart => exact ⟨0, by omega, rfl, by simp⟩
  case round =>
    obtain ⟨k, hk, rfl, hall⟩ := hrel
    have Hall := Lib.hid hall
    clear hall
    by_cases hlt : k < ns
    · have hxk : X[k]? = some (X[k]'(by rw [← Hns.out]; exact hlt)) := List.getElem?_eq_getElem _
      obtain ⟨x, hxe⟩ : ∃ x, X[k]'(by rw [← Hns.out]; exact hlt) = x := ⟨_, rfl⟩
      rw [hxe] at hxk
      clear hxe
      obtain ⟨bq, oq, rfl, -, hcell⟩ := hrs.mid (by omega) (by omega)
      have m0 := hcell k (.int .i64 x) (by unfold inv; rw [List.getElem?_map, hxk]; rfl)
      have Hxk := Lib.hid hxk
      clear hxk hcell hrs
      by_cases hx0 : x < 0
      · go_wp2
        go_ret
        exact ⟨ret_bool' (Hsb.out.trans (all_false Hxk.out (isByte_lo hx0))).symm, HB3.out⟩
      · by_cases hx1 : 255 < x
        · go_wp2
          go_ret
          exact ⟨ret_bool' (Hsb.out.trans (all_false Hxk.out (isByte_hi hx1))).symm, HB3.out⟩
        · go_wp2
          go_round
          case rel => exact ⟨k + 1, by omega, by go_num, by rw [List.take_add_one, Hxk.out, List.all_append, Hall.out]; simpa using isByte_in (Int.not_lt.1 hx0) (Int.not_lt.1 hx1)⟩
          case measure => simp [intOf]; omega
    · obtain rfl : k = ns := by omega
      go_wp2
      go_ret
      refine ⟨ret_bool' ?_, HB3.out⟩
      have := Hall.out
      rw [Hns.out, List.take_length] at this
      exact (Hsb.out.trans this).symm

set_option maxHeartbeats 1000000 in
theorem ref18_small_5 (R : Req) (cav leafv : Value) (w : World) (ht : R.tag.length = 32) (hop : R.op = 5) :
    Calls Try.prog 26 #[.agg (reqv R cav leafv).toArray] w fun e w' => e = .returned (.bool (smallB R)) ∧ Below w.heap.size w w' := by
  have hrr := reqv_rest R cav leafv ht
  have r0 : (reqv R cav leafv)[0]? = some (.int .i64 5) := by rw [← hop]; rfl
  have r35 := (hrr 0).trans (show _ = some (.int .i64 R.tree) from rfl)
  have r36 := (hrr 1).trans (show _ = some (.int .i64 R.tenant) from rfl)
  have r37 := (hrr 2).trans (show _ = some (.int .i64 R.role) from rfl)
  have r38 := (hrr 3).trans (show _ = some (.int .i64 R.state) from rfl)
  have r39 := (hrr 4).trans (show _ = some (.int .i64 R.weight) from rfl)
  obtain ⟨L, hL⟩ : ∃ L, reqv R cav leafv = L := ⟨_, rfl⟩
  rw [hL] at r0 r35 r36 r37 r38 r39 ⊢
  clear hrr hL
  have t0 : Blk (w.alloc (.cells L.toArray 31)) w.heap.size 31 L.toArray := Blk.new w _ _
  have htr : treesB 5 = true := rfl
  have hs0 : w.heap.size < (w.alloc (.cells L.toArray 31)).heap.size := t0.lt
  have hown : OwnI ((w.alloc (.cells L.toArray 31)).alloc (.cells #[.int .i64 5] 3)) (w.alloc (.cells L.toArray 31)).heap.size (.slice (some ⟨(w.alloc (.cells L.toArray 31)).heap.size, 0, none⟩) 1 1) [5] := OwnI.made (w.alloc (.cells L.toArray 31)) [5] (by simp [maxLen])
  have t1 := t0.alloc (.cells #[.int .i64 5] 3)
  have B3 : Below w.heap.size w ((w.alloc (.cells L.toArray 31)).alloc (.cells #[.int .i64 5] 3)) := below_new (below_new (Below.refl _ _) _) _
  rw [alloc_size] at hown
  have hcell : ∀ {i : Nat} {v : Value}, L[i]? = some v → L.toArray[i]? = some v := fun h => by simpa using h
  have c0 := (t0.cell 0).trans (hcell r0)
  have hz : (w.alloc (.cells L.toArray 31)).heap.size = w.heap.size + 1 := alloc_size _ _
  have R0 := Lib.hid r0
  have R35 := Lib.hid r35
  have R36 := Lib.hid r36
  have R37 := Lib.hid r37
  have R38 := Lib.hid r38
  have R39 := Lib.hid r39
  have HOP := Lib.hid hop
  clear r0 r35 r36 r37 r38 r39 hop t0 hz
  go_enter Try.func26, Try.ntmps26
  have c0 := (t1.cell 0).trans (hcell R0.out)
  go_wp2_with fail
  refine (ref18_trees _ _).mono ?_
  rintro e w1 ⟨rfl, rfl⟩
  have d35 := (t1.cell 35).trans (hcell R35.out)
  go_wp2_with (at_builtin; go_loud (refine append_ints rfl _ _ rfl (w.heap.size + 1) _ _ rfl (hown.alloc (.cells (inv [R.tree]).toArray 3)) _ _ _ [R.tree] rfl (reads_ints_at _ [R.tree] _ (by simp) _ rfl) (by simp) (by first | (simp only [alloc_size]; omega) | (have := B3.size; simp only [alloc_size]; omega) | (have := t1.lt; simp only [alloc_size]; omega)) ?_))
  intro v2 w2 hown2 hb2 hg2
  replace t1 := (t1.alloc (.cells (inv [R.tree]).toArray 3)).below hb2 (by omega)
  replace B3 := (B3.alloc B3.size (.cells (inv [R.tree]).toArray 3)).trans (hb2.mono (by omega))
  replace hown := hown2
  have c0 := (t1.cell 0).trans (hcell R0.out)
  clear hb2 hg2 hown2
  have HX := Lib.hid (by simp [smallL, HOP.out, htr] : smallL R = [5, R.tree])
  have hown9 := OwnI.cast hown HX.out
  obtain ⟨As, ns, cs, rfl, hns, hnc, hcm, hrs⟩ := hown9.sl
  have hfew : ns ≤ 5 := by rw [hns, HX.out]; simp
  clear hown9
  obtain ⟨X, hX⟩ : ∃ X, smallL R = X := ⟨_, rfl⟩
  rw [hX] at hns hrs
  have HB3 := Lib.hid B3
  have HXX := Lib.hid hX
  have Hns := Lib.hid hns
  clear hX hown HX hns
  have Hsb : Hid (smallB R = X.all isByte) := by unfold Hid smallB; rw [HXX.out]
  go_wp2
  go_loop [4] (fun i => ∃ k : Nat, k ≤ ns ∧ i = .int .i64 k ∧ (X.take k).all isByte = true) (fun i => ns - (intOf i).toNat)
  case atStart => exact ⟨0, by omega, rfl, by simp⟩
  case round =>
    obtain ⟨k, hk, rfl, hall⟩ := hrel
    have Hall := Lib.hid hall
    clear hall
    by_cases hlt : k < ns
    · have hxk : X[k]? = some (X[k]'(by rw [← Hns.out]; exact hlt)) := List.getElem?_eq_getElem _
      obtain ⟨x, hxe⟩ : ∃ x, X[k]'(by rw [← Hns.out]; exact hlt) = x := ⟨_, rfl⟩
      rw [hxe] at hxk
      clear hxe
      obtain ⟨bq, oq, rfl, -, hcell⟩ := hrs.mid (by omega) (by omega)
      have m0 := hcell k (.int .i64 x) (by unfold inv; rw [List.getElem?_map, hxk]; rfl)
      have Hxk := Lib.hid hxk
      clear hxk hcell hrs
      by_cases hx0 : x < 0
      · go_wp2
        go_ret
        exact ⟨ret_bool' (Hsb.out.trans (all_false Hxk.out (isByte_lo hx0))).symm, HB3.out⟩
      · by_cases hx1 : 255 < x
        · go_wp2
          go_ret
          exact ⟨ret_bool' (Hsb.out.trans (all_false Hxk.out (isByte_hi hx1))).symm, HB3.out⟩
        · go_wp2
          go_round
          case rel => exact ⟨k + 1, by omega, by go_num, by rw [List.take_add_one, Hxk.out, List.all_append, Hall.out]; simpa using isByte_in (Int.not_lt.1 hx0) (Int.not_lt.1 hx1)⟩
          case measure => simp [intOf]; omega
    · obtain rfl : k = ns := by omega
      go_wp2
      go_ret
      refine ⟨ret_bool' ?_, HB3.out⟩
      have := Hall.out
      rw [Hns.out, List.take_length] at this
      exact (Hsb.out.trans this).symm

set_option maxHeartbeats 1000000 in
theorem ref18_small_9 (R : Req) (cav leafv : Value) (w : World) (ht : R.tag.length = 32) (hop : R.op = 9) :
    Calls Try.prog 26 #[.agg (reqv R cav leafv).toArray] w fun e w' => e = .returned (.bool (smallB R)) ∧ Below w.heap.size w w' := by
  have hrr := reqv_rest R cav leafv ht
  have r0 : (reqv R cav leafv)[0]? = some (.int .i64 9) := by rw [← hop]; rfl
  have r35 := (hrr 0).trans (show _ = some (.int .i64 R.tree) from rfl)
  have r36 := (hrr 1).trans (show _ = some (.int .i64 R.tenant) from rfl)
  have r37 := (hrr 2).trans (show _ = some (.int .i64 R.role) from rfl)
  have r38 := (hrr 3).trans (show _ = some (.int .i64 R.state) from rfl)
  have r39 := (hrr 4).trans (show _ = some (.int .i64 R.weight) from rfl)
  obtain ⟨L, hL⟩ : ∃ L, reqv R cav leafv = L := ⟨_, rfl⟩
  rw [hL] at r0 r35 r36 r37 r38 r39 ⊢
  clear hrr hL
  have t0 : Blk (w.alloc (.cells L.toArray 31)) w.heap.size 31 L.toArray := Blk.new w _ _
  have htr : treesB 9 = true := rfl
  have hs0 : w.heap.size < (w.alloc (.cells L.toArray 31)).heap.size := t0.lt
  have hown : OwnI ((w.alloc (.cells L.toArray 31)).alloc (.cells #[.int .i64 9] 3)) (w.alloc (.cells L.toArray 31)).heap.size (.slice (some ⟨(w.alloc (.cells L.toArray 31)).heap.size, 0, none⟩) 1 1) [9] := OwnI.made (w.alloc (.cells L.toArray 31)) [9] (by simp [maxLen])
  have t1 := t0.alloc (.cells #[.int .i64 9] 3)
  have B3 : Below w.heap.size w ((w.alloc (.cells L.toArray 31)).alloc (.cells #[.int .i64 9] 3)) := below_new (below_new (Below.refl _ _) _) _
  rw [alloc_size] at hown
  have hcell : ∀ {i : Nat} {v : Value}, L[i]? = some v → L.toArray[i]? = some v := fun h => by simpa using h
  have c0 := (t0.cell 0).trans (hcell r0)
  have hz : (w.alloc (.cells L.toArray 31)).heap.size = w.heap.size + 1 := alloc_size _ _
  have R0 := Lib.hid r0
  have R35 := Lib.hid r35
  have R36 := Lib.hid r36
  have R37 := Lib.hid r37
  have R38 := Lib.hid r38
  have R39 := Lib.hid r39
  have HOP := Lib.hid hop
  clear r0 r35 r36 r37 r38 r39 hop t0 hz
  go_enter Try.func26, Try.ntmps26
  have c0 := (t1.cell 0).trans (hcell R0.out)
  go_wp2_with fail
  refine (ref18_trees _ _).mono ?_
  rintro e w1 ⟨rfl, rfl⟩
  have d35 := (t1.cell 35).trans (hcell R35.out)
  go_wp2_with (at_builtin; go_loud (refine append_ints rfl _ _ rfl (w.heap.size + 1) _ _ rfl (hown.alloc (.cells (inv [R.tree]).toArray 3)) _ _ _ [R.tree] rfl (reads_ints_at _ [R.tree] _ (by simp) _ rfl) (by simp) (by first | (simp only [alloc_size]; omega) | (have := B3.size; simp only [alloc_size]; omega) | (have := t1.lt; simp only [alloc_size]; omega)) ?_))
  intro v2 w2 hown2 hb2 hg2
  replace t1 := (t1.alloc (.cells (inv [R.tree]).toArray 3)).below hb2 (by omega)
  replace B3 := (B3.alloc B3.size (.cells (inv [R.tree]).toArray 3)).trans (hb2.mono (by omega))
  replace hown := hown2
  have c0 := (t1.cell 0).trans (hcell R0.out)
  clear hb2 hg2 hown2
  have HX := Lib.hid (by simp [smallL, HOP.out, htr] : smallL R = [9, R.tree])
  have hown9 := OwnI.cast hown HX.out
  obtain ⟨As, ns, cs, rfl, hns, hnc, hcm, hrs⟩ := hown9.sl
  have hfew : ns ≤ 5 := by rw [hns, HX.out]; simp
  clear hown9
  obtain ⟨X, hX⟩ : ∃ X, smallL R = X := ⟨_, rfl⟩
  rw [hX] at hns hrs
  have HB3 := Lib.hid B3
  have HXX := Lib.hid hX
  have Hns := Lib.hid hns
  clear hX hown HX hns
  have Hsb : Hid (smallB R = X.all isByte) := by unfold Hid smallB; rw [HXX.out]
  go_wp2
  go_loop [4] (fun i => ∃ k : Nat, k ≤ ns ∧ i = .int .i64 k ∧ (X.take k).all isByte = true) (fun i => ns - (intOf i).toNat)
  case atStart => exact ⟨0, by omega, rfl, by simp⟩
  case round =>
    obtain ⟨k, hk, rfl, hall⟩ := hrel
    have Hall := Lib.hid hall
    clear hall
    by_cases hlt : k < ns
    · have hxk : X[k]? = some (X[k]'(by rw [← Hns.out]; exact hlt)) := List.getElem?_eq_getElem _
      obtain ⟨x, hxe⟩ : ∃ x, X[k]'(by rw [← Hns.out]; exact hlt) = x := ⟨_, rfl⟩
      rw [hxe] at hxk
      clear hxe
      obtain ⟨bq, oq, rfl, -, hcell⟩ := hrs.mid (by omega) (by omega)
      have m0 := hcell k (.int .i64 x) (by unfold inv; rw [List.getElem?_map, hxk]; rfl)
      have Hxk := Lib.hid hxk
      clear hxk hcell hrs
      by_cases hx0 : x < 0
      · go_wp2
        go_ret
        exact ⟨ret_bool' (Hsb.out.trans (all_false Hxk.out (isByte_lo hx0))).symm, HB3.out⟩
      · by_cases hx1 : 255 < x
        · go_wp2
          go_ret
          exact ⟨ret_bool' (Hsb.out.trans (all_false Hxk.out (isByte_hi hx1))).symm, HB3.out⟩
        · go_wp2
          go_round
          case rel => exact ⟨k + 1, by omega, by go_num, by rw [List.take_add_one, Hxk.out, List.all_append, Hall.out]; simpa using isByte_in (Int.not_lt.1 hx0) (Int.not_lt.1 hx1)⟩
          case measure => simp [intOf]; omega
    · obtain rfl : k = ns := by omega
      go_wp2
      go_ret
      refine ⟨ret_bool' ?_, HB3.out⟩
      have := Hall.out
      rw [Hns.out, List.take_length] at this
      exact (Hsb.out.trans this).symm

set_option maxHeartbeats 1000000 in
theorem ref18_small_6 (R : Req) (cav leafv : Value) (w : World) (ht : R.tag.length = 32) (hop : R.op = 6) :
    Calls Try.prog 26 #[.agg (reqv R cav leafv).toArray] w fun e w' => e = .returned (.bool (smallB R)) ∧ Below w.heap.size w w' := by
  have hrr := reqv_rest R cav leafv ht
  have r0 : (reqv R cav leafv)[0]? = some (.int .i64 6) := by rw [← hop]; rfl
  have r35 := (hrr 0).trans (show _ = some (.int .i64 R.tree) from rfl)
  have r36 := (hrr 1).trans (show _ = some (.int .i64 R.tenant) from rfl)
  have r37 := (hrr 2).trans (show _ = some (.int .i64 R.role) from rfl)
  have r38 := (hrr 3).trans (show _ = some (.int .i64 R.state) from rfl)
  have r39 := (hrr 4).trans (show _ = some (.int .i64 R.weight) from rfl)
  obtain ⟨L, hL⟩ : ∃ L, reqv R cav leafv = L := ⟨_, rfl⟩
  rw [hL] at r0 r35 r36 r37 r38 r39 ⊢
  clear hrr hL
  have t0 : Blk (w.alloc (.cells L.toArray 31)) w.heap.size 31 L.toArray := Blk.new w _ _
  have htr : treesB 6 = true := rfl
  have hs0 : w.heap.size < (w.alloc (.cells L.toArray 31)).heap.size := t0.lt
  have hown : OwnI ((w.alloc (.cells L.toArray 31)).alloc (.cells #[.int .i64 6] 3)) (w.alloc (.cells L.toArray 31)).heap.size (.slice (some ⟨(w.alloc (.cells L.toArray 31)).heap.size, 0, none⟩) 1 1) [6] := OwnI.made (w.alloc (.cells L.toArray 31)) [6] (by simp [maxLen])
  have t1 := t0.alloc (.cells #[.int .i64 6] 3)
  have B3 : Below w.heap.size w ((w.alloc (.cells L.toArray 31)).alloc (.cells #[.int .i64 6] 3)) := below_new (below_new (Below.refl _ _) _) _
  rw [alloc_size] at hown
  have hcell : ∀ {i : Nat} {v : Value}, L[i]? = some v → L.toArray[i]? = some v := fun h => by simpa using h
  have c0 := (t0.cell 0).trans (hcell r0)
  have hz : (w.alloc (.cells L.toArray 31)).heap.size = w.heap.size + 1 := alloc_size _ _
  have R0 := Lib.hid r0
  have R35 := Lib.hid r35
  have R36 := Lib.hid r36
  have R37 := Lib.hid r37
  have R38 := Lib.hid r38
  have R39 := Lib.hid r39
  have HOP := Lib.hid hop
  clear r0 r35 r36 r37 r38 r39 hop t0 hz
  go_enter Try.func26, Try.ntmps26
  have c0 := (t1.cell 0).trans (hcell R0.out)
  go_wp2_with fail
  refine (ref18_trees _ _).mono ?_
  rintro e w1 ⟨rfl, rfl⟩
  have d35 := (t1.cell 35).trans (hcell R35.out)
  go_wp2_with (at_builtin; go_loud (refine append_ints rfl _ _ rfl (w.heap.size + 1) _ _ rfl (hown.alloc (.cells (inv [R.tree]).toArray 3)) _ _ _ [R.tree] rfl (reads_ints_at _ [R.tree] _ (by simp) _ rfl) (by simp) (by first | (simp only [alloc_size]; omega) | (have := B3.size; simp only [alloc_size]; omega) | (have := t1.lt; simp only [alloc_size]; omega)) ?_))
  intro v2 w2 hown2 hb2 hg2
  replace t1 := (t1.alloc (.cells (inv [R.tree]).toArray 3)).below hb2 (by omega)
  replace B3 := (B3.alloc B3.size (.cells (inv [R.tree]).toArray 3)).trans (hb2.mono (by omega))
  replace hown := hown2
  have c0 := (t1.cell 0).trans (hcell R0.out)
  clear hb2 hg2 hown2
  have d36 := (t1.cell 36).trans (hcell R36.out)
  have d39 := (t1.cell 39).trans (hcell R39.out)
  go_wp2_with (at_builtin; go_loud (refine append_ints rfl _ _ rfl (w.heap.size + 1) _ _ rfl (hown.alloc (.cells (inv [R.tenant, R.weight]).toArray 3)) _ _ _ [R.tenant, R.weight] rfl (reads_ints_at _ [R.tenant, R.weight] _ (by simp) _ rfl) (by simp) (by first | (simp only [alloc_size]; omega) | (have := B3.size; simp only [alloc_size]; omega) | (have := t1.lt; simp only [alloc_size]; omega)) ?_))
  intro v2 w2 hown2 hb2 hg2
  replace t1 := (t1.alloc (.cells (inv [R.tenant, R.weight]).toArray 3)).below hb2 (by omega)
  replace B3 := (B3.alloc B3.size (.cells (inv [R.tenant, R.weight]).toArray 3)).trans (hb2.mono (by omega))
  replace hown := hown2
  have c0 := (t1.cell 0).trans (hcell R0.out)
  clear hb2 hg2 hown2
  have HX := Lib.hid (by simp [smallL, HOP.out, htr] : smallL R = [6, R.tree, R.tenant, R.weight])
  have hown9 := OwnI.cast hown HX.out
  obtain ⟨As, ns, cs, rfl, hns, hnc, hcm, hrs⟩ := hown9.sl
  have hfew : ns ≤ 5 := by rw [hns, HX.out]; simp
  clear hown9
  obtain ⟨X, hX⟩ : ∃ X, smallL R = X := ⟨_, rfl⟩
  rw [hX] at hns hrs
  have HB3 := Lib.hid B3
  have HXX := Lib.hid hX
  have Hns := Lib.hid hns
  clear hX hown HX hns
  have Hsb : Hid (smallB R = X.all isByte) := by unfold Hid smallB; rw [HXX.out]
  go_wp2
  go_loop [4] (fun i => ∃ k : Nat, k ≤ ns ∧ i = .int .i64 k ∧ (X.take k).all isByte = true) (fun i => ns - (intOf i).toNat)
  case atStart => exact ⟨0, by omega, rfl, by simp⟩
  case round =>
    obtain ⟨k, hk, rfl, hall⟩ := hrel
    have Hall := Lib.hid hall
    clear hall
    by_cases hlt : k < ns
    · have hxk : X[k]? = some (X[k]'(by rw [← Hns.out]; exact hlt)) := List.getElem?_eq_getElem _
      obtain ⟨x, hxe⟩ : ∃ x, X[k]'(by rw [← Hns.out]; exact hlt) = x := ⟨_, rfl⟩
      rw [hxe] at hxk
      clear hxe
      obtain ⟨bq, oq, rfl, -, hcell⟩ := hrs.mid (by omega) (by omega)
      have m0 := hcell k (.int .i64 x) (by unfold inv; rw [List.getElem?_map, hxk]; rfl)
      have Hxk := Lib.hid hxk
      clear hxk hcell hrs
      by_cases hx0 : x < 0
      · go_wp2
        go_ret
        exact ⟨ret_bool' (Hsb.out.trans (all_false Hxk.out (isByte_lo hx0))).symm, HB3.out⟩
      · by_cases hx1 : 255 < x
        · go_wp2
          go_ret
          exact ⟨ret_bool' (Hsb.out.trans (all_false Hxk.out (isByte_hi hx1))).symm, HB3.out⟩
        · go_wp2
          go_round
          case rel => exact ⟨k + 1, by omega, by go_num, by rw [List.take_add_one, Hxk.out, List.all_append, Hall.out]; simpa using isByte_in (Int.not_lt.1 hx0) (Int.not_lt.1 hx1)⟩
          case measure => simp [intOf]; omega
    · obtain rfl : k = ns := by omega
      go_wp2
      go_ret
      refine ⟨ret_bool' ?_, HB3.out⟩
      have := Hall.out
      rw [Hns.out, List.take_length] at this
      exact (Hsb.out.trans this).symm

set_option maxHeartbeats 1000000 in
theorem ref18_small_7 (R : Req) (cav leafv : Value) (w : World) (ht : R.tag.length = 32) (hop : R.op = 7) :
    Calls Try.prog 26 #[.agg (reqv R cav leafv).toArray] w fun e w' => e = .returned (.bool (smallB R)) ∧ Below w.heap.size w w' := by
  have hrr := reqv_rest R cav leafv ht
  have r0 : (reqv R cav leafv)[0]? = some (.int .i64 7) := by rw [← hop]; rfl
  have r35 := (hrr 0).trans (show _ = some (.int .i64 R.tree) from rfl)
  have r36 := (hrr 1).trans (show _ = some (.int .i64 R.tenant) from rfl)
  have r37 := (hrr 2).trans (show _ = some (.int .i64 R.role) from rfl)
  have r38 := (hrr 3).trans (show _ = some (.int .i64 R.state) from rfl)
  have r39 := (hrr 4).trans (show _ = some (.int .i64 R.weight) from rfl)
  obtain ⟨L, hL⟩ : ∃ L, reqv R cav leafv = L := ⟨_, rfl⟩
  rw [hL] at r0 r35 r36 r37 r38 r39 ⊢
  clear hrr hL
  have t0 : Blk (w.alloc (.cells L.toArray 31)) w.heap.size 31 L.toArray := Blk.new w _ _
  have htr : treesB 7 = true := rfl
  have hs0 : w.heap.size < (w.alloc (.cells L.toArray 31)).heap.size := t0.lt
  have hown : OwnI ((w.alloc (.cells L.toArray 31)).alloc (.cells #[.int .i64 7] 3)) (w.alloc (.cells L.toArray 31)).heap.size (.slice (some ⟨(w.alloc (.cells L.toArray 31)).heap.size, 0, none⟩) 1 1) [7] := OwnI.made (w.alloc (.cells L.toArray 31)) [7] (by simp [maxLen])
  have t1 := t0.alloc (.cells #[.int .i64 7] 3)
  have B3 : Below w.heap.size w ((w.alloc (.cells L.toArray 31)).alloc (.cells #[.int .i64 7] 3)) := below_new (below_new (Below.refl _ _) _) _
  rw [alloc_size] at hown
  have hcell : ∀ {i : Nat} {v : Value}, L[i]? = some v → L.toArray[i]? = some v := fun h => by simpa using h
  have c0 := (t0.cell 0).trans (hcell r0)
  have hz : (w.alloc (.cells L.toArray 31)).heap.size = w.heap.size + 1 := alloc_size _ _
  have R0 := Lib.hid r0
  have R35 := Lib.hid r35
  have R36 := Lib.hid r36
  have R37 := Lib.hid r37
  have R38 := Lib.hid r38
  have R39 := Lib.hid r39
  have HOP := Lib.hid hop
  clear r0 r35 r36 r37 r38 r39 hop t0 hz
  go_enter Try.func26, Try.ntmps26
  have c0 := (t1.cell 0).trans (hcell R0.out)
  go_wp2_with fail
  refine (ref18_trees _ _).mono ?_
  rintro e w1 ⟨rfl, rfl⟩
  have d35 := (t1.cell 35).trans (hcell R35.out)
  go_wp2_with (at_builtin; go_loud (refine append_ints rfl _ _ rfl (w.heap.size + 1) _ _ rfl (hown.alloc (.cells (inv [R.tree]).toArray 3)) _ _ _ [R.tree] rfl (reads_ints_at _ [R.tree] _ (by simp) _ rfl) (by simp) (by first | (simp only [alloc_size]; omega) | (have := B3.size; simp only [alloc_size]; omega) | (have := t1.lt; simp only [alloc_size]; omega)) ?_))
  intro v2 w2 hown2 hb2 hg2
  replace t1 := (t1.alloc (.cells (inv [R.tree]).toArray 3)).below hb2 (by omega)
  replace B3 := (B3.alloc B3.size (.cells (inv [R.tree]).toArray 3)).trans (hb2.mono (by omega))
  replace hown := hown2
  have c0 := (t1.cell 0).trans (hcell R0.out)
  clear hb2 hg2 hown2
  have d38 := (t1.cell 38).trans (hcell R38.out)
  go_wp2_with (at_builtin; go_loud (refine append_ints rfl _ _ rfl (w.heap.size + 1) _ _ rfl (hown.alloc (.cells (inv [R.state]).toArray 3)) _ _ _ [R.state] rfl (reads_ints_at _ [R.state] _ (by simp) _ rfl) (by simp) (by first | (simp only [alloc_size]; omega) | (have := B3.size; simp only [alloc_size]; omega) | (have := t1.lt; simp only [alloc_size]; omega)) ?_))
  intro v2 w2 hown2 hb2 hg2
  replace t1 := (t1.alloc (.cells (inv [R.state]).toArray 3)).below hb2 (by omega)
  replace B3 := (B3.alloc B3.size (.cells (inv [R.state]).toArray 3)).trans (hb2.mono (by omega))
  replace hown := hown2
  have c0 := (t1.cell 0).trans (hcell R0.out)
  clear hb2 hg2 hown2
  have HX := Lib.hid (by simp [smallL, HOP.out, htr] : smallL R = [7, R.tree, R.state])
  have hown9 := OwnI.cast hown HX.out
  obtain ⟨As, ns, cs, rfl, hns, hnc, hcm, hrs⟩ := hown9.sl
  have hfew : ns ≤ 5 := by rw [hns, HX.out]; simp
  clear hown9
  obtain ⟨X, hX⟩ : ∃ X, smallL R = X := ⟨_, rfl⟩
  rw [hX] at hns hrs
  have HB3 := Lib.hid B3
  have HXX := Lib.hid hX
  have Hns := Lib.hid hns
  clear hX hown HX hns
  have Hsb : Hid (smallB R = X.all isByte) := by unfold Hid smallB; rw [HXX.out]
  go_wp2
  go_loop [4] (fun i => ∃ k : Nat, k ≤ ns ∧ i = .int .i64 k ∧ (X.take k).all isByte = true) (fun i => ns - (intOf i).toNat)
  case atStart => exact ⟨0, by omega, rfl, by simp⟩
  case round =>
    obtain ⟨k, hk, rfl, hall⟩ := hrel
    have Hall := Lib.hid hall
    clear hall
    by_cases hlt : k < ns
    · have hxk : X[k]? = some (X[k]'(by rw [← Hns.out]; exact hlt)) := List.getElem?_eq_getElem _
      obtain ⟨x, hxe⟩ : ∃ x, X[k]'(by rw [← Hns.out]; exact hlt) = x := ⟨_, rfl⟩
      rw [hxe] at hxk
      clear hxe
      obtain ⟨bq, oq, rfl, -, hcell⟩ := hrs.mid (by omega) (by omega)
      have m0 := hcell k (.int .i64 x) (by unfold inv; rw [List.getElem?_map, hxk]; rfl)
      have Hxk := Lib.hid hxk
      clear hxk hcell hrs
      by_cases hx0 : x < 0
      · go_wp2
        go_ret
        exact ⟨ret_bool' (Hsb.out.trans (all_false Hxk.out (isByte_lo hx0))).symm, HB3.out⟩
      · by_cases hx1 : 255 < x
        · go_wp2
          go_ret
          exact ⟨ret_bool' (Hsb.out.trans (all_false Hxk.out (isByte_hi hx1))).symm, HB3.out⟩
        · go_wp2
          go_round
          case rel => exact ⟨k + 1, by omega, by go_num, by rw [List.take_add_one, Hxk.out, List.all_append, Hall.out]; simpa using isByte_in (Int.not_lt.1 hx0) (Int.not_lt.1 hx1)⟩
          case measure => simp [intOf]; omega
    · obtain rfl : k = ns := by omega
      go_wp2
      go_ret
      refine ⟨ret_bool' ?_, HB3.out⟩
      have := Hall.out
      rw [Hns.out, List.take_length] at this
      exact (Hsb.out.trans this).symm

set_option maxHeartbeats 1000000 in
theorem ref18_small_8 (R : Req) (cav leafv : Value) (w : World) (ht : R.tag.length = 32) (hop : R.op = 8) :
    Calls Try.prog 26 #[.agg (reqv R cav leafv).toArray] w fun e w' => e = .returned (.bool (smallB R)) ∧ Below w.heap.size w w' := by
  have hrr := reqv_rest R cav leafv ht
  have r0 : (reqv R cav leafv)[0]? = some (.int .i64 8) := by rw [← hop]; rfl
  have r35 := (hrr 0).trans (show _ = some (.int .i64 R.tree) from rfl)
  have r36 := (hrr 1).trans (show _ = some (.int .i64 R.tenant) from rfl)
  have r37 := (hrr 2).trans (show _ = some (.int .i64 R.role) from rfl)
  have r38 := (hrr 3).trans (show _ = some (.int .i64 R.state) from rfl)
  have r39 := (hrr 4).trans (show _ = some (.int .i64 R.weight) from rfl)
  obtain ⟨L, hL⟩ : ∃ L, reqv R cav leafv = L := ⟨_, rfl⟩
  rw [hL] at r0 r35 r36 r37 r38 r39 ⊢
  clear hrr hL
  have t0 : Blk (w.alloc (.cells L.toArray 31)) w.heap.size 31 L.toArray := Blk.new w _ _
  have htr : treesB 8 = true := rfl
  have hs0 : w.heap.size < (w.alloc (.cells L.toArray 31)).heap.size := t0.lt
  have hown : OwnI ((w.alloc (.cells L.toArray 31)).alloc (.cells #[.int .i64 8] 3)) (w.alloc (.cells L.toArray 31)).heap.size (.slice (some ⟨(w.alloc (.cells L.toArray 31)).heap.size, 0, none⟩) 1 1) [8] := OwnI.made (w.alloc (.cells L.toArray 31)) [8] (by simp [maxLen])
  have t1 := t0.alloc (.cells #[.int .i64 8] 3)
  have B3 : Below w.heap.size w ((w.alloc (.cells L.toArray 31)).alloc (.cells #[.int .i64 8] 3)) := below_new (below_new (Below.refl _ _) _) _
  rw [alloc_size] at hown
  have hcell : ∀ {i : Nat} {v : Value}, L[i]? = some v → L.toArray[i]? = some v := fun h => by simpa using h
  have c0 := (t0.cell 0).trans (hcell r0)
  have hz : (w.alloc (.cells L.toArray 31)).heap.size = w.heap.size + 1 := alloc_size _ _
  have R0 := Lib.hid r0
  have R35 := Lib.hid r35
  have R36 := Lib.hid r36
  have R37 := Lib.hid r37
  have R38 := Lib.hid r38
  have R39 := Lib.hid r39
  have HOP := Lib.hid hop
  clear r0 r35 r36 r37 r38 r39 hop t0 hz
  go_enter Try.func26, Try.ntmps26
  have c0 := (t1.cell 0).trans (hcell R0.out)
  go_wp2_with fail
  refine (ref18_trees _ _).mono ?_
  rintro e w1 ⟨rfl, rfl⟩
  have d35 := (t1.cell 35).trans (hcell R35.out)
  go_wp2_with (at_builtin; go_loud (refine append_ints rfl _ _ rfl (w.heap.size + 1) _ _ rfl (hown.alloc (.cells (inv [R.tree]).toArray 3)) _ _ _ [R.tree] rfl (reads_ints_at _ [R.tree] _ (by simp) _ rfl) (by simp) (by first | (simp only [alloc_size]; omega) | (have := B3.size; simp only [alloc_size]; omega) | (have := t1.lt; simp only [alloc_size]; omega)) ?_))
  intro v2 w2 hown2 hb2 hg2
  replace t1 := (t1.alloc (.cells (inv [R.tree]).toArray 3)).below hb2 (by omega)
  replace B3 := (B3.alloc B3.size (.cells (inv [R.tree]).toArray 3)).trans (hb2.mono (by omega))
  replace hown := hown2
  have c0 := (t1.cell 0).trans (hcell R0.out)
  clear hb2 hg2 hown2
  have d39 := (t1.cell 39).trans (hcell R39.out)
  go_wp2_with (at_builtin; go_loud (refine append_ints rfl _ _ rfl (w.heap.size + 1) _ _ rfl (hown.alloc (.cells (inv [R.weight]).toArray 3)) _ _ _ [R.weight] rfl (reads_ints_at _ [R.weight] _ (by simp) _ rfl) (by simp) (by first | (simp only [alloc_size]; omega) | (have := B3.size; simp only [alloc_size]; omega) | (have := t1.lt; simp only [alloc_size]; omega)) ?_))
  intro v2 w2 hown2 hb2 hg2
  replace t1 := (t1.alloc (.cells (inv [R.weight]).toArray 3)).below hb2 (by omega)
  replace B3 := (B3.alloc B3.size (.cells (inv [R.weight]).toArray 3)).trans (hb2.mono (by omega))
  replace hown := hown2
  have c0 := (t1.cell 0).trans (hcell R0.out)
  clear hb2 hg2 hown2
  have HX := Lib.hid (by simp [smallL, HOP.out, htr] : smallL R = [8, R.tree, R.weight])
  have hown9 := OwnI.cast hown HX.out
  obtain ⟨As, ns, cs, rfl, hns, hnc, hcm, hrs⟩ := hown9.sl
  have hfew : ns ≤ 5 := by rw [hns, HX.out]; simp
  clear hown9
  obtain ⟨X, hX⟩ : ∃ X, smallL R = X := ⟨_, rfl⟩
  rw [hX] at hns hrs
  have HB3 := Lib.hid B3
  have HXX := Lib.hid hX
  have Hns := Lib.hid hns
  clear hX hown HX hns
  have Hsb : Hid (smallB R = X.all isByte) := by unfold Hid smallB; rw [HXX.out]
  go_wp2
  go_loop [4] (fun i => ∃ k : Nat, k ≤ ns ∧ i = .int .i64 k ∧ (X.take k).all isByte = true) (fun i => ns - (intOf i).toNat)
  case atStart => exact ⟨0, by omega, rfl, by simp⟩
  case round =>
    obtain ⟨k, hk, rfl, hall⟩ := hrel
    have Hall := Lib.hid hall
    clear hall
    by_cases hlt : k < ns
    · have hxk : X[k]? = some (X[k]'(by rw [← Hns.out]; exact hlt)) := List.getElem?_eq_getElem _
      obtain ⟨x, hxe⟩ : ∃ x, X[k]'(by rw [← Hns.out]; exact hlt) = x := ⟨_, rfl⟩
      rw [hxe] at hxk
      clear hxe
      obtain ⟨bq, oq, rfl, -, hcell⟩ := hrs.mid (by omega) (by omega)
      have m0 := hcell k (.int .i64 x) (by unfold inv; rw [List.getElem?_map, hxk]; rfl)
      have Hxk := Lib.hid hxk
      clear hxk hcell hrs
      by_cases hx0 : x < 0
      · go_wp2
        go_ret
        exact ⟨ret_bool' (Hsb.out.trans (all_false Hxk.out (isByte_lo hx0))).symm, HB3.out⟩
      · by_cases hx1 : 255 < x
        · go_wp2
          go_ret
          exact ⟨ret_bool' (Hsb.out.trans (all_false Hxk.out (isByte_hi hx1))).symm, HB3.out⟩
        · go_wp2
          go_round
          case rel => exact ⟨k + 1, by omega, by go_num, by rw [List.take_add_one, Hxk.out, List.all_append, Hall.out]; simpa using isByte_in (Int.not_lt.1 hx0) (Int.not_lt.1 hx1)⟩
          case measure => simp [intOf]; omega
    · obtain rfl : k = ns := by omega
      go_wp2
      go_ret
      refine ⟨ret_bool' ?_, HB3.out⟩
      have := Hall.out
      rw [Hns.out, List.take_length] at this
      exact (Hsb.out.trans this).symm

set_option maxHeartbeats 1000000 in
theorem ref18_small_10 (R : Req) (cav leafv : Value) (w : World) (ht : R.tag.length = 32) (hop : R.op = 10) :
    Calls Try.prog 26 #[.agg (reqv R cav leafv).toArray] w fun e w' => e = .returned (.bool (smallB R)) ∧ Below w.heap.size w w' := by
  have hrr := reqv_rest R cav leafv ht
  have r0 : (reqv R cav leafv)[0]? = some (.int .i64 10) := by rw [← hop]; rfl
  have r35 := (hrr 0).trans (show _ = some (.int .i64 R.tree) from rfl)
  have r36 := (hrr 1).trans (show _ = some (.int .i64 R.tenant) from rfl)
  have r37 := (hrr 2).trans (show _ = some (.int .i64 R.role) from rfl)
  have r38 := (hrr 3).trans (show _ = some (.int .i64 R.state) from rfl)
  have r39 := (hrr 4).trans (show _ = some (.int .i64 R.weight) from rfl)
  obtain ⟨L, hL⟩ : ∃ L, reqv R cav leafv = L := ⟨_, rfl⟩
  rw [hL] at r0 r35 r36 r37 r38 r39 ⊢
  clear hrr hL
  have t0 : Blk (w.alloc (.cells L.toArray 31)) w.heap.size 31 L.toArray := Blk.new w _ _
  have htr : treesB 10 = false := rfl
  have hs0 : w.heap.size < (w.alloc (.cells L.toArray 31)).heap.size := t0.lt
  have hown : OwnI ((w.alloc (.cells L.toArray 31)).alloc (.cells #[.int .i64 10] 3)) (w.alloc (.cells L.toArray 31)).heap.size (.slice (some ⟨(w.alloc (.cells L.toArray 31)).heap.size, 0, none⟩) 1 1) [10] := OwnI.made (w.alloc (.cells L.toArray 31)) [10] (by simp [maxLen])
  have t1 := t0.alloc (.cells #[.int .i64 10] 3)
  have B3 : Below w.heap.size w ((w.alloc (.cells L.toArray 31)).alloc (.cells #[.int .i64 10] 3)) := below_new (below_new (Below.refl _ _) _) _
  rw [alloc_size] at hown
  have hcell : ∀ {i : Nat} {v : Value}, L[i]? = some v → L.toArray[i]? = some v := fun h => by simpa using h
  have c0 := (t0.cell 0).trans (hcell r0)
  have hz : (w.alloc (.cells L.toArray 31)).heap.size = w.heap.size + 1 := alloc_size _ _
  have R0 := Lib.hid r0
  have R35 := Lib.hid r35
  have R36 := Lib.hid r36
  have R37 := Lib.hid r37
  have R38 := Lib.hid r38
  have R39 := Lib.hid r39
  have HOP := Lib.hid hop
  clear r0 r35 r36 r37 r38 r39 hop t0 hz
  go_enter Try.func26, Try.ntmps26
  have c0 := (t1.cell 0).trans (hcell R0.out)
  go_wp2_with fail
  refine (ref18_trees _ _).mono ?_
  rintro e w1 ⟨rfl, rfl⟩
  have d36 := (t1.cell 36).trans (hcell R36.out)
  have d37 := (t1.cell 37).trans (hcell R37.out)
  go_wp2_with (at_builtin; go_loud (refine append_ints rfl _ _ rfl (w.heap.size + 1) _ _ rfl (hown.alloc (.cells (inv [R.tenant, R.role]).toArray 3)) _ _ _ [R.tenant, R.role] rfl (reads_ints_at _ [R.tenant, R.role] _ (by simp) _ rfl) (by simp) (by first | (simp only [alloc_size]; omega) | (have := B3.size; simp only [alloc_size]; omega) | (have := t1.lt; simp only [alloc_size]; omega)) ?_))
  intro v2 w2 hown2 hb2 hg2
  replace t1 := (t1.alloc (.cells (inv [R.tenant, R.role]).toArray 3)).below hb2 (by omega)
  replace B3 := (B3.alloc B3.size (.cells (inv [R.tenant, R.role]).toArray 3)).trans (hb2.mono (by omega))
  replace hown := hown2
  have c0 := (t1.cell 0).trans (hcell R0.out)
  clear hb2 hg2 hown2
  have HX := Lib.hid (by simp [smallL, HOP.out, htr] : smallL R = [10, R.tenant, R.role])
  have hown9 := OwnI.cast hown HX.out
  obtain ⟨As, ns, cs, rfl, hns, hnc, hcm, hrs⟩ := hown9.sl
  have hfew : ns ≤ 5 := by rw [hns, HX.out]; simp
  clear hown9
  obtain ⟨X, hX⟩ : ∃ X, smallL R = X := ⟨_, rfl⟩
  rw [hX] at hns hrs
  have HB3 := Lib.hid B3
  have HXX := Lib.hid hX
  have Hns := Lib.hid hns
  clear hX hown HX hns
  have Hsb : Hid (smallB R = X.all isByte) := by unfold Hid smallB; rw [HXX.out]
  go_wp2
  go_loop [4] (fun i => ∃ k : Nat, k ≤ ns ∧ i = .int .i64 k ∧ (X.take k).all isByte = true) (fun i => ns - (intOf i).toNat)
  case atStart => exact ⟨0, by omega, rfl, by simp⟩
  case round =>
    obtain ⟨k, hk, rfl, hall⟩ := hrel
    have Hall := Lib.hid hall
    clear hall
    by_cases hlt : k < ns
    · have hxk : X[k]? = some (X[k]'(by rw [← Hns.out]; exact hlt)) := List.getElem?_eq_getElem _
      obtain ⟨x, hxe⟩ : ∃ x, X[k]'(by rw [← Hns.out]; exact hlt) = x := ⟨_, rfl⟩
      rw [hxe] at hxk
      clear hxe
      obtain ⟨bq, oq, rfl, -, hcell⟩ := hrs.mid (by omega) (by omega)
      have m0 := hcell k (.int .i64 x) (by unfold inv; rw [List.getElem?_map, hxk]; rfl)
      have Hxk := Lib.hid hxk
      clear hxk hcell hrs
      by_cases hx0 : x < 0
      · go_wp2
        go_ret
        exact ⟨ret_bool' (Hsb.out.trans (all_false Hxk.out (isByte_lo hx0))).symm, HB3.out⟩
      · by_cases hx1 : 255 < x
        · go_wp2
          go_ret
          exact ⟨ret_bool' (Hsb.out.trans (all_false Hxk.out (isByte_hi hx1))).symm, HB3.out⟩
        · go_wp2
          go_round
          case rel => exact ⟨k + 1, by omega, by go_num, by rw [List.take_add_one, Hxk.out, List.all_append, Hall.out]; simpa using isByte_in (Int.not_lt.1 hx0) (Int.not_lt.1 hx1)⟩
          case measure => simp [intOf]; omega
    · obtain rfl : k = ns := by omega
      go_wp2
      go_ret
      refine ⟨ret_bool' ?_, HB3.out⟩
      have := Hall.out
      rw [Hns.out, List.take_length] at this
      exact (Hsb.out.trans this).symm

set_option maxHeartbeats 1000000 in
theorem ref18_small_11 (R : Req) (cav leafv : Value) (w : World) (ht : R.tag.length = 32) (hop : R.op = 11) :
    Calls Try.prog 26 #[.agg (reqv R cav leafv).toArray] w fun e w' => e = .returned (.bool (smallB R)) ∧ Below w.heap.size w w' := by
  have hrr := reqv_rest R cav leafv ht
  have r0 : (reqv R cav leafv)[0]? = some (.int .i64 11) := by rw [← hop]; rfl
  have r35 := (hrr 0).trans (show _ = some (.int .i64 R.tree) from rfl)
  have r36 := (hrr 1).trans (show _ = some (.int .i64 R.tenant) from rfl)
  have r37 := (hrr 2).trans (show _ = some (.int .i64 R.role) from rfl)
  have r38 := (hrr 3).trans (show _ = some (.int .i64 R.state) from rfl)
  have r39 := (hrr 4).trans (show _ = some (.int .i64 R.weight) from rfl)
  obtain ⟨L, hL⟩ : ∃ L, reqv R cav leafv = L := ⟨_, rfl⟩
  rw [hL] at r0 r35 r36 r37 r38 r39 ⊢
  clear hrr hL
  have t0 : Blk (w.alloc (.cells L.toArray 31)) w.heap.size 31 L.toArray := Blk.new w _ _
  have htr : treesB 11 = false := rfl
  have hs0 : w.heap.size < (w.alloc (.cells L.toArray 31)).heap.size := t0.lt
  have hown : OwnI ((w.alloc (.cells L.toArray 31)).alloc (.cells #[.int .i64 11] 3)) (w.alloc (.cells L.toArray 31)).heap.size (.slice (some ⟨(w.alloc (.cells L.toArray 31)).heap.size, 0, none⟩) 1 1) [11] := OwnI.made (w.alloc (.cells L.toArray 31)) [11] (by simp [maxLen])
  have t1 := t0.alloc (.cells #[.int .i64 11] 3)
  have B3 : Below w.heap.size w ((w.alloc (.cells L.toArray 31)).alloc (.cells #[.int .i64 11] 3)) := below_new (below_new (Below.refl _ _) _) _
  rw [alloc_size] at hown
  have hcell : ∀ {i : Nat} {v : Value}, L[i]? = some v → L.toArray[i]? = some v := fun h => by simpa using h
  have c0 := (t0.cell 0).trans (hcell r0)
  have hz : (w.alloc (.cells L.toArray 31)).heap.size = w.heap.size + 1 := alloc_size _ _
  have R0 := Lib.hid r0
  have R35 := Lib.hid r35
  have R36 := Lib.hid r36
  have R37 := Lib.hid r37
  have R38 := Lib.hid r38
  have R39 := Lib.hid r39
  have HOP := Lib.hid hop
  clear r0 r35 r36 r37 r38 r39 hop t0 hz
  go_enter Try.func26, Try.ntmps26
  have c0 := (t1.cell 0).trans (hcell R0.out)
  go_wp2_with fail
  refine (ref18_trees _ _).mono ?_
  rintro e w1 ⟨rfl, rfl⟩
  generalize hv : Value.slice (some { block := w.heap.size + 1, off := 0 }) 1 1 = vs at hown ⊢
  clear hv
  have HX := Lib.hid (by simp [smallL, HOP.out, htr] : smallL R = [11])
  have hown9 := OwnI.cast hown HX.out
  obtain ⟨As, ns, cs, rfl, hns, hnc, hcm, hrs⟩ := hown9.sl
  have hfew : ns ≤ 5 := by rw [hns, HX.out]; simp
  clear hown9
  obtain ⟨X, hX⟩ : ∃ X, smallL R = X := ⟨_, rfl⟩
  rw [hX] at hns hrs
  have HB3 := Lib.hid B3
  have HXX := Lib.hid hX
  have Hns := Lib.hid hns
  clear hX hown HX hns
  have Hsb : Hid (smallB R = X.all isByte) := by unfold Hid smallB; rw [HXX.out]
  go_wp2
  go_loop [4] (fun i => ∃ k : Nat, k ≤ ns ∧ i = .int .i64 k ∧ (X.take k).all isByte = true) (fun i => ns - (intOf i).toNat)
  case atStart => exact ⟨0, by omega, rfl, by simp⟩
  case round =>
    obtain ⟨k, hk, rfl, hall⟩ := hrel
    have Hall := Lib.hid hall
    clear hall
    by_cases hlt : k < ns
    · have hxk : X[k]? = some (X[k]'(by rw [← Hns.out]; exact hlt)) := List.getElem?_eq_getElem _
      obtain ⟨x, hxe⟩ : ∃ x, X[k]'(by rw [← Hns.out]; exact hlt) = x := ⟨_, rfl⟩
      rw [hxe] at hxk
      clear hxe
      obtain ⟨bq, oq, rfl, -, hcell⟩ := hrs.mid (by omega) (by omega)
      have m0 := hcell k (.int .i64 x) (by unfold inv; rw [List.getElem?_map, hxk]; rfl)
      have Hxk := Lib.hid hxk
      clear hxk hcell hrs
      by_cases hx0 : x < 0
      · go_wp2
        go_ret
        exact ⟨ret_bool' (Hsb.out.trans (all_false Hxk.out (isByte_lo hx0))).symm, HB3.out⟩
      · by_cases hx1 : 255 < x
        · go_wp2
          go_ret
          exact ⟨ret_bool' (Hsb.out.trans (all_false Hxk.out (isByte_hi hx1))).symm, HB3.out⟩
        · go_wp2
          go_round
          case rel => exact ⟨k + 1, by omega, by go_num, by rw [List.take_add_one, Hxk.out, List.all_append, Hall.out]; simpa using isByte_in (Int.not_lt.1 hx0) (Int.not_lt.1 hx1)⟩
          case measure => simp [intOf]; omega
    · obtain rfl : k = ns := by omega
      go_wp2
      go_ret
      refine ⟨ret_bool' ?_, HB3.out⟩
      have := Hall.out
      rw [Hns.out, List.take_length] at this
      exact (Hsb.out.trans this).symm

set_option maxHeartbeats 1000000 in
theorem ref18_small_12 (R : Req) (cav leafv : Value) (w : World) (ht : R.tag.length = 32) (hop : R.op = 12) :
    Calls Try.prog 26 #[.agg (reqv R cav leafv).toArray] w fun e w' => e = .returned (.bool (smallB R)) ∧ Below w.heap.size w w' := by
  have hrr := reqv_rest R cav leafv ht
  have r0 : (reqv R cav leafv)[0]? = some (.int .i64 12) := by rw [← hop]; rfl
  have r35 := (hrr 0).trans (show _ = some (.int .i64 R.tree) from rfl)
  have r36 := (hrr 1).trans (show _ = some (.int .i64 R.tenant) from rfl)
  have r37 := (hrr 2).trans (show _ = some (.int .i64 R.role) from rfl)
  have r38 := (hrr 3).trans (show _ = some (.int .i64 R.state) from rfl)
  have r39 := (hrr 4).trans (show _ = some (.int .i64 R.weight) from rfl)
  obtain ⟨L, hL⟩ : ∃ L, reqv R cav leafv = L := ⟨_, rfl⟩
  rw [hL] at r0 r35 r36 r37 r38 r39 ⊢
  clear hrr hL
  have t0 : Blk (w.alloc (.cells L.toArray 31)) w.heap.size 31 L.toArray := Blk.new w _ _
  have htr : treesB 12 = false := rfl
  have hs0 : w.heap.size < (w.alloc (.cells L.toArray 31)).heap.size := t0.lt
  have hown : OwnI ((w.alloc (.cells L.toArray 31)).alloc (.cells #[.int .i64 12] 3)) (w.alloc (.cells L.toArray 31)).heap.size (.slice (some ⟨(w.alloc (.cells L.toArray 31)).heap.size, 0, none⟩) 1 1) [12] := OwnI.made (w.alloc (.cells L.toArray 31)) [12] (by simp [maxLen])
  have t1 := t0.alloc (.cells #[.int .i64 12] 3)
  have B3 : Below w.heap.size w ((w.alloc (.cells L.toArray 31)).alloc (.cells #[.int .i64 12] 3)) := below_new (below_new (Below.refl _ _) _) _
  rw [alloc_size] at hown
  have hcell : ∀ {i : Nat} {v : Value}, L[i]? = some v → L.toArray[i]? = some v := fun h => by simpa using h
  have c0 := (t0.cell 0).trans (hcell r0)
  have hz : (w.alloc (.cells L.toArray 31)).heap.size = w.heap.size + 1 := alloc_size _ _
  have R0 := Lib.hid r0
  have R35 := Lib.hid r35
  have R36 := Lib.hid r36
  have R37 := Lib.hid r37
  have R38 := Lib.hid r38
  have R39 := Lib.hid r39
  have HOP := Lib.hid hop
  clear r0 r35 r36 r37 r38 r39 hop t0 hz
  go_enter Try.func26, Try.ntmps26
  have c0 := (t1.cell 0).trans (hcell R0.out)
  go_wp2_with fail
  refine (ref18_trees _ _).mono ?_
  rintro e w1 ⟨rfl, rfl⟩
  have d36 := (t1.cell 36).trans (hcell R36.out)
  go_wp2_with (at_builtin; go_loud (refine append_ints rfl _ _ rfl (w.heap.size + 1) _ _ rfl (hown.alloc (.cells (inv [R.tenant]).toArray 3)) _ _ _ [R.tenant] rfl (reads_ints_at _ [R.tenant] _ (by simp) _ rfl) (by simp) (by first | (simp only [alloc_size]; omega) | (have := B3.size; simp only [alloc_size]; omega) | (have := t1.lt; simp only [alloc_size]; omega)) ?_))
  intro v2 w2 hown2 hb2 hg2
  replace t1 := (t1.alloc (.cells (inv [R.tenant]).toArray 3)).below hb2 (by omega)
  replace B3 := (B3.alloc B3.size (.cells (inv [R.tenant]).toArray 3)).trans (hb2.mono (by omega))
  replace hown := hown2
  have c0 := (t1.cell 0).trans (hcell R0.out)
  clear hb2 hg2 hown2
  have HX := Lib.hid (by simp [smallL, HOP.out, htr] : smallL R = [12, R.tenant])
  have hown9 := OwnI.cast hown HX.out
  obtain ⟨As, ns, cs, rfl, hns, hnc, hcm, hrs⟩ := hown9.sl
  have hfew : ns ≤ 5 := by rw [hns, HX.out]; simp
  clear hown9
  obtain ⟨X, hX⟩ : ∃ X, smallL R = X := ⟨_, rfl⟩
  rw [hX] at hns hrs
  have HB3 := Lib.hid B3
  have HXX := Lib.hid hX
  have Hns := Lib.hid hns
  clear hX hown HX hns
  have Hsb : Hid (smallB R = X.all isByte) := by unfold Hid smallB; rw [HXX.out]
  go_wp2
  go_loop [4] (fun i => ∃ k : Nat, k ≤ ns ∧ i = .int .i64 k ∧ (X.take k).all isByte = true) (fun i => ns - (intOf i).toNat)
  case atStart => exact ⟨0, by omega, rfl, by simp⟩
  case round =>
    obtain ⟨k, hk, rfl, hall⟩ := hrel
    have Hall := Lib.hid hall
    clear hall
    by_cases hlt : k < ns
    · have hxk : X[k]? = some (X[k]'(by rw [← Hns.out]; exact hlt)) := List.getElem?_eq_getElem _
      obtain ⟨x, hxe⟩ : ∃ x, X[k]'(by rw [← Hns.out]; exact hlt) = x := ⟨_, rfl⟩
      rw [hxe] at hxk
      clear hxe
      obtain ⟨bq, oq, rfl, -, hcell⟩ := hrs.mid (by omega) (by omega)
      have m0 := hcell k (.int .i64 x) (by unfold inv; rw [List.getElem?_map, hxk]; rfl)
      have Hxk := Lib.hid hxk
      clear hxk hcell hrs
      by_cases hx0 : x < 0
      · go_wp2
        go_ret
        exact ⟨ret_bool' (Hsb.out.trans (all_false Hxk.out (isByte_lo hx0))).symm, HB3.out⟩
      · by_cases hx1 : 255 < x
        · go_wp2
          go_ret
          exact ⟨ret_bool' (Hsb.out.trans (all_false Hxk.out (isByte_hi hx1))).symm, HB3.out⟩
        · go_wp2
          go_round
          case rel => exact ⟨k + 1, by omega, by go_num, by rw [List.take_add_one, Hxk.out, List.all_append, Hall.out]; simpa using isByte_in (Int.not_lt.1 hx0) (Int.not_lt.1 hx1)⟩
          case measure => simp [intOf]; omega
    · obtain rfl : k = ns := by omega
      go_wp2
      go_ret
      refine ⟨ret_bool' ?_, HB3.out⟩
      have := Hall.out
      rw [Hns.out, List.take_length] at this
      exact (Hsb.out.trans this).symm

theorem ref18_small (R : Req) (cav leafv : Value) (w : World) (ht : R.tag.length = 32) (h1 : 1 ≤ R.op) (h2 : R.op ≤ 12) :
    Calls Try.prog 26 #[.agg (reqv R cav leafv).toArray] w fun e w' => e = .returned (.bool (smallB R)) ∧ Below w.heap.size w w' := by
  have h : R.op = 1 ∨ R.op = 2 ∨ R.op = 3 ∨ R.op = 4 ∨ R.op = 5 ∨ R.op = 6 ∨ R.op = 7 ∨ R.op = 8 ∨ R.op = 9 ∨ R.op = 10 ∨ R.op = 11 ∨ R.op = 12 := by omega
  rcases h with h | h | h | h | h | h | h | h | h | h | h | h
  · exact ref18_small_1 R cav leafv w ht h
  · exact ref18_small_2 R cav leafv w ht h
  · exact ref18_small_3 R cav leafv w ht h
  · exact ref18_small_4 R cav leafv w ht h
  · exact ref18_small_5 R cav leafv w ht h
  · exact ref18_small_6 R cav leafv w ht h
  · exact ref18_small_7 R cav leafv w ht h
  · exact ref18_small_8 R cav leafv w ht h
  · exact ref18_small_9 R cav leafv w ht h
  · exact ref18_small_10 R cav leafv w ht h
  · exact ref18_small_11 R cav leafv w ht h
  · exact ref18_small_12 R cav leafv w ht h

end Go.Proofs.Ytbkdccamimakoaa
