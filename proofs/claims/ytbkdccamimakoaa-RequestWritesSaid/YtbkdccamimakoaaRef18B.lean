/-
  deponentref18.Body.
-/
import Derived.Test.YtbkdccamimakoaaRef18
import Derived.Test.YtbkdccamimakoaaBodyP
namespace Go.Proofs.Ytbkdccamimakoaa
open Go.RowKit
set_option linter.unusedVariables false

/-- The ints of a body that are no bytes. -/
theorem body_bad (R : Req) (h1 : 1 ≤ R.op) (h2 : R.op ≤ 12) (hs : smallB R = false) : bodyRes R = (1, []) := by
  obtain ⟨op, tid, cavs, tag, tree, tenant, role, state, weight, id, lo, hi, rate, burst, store, expires, leaf⟩ := R
  simp only at h1 h2
  have h : op = 1 ∨ op = 2 ∨ op = 3 ∨ op = 4 ∨ op = 5 ∨ op = 6 ∨ op = 7 ∨ op = 8 ∨ op = 9 ∨ op = 10 ∨ op = 11 ∨ op = 12 := by omega
  rcases h with rfl | rfl | rfl | rfl | rfl | rfl | rfl | rfl | rfl | rfl | rfl | rfl
  all_goals
    simp [smallB, smallL, treesB, isByte] at hs
    try simp [bodyRes, fieldsOf, bodyGo, fldWhy, Req.num]
    try (repeat' split)
    all_goals first | rfl | omega | (intros; omega) | (exfalso; omega) | simp_all

theorem body_good (R : Req) (h1 : 1 ≤ R.op) (h2 : R.op ≤ 12) (hs : smallB R = true) (hl : R.op = 1 → R.leaf.length ≤ 256) (l : List Fld) (hf : fieldsOf R.op = some l) : bodyRes R = (0, be R.op.toNat 1 ++ l.flatMap (fldB R)) := by
  refine bodyRes_ok R l hf fun f hm => ?_
  obtain ⟨op, tid, cavs, tag, tree, tenant, role, state, weight, id, lo, hi, rate, burst, store, expires, leaf⟩ := R
  simp only at h1 h2 hl hf
  have h : op = 1 ∨ op = 2 ∨ op = 3 ∨ op = 4 ∨ op = 5 ∨ op = 6 ∨ op = 7 ∨ op = 8 ∨ op = 9 ∨ op = 10 ∨ op = 11 ∨ op = 12 := by omega
  rcases h with rfl | rfl | rfl | rfl | rfl | rfl | rfl | rfl | rfl | rfl | rfl | rfl
  all_goals
    simp [smallB, smallL, treesB, isByte] at hs
    injection hf with hf
    subst hf
    simp only [List.mem_cons, List.not_mem_nil, or_false] at hm
    first
      | (rcases hm with rfl | rfl | rfl | rfl <;> simp [fldWhy, Req.num] <;> omega)
      | (rcases hm with rfl | rfl | rfl <;> simp [fldWhy, Req.num] <;> omega)
      | (rcases hm with rfl | rfl <;> simp [fldWhy, Req.num] <;> omega)
      | (subst hm; simp [fldWhy, Req.num] <;> omega)
      | (subst hm; simp [fldWhy, Req.num])

















set_option maxRecDepth 100000 in
set_option maxHeartbeats 2000000 in
theorem ref18_body_2 (R : Req) (cav : Value) (Al : Option Addr) (cl : Nat) (w : World) (hR : R.Fit) (hleaf : Reads w w.heap.size 1 Al R.leaf.length (byv R.leaf)) (hlc : R.leaf.length ≤ cl) (hc : cl ≤ maxLen) (hop : R.op = 2) :
    Calls Try.prog 12 #[.agg (reqv R cav (.slice Al R.leaf.length cl)).toArray] w fun e w' => ∃ v, e = .returned (.tuple #[v, .int .i64 ((bodyRes R).1 : Int)]) ∧ OwnB w' w.heap.size v (bodyRes R).2 ∧ Below w.heap.size w w' := by
  have hsm := fun w' => ref18_small R cav (.slice Al R.leaf.length cl) w' hR.tag (by rw [hop]; decide) (by rw [hop]; decide)
  have hrr := reqv_rest R cav (.slice Al R.leaf.length cl) hR.tag
  have hlen := reqv_len R cav (.slice Al R.leaf.length cl) hR.tag
  have r0 : (reqv R cav (.slice Al R.leaf.length cl))[0]? = some (.int .i64 2) := by rw [← hop]; rfl
  obtain ⟨L, hL⟩ : ∃ L, reqv R cav (.slice Al R.leaf.length cl) = L := ⟨_, rfl⟩
  rw [hL] at hrr r0 hlen ⊢
  simp only [hL] at hsm
  clear hL
  have t1 : Blk (w.alloc (.cells L.toArray 31)) w.heap.size 31 L.toArray := Blk.new w _ _
  have B3 : Below w.heap.size w (w.alloc (.cells L.toArray 31)) := (Below.refl _ _).alloc (Nat.le_refl _) _
  have htr : treesB 2 = true := rfl
  have hcell : ∀ {i : Nat} {v : Value}, L[i]? = some v → L.toArray[i]? = some v := fun h => by simpa using h
  have hi1 : (Try.prog.info? 31).map (·.size) = some L.length := by rw [hlen]; exact Try.req_info
  have HI1 := Lib.hid hi1
  have HSM := Lib.hid hsm
  have HRR := Lib.hid hrr
  have R0 := Lib.hid r0
  have HOP := Lib.hid hop
  have HRG := Lib.hid (rangeAt_blk t1 0 L (fun j u h => by simpa using h))
  clear hi1 hsm hrr r0 hop hlen
  have c0 := (t1.cell 0).trans (hcell R0.out)
  go_enter Try.func12, Try.ntmps12
  go_wp2_with (refine load_mid_want rfl 31 (.tmp 1) rfl w.heap.size 0 rfl L _ HRG.out Try.underlying31 rfl HI1.out ?_)
  refine (HSM.out _).mono ?_
  rintro e w1 ⟨rfl, hb1⟩
  replace t1 := t1.below hb1 (by rw [alloc_size]; omega)
  replace B3 := B3.trans (hb1.mono B3.size)
  have c0 := (t1.cell 0).trans (hcell R0.out)
  clear hb1
  have hs1 : w.heap.size + 1 ≤ w1.heap.size := t1.lt
  have hs2 : w.heap.size < w1.heap.size := t1.lt
  cases hs : smallB R with
  | false =>
    have H := Lib.hid (body_bad R (by rw [HOP.out]; decide) (by rw [HOP.out]; decide) hs)
    clear hs
    go_wp2
    go_ret2
    exact ⟨_, by rw [H.out]; rfl, by rw [H.out]; exact OwnB.nil _ _, B3⟩
  | true =>
    have HSB := Lib.hid hs
    clear hs
    obtain ⟨tr, tre⟩ : ∃ n : Nat, R.tree = (n : Int) := ⟨(R.tree).toNat, by have := HSB.out; simp [smallB, smallL, HOP.out, treesB, isByte] at this; omega⟩
    have trl : tr ≤ 255 := by have := HSB.out; simp [smallB, smallL, HOP.out, treesB, isByte] at this; omega
    have trm := Lib.hid (Nat.mod_eq_of_lt (show tr < 256 by omega))
    have trw : IntKind.u8.wrap (tr : Int) = tr := IntWalk.u8_in _ (by omega)
    have trE := Lib.hid tre
    have d35 := (t1.cell 35).trans (hcell ((HRR.out 0).trans (show _ = some (.int .i64 (R.tree)) from rfl)))
    rw [trE.out] at d35
    have hown : OwnB (w1.alloc (.cells #[.int .u8 2] 5)) (w.heap.size + 1) (.slice (some ⟨w1.heap.size, 0, none⟩) 1 1) [2] := (OwnB.made w1 [2] (by simp [maxLen])).mono hs1
    go_wp2_with fail
    refine (ref18_trees _ _).mono ?_
    rintro e w2 ⟨rfl, rfl⟩
    replace t1 := t1.alloc (.cells #[.int .u8 2] 5)
    replace B3 := B3.alloc B3.size (.cells #[.int .u8 2] 5)
    go_wp2_with (at_builtin; refine append_bytes rfl _ _ rfl (w.heap.size + 1) _ _ rfl (hown.alloc (.cells (byv [tr]).toArray 5)) _ _ _ [tr] rfl (reads_bytes_at _ [tr] _ (by simp) _ rfl) (by simp) (by first | (simp only [alloc_size]; omega) | (have := t1.lt; simp only [alloc_size] at *; omega)) ?_)
    intro v2 w2 hown2 hb2 hg2
    replace t1 := (t1.alloc (.cells (byv [tr]).toArray 5)).below hb2 (by omega)
    replace B3 := (B3.alloc B3.size (.cells (byv [tr]).toArray 5)).trans (hb2.mono (by omega))
    replace hown := hown2
    have c0 := (t1.cell 0).trans (hcell R0.out)
    have hs2 : w.heap.size < w2.heap.size := t1.lt
    clear hb2 hg2 hown2
    have H := Lib.hid (body_good R (by rw [HOP.out]; decide) (by rw [HOP.out]; decide) HSB.out (fun h => absurd (HOP.out.symm.trans h) (by decide)) [(1, 1, 35)] (by rw [HOP.out]; rfl))
    have HO := Lib.hid ((hown.mono (Nat.le_succ _)).cast (show be R.op.toNat 1 ++ ([(1, 1, 35)]).flatMap (fldB R) = _ by simp [HOP.out, be_one, fldB, Req.num, trE.out, trm.out]))
    clear hown
    go_wp2
    go_ret2
    exact ⟨_, by rw [H.out]; rfl, by rw [H.out]; exact HO.out, B3⟩

set_option maxRecDepth 100000 in
set_option maxHeartbeats 2000000 in
theorem ref18_body_9 (R : Req) (cav : Value) (Al : Option Addr) (cl : Nat) (w : World) (hR : R.Fit) (hleaf : Reads w w.heap.size 1 Al R.leaf.length (byv R.leaf)) (hlc : R.leaf.length ≤ cl) (hc : cl ≤ maxLen) (hop : R.op = 9) :
    Calls Try.prog 12 #[.agg (reqv R cav (.slice Al R.leaf.length cl)).toArray] w fun e w' => ∃ v, e = .returned (.tuple #[v, .int .i64 ((bodyRes R).1 : Int)]) ∧ OwnB w' w.heap.size v (bodyRes R).2 ∧ Below w.heap.size w w' := by
  have hsm := fun w' => ref18_small R cav (.slice Al R.leaf.length cl) w' hR.tag (by rw [hop]; decide) (by rw [hop]; decide)
  have hrr := reqv_rest R cav (.slice Al R.leaf.length cl) hR.tag
  have hlen := reqv_len R cav (.slice Al R.leaf.length cl) hR.tag
  have r0 : (reqv R cav (.slice Al R.leaf.length cl))[0]? = some (.int .i64 9) := by rw [← hop]; rfl
  obtain ⟨L, hL⟩ : ∃ L, reqv R cav (.slice Al R.leaf.length cl) = L := ⟨_, rfl⟩
  rw [hL] at hrr r0 hlen ⊢
  simp only [hL] at hsm
  clear hL
  have t1 : Blk (w.alloc (.cells L.toArray 31)) w.heap.size 31 L.toArray := Blk.new w _ _
  have B3 : Below w.heap.size w (w.alloc (.cells L.toArray 31)) := (Below.refl _ _).alloc (Nat.le_refl _) _
  have htr : treesB 9 = true := rfl
  have hcell : ∀ {i : Nat} {v : Value}, L[i]? = some v → L.toArray[i]? = some v := fun h => by simpa using h
  have hi1 : (Try.prog.info? 31).map (·.size) = some L.length := by rw [hlen]; exact Try.req_info
  have HI1 := Lib.hid hi1
  have HSM := Lib.hid hsm
  have HRR := Lib.hid hrr
  have R0 := Lib.hid r0
  have HOP := Lib.hid hop
  have HRG := Lib.hid (rangeAt_blk t1 0 L (fun j u h => by simpa using h))
  clear hi1 hsm hrr r0 hop hlen
  have c0 := (t1.cell 0).trans (hcell R0.out)
  go_enter Try.func12, Try.ntmps12
  go_wp2_with (refine load_mid_want rfl 31 (.tmp 1) rfl w.heap.size 0 rfl L _ HRG.out Try.underlying31 rfl HI1.out ?_)
  refine (HSM.out _).mono ?_
  rintro e w1 ⟨rfl, hb1⟩
  replace t1 := t1.below hb1 (by rw [alloc_size]; omega)
  replace B3 := B3.trans (hb1.mono B3.size)
  have c0 := (t1.cell 0).trans (hcell R0.out)
  clear hb1
  have hs1 : w.heap.size + 1 ≤ w1.heap.size := t1.lt
  have hs2 : w.heap.size < w1.heap.size := t1.lt
  cases hs : smallB R with
  | false =>
    have H := Lib.hid (body_bad R (by rw [HOP.out]; decide) (by rw [HOP.out]; decide) hs)
    clear hs
    go_wp2
    go_ret2
    exact ⟨_, by rw [H.out]; rfl, by rw [H.out]; exact OwnB.nil _ _, B3⟩
  | true =>
    have HSB := Lib.hid hs
    clear hs
    obtain ⟨tr, tre⟩ : ∃ n : Nat, R.tree = (n : Int) := ⟨(R.tree).toNat, by have := HSB.out; simp [smallB, smallL, HOP.out, treesB, isByte] at this; omega⟩
    have trl : tr ≤ 255 := by have := HSB.out; simp [smallB, smallL, HOP.out, treesB, isByte] at this; omega
    have trm := Lib.hid (Nat.mod_eq_of_lt (show tr < 256 by omega))
    have trw : IntKind.u8.wrap (tr : Int) = tr := IntWalk.u8_in _ (by omega)
    have trE := Lib.hid tre
    have d35 := (t1.cell 35).trans (hcell ((HRR.out 0).trans (show _ = some (.int .i64 (R.tree)) from rfl)))
    rw [trE.out] at d35
    have hown : OwnB (w1.alloc (.cells #[.int .u8 9] 5)) (w.heap.size + 1) (.slice (some ⟨w1.heap.size, 0, none⟩) 1 1) [9] := (OwnB.made w1 [9] (by simp [maxLen])).mono hs1
    go_wp2_with fail
    refine (ref18_trees _ _).mono ?_
    rintro e w2 ⟨rfl, rfl⟩
    replace t1 := t1.alloc (.cells #[.int .u8 9] 5)
    replace B3 := B3.alloc B3.size (.cells #[.int .u8 9] 5)
    go_wp2_with (at_builtin; refine append_bytes rfl _ _ rfl (w.heap.size + 1) _ _ rfl (hown.alloc (.cells (byv [tr]).toArray 5)) _ _ _ [tr] rfl (reads_bytes_at _ [tr] _ (by simp) _ rfl) (by simp) (by first | (simp only [alloc_size]; omega) | (have := t1.lt; simp only [alloc_size] at *; omega)) ?_)
    intro v2 w2 hown2 hb2 hg2
    replace t1 := (t1.alloc (.cells (byv [tr]).toArray 5)).below hb2 (by omega)
    replace B3 := (B3.alloc B3.size (.cells (byv [tr]).toArray 5)).trans (hb2.mono (by omega))
    replace hown := hown2
    have c0 := (t1.cell 0).trans (hcell R0.out)
    have hs2 : w.heap.size < w2.heap.size := t1.lt
    clear hb2 hg2 hown2
    have H := Lib.hid (body_good R (by rw [HOP.out]; decide) (by rw [HOP.out]; decide) HSB.out (fun h => absurd (HOP.out.symm.trans h) (by decide)) [(1, 1, 35)] (by rw [HOP.out]; rfl))
    have HO := Lib.hid ((hown.mono (Nat.le_succ _)).cast (show be R.op.toNat 1 ++ ([(1, 1, 35)]).flatMap (fldB R) = _ by simp [HOP.out, be_one, fldB, Req.num, trE.out, trm.out]))
    clear hown
    go_wp2
    go_ret2
    exact ⟨_, by rw [H.out]; rfl, by rw [H.out]; exact HO.out, B3⟩

set_option maxRecDepth 100000 in
set_option maxHeartbeats 2000000 in
theorem ref18_body_3 (R : Req) (cav : Value) (Al : Option Addr) (cl : Nat) (w : World) (hR : R.Fit) (hleaf : Reads w w.heap.size 1 Al R.leaf.length (byv R.leaf)) (hlc : R.leaf.length ≤ cl) (hc : cl ≤ maxLen) (hop : R.op = 3) :
    Calls Try.prog 12 #[.agg (reqv R cav (.slice Al R.leaf.length cl)).toArray] w fun e w' => ∃ v, e = .returned (.tuple #[v, .int .i64 ((bodyRes R).1 : Int)]) ∧ OwnB w' w.heap.size v (bodyRes R).2 ∧ Below w.heap.size w w' := by
  have hsm := fun w' => ref18_small R cav (.slice Al R.leaf.length cl) w' hR.tag (by rw [hop]; decide) (by rw [hop]; decide)
  have hrr := reqv_rest R cav (.slice Al R.leaf.length cl) hR.tag
  have hlen := reqv_len R cav (.slice Al R.leaf.length cl) hR.tag
  have r0 : (reqv R cav (.slice Al R.leaf.length cl))[0]? = some (.int .i64 3) := by rw [← hop]; rfl
  obtain ⟨L, hL⟩ : ∃ L, reqv R cav (.slice Al R.leaf.length cl) = L := ⟨_, rfl⟩
  rw [hL] at hrr r0 hlen ⊢
  simp only [hL] at hsm
  clear hL
  have t1 : Blk (w.alloc (.cells L.toArray 31)) w.heap.size 31 L.toArray := Blk.new w _ _
  have B3 : Below w.heap.size w (w.alloc (.cells L.toArray 31)) := (Below.refl _ _).alloc (Nat.le_refl _) _
  have htr : treesB 3 = true := rfl
  have hcell : ∀ {i : Nat} {v : Value}, L[i]? = some v → L.toArray[i]? = some v := fun h => by simpa using h
  have hi1 : (Try.prog.info? 31).map (·.size) = some L.length := by rw [hlen]; exact Try.req_info
  have HI1 := Lib.hid hi1
  have HSM := Lib.hid hsm
  have HRR := Lib.hid hrr
  have R0 := Lib.hid r0
  have HOP := Lib.hid hop
  have HRG := Lib.hid (rangeAt_blk t1 0 L (fun j u h => by simpa using h))
  clear hi1 hsm hrr r0 hop hlen
  have c0 := (t1.cell 0).trans (hcell R0.out)
  go_enter Try.func12, Try.ntmps12
  go_wp2_with (refine load_mid_want rfl 31 (.tmp 1) rfl w.heap.size 0 rfl L _ HRG.out Try.underlying31 rfl HI1.out ?_)
  refine (HSM.out _).mono ?_
  rintro e w1 ⟨rfl, hb1⟩
  replace t1 := t1.below hb1 (by rw [alloc_size]; omega)
  replace B3 := B3.trans (hb1.mono B3.size)
  have c0 := (t1.cell 0).trans (hcell R0.out)
  clear hb1
  have hs1 : w.heap.size + 1 ≤ w1.heap.size := t1.lt
  have hs2 : w.heap.size < w1.heap.size := t1.lt
  cases hs : smallB R with
  | false =>
    have H := Lib.hid (body_bad R (by rw [HOP.out]; decide) (by rw [HOP.out]; decide) hs)
    clear hs
    go_wp2
    go_ret2
    exact ⟨_, by rw [H.out]; rfl, by rw [H.out]; exact OwnB.nil _ _, B3⟩
  | true =>
    have HSB := Lib.hid hs
    clear hs
    obtain ⟨tr, tre⟩ : ∃ n : Nat, R.tree = (n : Int) := ⟨(R.tree).toNat, by have := HSB.out; simp [smallB, smallL, HOP.out, treesB, isByte] at this; omega⟩
    have trl : tr ≤ 255 := by have := HSB.out; simp [smallB, smallL, HOP.out, treesB, isByte] at this; omega
    have trm := Lib.hid (Nat.mod_eq_of_lt (show tr < 256 by omega))
    have trw : IntKind.u8.wrap (tr : Int) = tr := IntWalk.u8_in _ (by omega)
    have trE := Lib.hid tre
    have d35 := (t1.cell 35).trans (hcell ((HRR.out 0).trans (show _ = some (.int .i64 (R.tree)) from rfl)))
    rw [trE.out] at d35
    have hown : OwnB (w1.alloc (.cells #[.int .u8 3] 5)) (w.heap.size + 1) (.slice (some ⟨w1.heap.size, 0, none⟩) 1 1) [3] := (OwnB.made w1 [3] (by simp [maxLen])).mono hs1
    go_wp2_with fail
    refine (ref18_trees _ _).mono ?_
    rintro e w2 ⟨rfl, rfl⟩
    replace t1 := t1.alloc (.cells #[.int .u8 3] 5)
    replace B3 := B3.alloc B3.size (.cells #[.int .u8 3] 5)
    go_wp2_with (at_builtin; refine append_bytes rfl _ _ rfl (w.heap.size + 1) _ _ rfl (hown.alloc (.cells (byv [tr]).toArray 5)) _ _ _ [tr] rfl (reads_bytes_at _ [tr] _ (by simp) _ rfl) (by simp) (by first | (simp only [alloc_size]; omega) | (have := t1.lt; simp only [alloc_size] at *; omega)) ?_)
    intro v2 w2 hown2 hb2 hg2
    replace t1 := (t1.alloc (.cells (byv [tr]).toArray 5)).below hb2 (by omega)
    replace B3 := (B3.alloc B3.size (.cells (byv [tr]).toArray 5)).trans (hb2.mono (by omega))
    replace hown := hown2
    have c0 := (t1.cell 0).trans (hcell R0.out)
    have hs2 : w.heap.size < w2.heap.size := t1.lt
    clear hb2 hg2 hown2
    have d41 := (t1.cell 41).trans (hcell ((HRR.out 6).trans (show _ = some (.int .u64 R.lo) from rfl)))
    have hb41 : R.lo < 18446744073709551616 := by have := hR.num 41; simp [Req.num] at this; omega
    have hw41 : IntKind.u64.wrap ((R.lo : Nat) : Int) = (R.lo : Nat) := IntWalk.u64_in _ (by omega)
    have t1l := t1.lt
    go_wp2_with fail
    obtain ⟨A9, n9, c9, e9, -, -, hr9⟩ := hown.sl
    first | subst e9 | (injection e9 with q1 q2 q3; subst q1 q2 q3)
    refine (ref2_number _ _ _ R.lo 8 _ _ hr9 (by simp [be_length]) hb41).mono ?_
    rintro e w2 ⟨v2, rfl, hown2, hb2⟩
    rw [show sizeN 8 = 8 from rfl] at hown2
    replace hown := hown2.mono (show w.heap.size + 1 ≤ _ from t1l)
    replace t1 := t1.below hb2 t1l
    replace B3 := B3.trans (hb2.mono B3.size)
    clear hb2 hr9 hown2
    have H := Lib.hid (body_good R (by rw [HOP.out]; decide) (by rw [HOP.out]; decide) HSB.out (fun h => absurd (HOP.out.symm.trans h) (by decide)) [(1, 1, 35), (8, 3, 41)] (by rw [HOP.out]; rfl))
    have HO := Lib.hid ((hown.mono (Nat.le_succ _)).cast (show be R.op.toNat 1 ++ ([(1, 1, 35), (8, 3, 41)]).flatMap (fldB R) = _ by simp [HOP.out, be_one, fldB, Req.num, trE.out, trm.out]))
    clear hown
    go_wp2
    go_ret2
    exact ⟨_, by rw [H.out]; rfl, by rw [H.out]; exact HO.out, B3⟩

set_option maxRecDepth 100000 in
set_option maxHeartbeats 2000000 in
theorem ref18_body_6 (R : Req) (cav : Value) (Al : Option Addr) (cl : Nat) (w : World) (hR : R.Fit) (hleaf : Reads w w.heap.size 1 Al R.leaf.length (byv R.leaf)) (hlc : R.leaf.length ≤ cl) (hc : cl ≤ maxLen) (hop : R.op = 6) :
    Calls Try.prog 12 #[.agg (reqv R cav (.slice Al R.leaf.length cl)).toArray] w fun e w' => ∃ v, e = .returned (.tuple #[v, .int .i64 ((bodyRes R).1 : Int)]) ∧ OwnB w' w.heap.size v (bodyRes R).2 ∧ Below w.heap.size w w' := by
  have hsm := fun w' => ref18_small R cav (.slice Al R.leaf.length cl) w' hR.tag (by rw [hop]; decide) (by rw [hop]; decide)
  have hrr := reqv_rest R cav (.slice Al R.leaf.length cl) hR.tag
  have hlen := reqv_len R cav (.slice Al R.leaf.length cl) hR.tag
  have r0 : (reqv R cav (.slice Al R.leaf.length cl))[0]? = some (.int .i64 6) := by rw [← hop]; rfl
  obtain ⟨L, hL⟩ : ∃ L, reqv R cav (.slice Al R.leaf.length cl) = L := ⟨_, rfl⟩
  rw [hL] at hrr r0 hlen ⊢
  simp only [hL] at hsm
  clear hL
  have t1 : Blk (w.alloc (.cells L.toArray 31)) w.heap.size 31 L.toArray := Blk.new w _ _
  have B3 : Below w.heap.size w (w.alloc (.cells L.toArray 31)) := (Below.refl _ _).alloc (Nat.le_refl _) _
  have htr : treesB 6 = true := rfl
  have hcell : ∀ {i : Nat} {v : Value}, L[i]? = some v → L.toArray[i]? = some v := fun h => by simpa using h
  have hi1 : (Try.prog.info? 31).map (·.size) = some L.length := by rw [hlen]; exact Try.req_info
  have HI1 := Lib.hid hi1
  have HSM := Lib.hid hsm
  have HRR := Lib.hid hrr
  have R0 := Lib.hid r0
  have HOP := Lib.hid hop
  have HRG := Lib.hid (rangeAt_blk t1 0 L (fun j u h => by simpa using h))
  clear hi1 hsm hrr r0 hop hlen
  have c0 := (t1.cell 0).trans (hcell R0.out)
  go_enter Try.func12, Try.ntmps12
  go_wp2_with (refine load_mid_want rfl 31 (.tmp 1) rfl w.heap.size 0 rfl L _ HRG.out Try.underlying31 rfl HI1.out ?_)
  refine (HSM.out _).mono ?_
  rintro e w1 ⟨rfl, hb1⟩
  replace t1 := t1.below hb1 (by rw [alloc_size]; omega)
  replace B3 := B3.trans (hb1.mono B3.size)
  have c0 := (t1.cell 0).trans (hcell R0.out)
  clear hb1
  have hs1 : w.heap.size + 1 ≤ w1.heap.size := t1.lt
  have hs2 : w.heap.size < w1.heap.size := t1.lt
  cases hs : smallB R with
  | false =>
    have H := Lib.hid (body_bad R (by rw [HOP.out]; decide) (by rw [HOP.out]; decide) hs)
    clear hs
    go_wp2
    go_ret2
    exact ⟨_, by rw [H.out]; rfl, by rw [H.out]; exact OwnB.nil _ _, B3⟩
  | true =>
    have HSB := Lib.hid hs
    clear hs
    obtain ⟨tr, tre⟩ : ∃ n : Nat, R.tree = (n : Int) := ⟨(R.tree).toNat, by have := HSB.out; simp [smallB, smallL, HOP.out, treesB, isByte] at this; omega⟩
    have trl : tr ≤ 255 := by have := HSB.out; simp [smallB, smallL, HOP.out, treesB, isByte] at this; omega
    have trm := Lib.hid (Nat.mod_eq_of_lt (show tr < 256 by omega))
    have trw : IntKind.u8.wrap (tr : Int) = tr := IntWalk.u8_in _ (by omega)
    have trE := Lib.hid tre
    obtain ⟨te, tee⟩ : ∃ n : Nat, R.tenant = (n : Int) := ⟨(R.tenant).toNat, by have := HSB.out; simp [smallB, smallL, HOP.out, treesB, isByte] at this; omega⟩
    have tel : te ≤ 255 := by have := HSB.out; simp [smallB, smallL, HOP.out, treesB, isByte] at this; omega
    have tem := Lib.hid (Nat.mod_eq_of_lt (show te < 256 by omega))
    have tew : IntKind.u8.wrap (te : Int) = te := IntWalk.u8_in _ (by omega)
    have teE := Lib.hid tee
    obtain ⟨we, wee⟩ : ∃ n : Nat, R.weight = (n : Int) := ⟨(R.weight).toNat, by have := HSB.out; simp [smallB, smallL, HOP.out, treesB, isByte] at this; omega⟩
    have wel : we ≤ 255 := by have := HSB.out; simp [smallB, smallL, HOP.out, treesB, isByte] at this; omega
    have wem := Lib.hid (Nat.mod_eq_of_lt (show we < 256 by omega))
    have wew : IntKind.u8.wrap (we : Int) = we := IntWalk.u8_in _ (by omega)
    have weE := Lib.hid wee
    have d35 := (t1.cell 35).trans (hcell ((HRR.out 0).trans (show _ = some (.int .i64 (R.tree)) from rfl)))
    rw [trE.out] at d35
    have hown : OwnB (w1.alloc (.cells #[.int .u8 6] 5)) (w.heap.size + 1) (.slice (some ⟨w1.heap.size, 0, none⟩) 1 1) [6] := (OwnB.made w1 [6] (by simp [maxLen])).mono hs1
    go_wp2_with fail
    refine (ref18_trees _ _).mono ?_
    rintro e w2 ⟨rfl, rfl⟩
    replace t1 := t1.alloc (.cells #[.int .u8 6] 5)
    replace B3 := B3.alloc B3.size (.cells #[.int .u8 6] 5)
    go_wp2_with (at_builtin; refine append_bytes rfl _ _ rfl (w.heap.size + 1) _ _ rfl (hown.alloc (.cells (byv [tr]).toArray 5)) _ _ _ [tr] rfl (reads_bytes_at _ [tr] _ (by simp) _ rfl) (by simp) (by first | (simp only [alloc_size]; omega) | (have := t1.lt; simp only [alloc_size] at *; omega)) ?_)
    intro v2 w2 hown2 hb2 hg2
    replace t1 := (t1.alloc (.cells (byv [tr]).toArray 5)).below hb2 (by omega)
    replace B3 := (B3.alloc B3.size (.cells (byv [tr]).toArray 5)).trans (hb2.mono (by omega))
    replace hown := hown2
    have c0 := (t1.cell 0).trans (hcell R0.out)
    have hs2 : w.heap.size < w2.heap.size := t1.lt
    clear hb2 hg2 hown2
    have d36 := (t1.cell 36).trans (hcell ((HRR.out 1).trans (show _ = some (.int .i64 (R.tenant)) from rfl)))
    rw [teE.out] at d36
    have d39 := (t1.cell 39).trans (hcell ((HRR.out 4).trans (show _ = some (.int .i64 (R.weight)) from rfl)))
    rw [weE.out] at d39
    go_wp2_with (at_builtin; refine append_bytes rfl _ _ rfl (w.heap.size + 1) _ _ rfl (hown.alloc (.cells (byv [te, we]).toArray 5)) _ _ _ [te, we] rfl (reads_bytes_at _ [te, we] _ (by simp) _ rfl) (by simp) (by first | (simp only [alloc_size]; omega) | (have := t1.lt; simp only [alloc_size] at *; omega)) ?_)
    intro v2 w2 hown2 hb2 hg2
    replace t1 := (t1.alloc (.cells (byv [te, we]).toArray 5)).below hb2 (by omega)
    replace B3 := (B3.alloc B3.size (.cells (byv [te, we]).toArray 5)).trans (hb2.mono (by omega))
    replace hown := hown2
    have c0 := (t1.cell 0).trans (hcell R0.out)
    have hs2 : w.heap.size < w2.heap.size := t1.lt
    clear hb2 hg2 hown2
    have H := Lib.hid (body_good R (by rw [HOP.out]; decide) (by rw [HOP.out]; decide) HSB.out (fun h => absurd (HOP.out.symm.trans h) (by decide)) [(1, 1, 35), (1, 1, 36), (1, 1, 39)] (by rw [HOP.out]; rfl))
    have HO := Lib.hid ((hown.mono (Nat.le_succ _)).cast (show be R.op.toNat 1 ++ ([(1, 1, 35), (1, 1, 36), (1, 1, 39)]).flatMap (fldB R) = _ by simp [HOP.out, be_one, fldB, Req.num, trE.out, trm.out, teE.out, tem.out, weE.out, wem.out]))
    clear hown
    go_wp2
    go_ret2
    exact ⟨_, by rw [H.out]; rfl, by rw [H.out]; exact HO.out, B3⟩

set_option maxRecDepth 100000 in
set_option maxHeartbeats 2000000 in
theorem ref18_body_7 (R : Req) (cav : Value) (Al : Option Addr) (cl : Nat) (w : World) (hR : R.Fit) (hleaf : Reads w w.heap.size 1 Al R.leaf.length (byv R.leaf)) (hlc : R.leaf.length ≤ cl) (hc : cl ≤ maxLen) (hop : R.op = 7) :
    Calls Try.prog 12 #[.agg (reqv R cav (.slice Al R.leaf.length cl)).toArray] w fun e w' => ∃ v, e = .returned (.tuple #[v, .int .i64 ((bodyRes R).1 : Int)]) ∧ OwnB w' w.heap.size v (bodyRes R).2 ∧ Below w.heap.size w w' := by
  have hsm := fun w' => ref18_small R cav (.slice Al R.leaf.length cl) w' hR.tag (by rw [hop]; decide) (by rw [hop]; decide)
  have hrr := reqv_rest R cav (.slice Al R.leaf.length cl) hR.tag
  have hlen := reqv_len R cav (.slice Al R.leaf.length cl) hR.tag
  have r0 : (reqv R cav (.slice Al R.leaf.length cl))[0]? = some (.int .i64 7) := by rw [← hop]; rfl
  obtain ⟨L, hL⟩ : ∃ L, reqv R cav (.slice Al R.leaf.length cl) = L := ⟨_, rfl⟩
  rw [hL] at hrr r0 hlen ⊢
  simp only [hL] at hsm
  clear hL
  have t1 : Blk (w.alloc (.cells L.toArray 31)) w.heap.size 31 L.toArray := Blk.new w _ _
  have B3 : Below w.heap.size w (w.alloc (.cells L.toArray 31)) := (Below.refl _ _).alloc (Nat.le_refl _) _
  have htr : treesB 7 = true := rfl
  have hcell : ∀ {i : Nat} {v : Value}, L[i]? = some v → L.toArray[i]? = some v := fun h => by simpa using h
  have hi1 : (Try.prog.info? 31).map (·.size) = some L.length := by rw [hlen]; exact Try.req_info
  have HI1 := Lib.hid hi1
  have HSM := Lib.hid hsm
  have HRR := Lib.hid hrr
  have R0 := Lib.hid r0
  have HOP := Lib.hid hop
  have HRG := Lib.hid (rangeAt_blk t1 0 L (fun j u h => by simpa using h))
  clear hi1 hsm hrr r0 hop hlen
  have c0 := (t1.cell 0).trans (hcell R0.out)
  go_enter Try.func12, Try.ntmps12
  go_wp2_with (refine load_mid_want rfl 31 (.tmp 1) rfl w.heap.size 0 rfl L _ HRG.out Try.underlying31 rfl HI1.out ?_)
  refine (HSM.out _).mono ?_
  rintro e w1 ⟨rfl, hb1⟩
  replace t1 := t1.below hb1 (by rw [alloc_size]; omega)
  replace B3 := B3.trans (hb1.mono B3.size)
  have c0 := (t1.cell 0).trans (hcell R0.out)
  clear hb1
  have hs1 : w.heap.size + 1 ≤ w1.heap.size := t1.lt
  have hs2 : w.heap.size < w1.heap.size := t1.lt
  cases hs : smallB R with
  | false =>
    have H := Lib.hid (body_bad R (by rw [HOP.out]; decide) (by rw [HOP.out]; decide) hs)
    clear hs
    go_wp2
    go_ret2
    exact ⟨_, by rw [H.out]; rfl, by rw [H.out]; exact OwnB.nil _ _, B3⟩
  | true =>
    have HSB := Lib.hid hs
    clear hs
    obtain ⟨tr, tre⟩ : ∃ n : Nat, R.tree = (n : Int) := ⟨(R.tree).toNat, by have := HSB.out; simp [smallB, smallL, HOP.out, treesB, isByte] at this; omega⟩
    have trl : tr ≤ 255 := by have := HSB.out; simp [smallB, smallL, HOP.out, treesB, isByte] at this; omega
    have trm := Lib.hid (Nat.mod_eq_of_lt (show tr < 256 by omega))
    have trw : IntKind.u8.wrap (tr : Int) = tr := IntWalk.u8_in _ (by omega)
    have trE := Lib.hid tre
    obtain ⟨st, ste⟩ : ∃ n : Nat, R.state = (n : Int) := ⟨(R.state).toNat, by have := HSB.out; simp [smallB, smallL, HOP.out, treesB, isByte] at this; omega⟩
    have stl : st ≤ 255 := by have := HSB.out; simp [smallB, smallL, HOP.out, treesB, isByte] at this; omega
    have stm := Lib.hid (Nat.mod_eq_of_lt (show st < 256 by omega))
    have stw : IntKind.u8.wrap (st : Int) = st := IntWalk.u8_in _ (by omega)
    have stE := Lib.hid ste
    have d35 := (t1.cell 35).trans (hcell ((HRR.out 0).trans (show _ = some (.int .i64 (R.tree)) from rfl)))
    rw [trE.out] at d35
    have hown : OwnB (w1.alloc (.cells #[.int .u8 7] 5)) (w.heap.size + 1) (.slice (some ⟨w1.heap.size, 0, none⟩) 1 1) [7] := (OwnB.made w1 [7] (by simp [maxLen])).mono hs1
    go_wp2_with fail
    refine (ref18_trees _ _).mono ?_
    rintro e w2 ⟨rfl, rfl⟩
    replace t1 := t1.alloc (.cells #[.int .u8 7] 5)
    replace B3 := B3.alloc B3.size (.cells #[.int .u8 7] 5)
    go_wp2_with (at_builtin; refine append_bytes rfl _ _ rfl (w.heap.size + 1) _ _ rfl (hown.alloc (.cells (byv [tr]).toArray 5)) _ _ _ [tr] rfl (reads_bytes_at _ [tr] _ (by simp) _ rfl) (by simp) (by first | (simp only [alloc_size]; omega) | (have := t1.lt; simp only [alloc_size] at *; omega)) ?_)
    intro v2 w2 hown2 hb2 hg2
    replace t1 := (t1.alloc (.cells (byv [tr]).toArray 5)).below hb2 (by omega)
    replace B3 := (B3.alloc B3.size (.cells (byv [tr]).toArray 5)).trans (hb2.mono (by omega))
    replace hown := hown2
    have c0 := (t1.cell 0).trans (hcell R0.out)
    have hs2 : w.heap.size < w2.heap.size := t1.lt
    clear hb2 hg2 hown2
    have d38 := (t1.cell 38).trans (hcell ((HRR.out 3).trans (show _ = some (.int .i64 (R.state)) from rfl)))
    rw [stE.out] at d38
    go_wp2_with (at_builtin; refine append_bytes rfl _ _ rfl (w.heap.size + 1) _ _ rfl (hown.alloc (.cells (byv [st]).toArray 5)) _ _ _ [st] rfl (reads_bytes_at _ [st] _ (by simp) _ rfl) (by simp) (by first | (simp only [alloc_size]; omega) | (have := t1.lt; simp only [alloc_size] at *; omega)) ?_)
    intro v2 w2 hown2 hb2 hg2
    replace t1 := (t1.alloc (.cells (byv [st]).toArray 5)).below hb2 (by omega)
    replace B3 := (B3.alloc B3.size (.cells (byv [st]).toArray 5)).trans (hb2.mono (by omega))
    replace hown := hown2
    have c0 := (t1.cell 0).trans (hcell R0.out)
    have hs2 : w.heap.size < w2.heap.size := t1.lt
    clear hb2 hg2 hown2
    have H := Lib.hid (body_good R (by rw [HOP.out]; decide) (by rw [HOP.out]; decide) HSB.out (fun h => absurd (HOP.out.symm.trans h) (by decide)) [(1, 1, 35), (1, 1, 38)] (by rw [HOP.out]; rfl))
    have HO := Lib.hid ((hown.mono (Nat.le_succ _)).cast (show be R.op.toNat 1 ++ ([(1, 1, 35), (1, 1, 38)]).flatMap (fldB R) = _ by simp [HOP.out, be_one, fldB, Req.num, trE.out, trm.out, stE.out, stm.out]))
    clear hown
    go_wp2
    go_ret2
    exact ⟨_, by rw [H.out]; rfl, by rw [H.out]; exact HO.out, B3⟩

set_option maxRecDepth 100000 in
set_option maxHeartbeats 2000000 in
theorem ref18_body_8 (R : Req) (cav : Value) (Al : Option Addr) (cl : Nat) (w : World) (hR : R.Fit) (hleaf : Reads w w.heap.size 1 Al R.leaf.length (byv R.leaf)) (hlc : R.leaf.length ≤ cl) (hc : cl ≤ maxLen) (hop : R.op = 8) :
    Calls Try.prog 12 #[.agg (reqv R cav (.slice Al R.leaf.length cl)).toArray] w fun e w' => ∃ v, e = .returned (.tuple #[v, .int .i64 ((bodyRes R).1 : Int)]) ∧ OwnB w' w.heap.size v (bodyRes R).2 ∧ Below w.heap.size w w' := by
  have hsm := fun w' => ref18_small R cav (.slice Al R.leaf.length cl) w' hR.tag (by rw [hop]; decide) (by rw [hop]; decide)
  have hrr := reqv_rest R cav (.slice Al R.leaf.length cl) hR.tag
  have hlen := reqv_len R cav (.slice Al R.leaf.length cl) hR.tag
  have r0 : (reqv R cav (.slice Al R.leaf.length cl))[0]? = some (.int .i64 8) := by rw [← hop]; rfl
  obtain ⟨L, hL⟩ : ∃ L, reqv R cav (.slice Al R.leaf.length cl) = L := ⟨_, rfl⟩
  rw [hL] at hrr r0 hlen ⊢
  simp only [hL] at hsm
  clear hL
  have t1 : Blk (w.alloc (.cells L.toArray 31)) w.heap.size 31 L.toArray := Blk.new w _ _
  have B3 : Below w.heap.size w (w.alloc (.cells L.toArray 31)) := (Below.refl _ _).alloc (Nat.le_refl _) _
  have htr : treesB 8 = true := rfl
  have hcell : ∀ {i : Nat} {v : Value}, L[i]? = some v → L.toArray[i]? = some v := fun h => by simpa using h
  have hi1 : (Try.prog.info? 31).map (·.size) = some L.length := by rw [hlen]; exact Try.req_info
  have HI1 := Lib.hid hi1
  have HSM := Lib.hid hsm
  have HRR := Lib.hid hrr
  have R0 := Lib.hid r0
  have HOP := Lib.hid hop
  have HRG := Lib.hid (rangeAt_blk t1 0 L (fun j u h => by simpa using h))
  clear hi1 hsm hrr r0 hop hlen
  have c0 := (t1.cell 0).trans (hcell R0.out)
  go_enter Try.func12, Try.ntmps12
  go_wp2_with (refine load_mid_want rfl 31 (.tmp 1) rfl w.heap.size 0 rfl L _ HRG.out Try.underlying31 rfl HI1.out ?_)
  refine (HSM.out _).mono ?_
  rintro e w1 ⟨rfl, hb1⟩
  replace t1 := t1.below hb1 (by rw [alloc_size]; omega)
  replace B3 := B3.trans (hb1.mono B3.size)
  have c0 := (t1.cell 0).trans (hcell R0.out)
  clear hb1
  have hs1 : w.heap.size + 1 ≤ w1.heap.size := t1.lt
  have hs2 : w.heap.size < w1.heap.size := t1.lt
  cases hs : smallB R with
  | false =>
    have H := Lib.hid (body_bad R (by rw [HOP.out]; decide) (by rw [HOP.out]; decide) hs)
    clear hs
    go_wp2
    go_ret2
    exact ⟨_, by rw [H.out]; rfl, by rw [H.out]; exact OwnB.nil _ _, B3⟩
  | true =>
    have HSB := Lib.hid hs
    clear hs
    obtain ⟨tr, tre⟩ : ∃ n : Nat, R.tree = (n : Int) := ⟨(R.tree).toNat, by have := HSB.out; simp [smallB, smallL, HOP.out, treesB, isByte] at this; omega⟩
    have trl : tr ≤ 255 := by have := HSB.out; simp [smallB, smallL, HOP.out, treesB, isByte] at this; omega
    have trm := Lib.hid (Nat.mod_eq_of_lt (show tr < 256 by omega))
    have trw : IntKind.u8.wrap (tr : Int) = tr := IntWalk.u8_in _ (by omega)
    have trE := Lib.hid tre
    obtain ⟨we, wee⟩ : ∃ n : Nat, R.weight = (n : Int) := ⟨(R.weight).toNat, by have := HSB.out; simp [smallB, smallL, HOP.out, treesB, isByte] at this; omega⟩
    have wel : we ≤ 255 := by have := HSB.out; simp [smallB, smallL, HOP.out, treesB, isByte] at this; omega
    have wem := Lib.hid (Nat.mod_eq_of_lt (show we < 256 by omega))
    have wew : IntKind.u8.wrap (we : Int) = we := IntWalk.u8_in _ (by omega)
    have weE := Lib.hid wee
    have d35 := (t1.cell 35).trans (hcell ((HRR.out 0).trans (show _ = some (.int .i64 (R.tree)) from rfl)))
    rw [trE.out] at d35
    have hown : OwnB (w1.alloc (.cells #[.int .u8 8] 5)) (w.heap.size + 1) (.slice (some ⟨w1.heap.size, 0, none⟩) 1 1) [8] := (OwnB.made w1 [8] (by simp [maxLen])).mono hs1
    go_wp2_with fail
    refine (ref18_trees _ _).mono ?_
    rintro e w2 ⟨rfl, rfl⟩
    replace t1 := t1.alloc (.cells #[.int .u8 8] 5)
    replace B3 := B3.alloc B3.size (.cells #[.int .u8 8] 5)
    go_wp2_with (at_builtin; refine append_bytes rfl _ _ rfl (w.heap.size + 1) _ _ rfl (hown.alloc (.cells (byv [tr]).toArray 5)) _ _ _ [tr] rfl (reads_bytes_at _ [tr] _ (by simp) _ rfl) (by simp) (by first | (simp only [alloc_size]; omega) | (have := t1.lt; simp only [alloc_size] at *; omega)) ?_)
    intro v2 w2 hown2 hb2 hg2
    replace t1 := (t1.alloc (.cells (byv [tr]).toArray 5)).below hb2 (by omega)
    replace B3 := (B3.alloc B3.size (.cells (byv [tr]).toArray 5)).trans (hb2.mono (by omega))
    replace hown := hown2
    have c0 := (t1.cell 0).trans (hcell R0.out)
    have hs2 : w.heap.size < w2.heap.size := t1.lt
    clear hb2 hg2 hown2
    have d39 := (t1.cell 39).trans (hcell ((HRR.out 4).trans (show _ = some (.int .i64 (R.weight)) from rfl)))
    rw [weE.out] at d39
    go_wp2_with (at_builtin; refine append_bytes rfl _ _ rfl (w.heap.size + 1) _ _ rfl (hown.alloc (.cells (byv [we]).toArray 5)) _ _ _ [we] rfl (reads_bytes_at _ [we] _ (by simp) _ rfl) (by simp) (by first | (simp only [alloc_size]; omega) | (have := t1.lt; simp only [alloc_size] at *; omega)) ?_)
    intro v2 w2 hown2 hb2 hg2
    replace t1 := (t1.alloc (.cells (byv [we]).toArray 5)).below hb2 (by omega)
    replace B3 := (B3.alloc B3.size (.cells (byv [we]).toArray 5)).trans (hb2.mono (by omega))
    replace hown := hown2
    have c0 := (t1.cell 0).trans (hcell R0.out)
    have hs2 : w.heap.size < w2.heap.size := t1.lt
    clear hb2 hg2 hown2
    have H := Lib.hid (body_good R (by rw [HOP.out]; decide) (by rw [HOP.out]; decide) HSB.out (fun h => absurd (HOP.out.symm.trans h) (by decide)) [(1, 1, 35), (1, 1, 39)] (by rw [HOP.out]; rfl))
    have HO := Lib.hid ((hown.mono (Nat.le_succ _)).cast (show be R.op.toNat 1 ++ ([(1, 1, 35), (1, 1, 39)]).flatMap (fldB R) = _ by simp [HOP.out, be_one, fldB, Req.num, trE.out, trm.out, weE.out, wem.out]))
    clear hown
    go_wp2
    go_ret2
    exact ⟨_, by rw [H.out]; rfl, by rw [H.out]; exact HO.out, B3⟩

set_option maxRecDepth 100000 in
set_option maxHeartbeats 2000000 in
theorem ref18_body_11 (R : Req) (cav : Value) (Al : Option Addr) (cl : Nat) (w : World) (hR : R.Fit) (hleaf : Reads w w.heap.size 1 Al R.leaf.length (byv R.leaf)) (hlc : R.leaf.length ≤ cl) (hc : cl ≤ maxLen) (hop : R.op = 11) :
    Calls Try.prog 12 #[.agg (reqv R cav (.slice Al R.leaf.length cl)).toArray] w fun e w' => ∃ v, e = .returned (.tuple #[v, .int .i64 ((bodyRes R).1 : Int)]) ∧ OwnB w' w.heap.size v (bodyRes R).2 ∧ Below w.heap.size w w' := by
  have hsm := fun w' => ref18_small R cav (.slice Al R.leaf.length cl) w' hR.tag (by rw [hop]; decide) (by rw [hop]; decide)
  have hrr := reqv_rest R cav (.slice Al R.leaf.length cl) hR.tag
  have hlen := reqv_len R cav (.slice Al R.leaf.length cl) hR.tag
  have r0 : (reqv R cav (.slice Al R.leaf.length cl))[0]? = some (.int .i64 11) := by rw [← hop]; rfl
  obtain ⟨L, hL⟩ : ∃ L, reqv R cav (.slice Al R.leaf.length cl) = L := ⟨_, rfl⟩
  rw [hL] at hrr r0 hlen ⊢
  simp only [hL] at hsm
  clear hL
  have t1 : Blk (w.alloc (.cells L.toArray 31)) w.heap.size 31 L.toArray := Blk.new w _ _
  have B3 : Below w.heap.size w (w.alloc (.cells L.toArray 31)) := (Below.refl _ _).alloc (Nat.le_refl _) _
  have htr : treesB 11 = false := rfl
  have hcell : ∀ {i : Nat} {v : Value}, L[i]? = some v → L.toArray[i]? = some v := fun h => by simpa using h
  have hi1 : (Try.prog.info? 31).map (·.size) = some L.length := by rw [hlen]; exact Try.req_info
  have HI1 := Lib.hid hi1
  have HSM := Lib.hid hsm
  have HRR := Lib.hid hrr
  have R0 := Lib.hid r0
  have HOP := Lib.hid hop
  have HRG := Lib.hid (rangeAt_blk t1 0 L (fun j u h => by simpa using h))
  clear hi1 hsm hrr r0 hop hlen
  have c0 := (t1.cell 0).trans (hcell R0.out)
  go_enter Try.func12, Try.ntmps12
  go_wp2_with (refine load_mid_want rfl 31 (.tmp 1) rfl w.heap.size 0 rfl L _ HRG.out Try.underlying31 rfl HI1.out ?_)
  refine (HSM.out _).mono ?_
  rintro e w1 ⟨rfl, hb1⟩
  replace t1 := t1.below hb1 (by rw [alloc_size]; omega)
  replace B3 := B3.trans (hb1.mono B3.size)
  have c0 := (t1.cell 0).trans (hcell R0.out)
  clear hb1
  have hs1 : w.heap.size + 1 ≤ w1.heap.size := t1.lt
  have hs2 : w.heap.size < w1.heap.size := t1.lt
  cases hs : smallB R with
  | false =>
    have H := Lib.hid (body_bad R (by rw [HOP.out]; decide) (by rw [HOP.out]; decide) hs)
    clear hs
    go_wp2
    go_ret2
    exact ⟨_, by rw [H.out]; rfl, by rw [H.out]; exact OwnB.nil _ _, B3⟩
  | true =>
    have HSB := Lib.hid hs
    clear hs
    have hown : OwnB (w1.alloc (.cells #[.int .u8 11] 5)) (w.heap.size + 1) (.slice (some ⟨w1.heap.size, 0, none⟩) 1 1) [11] := (OwnB.made w1 [11] (by simp [maxLen])).mono hs1
    go_wp2_with fail
    refine (ref18_trees _ _).mono ?_
    rintro e w2 ⟨rfl, rfl⟩
    replace t1 := t1.alloc (.cells #[.int .u8 11] 5)
    replace B3 := B3.alloc B3.size (.cells #[.int .u8 11] 5)
    have d40 := (t1.cell 40).trans (hcell ((HRR.out 5).trans (show _ = some (.int .u32 R.id) from rfl)))
    have hb40 : R.id < 18446744073709551616 := by have := hR.num 40; simp [Req.num] at this; omega
    have hw40 : IntKind.u64.wrap ((R.id : Nat) : Int) = (R.id : Nat) := IntWalk.u64_in _ (by omega)
    have t1l := t1.lt
    go_wp2_with fail
    obtain ⟨A9, n9, c9, e9, -, -, hr9⟩ := hown.sl
    first | subst e9 | (injection e9 with q1 q2 q3; subst q1 q2 q3)
    refine (ref2_number _ _ _ R.id 4 _ _ hr9 (by simp [be_length]) hb40).mono ?_
    rintro e w2 ⟨v2, rfl, hown2, hb2⟩
    rw [show sizeN 4 = 4 from rfl] at hown2
    replace hown := hown2.mono (show w.heap.size + 1 ≤ _ from t1l)
    replace t1 := t1.below hb2 t1l
    replace B3 := B3.trans (hb2.mono B3.size)
    clear hb2 hr9 hown2
    have H := Lib.hid (body_good R (by rw [HOP.out]; decide) (by rw [HOP.out]; decide) HSB.out (fun h => absurd (HOP.out.symm.trans h) (by decide)) [(4, 2, 40)] (by rw [HOP.out]; rfl))
    have HO := Lib.hid ((hown.mono (Nat.le_succ _)).cast (show be R.op.toNat 1 ++ ([(4, 2, 40)]).flatMap (fldB R) = _ by simp [HOP.out, be_one, fldB, Req.num, HOP.out]))
    clear hown
    go_wp2
    go_ret2
    exact ⟨_, by rw [H.out]; rfl, by rw [H.out]; exact HO.out, B3⟩

set_option maxRecDepth 100000 in
set_option maxHeartbeats 2000000 in
theorem ref18_body_4 (R : Req) (cav : Value) (Al : Option Addr) (cl : Nat) (w : World) (hR : R.Fit) (hleaf : Reads w w.heap.size 1 Al R.leaf.length (byv R.leaf)) (hlc : R.leaf.length ≤ cl) (hc : cl ≤ maxLen) (hop : R.op = 4) :
    Calls Try.prog 12 #[.agg (reqv R cav (.slice Al R.leaf.length cl)).toArray] w fun e w' => ∃ v, e = .returned (.tuple #[v, .int .i64 ((bodyRes R).1 : Int)]) ∧ OwnB w' w.heap.size v (bodyRes R).2 ∧ Below w.heap.size w w' := by
  have hsm := fun w' => ref18_small R cav (.slice Al R.leaf.length cl) w' hR.tag (by rw [hop]; decide) (by rw [hop]; decide)
  have hrr := reqv_rest R cav (.slice Al R.leaf.length cl) hR.tag
  have hlen := reqv_len R cav (.slice Al R.leaf.length cl) hR.tag
  have r0 : (reqv R cav (.slice Al R.leaf.length cl))[0]? = some (.int .i64 4) := by rw [← hop]; rfl
  obtain ⟨L, hL⟩ : ∃ L, reqv R cav (.slice Al R.leaf.length cl) = L := ⟨_, rfl⟩
  rw [hL] at hrr r0 hlen ⊢
  simp only [hL] at hsm
  clear hL
  have t1 : Blk (w.alloc (.cells L.toArray 31)) w.heap.size 31 L.toArray := Blk.new w _ _
  have B3 : Below w.heap.size w (w.alloc (.cells L.toArray 31)) := (Below.refl _ _).alloc (Nat.le_refl _) _
  have htr : treesB 4 = true := rfl
  have hcell : ∀ {i : Nat} {v : Value}, L[i]? = some v → L.toArray[i]? = some v := fun h => by simpa using h
  have hi1 : (Try.prog.info? 31).map (·.size) = some L.length := by rw [hlen]; exact Try.req_info
  have HI1 := Lib.hid hi1
  have HSM := Lib.hid hsm
  have HRR := Lib.hid hrr
  have R0 := Lib.hid r0
  have HOP := Lib.hid hop
  have HRG := Lib.hid (rangeAt_blk t1 0 L (fun j u h => by simpa using h))
  clear hi1 hsm hrr r0 hop hlen
  have c0 := (t1.cell 0).trans (hcell R0.out)
  go_enter Try.func12, Try.ntmps12
  go_wp2_with (refine load_mid_want rfl 31 (.tmp 1) rfl w.heap.size 0 rfl L _ HRG.out Try.underlying31 rfl HI1.out ?_)
  refine (HSM.out _).mono ?_
  rintro e w1 ⟨rfl, hb1⟩
  replace t1 := t1.below hb1 (by rw [alloc_size]; omega)
  replace B3 := B3.trans (hb1.mono B3.size)
  have c0 := (t1.cell 0).trans (hcell R0.out)
  clear hb1
  have hs1 : w.heap.size + 1 ≤ w1.heap.size := t1.lt
  have hs2 : w.heap.size < w1.heap.size := t1.lt
  cases hs : smallB R with
  | false =>
    have H := Lib.hid (body_bad R (by rw [HOP.out]; decide) (by rw [HOP.out]; decide) hs)
    clear hs
    go_wp2
    go_ret2
    exact ⟨_, by rw [H.out]; rfl, by rw [H.out]; exact OwnB.nil _ _, B3⟩
  | true =>
    have HSB := Lib.hid hs
    clear hs
    obtain ⟨tr, tre⟩ : ∃ n : Nat, R.tree = (n : Int) := ⟨(R.tree).toNat, by have := HSB.out; simp [smallB, smallL, HOP.out, treesB, isByte] at this; omega⟩
    have trl : tr ≤ 255 := by have := HSB.out; simp [smallB, smallL, HOP.out, treesB, isByte] at this; omega
    have trm := Lib.hid (Nat.mod_eq_of_lt (show tr < 256 by omega))
    have trw : IntKind.u8.wrap (tr : Int) = tr := IntWalk.u8_in _ (by omega)
    have trE := Lib.hid tre
    have d35 := (t1.cell 35).trans (hcell ((HRR.out 0).trans (show _ = some (.int .i64 (R.tree)) from rfl)))
    rw [trE.out] at d35
    have hown : OwnB (w1.alloc (.cells #[.int .u8 4] 5)) (w.heap.size + 1) (.slice (some ⟨w1.heap.size, 0, none⟩) 1 1) [4] := (OwnB.made w1 [4] (by simp [maxLen])).mono hs1
    go_wp2_with fail
    refine (ref18_trees _ _).mono ?_
    rintro e w2 ⟨rfl, rfl⟩
    replace t1 := t1.alloc (.cells #[.int .u8 4] 5)
    replace B3 := B3.alloc B3.size (.cells #[.int .u8 4] 5)
    go_wp2_with (at_builtin; refine append_bytes rfl _ _ rfl (w.heap.size + 1) _ _ rfl (hown.alloc (.cells (byv [tr]).toArray 5)) _ _ _ [tr] rfl (reads_bytes_at _ [tr] _ (by simp) _ rfl) (by simp) (by first | (simp only [alloc_size]; omega) | (have := t1.lt; simp only [alloc_size] at *; omega)) ?_)
    intro v2 w2 hown2 hb2 hg2
    replace t1 := (t1.alloc (.cells (byv [tr]).toArray 5)).below hb2 (by omega)
    replace B3 := (B3.alloc B3.size (.cells (byv [tr]).toArray 5)).trans (hb2.mono (by omega))
    replace hown := hown2
    have c0 := (t1.cell 0).trans (hcell R0.out)
    have hs2 : w.heap.size < w2.heap.size := t1.lt
    clear hb2 hg2 hown2
    have d41 := (t1.cell 41).trans (hcell ((HRR.out 6).trans (show _ = some (.int .u64 R.lo) from rfl)))
    have d42 := (t1.cell 42).trans (hcell ((HRR.out 7).trans (show _ = some (.int .u64 R.hi) from rfl)))
    have hb41 : R.lo < 18446744073709551616 := by have := hR.num 41; simp [Req.num] at this; omega
    have hw41 : IntKind.u64.wrap ((R.lo : Nat) : Int) = (R.lo : Nat) := IntWalk.u64_in _ (by omega)
    have hb42 : R.hi < 18446744073709551616 := by have := hR.num 42; simp [Req.num] at this; omega
    have hw42 : IntKind.u64.wrap ((R.hi : Nat) : Int) = (R.hi : Nat) := IntWalk.u64_in _ (by omega)
    go_wp2_with fail
    obtain ⟨S, HS⟩ : ∃ S : World → Prop, Hid (∀ w', S w' = (w'.cell? ⟨w.heap.size, 41, none⟩ = some (.int .u64 R.lo) ∧ w'.cell? ⟨w.heap.size, 42, none⟩ = some (.int .u64 R.hi))) := ⟨_, fun _ => rfl⟩
    refine wp_region_seq S 8 [(0, false), (1, false), (2, false), (4, false), (5, false), (3, true), (6, true), (7, false)] (by kernel_rfl) rfl (by kernel_rfl) (by kernel_rfl) (by kernel_rfl) (fun _ _ d _ _ h => by cases d <;> exact h) ((HS.out _).mpr ⟨d41, d42⟩) ?_
    repeat (refine wpSeq_read rfl rfl ⟨?_, fun w1 hS => ?_, ?_⟩; rotate_left; (focus (rw [HS.out] at hS; go_split_ands; go_simp; (try go_bits); try rfl)); simp only [Act.put, List.setIfInBounds_toArray, List.set_cons_zero, List.set_cons_succ])
    replace t1 := t1.drew
    replace B3 := B3.drew
    replace hown := hown.drew
    have t1l := t1.lt
    obtain ⟨A9, n9, c9, rfl, -, -, hr9⟩ := hown.sl
    refine wpSeq_write rfl rfl ?_
    go_simp
    refine (ref2_number A9 n9 c9 R.lo 8 _ _ hr9 (by simp [be_length]) hb41).mono ?_
    rintro e w2 ⟨v2, rfl, hown2, hb2⟩
    rw [show sizeN 8 = 8 from rfl] at hown2
    replace hown := hown2.mono (show w.heap.size + 1 ≤ _ from t1l)
    replace t1 := t1.below hb2 t1l
    replace B3 := B3.trans (hb2.mono B3.size)
    clear hb2 hr9 hown2
    have d41 := (t1.cell 41).trans (hcell ((HRR.out 6).trans (show _ = some (.int .u64 R.lo) from rfl)))
    have d42 := (t1.cell 42).trans (hcell ((HRR.out 7).trans (show _ = some (.int .u64 R.hi) from rfl)))
    refine ⟨by first | exact (HS.out _).mpr ⟨d41, d42⟩ | exact fun _ => (HS.out _).mpr ⟨d41, d42⟩, ?_⟩
    have t1l := t1.lt
    obtain ⟨A9, n9, c9, rfl, -, -, hr9⟩ := hown.sl
    refine wpSeq_write rfl rfl ?_
    go_simp
    refine (ref2_number A9 n9 c9 R.hi 8 _ _ hr9 (by simp [be_length]) hb42).mono ?_
    rintro e w2 ⟨v2, rfl, hown2, hb2⟩
    rw [show sizeN 8 = 8 from rfl] at hown2
    replace hown := hown2.mono (show w.heap.size + 1 ≤ _ from t1l)
    replace t1 := t1.below hb2 t1l
    replace B3 := B3.trans (hb2.mono B3.size)
    clear hb2 hr9 hown2
    have d41 := (t1.cell 41).trans (hcell ((HRR.out 6).trans (show _ = some (.int .u64 R.lo) from rfl)))
    have d42 := (t1.cell 42).trans (hcell ((HRR.out 7).trans (show _ = some (.int .u64 R.hi) from rfl)))
    refine ⟨by first | exact (HS.out _).mpr ⟨d41, d42⟩ | exact fun _ => (HS.out _).mpr ⟨d41, d42⟩, ?_⟩
    repeat (refine wpSeq_read rfl rfl ⟨?_, fun w1 hS => ?_, ?_⟩; rotate_left; (focus (rw [HS.out] at hS; go_split_ands; go_simp; (try go_bits); try rfl)); simp only [Act.put, List.setIfInBounds_toArray, List.set_cons_zero, List.set_cons_succ])
    refine wpSeq_nil ?_
    have H := Lib.hid (body_good R (by rw [HOP.out]; decide) (by rw [HOP.out]; decide) HSB.out (fun h => absurd (HOP.out.symm.trans h) (by decide)) [(1, 1, 35), (8, 3, 41), (8, 3, 42)] (by rw [HOP.out]; rfl))
    have HO := Lib.hid ((hown.mono (Nat.le_succ _)).cast (show be R.op.toNat 1 ++ ([(1, 1, 35), (8, 3, 41), (8, 3, 42)]).flatMap (fldB R) = _ by simp [HOP.out, be_one, fldB, Req.num, trE.out, trm.out]))
    clear hown
    go_wp2
    go_ret2
    exact ⟨_, by rw [H.out]; rfl, by rw [H.out]; exact HO.out, B3⟩

set_option maxRecDepth 100000 in
set_option maxHeartbeats 2000000 in
theorem ref18_body_5 (R : Req) (cav : Value) (Al : Option Addr) (cl : Nat) (w : World) (hR : R.Fit) (hleaf : Reads w w.heap.size 1 Al R.leaf.length (byv R.leaf)) (hlc : R.leaf.length ≤ cl) (hc : cl ≤ maxLen) (hop : R.op = 5) :
    Calls Try.prog 12 #[.agg (reqv R cav (.slice Al R.leaf.length cl)).toArray] w fun e w' => ∃ v, e = .returned (.tuple #[v, .int .i64 ((bodyRes R).1 : Int)]) ∧ OwnB w' w.heap.size v (bodyRes R).2 ∧ Below w.heap.size w w' := by
  have hsm := fun w' => ref18_small R cav (.slice Al R.leaf.length cl) w' hR.tag (by rw [hop]; decide) (by rw [hop]; decide)
  have hrr := reqv_rest R cav (.slice Al R.leaf.length cl) hR.tag
  have hlen := reqv_len R cav (.slice Al R.leaf.length cl) hR.tag
  have r0 : (reqv R cav (.slice Al R.leaf.length cl))[0]? = some (.int .i64 5) := by rw [← hop]; rfl
  obtain ⟨L, hL⟩ : ∃ L, reqv R cav (.slice Al R.leaf.length cl) = L := ⟨_, rfl⟩
  rw [hL] at hrr r0 hlen ⊢
  simp only [hL] at hsm
  clear hL
  have t1 : Blk (w.alloc (.cells L.toArray 31)) w.heap.size 31 L.toArray := Blk.new w _ _
  have B3 : Below w.heap.size w (w.alloc (.cells L.toArray 31)) := (Below.refl _ _).alloc (Nat.le_refl _) _
  have htr : treesB 5 = true := rfl
  have hcell : ∀ {i : Nat} {v : Value}, L[i]? = some v → L.toArray[i]? = some v := fun h => by simpa using h
  have hi1 : (Try.prog.info? 31).map (·.size) = some L.length := by rw [hlen]; exact Try.req_info
  have HI1 := Lib.hid hi1
  have HSM := Lib.hid hsm
  have HRR := Lib.hid hrr
  have R0 := Lib.hid r0
  have HOP := Lib.hid hop
  have HRG := Lib.hid (rangeAt_blk t1 0 L (fun j u h => by simpa using h))
  clear hi1 hsm hrr r0 hop hlen
  have c0 := (t1.cell 0).trans (hcell R0.out)
  go_enter Try.func12, Try.ntmps12
  go_wp2_with (refine load_mid_want rfl 31 (.tmp 1) rfl w.heap.size 0 rfl L _ HRG.out Try.underlying31 rfl HI1.out ?_)
  refine (HSM.out _).mono ?_
  rintro e w1 ⟨rfl, hb1⟩
  replace t1 := t1.below hb1 (by rw [alloc_size]; omega)
  replace B3 := B3.trans (hb1.mono B3.size)
  have c0 := (t1.cell 0).trans (hcell R0.out)
  clear hb1
  have hs1 : w.heap.size + 1 ≤ w1.heap.size := t1.lt
  have hs2 : w.heap.size < w1.heap.size := t1.lt
  cases hs : smallB R with
  | false =>
    have H := Lib.hid (body_bad R (by rw [HOP.out]; decide) (by rw [HOP.out]; decide) hs)
    clear hs
    go_wp2
    go_ret2
    exact ⟨_, by rw [H.out]; rfl, by rw [H.out]; exact OwnB.nil _ _, B3⟩
  | true =>
    have HSB := Lib.hid hs
    clear hs
    obtain ⟨tr, tre⟩ : ∃ n : Nat, R.tree = (n : Int) := ⟨(R.tree).toNat, by have := HSB.out; simp [smallB, smallL, HOP.out, treesB, isByte] at this; omega⟩
    have trl : tr ≤ 255 := by have := HSB.out; simp [smallB, smallL, HOP.out, treesB, isByte] at this; omega
    have trm := Lib.hid (Nat.mod_eq_of_lt (show tr < 256 by omega))
    have trw : IntKind.u8.wrap (tr : Int) = tr := IntWalk.u8_in _ (by omega)
    have trE := Lib.hid tre
    have d35 := (t1.cell 35).trans (hcell ((HRR.out 0).trans (show _ = some (.int .i64 (R.tree)) from rfl)))
    rw [trE.out] at d35
    have hown : OwnB (w1.alloc (.cells #[.int .u8 5] 5)) (w.heap.size + 1) (.slice (some ⟨w1.heap.size, 0, none⟩) 1 1) [5] := (OwnB.made w1 [5] (by simp [maxLen])).mono hs1
    go_wp2_with fail
    refine (ref18_trees _ _).mono ?_
    rintro e w2 ⟨rfl, rfl⟩
    replace t1 := t1.alloc (.cells #[.int .u8 5] 5)
    replace B3 := B3.alloc B3.size (.cells #[.int .u8 5] 5)
    go_wp2_with (at_builtin; refine append_bytes rfl _ _ rfl (w.heap.size + 1) _ _ rfl (hown.alloc (.cells (byv [tr]).toArray 5)) _ _ _ [tr] rfl (reads_bytes_at _ [tr] _ (by simp) _ rfl) (by simp) (by first | (simp only [alloc_size]; omega) | (have := t1.lt; simp only [alloc_size] at *; omega)) ?_)
    intro v2 w2 hown2 hb2 hg2
    replace t1 := (t1.alloc (.cells (byv [tr]).toArray 5)).below hb2 (by omega)
    replace B3 := (B3.alloc B3.size (.cells (byv [tr]).toArray 5)).trans (hb2.mono (by omega))
    replace hown := hown2
    have c0 := (t1.cell 0).trans (hcell R0.out)
    have hs2 : w.heap.size < w2.heap.size := t1.lt
    clear hb2 hg2 hown2
    have d41 := (t1.cell 41).trans (hcell ((HRR.out 6).trans (show _ = some (.int .u64 R.lo) from rfl)))
    have d42 := (t1.cell 42).trans (hcell ((HRR.out 7).trans (show _ = some (.int .u64 R.hi) from rfl)))
    have hb41 : R.lo < 18446744073709551616 := by have := hR.num 41; simp [Req.num] at this; omega
    have hw41 : IntKind.u64.wrap ((R.lo : Nat) : Int) = (R.lo : Nat) := IntWalk.u64_in _ (by omega)
    have hb42 : R.hi < 18446744073709551616 := by have := hR.num 42; simp [Req.num] at this; omega
    have hw42 : IntKind.u64.wrap ((R.hi : Nat) : Int) = (R.hi : Nat) := IntWalk.u64_in _ (by omega)
    go_wp2_with fail
    obtain ⟨S, HS⟩ : ∃ S : World → Prop, Hid (∀ w', S w' = (w'.cell? ⟨w.heap.size, 41, none⟩ = some (.int .u64 R.lo) ∧ w'.cell? ⟨w.heap.size, 42, none⟩ = some (.int .u64 R.hi))) := ⟨_, fun _ => rfl⟩
    refine wp_region_seq S 8 [(0, false), (1, false), (2, false), (4, false), (5, false), (3, true), (6, true), (7, false)] (by kernel_rfl) rfl (by kernel_rfl) (by kernel_rfl) (by kernel_rfl) (fun _ _ d _ _ h => by cases d <;> exact h) ((HS.out _).mpr ⟨d41, d42⟩) ?_
    repeat (refine wpSeq_read rfl rfl ⟨?_, fun w1 hS => ?_, ?_⟩; rotate_left; (focus (rw [HS.out] at hS; go_split_ands; go_simp; (try go_bits); try rfl)); simp only [Act.put, List.setIfInBounds_toArray, List.set_cons_zero, List.set_cons_succ])
    replace t1 := t1.drew
    replace B3 := B3.drew
    replace hown := hown.drew
    have t1l := t1.lt
    obtain ⟨A9, n9, c9, rfl, -, -, hr9⟩ := hown.sl
    refine wpSeq_write rfl rfl ?_
    go_simp
    refine (ref2_number A9 n9 c9 R.lo 8 _ _ hr9 (by simp [be_length]) hb41).mono ?_
    rintro e w2 ⟨v2, rfl, hown2, hb2⟩
    rw [show sizeN 8 = 8 from rfl] at hown2
    replace hown := hown2.mono (show w.heap.size + 1 ≤ _ from t1l)
    replace t1 := t1.below hb2 t1l
    replace B3 := B3.trans (hb2.mono B3.size)
    clear hb2 hr9 hown2
    have d41 := (t1.cell 41).trans (hcell ((HRR.out 6).trans (show _ = some (.int .u64 R.lo) from rfl)))
    have d42 := (t1.cell 42).trans (hcell ((HRR.out 7).trans (show _ = some (.int .u64 R.hi) from rfl)))
    refine ⟨by first | exact (HS.out _).mpr ⟨d41, d42⟩ | exact fun _ => (HS.out _).mpr ⟨d41, d42⟩, ?_⟩
    have t1l := t1.lt
    obtain ⟨A9, n9, c9, rfl, -, -, hr9⟩ := hown.sl
    refine wpSeq_write rfl rfl ?_
    go_simp
    refine (ref2_number A9 n9 c9 R.hi 8 _ _ hr9 (by simp [be_length]) hb42).mono ?_
    rintro e w2 ⟨v2, rfl, hown2, hb2⟩
    rw [show sizeN 8 = 8 from rfl] at hown2
    replace hown := hown2.mono (show w.heap.size + 1 ≤ _ from t1l)
    replace t1 := t1.below hb2 t1l
    replace B3 := B3.trans (hb2.mono B3.size)
    clear hb2 hr9 hown2
    have d41 := (t1.cell 41).trans (hcell ((HRR.out 6).trans (show _ = some (.int .u64 R.lo) from rfl)))
    have d42 := (t1.cell 42).trans (hcell ((HRR.out 7).trans (show _ = some (.int .u64 R.hi) from rfl)))
    refine ⟨by first | exact (HS.out _).mpr ⟨d41, d42⟩ | exact fun _ => (HS.out _).mpr ⟨d41, d42⟩, ?_⟩
    repeat (refine wpSeq_read rfl rfl ⟨?_, fun w1 hS => ?_, ?_⟩; rotate_left; (focus (rw [HS.out] at hS; go_split_ands; go_simp; (try go_bits); try rfl)); simp only [Act.put, List.setIfInBounds_toArray, List.set_cons_zero, List.set_cons_succ])
    refine wpSeq_nil ?_
    have H := Lib.hid (body_good R (by rw [HOP.out]; decide) (by rw [HOP.out]; decide) HSB.out (fun h => absurd (HOP.out.symm.trans h) (by decide)) [(1, 1, 35), (8, 3, 41), (8, 3, 42)] (by rw [HOP.out]; rfl))
    have HO := Lib.hid ((hown.mono (Nat.le_succ _)).cast (show be R.op.toNat 1 ++ ([(1, 1, 35), (8, 3, 41), (8, 3, 42)]).flatMap (fldB R) = _ by simp [HOP.out, be_one, fldB, Req.num, trE.out, trm.out]))
    clear hown
    go_wp2
    go_ret2
    exact ⟨_, by rw [H.out]; rfl, by rw [H.out]; exact HO.out, B3⟩

set_option maxRecDepth 100000 in
set_option maxHeartbeats 2000000 in
theorem ref18_body_10 (R : Req) (cav : Value) (Al : Option Addr) (cl : Nat) (w : World) (hR : R.Fit) (hleaf : Reads w w.heap.size 1 Al R.leaf.length (byv R.leaf)) (hlc : R.leaf.length ≤ cl) (hc : cl ≤ maxLen) (hop : R.op = 10) :
    Calls Try.prog 12 #[.agg (reqv R cav (.slice Al R.leaf.length cl)).toArray] w fun e w' => ∃ v, e = .returned (.tuple #[v, .int .i64 ((bodyRes R).1 : Int)]) ∧ OwnB w' w.heap.size v (bodyRes R).2 ∧ Below w.heap.size w w' := by
  have hsm := fun w' => ref18_small R cav (.slice Al R.leaf.length cl) w' hR.tag (by rw [hop]; decide) (by rw [hop]; decide)
  have hrr := reqv_rest R cav (.slice Al R.leaf.length cl) hR.tag
  have hlen := reqv_len R cav (.slice Al R.leaf.length cl) hR.tag
  have r0 : (reqv R cav (.slice Al R.leaf.length cl))[0]? = some (.int .i64 10) := by rw [← hop]; rfl
  obtain ⟨L, hL⟩ : ∃ L, reqv R cav (.slice Al R.leaf.length cl) = L := ⟨_, rfl⟩
  rw [hL] at hrr r0 hlen ⊢
  simp only [hL] at hsm
  clear hL
  have t1 : Blk (w.alloc (.cells L.toArray 31)) w.heap.size 31 L.toArray := Blk.new w _ _
  have B3 : Below w.heap.size w (w.alloc (.cells L.toArray 31)) := (Below.refl _ _).alloc (Nat.le_refl _) _
  have htr : treesB 10 = false := rfl
  have hcell : ∀ {i : Nat} {v : Value}, L[i]? = some v → L.toArray[i]? = some v := fun h => by simpa using h
  have hi1 : (Try.prog.info? 31).map (·.size) = some L.length := by rw [hlen]; exact Try.req_info
  have HI1 := Lib.hid hi1
  have HSM := Lib.hid hsm
  have HRR := Lib.hid hrr
  have R0 := Lib.hid r0
  have HOP := Lib.hid hop
  have HRG := Lib.hid (rangeAt_blk t1 0 L (fun j u h => by simpa using h))
  clear hi1 hsm hrr r0 hop hlen
  have c0 := (t1.cell 0).trans (hcell R0.out)
  go_enter Try.func12, Try.ntmps12
  go_wp2_with (refine load_mid_want rfl 31 (.tmp 1) rfl w.heap.size 0 rfl L _ HRG.out Try.underlying31 rfl HI1.out ?_)
  refine (HSM.out _).mono ?_
  rintro e w1 ⟨rfl, hb1⟩
  replace t1 := t1.below hb1 (by rw [alloc_size]; omega)
  replace B3 := B3.trans (hb1.mono B3.size)
  have c0 := (t1.cell 0).trans (hcell R0.out)
  clear hb1
  have hs1 : w.heap.size + 1 ≤ w1.heap.size := t1.lt
  have hs2 : w.heap.size < w1.heap.size := t1.lt
  cases hs : smallB R with
  | false =>
    have H := Lib.hid (body_bad R (by rw [HOP.out]; decide) (by rw [HOP.out]; decide) hs)
    clear hs
    go_wp2
    go_ret2
    exact ⟨_, by rw [H.out]; rfl, by rw [H.out]; exact OwnB.nil _ _, B3⟩
  | true =>
    have HSB := Lib.hid hs
    clear hs
    obtain ⟨te, tee⟩ : ∃ n : Nat, R.tenant = (n : Int) := ⟨(R.tenant).toNat, by have := HSB.out; simp [smallB, smallL, HOP.out, treesB, isByte] at this; omega⟩
    have tel : te ≤ 255 := by have := HSB.out; simp [smallB, smallL, HOP.out, treesB, isByte] at this; omega
    have tem := Lib.hid (Nat.mod_eq_of_lt (show te < 256 by omega))
    have tew : IntKind.u8.wrap (te : Int) = te := IntWalk.u8_in _ (by omega)
    have teE := Lib.hid tee
    obtain ⟨ro, roe⟩ : ∃ n : Nat, R.role = (n : Int) := ⟨(R.role).toNat, by have := HSB.out; simp [smallB, smallL, HOP.out, treesB, isByte] at this; omega⟩
    have rol : ro ≤ 255 := by have := HSB.out; simp [smallB, smallL, HOP.out, treesB, isByte] at this; omega
    have rom := Lib.hid (Nat.mod_eq_of_lt (show ro < 256 by omega))
    have row : IntKind.u8.wrap (ro : Int) = ro := IntWalk.u8_in _ (by omega)
    have roE := Lib.hid roe
    have hown : OwnB (w1.alloc (.cells #[.int .u8 10] 5)) (w.heap.size + 1) (.slice (some ⟨w1.heap.size, 0, none⟩) 1 1) [10] := (OwnB.made w1 [10] (by simp [maxLen])).mono hs1
    go_wp2_with fail
    refine (ref18_trees _ _).mono ?_
    rintro e w2 ⟨rfl, rfl⟩
    replace t1 := t1.alloc (.cells #[.int .u8 10] 5)
    replace B3 := B3.alloc B3.size (.cells #[.int .u8 10] 5)
    have d36 := (t1.cell 36).trans (hcell ((HRR.out 1).trans (show _ = some (.int .i64 (R.tenant)) from rfl)))
    rw [teE.out] at d36
    have d37 := (t1.cell 37).trans (hcell ((HRR.out 2).trans (show _ = some (.int .i64 (R.role)) from rfl)))
    rw [roE.out] at d37
    have d46 := (t1.cell 46).trans (hcell ((HRR.out 11).trans (show _ = some (.int .u64 R.expires) from rfl)))
    have hb46 : R.expires < 18446744073709551616 := by have := hR.num 46; simp [Req.num] at this; omega
    have hw46 : IntKind.u64.wrap ((R.expires : Nat) : Int) = (R.expires : Nat) := IntWalk.u64_in _ (by omega)
    go_wp2_with fail
    obtain ⟨S, HS⟩ : ∃ S : World → Prop, Hid (∀ w', S w' = (w'.cell? ⟨w.heap.size, 36, none⟩ = some (.int .i64 (te : Int)) ∧ w'.cell? ⟨w.heap.size, 37, none⟩ = some (.int .i64 (ro : Int)) ∧ w'.cell? ⟨w.heap.size, 46, none⟩ = some (.int .u64 R.expires))) := ⟨_, fun _ => rfl⟩
    refine wp_region_seq S 13 [(0, false), (1, false), (2, false), (3, false), (4, false), (5, false), (6, false), (9, false), (10, false), (7, true), (8, true), (11, true), (12, false)] (by kernel_rfl) rfl (by kernel_rfl) (by kernel_rfl) (by kernel_rfl) (fun _ _ d _ _ h => by cases d <;> exact h) ((HS.out _).mpr ⟨d36, d37, d46⟩) ?_
    repeat (refine wpSeq_read rfl rfl ⟨?_, fun w1 hS => ?_, ?_⟩; rotate_left; (focus (rw [HS.out] at hS; go_split_ands; go_simp; (try go_bits); try rfl)); simp only [Act.put, List.setIfInBounds_toArray, List.set_cons_zero, List.set_cons_succ])
    refine wpSeq_write rfl rfl ?_
    go_simp
    replace t1 := (t1.alloc (.cells (byv [te, ro]).toArray 5)).drew
    replace B3 := (B3.alloc B3.size (.cells (byv [te, ro]).toArray 5)).drew
    replace hown := (hown.alloc (.cells (byv [te, ro]).toArray 5)).drew
    have d36 := (t1.cell 36).trans (hcell ((HRR.out 1).trans (show _ = some (.int .i64 (R.tenant)) from rfl)))
    rw [teE.out] at d36
    have d37 := (t1.cell 37).trans (hcell ((HRR.out 2).trans (show _ = some (.int .i64 (R.role)) from rfl)))
    rw [roE.out] at d37
    have d46 := (t1.cell 46).trans (hcell ((HRR.out 11).trans (show _ = some (.int .u64 R.expires) from rfl)))
    refine ⟨by first | exact (HS.out _).mpr ⟨d36, d37, d46⟩ | exact fun _ => (HS.out _).mpr ⟨d36, d37, d46⟩, ?_⟩
    have t1l := t1.lt
    refine wpSeq_write rfl rfl ?_
    refine wp_append_bytes _ _ rfl (w.heap.size + 1) _ _ rfl hown _ _ _ [te, ro] rfl (reads_bytes_at _ [te, ro] _ (by simp) _ rfl).drewS (by simp) t1l ?_
    intro v2 w2 hown2 hb2 hg2
    replace t1 := t1.below hb2 (by omega)
    replace B3 := B3.trans (hb2.mono (by omega))
    replace hown := hown2
    clear hb2 hg2 hown2
    have d36 := (t1.cell 36).trans (hcell ((HRR.out 1).trans (show _ = some (.int .i64 (R.tenant)) from rfl)))
    rw [teE.out] at d36
    have d37 := (t1.cell 37).trans (hcell ((HRR.out 2).trans (show _ = some (.int .i64 (R.role)) from rfl)))
    rw [roE.out] at d37
    have d46 := (t1.cell 46).trans (hcell ((HRR.out 11).trans (show _ = some (.int .u64 R.expires) from rfl)))
    refine ⟨by first | exact (HS.out _).mpr ⟨d36, d37, d46⟩ | exact fun _ => (HS.out _).mpr ⟨d36, d37, d46⟩, ?_⟩
    simp only [Act.put, List.setIfInBounds_toArray, List.set_cons_zero, List.set_cons_succ]
    have t1l := t1.lt
    obtain ⟨A9, n9, c9, rfl, -, -, hr9⟩ := hown.sl
    refine wpSeq_write rfl rfl ?_
    go_simp
    refine (ref2_number A9 n9 c9 R.expires 8 _ _ hr9 (by simp [be_length]) hb46).mono ?_
    rintro e w2 ⟨v2, rfl, hown2, hb2⟩
    rw [show sizeN 8 = 8 from rfl] at hown2
    replace hown := hown2.mono (show w.heap.size + 1 ≤ _ from t1l)
    replace t1 := t1.below hb2 t1l
    replace B3 := B3.trans (hb2.mono B3.size)
    clear hb2 hr9 hown2
    have d36 := (t1.cell 36).trans (hcell ((HRR.out 1).trans (show _ = some (.int .i64 (R.tenant)) from rfl)))
    rw [teE.out] at d36
    have d37 := (t1.cell 37).trans (hcell ((HRR.out 2).trans (show _ = some (.int .i64 (R.role)) from rfl)))
    rw [roE.out] at d37
    have d46 := (t1.cell 46).trans (hcell ((HRR.out 11).trans (show _ = some (.int .u64 R.expires) from rfl)))
    refine ⟨by first | exact (HS.out _).mpr ⟨d36, d37, d46⟩ | exact fun _ => (HS.out _).mpr ⟨d36, d37, d46⟩, ?_⟩
    repeat (refine wpSeq_read rfl rfl ⟨?_, fun w1 hS => ?_, ?_⟩; rotate_left; (focus (rw [HS.out] at hS; go_split_ands; go_simp; (try go_bits); try rfl)); simp only [Act.put, List.setIfInBounds_toArray, List.set_cons_zero, List.set_cons_succ])
    refine wpSeq_nil ?_
    have H := Lib.hid (body_good R (by rw [HOP.out]; decide) (by rw [HOP.out]; decide) HSB.out (fun h => absurd (HOP.out.symm.trans h) (by decide)) [(1, 1, 36), (1, 1, 37), (8, 3, 46)] (by rw [HOP.out]; rfl))
    have HO := Lib.hid ((hown.mono (Nat.le_succ _)).cast (show be R.op.toNat 1 ++ ([(1, 1, 36), (1, 1, 37), (8, 3, 46)]).flatMap (fldB R) = _ by simp [HOP.out, be_one, fldB, Req.num, teE.out, tem.out, roE.out, rom.out]))
    clear hown
    go_wp2
    go_ret2
    exact ⟨_, by rw [H.out]; rfl, by rw [H.out]; exact HO.out, B3⟩

set_option maxRecDepth 100000 in
set_option maxHeartbeats 2000000 in
theorem ref18_body_12 (R : Req) (cav : Value) (Al : Option Addr) (cl : Nat) (w : World) (hR : R.Fit) (hleaf : Reads w w.heap.size 1 Al R.leaf.length (byv R.leaf)) (hlc : R.leaf.length ≤ cl) (hc : cl ≤ maxLen) (hop : R.op = 12) :
    Calls Try.prog 12 #[.agg (reqv R cav (.slice Al R.leaf.length cl)).toArray] w fun e w' => ∃ v, e = .returned (.tuple #[v, .int .i64 ((bodyRes R).1 : Int)]) ∧ OwnB w' w.heap.size v (bodyRes R).2 ∧ Below w.heap.size w w' := by
  have hsm := fun w' => ref18_small R cav (.slice Al R.leaf.length cl) w' hR.tag (by rw [hop]; decide) (by rw [hop]; decide)
  have hrr := reqv_rest R cav (.slice Al R.leaf.length cl) hR.tag
  have hlen := reqv_len R cav (.slice Al R.leaf.length cl) hR.tag
  have r0 : (reqv R cav (.slice Al R.leaf.length cl))[0]? = some (.int .i64 12) := by rw [← hop]; rfl
  obtain ⟨L, hL⟩ : ∃ L, reqv R cav (.slice Al R.leaf.length cl) = L := ⟨_, rfl⟩
  rw [hL] at hrr r0 hlen ⊢
  simp only [hL] at hsm
  clear hL
  have t1 : Blk (w.alloc (.cells L.toArray 31)) w.heap.size 31 L.toArray := Blk.new w _ _
  have B3 : Below w.heap.size w (w.alloc (.cells L.toArray 31)) := (Below.refl _ _).alloc (Nat.le_refl _) _
  have htr : treesB 12 = false := rfl
  have hcell : ∀ {i : Nat} {v : Value}, L[i]? = some v → L.toArray[i]? = some v := fun h => by simpa using h
  have hi1 : (Try.prog.info? 31).map (·.size) = some L.length := by rw [hlen]; exact Try.req_info
  have HI1 := Lib.hid hi1
  have HSM := Lib.hid hsm
  have HRR := Lib.hid hrr
  have R0 := Lib.hid r0
  have HOP := Lib.hid hop
  have HRG := Lib.hid (rangeAt_blk t1 0 L (fun j u h => by simpa using h))
  clear hi1 hsm hrr r0 hop hlen
  have c0 := (t1.cell 0).trans (hcell R0.out)
  go_enter Try.func12, Try.ntmps12
  go_wp2_with (refine load_mid_want rfl 31 (.tmp 1) rfl w.heap.size 0 rfl L _ HRG.out Try.underlying31 rfl HI1.out ?_)
  refine (HSM.out _).mono ?_
  rintro e w1 ⟨rfl, hb1⟩
  replace t1 := t1.below hb1 (by rw [alloc_size]; omega)
  replace B3 := B3.trans (hb1.mono B3.size)
  have c0 := (t1.cell 0).trans (hcell R0.out)
  clear hb1
  have hs1 : w.heap.size + 1 ≤ w1.heap.size := t1.lt
  have hs2 : w.heap.size < w1.heap.size := t1.lt
  cases hs : smallB R with
  | false =>
    have H := Lib.hid (body_bad R (by rw [HOP.out]; decide) (by rw [HOP.out]; decide) hs)
    clear hs
    go_wp2
    go_ret2
    exact ⟨_, by rw [H.out]; rfl, by rw [H.out]; exact OwnB.nil _ _, B3⟩
  | true =>
    have HSB := Lib.hid hs
    clear hs
    obtain ⟨te, tee⟩ : ∃ n : Nat, R.tenant = (n : Int) := ⟨(R.tenant).toNat, by have := HSB.out; simp [smallB, smallL, HOP.out, treesB, isByte] at this; omega⟩
    have tel : te ≤ 255 := by have := HSB.out; simp [smallB, smallL, HOP.out, treesB, isByte] at this; omega
    have tem := Lib.hid (Nat.mod_eq_of_lt (show te < 256 by omega))
    have tew : IntKind.u8.wrap (te : Int) = te := IntWalk.u8_in _ (by omega)
    have teE := Lib.hid tee
    have hown : OwnB (w1.alloc (.cells #[.int .u8 12] 5)) (w.heap.size + 1) (.slice (some ⟨w1.heap.size, 0, none⟩) 1 1) [12] := (OwnB.made w1 [12] (by simp [maxLen])).mono hs1
    go_wp2_with fail
    refine (ref18_trees _ _).mono ?_
    rintro e w2 ⟨rfl, rfl⟩
    replace t1 := t1.alloc (.cells #[.int .u8 12] 5)
    replace B3 := B3.alloc B3.size (.cells #[.int .u8 12] 5)
    have d36 := (t1.cell 36).trans (hcell ((HRR.out 1).trans (show _ = some (.int .i64 (R.tenant)) from rfl)))
    rw [teE.out] at d36
    have d43 := (t1.cell 43).trans (hcell ((HRR.out 8).trans (show _ = some (.int .u32 R.rate) from rfl)))
    have hb43 : R.rate < 18446744073709551616 := by have := hR.num 43; simp [Req.num] at this; omega
    have hw43 : IntKind.u64.wrap ((R.rate : Nat) : Int) = (R.rate : Nat) := IntWalk.u64_in _ (by omega)
    have hb44 : R.burst < 18446744073709551616 := by have := hR.num 44; simp [Req.num] at this; omega
    have hw44 : IntKind.u64.wrap ((R.burst : Nat) : Int) = (R.burst : Nat) := IntWalk.u64_in _ (by omega)
    have hb45 : R.store < 18446744073709551616 := by have := hR.num 45; simp [Req.num] at this; omega
    have hw45 : IntKind.u64.wrap ((R.store : Nat) : Int) = (R.store : Nat) := IntWalk.u64_in _ (by omega)
    go_wp2_with fail
    obtain ⟨S, HS⟩ : ∃ S : World → Prop, Hid (∀ w', S w' = (w'.cell? ⟨w.heap.size, 36, none⟩ = some (.int .i64 (te : Int)) ∧ w'.cell? ⟨w.heap.size, 43, none⟩ = some (.int .u32 R.rate))) := ⟨_, fun _ => rfl⟩
    refine wp_region_seq S 11 [(0, false), (1, false), (2, false), (3, false), (6, false), (7, false), (8, false), (4, true), (5, true), (9, true), (10, false)] (by kernel_rfl) rfl (by kernel_rfl) (by kernel_rfl) (by kernel_rfl) (fun _ _ d _ _ h => by cases d <;> exact h) ((HS.out _).mpr ⟨d36, d43⟩) ?_
    repeat (refine wpSeq_read rfl rfl ⟨?_, fun w1 hS => ?_, ?_⟩; rotate_left; (focus (rw [HS.out] at hS; go_split_ands; go_simp; (try go_bits); try rfl)); simp only [Act.put, List.setIfInBounds_toArray, List.set_cons_zero, List.set_cons_succ])
    refine wpSeq_write rfl rfl ?_
    go_simp
    replace t1 := (t1.alloc (.cells (byv [te]).toArray 5)).drew
    replace B3 := (B3.alloc B3.size (.cells (byv [te]).toArray 5)).drew
    replace hown := (hown.alloc (.cells (byv [te]).toArray 5)).drew
    have d36 := (t1.cell 36).trans (hcell ((HRR.out 1).trans (show _ = some (.int .i64 (R.tenant)) from rfl)))
    rw [teE.out] at d36
    have d43 := (t1.cell 43).trans (hcell ((HRR.out 8).trans (show _ = some (.int .u32 R.rate) from rfl)))
    refine ⟨by first | exact (HS.out _).mpr ⟨d36, d43⟩ | exact fun _ => (HS.out _).mpr ⟨d36, d43⟩, ?_⟩
    have t1l := t1.lt
    refine wpSeq_write rfl rfl ?_
    refine wp_append_bytes _ _ rfl (w.heap.size + 1) _ _ rfl hown _ _ _ [te] rfl (reads_bytes_at _ [te] _ (by simp) _ rfl).drewS (by simp) t1l ?_
    intro v2 w2 hown2 hb2 hg2
    replace t1 := t1.below hb2 (by omega)
    replace B3 := B3.trans (hb2.mono (by omega))
    replace hown := hown2
    clear hb2 hg2 hown2
    have d36 := (t1.cell 36).trans (hcell ((HRR.out 1).trans (show _ = some (.int .i64 (R.tenant)) from rfl)))
    rw [teE.out] at d36
    have d43 := (t1.cell 43).trans (hcell ((HRR.out 8).trans (show _ = some (.int .u32 R.rate) from rfl)))
    refine ⟨by first | exact (HS.out _).mpr ⟨d36, d43⟩ | exact fun _ => (HS.out _).mpr ⟨d36, d43⟩, ?_⟩
    simp only [Act.put, List.setIfInBounds_toArray, List.set_cons_zero, List.set_cons_succ]
    have t1l := t1.lt
    obtain ⟨A9, n9, c9, rfl, -, -, hr9⟩ := hown.sl
    refine wpSeq_write rfl rfl ?_
    go_simp
    refine (ref2_number A9 n9 c9 R.rate 4 _ _ hr9 (by simp [be_length]) hb43).mono ?_
    rintro e w2 ⟨v2, rfl, hown2, hb2⟩
    rw [show sizeN 4 = 4 from rfl] at hown2
    replace hown := hown2.mono (show w.heap.size + 1 ≤ _ from t1l)
    replace t1 := t1.below hb2 t1l
    replace B3 := B3.trans (hb2.mono B3.size)
    clear hb2 hr9 hown2
    have d36 := (t1.cell 36).trans (hcell ((HRR.out 1).trans (show _ = some (.int .i64 (R.tenant)) from rfl)))
    rw [teE.out] at d36
    have d43 := (t1.cell 43).trans (hcell ((HRR.out 8).trans (show _ = some (.int .u32 R.rate) from rfl)))
    refine ⟨by first | exact (HS.out _).mpr ⟨d36, d43⟩ | exact fun _ => (HS.out _).mpr ⟨d36, d43⟩, ?_⟩
    repeat (refine wpSeq_read rfl rfl ⟨?_, fun w1 hS => ?_, ?_⟩; rotate_left; (focus (rw [HS.out] at hS; go_split_ands; go_simp; (try go_bits); try rfl)); simp only [Act.put, List.setIfInBounds_toArray, List.set_cons_zero, List.set_cons_succ])
    refine wpSeq_nil ?_
    clear HS d36 d43
    have c0 := (t1.cell 0).trans (hcell R0.out)
    have hs2 := t1.lt
    go_wp2_with fail
    have d44 := (t1.cell 44).trans (hcell ((HRR.out 9).trans (show _ = some (.int .u32 R.burst) from rfl)))
    have d45 := (t1.cell 45).trans (hcell ((HRR.out 10).trans (show _ = some (.int .u32 R.store) from rfl)))
    obtain ⟨S, HS⟩ : ∃ S : World → Prop, Hid (∀ w', S w' = (w'.cell? ⟨w.heap.size, 44, none⟩ = some (.int .u32 R.burst) ∧ w'.cell? ⟨w.heap.size, 45, none⟩ = some (.int .u32 R.store))) := ⟨_, fun _ => rfl⟩
    refine wp_region_seq S 10 [(0, false), (1, false), (2, false), (3, false), (5, false), (6, false), (7, false), (4, true), (8, true), (9, false)] (by kernel_rfl) rfl (by kernel_rfl) (by kernel_rfl) (by kernel_rfl) (fun _ _ d _ _ h => by cases d <;> exact h) ((HS.out _).mpr ⟨d44, d45⟩) ?_
    repeat (refine wpSeq_read rfl rfl ⟨?_, fun w1 hS => ?_, ?_⟩; rotate_left; (focus (rw [HS.out] at hS; go_split_ands; go_simp; (try go_bits); try rfl)); simp only [Act.put, List.setIfInBounds_toArray, List.set_cons_zero, List.set_cons_succ])
    replace t1 := t1.drew
    replace B3 := B3.drew
    replace hown := hown.drew
    have t1l := t1.lt
    obtain ⟨A9, n9, c9, rfl, -, -, hr9⟩ := hown.sl
    refine wpSeq_write rfl rfl ?_
    go_simp
    refine (ref2_number A9 n9 c9 R.burst 4 _ _ hr9 (by simp [be_length]) hb44).mono ?_
    rintro e w2 ⟨v2, rfl, hown2, hb2⟩
    rw [show sizeN 4 = 4 from rfl] at hown2
    replace hown := hown2.mono (show w.heap.size + 1 ≤ _ from t1l)
    replace t1 := t1.below hb2 t1l
    replace B3 := B3.trans (hb2.mono B3.size)
    clear hb2 hr9 hown2
    have d44 := (t1.cell 44).trans (hcell ((HRR.out 9).trans (show _ = some (.int .u32 R.burst) from rfl)))
    have d45 := (t1.cell 45).trans (hcell ((HRR.out 10).trans (show _ = some (.int .u32 R.store) from rfl)))
    refine ⟨by first | exact (HS.out _).mpr ⟨d44, d45⟩ | exact fun _ => (HS.out _).mpr ⟨d44, d45⟩, ?_⟩
    have t1l := t1.lt
    obtain ⟨A9, n9, c9, rfl, -, -, hr9⟩ := hown.sl
    refine wpSeq_write rfl rfl ?_
    go_simp
    refine (ref2_number A9 n9 c9 R.store 4 _ _ hr9 (by simp [be_length]) hb45).mono ?_
    rintro e w2 ⟨v2, rfl, hown2, hb2⟩
    rw [show sizeN 4 = 4 from rfl] at hown2
    replace hown := hown2.mono (show w.heap.size + 1 ≤ _ from t1l)
    replace t1 := t1.below hb2 t1l
    replace B3 := B3.trans (hb2.mono B3.size)
    clear hb2 hr9 hown2
    have d44 := (t1.cell 44).trans (hcell ((HRR.out 9).trans (show _ = some (.int .u32 R.burst) from rfl)))
    have d45 := (t1.cell 45).trans (hcell ((HRR.out 10).trans (show _ = some (.int .u32 R.store) from rfl)))
    refine ⟨by first | exact (HS.out _).mpr ⟨d44, d45⟩ | exact fun _ => (HS.out _).mpr ⟨d44, d45⟩, ?_⟩
    repeat (refine wpSeq_read rfl rfl ⟨?_, fun w1 hS => ?_, ?_⟩; rotate_left; (focus (rw [HS.out] at hS; go_split_ands; go_simp; (try go_bits); try rfl)); simp only [Act.put, List.setIfInBounds_toArray, List.set_cons_zero, List.set_cons_succ])
    refine wpSeq_nil ?_
    have H := Lib.hid (body_good R (by rw [HOP.out]; decide) (by rw [HOP.out]; decide) HSB.out (fun h => absurd (HOP.out.symm.trans h) (by decide)) [(1, 1, 36), (4, 2, 43), (4, 2, 44), (4, 2, 45)] (by rw [HOP.out]; rfl))
    have HO := Lib.hid ((hown.mono (Nat.le_succ _)).cast (show be R.op.toNat 1 ++ ([(1, 1, 36), (4, 2, 43), (4, 2, 44), (4, 2, 45)]).flatMap (fldB R) = _ by simp [HOP.out, be_one, fldB, Req.num, teE.out, tem.out]))
    clear hown
    go_wp2
    go_ret2
    exact ⟨_, by rw [H.out]; rfl, by rw [H.out]; exact HO.out, B3⟩

theorem body_long (R : Req) (h1 : R.op = 1) (hs : smallB R = true) (hl : 256 < R.leaf.length) : bodyRes R = (3, []) := by
  obtain ⟨op, tid, cavs, tag, tree, tenant, role, state, weight, id, lo, hi, rate, burst, store, expires, leaf⟩ := R
  simp only at h1 hl
  subst h1
  simp [smallB, smallL, treesB, isByte] at hs
  simp [bodyRes, fieldsOf, bodyGo, fldWhy, Req.num]
  simp [hs, hl]

set_option maxRecDepth 100000 in
set_option maxHeartbeats 2000000 in
theorem ref18_body_1 (R : Req) (cav : Value) (Al : Option Addr) (cl : Nat) (w : World) (hR : R.Fit) (hleaf : Reads w w.heap.size 1 Al R.leaf.length (byv R.leaf)) (hlc : R.leaf.length ≤ cl) (hc : cl ≤ maxLen) (hop : R.op = 1) :
    Calls Try.prog 12 #[.agg (reqv R cav (.slice Al R.leaf.length cl)).toArray] w fun e w' => ∃ v, e = .returned (.tuple #[v, .int .i64 ((bodyRes R).1 : Int)]) ∧ OwnB w' w.heap.size v (bodyRes R).2 ∧ Below w.heap.size w w' := by
  have hsm := fun w' => ref18_small R cav (.slice Al R.leaf.length cl) w' hR.tag (by rw [hop]; decide) (by rw [hop]; decide)
  have hrr := reqv_rest R cav (.slice Al R.leaf.length cl) hR.tag
  have hlen := reqv_len R cav (.slice Al R.leaf.length cl) hR.tag
  have r0 : (reqv R cav (.slice Al R.leaf.length cl))[0]? = some (.int .i64 1) := by rw [← hop]; rfl
  obtain ⟨L, hL⟩ : ∃ L, reqv R cav (.slice Al R.leaf.length cl) = L := ⟨_, rfl⟩
  rw [hL] at hrr r0 hlen ⊢
  simp only [hL] at hsm
  clear hL
  have t1 : Blk (w.alloc (.cells L.toArray 31)) w.heap.size 31 L.toArray := Blk.new w _ _
  have B3 : Below w.heap.size w (w.alloc (.cells L.toArray 31)) := (Below.refl _ _).alloc (Nat.le_refl _) _
  have htr : treesB 1 = true := rfl
  have hcell : ∀ {i : Nat} {v : Value}, L[i]? = some v → L.toArray[i]? = some v := fun h => by simpa using h
  have hi1 : (Try.prog.info? 31).map (·.size) = some L.length := by rw [hlen]; exact Try.req_info
  have HI1 := Lib.hid hi1
  have HSM := Lib.hid hsm
  have HRR := Lib.hid hrr
  have R0 := Lib.hid r0
  have HOP := Lib.hid hop
  have HRG := Lib.hid (rangeAt_blk t1 0 L (fun j u h => by simpa using h))
  clear hi1 hsm hrr r0 hop hlen
  have c0 := (t1.cell 0).trans (hcell R0.out)
  go_enter Try.func12, Try.ntmps12
  go_wp2_with (refine load_mid_want rfl 31 (.tmp 1) rfl w.heap.size 0 rfl L _ HRG.out Try.underlying31 rfl HI1.out ?_)
  refine (HSM.out _).mono ?_
  rintro e w1 ⟨rfl, hb1⟩
  replace t1 := t1.below hb1 (by rw [alloc_size]; omega)
  replace B3 := B3.trans (hb1.mono B3.size)
  have c0 := (t1.cell 0).trans (hcell R0.out)
  clear hb1
  have hs1 : w.heap.size + 1 ≤ w1.heap.size := t1.lt
  have hs2 : w.heap.size < w1.heap.size := t1.lt
  cases hs : smallB R with
  | false =>
    have H := Lib.hid (body_bad R (by rw [HOP.out]; decide) (by rw [HOP.out]; decide) hs)
    clear hs
    go_wp2
    go_ret2
    exact ⟨_, by rw [H.out]; rfl, by rw [H.out]; exact OwnB.nil _ _, B3⟩
  | true =>
    have HSB := Lib.hid hs
    clear hs
    obtain ⟨tr, tre⟩ : ∃ n : Nat, R.tree = (n : Int) := ⟨(R.tree).toNat, by have := HSB.out; simp [smallB, smallL, HOP.out, treesB, isByte] at this; omega⟩
    have trl : tr ≤ 255 := by have := HSB.out; simp [smallB, smallL, HOP.out, treesB, isByte] at this; omega
    have trm := Lib.hid (Nat.mod_eq_of_lt (show tr < 256 by omega))
    have trw : IntKind.u8.wrap (tr : Int) = tr := IntWalk.u8_in _ (by omega)
    have trE := Lib.hid tre
    have d47 := (t1.cell 47).trans (hcell ((HRR.out 12).trans (show _ = some (.slice Al R.leaf.length cl) from rfl)))
    by_cases hb : 256 < R.leaf.length
    · have H := Lib.hid (body_long R HOP.out HSB.out hb)
      go_wp2
      go_ret2
      exact ⟨_, by rw [H.out]; rfl, by rw [H.out]; exact OwnB.nil _ _, B3⟩
    · have d35 := (t1.cell 35).trans (hcell ((HRR.out 0).trans (show _ = some (.int .i64 (R.tree)) from rfl)))
      rw [trE.out] at d35
      have hown : OwnB (w1.alloc (.cells #[.int .u8 1] 5)) (w.heap.size + 1) (.slice (some ⟨w1.heap.size, 0, none⟩) 1 1) [1] := (OwnB.made w1 [1] (by simp [maxLen])).mono hs1
      go_wp2_with fail
      refine (ref18_trees _ _).mono ?_
      rintro e w2 ⟨rfl, rfl⟩
      replace t1 := t1.alloc (.cells #[.int .u8 1] 5)
      replace B3 := B3.alloc B3.size (.cells #[.int .u8 1] 5)
      go_wp2_with (at_builtin; refine append_bytes rfl _ _ rfl (w.heap.size + 1) _ _ rfl (hown.alloc (.cells (byv [tr]).toArray 5)) _ _ _ [tr] rfl (reads_bytes_at _ [tr] _ (by simp) _ rfl) (by simp) (by first | (simp only [alloc_size]; omega) | (have := t1.lt; simp only [alloc_size] at *; omega)) ?_)
      intro v2 w2 hown2 hb2 hg2
      replace t1 := (t1.alloc (.cells (byv [tr]).toArray 5)).below hb2 (by omega)
      replace B3 := (B3.alloc B3.size (.cells (byv [tr]).toArray 5)).trans (hb2.mono (by omega))
      replace hown := hown2
      have c0 := (t1.cell 0).trans (hcell R0.out)
      have hs2 : w.heap.size < w2.heap.size := t1.lt
      clear hb2 hg2 hown2
      have d47 := (t1.cell 47).trans (hcell ((HRR.out 12).trans (show _ = some (.slice Al R.leaf.length cl) from rfl)))
      have t1l := t1.lt
      obtain ⟨A9, n9, c9, rfl, -, -, hr9⟩ := hown.sl
      go_wp2_with fail
      refine (ref2_bytes A9 Al n9 R.leaf.length c9 cl _ R.leaf _ hr9 (hleaf.call B3) (by simp) hlc hc).mono ?_
      rintro e w2 ⟨v2, rfl, hown2, hb2⟩
      replace hown := hown2.mono (show w.heap.size + 1 ≤ _ from t1l)
      replace t1 := t1.below hb2 t1l
      replace B3 := B3.trans (hb2.mono B3.size)
      have H := Lib.hid (body_good R (by rw [HOP.out]; decide) (by rw [HOP.out]; decide) HSB.out (fun _ => Nat.le_of_not_lt hb) [(1, 1, 35), (0, 0, 0)] (by rw [HOP.out]; rfl))
      have HO := Lib.hid ((hown.mono (Nat.le_succ _)).cast (show be R.op.toNat 1 ++ ([(1, 1, 35), (0, 0, 0)] : List Fld).flatMap (fldB R) = _ by simp [HOP.out, be_one, fldB, Req.num, trE.out, trm.out]))
      clear hown hown2 hb2 hr9
      go_wp2
      go_ret2
      exact ⟨_, by rw [H.out]; rfl, by rw [H.out]; exact HO.out, B3⟩

set_option maxRecDepth 100000 in
theorem ref18_body (R : Req) (cav : Value) (Al : Option Addr) (cl : Nat) (w : World) (hR : R.Fit) (hleaf : Reads w w.heap.size 1 Al R.leaf.length (byv R.leaf)) (hlc : R.leaf.length ≤ cl) (hc : cl ≤ maxLen) :
    Calls Try.prog 12 #[.agg (reqv R cav (.slice Al R.leaf.length cl)).toArray] w fun e w' => ∃ v, e = .returned (.tuple #[v, .int .i64 ((bodyRes R).1 : Int)]) ∧ OwnB w' w.heap.size v (bodyRes R).2 ∧ Below w.heap.size w w' := by
  by_cases hn : 1 ≤ R.op ∧ R.op ≤ 12
  · have h : R.op = 1 ∨ R.op = 2 ∨ R.op = 3 ∨ R.op = 4 ∨ R.op = 5 ∨ R.op = 6 ∨ R.op = 7 ∨ R.op = 8 ∨ R.op = 9 ∨ R.op = 10 ∨ R.op = 11 ∨ R.op = 12 := by omega
    rcases h with h | h | h | h | h | h | h | h | h | h | h | h
    · exact ref18_body_1 R cav Al cl w hR hleaf hlc hc h
    · exact ref18_body_2 R cav Al cl w hR hleaf hlc hc h
    · exact ref18_body_3 R cav Al cl w hR hleaf hlc hc h
    · exact ref18_body_4 R cav Al cl w hR hleaf hlc hc h
    · exact ref18_body_5 R cav Al cl w hR hleaf hlc hc h
    · exact ref18_body_6 R cav Al cl w hR hleaf hlc hc h
    · exact ref18_body_7 R cav Al cl w hR hleaf hlc hc h
    · exact ref18_body_8 R cav Al cl w hR hleaf hlc hc h
    · exact ref18_body_9 R cav Al cl w hR hleaf hlc hc h
    · exact ref18_body_10 R cav Al cl w hR hleaf hlc hc h
    · exact ref18_body_11 R cav Al cl w hR hleaf hlc hc h
    · exact ref18_body_12 R cav Al cl w hR hleaf hlc hc h
  · have H : Hid (bodyRes R = (1, [])) := by
      unfold Hid bodyRes fieldsOf
      repeat' rw [if_neg (by omega)]
    have r0 : (reqv R cav (.slice Al R.leaf.length cl))[0]? = some (.int .i64 R.op) := rfl
    obtain ⟨L, hL⟩ : ∃ L, reqv R cav (.slice Al R.leaf.length cl) = L := ⟨_, rfl⟩
    rw [hL] at r0 ⊢
    clear hL
    have t1 : Blk (w.alloc (.cells L.toArray 31)) w.heap.size 31 L.toArray := Blk.new w _ _
    have c0 := (t1.cell 0).trans (show L.toArray[0]? = some (.int .i64 R.op) by simpa using r0)
    clear r0
    rcases (show R.op < 1 ∨ 12 < R.op by omega) with h | h
    · go_enter Try.func12, Try.ntmps12
      go_wp2
      go_ret2
      exact ⟨_, by rw [H.out]; rfl, by rw [H.out]; exact OwnB.nil _ _, (Below.refl _ _).alloc (Nat.le_refl _) _⟩
    · have h' : ¬ R.op < 1 := by omega
      go_enter Try.func12, Try.ntmps12
      go_wp2
      go_ret2
      exact ⟨_, by rw [H.out]; rfl, by rw [H.out]; exact OwnB.nil _ _, (Below.refl _ _).alloc (Nat.le_refl _) _⟩

end Go.Proofs.Ytbkdccamimakoaa
