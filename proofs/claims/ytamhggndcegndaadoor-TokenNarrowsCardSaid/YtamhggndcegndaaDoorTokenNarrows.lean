/-
  The law TokenNarrows: it returns true for every input, and leaves what was there as it was. (The frame is written by program, wip/frame.py, after the kit's skeleton.)
-/
import Derived.Test.YtamhggndcegndaaDoorRows
import Derived.Test.YtamhggndcegndaaDoorCards
import Derived.Test.YtamhggndcegndaaDoorTie
import Derived.Deep.DeepHandedRow
import Derived.Lib.LaidTab
import Derived.Test.YtamhggndcegndaaDoorLaid
import Derived.WalkKit
import Derived.ProofKit
import Derived.OpenShut
import Derived.ShutString
import Derived.ChangeOld
import Derived.Below
import Derived.Lib.SmallJoins
import Derived.SizedLaws
import Derived.Test.YtamhggndcegndaaDoorNarsL
import Derived.Test.YtamhggndcegndaaDoorOpenU

namespace Go.Proofs.YtamhggndcegndaaDoor.tokenNarrows
open Go.ChangeShapes Go.WideShapes Go.ChangeAt Go.RowKit
open Go.ChangeMaps (open_string shut_string)
set_option linter.unusedVariables false

theorem own : ownKnob Tryd.prog.godebug = none := by kernel_rfl

theorem laidOut : laidOutB Tryd.prog = true := by kernel_rfl

-- BY HAND
set_option maxRecDepth 100000 in
set_option maxHeartbeats 4000000 in
theorem law_calls {H : Type} {enc : TypeId × Value → H} {base : Nat} (W : World) (hT : Tabs W) (v0 : Value) (d0 : DataW H) (p0 : List MemPlace) (v1 : Value) (d1 : DataW H) (p1 : List MemPlace) (v2 : Value) (d2 : DataW H) (p2 : List MemPlace) (v3 : Value) (d3 : DataW H) (p3 : List MemPlace) (v4 : Value) (d4 : DataW H) (p4 : List MemPlace) (v5 : Value) (d5 : DataW H) (p5 : List MemPlace)
    (o0 : Value.okWide Tryd.prog W .any base 22 v0) (h0 : DataW.Trod enc Tryd.prog W 0 (fun _ => true) true 22 v0 d0 p0) (z0 : ∀ n ∈ d0.weights Tryd.prog 22, n ≤ reachBytes) (o1 : Value.okWide Tryd.prog W .any base 23 v1) (h1 : DataW.Trod enc Tryd.prog W 0 (fun _ => true) true 23 v1 d1 p1) (z1 : ∀ n ∈ d1.weights Tryd.prog 23, n ≤ reachBytes) (o2 : Value.okWide Tryd.prog W .any base 3 v2) (h2 : DataW.Trod enc Tryd.prog W 0 (fun _ => true) true 3 v2 d2 p2) (z2 : ∀ n ∈ d2.weights Tryd.prog 3, n ≤ reachBytes) (o3 : Value.okWide Tryd.prog W .any base 3 v3) (h3 : DataW.Trod enc Tryd.prog W 0 (fun _ => true) true 3 v3 d3 p3) (z3 : ∀ n ∈ d3.weights Tryd.prog 3, n ≤ reachBytes) (o4 : Value.okWide Tryd.prog W .any base 24 v4) (h4 : DataW.Trod enc Tryd.prog W 0 (fun _ => true) true 24 v4 d4 p4) (z4 : ∀ n ∈ d4.weights Tryd.prog 24, n ≤ reachBytes) (o5 : Value.okWide Tryd.prog W .any base 3 v5) (h5 : DataW.Trod enc Tryd.prog W 0 (fun _ => true) true 3 v5 d5 p5) (z5 : ∀ n ∈ d5.weights Tryd.prog 3, n ≤ reachBytes) :
    Calls Tryd.prog 3 #[v0, v1, v2, v3, v4, v5] W fun e w' => e = .returned (.bool true) ∧ Below W.heap.size W w' := by
  obtain ⟨a0, rfl, -, -, w0⟩ := open_int Tryd.underlying22 o0 h0
  obtain ⟨a2, rfl, -, -, w2⟩ := open_int Tryd.underlying3 o2 h2
  obtain ⟨a3, rfl, -, -, w3⟩ := open_int Tryd.underlying3 o3 h3
  obtain ⟨a4, rfl, -, -, w4⟩ := open_int Tryd.underlying24 o4 h4
  obtain ⟨a5, rfl, -, -, w5⟩ := open_int Tryd.underlying3 o5 h5
  obtain ⟨A1, n1, c1, rfl⟩ := okWide_slice Tryd.underlying23 o1
  obtain ⟨f1, hf1⟩ := h1
  obtain ⟨A1', c1', l, e1, l1, l2, l3, l4, l5, l6⟩ := trod_cavs hf1
  simp [Value.cells] at e1
  obtain ⟨rfl, rfl, rfl⟩ := e1
  have r1 := l6 reachBytes z1
  simp only [reachBytes] at r1
  obtain ⟨i0, i1⟩ := u32_toNat w0
  obtain ⟨j0, j1⟩ := u64_toNat w4
  rw [← i0, ← j0]
  exact nars_walk _ l _ _ _ a2 a3 _ a5 W hT i1 l5 l1 (by omega) l3 (i64_bd w5)
-- END BY HAND

/-- A world for the witness: the settled one, the row's variables holding what is laid. -/
noncomputable def laidWorld (os : Os) : World :=
  { World.holding Tryd.prog os ⟨#[], #[], []⟩ with heap := (((World.holding Tryd.prog os ⟨#[], #[], []⟩).heap.modify 1 (layCells start0.vals)).modify 2 (layCells (wordv Kt).toArray)) }

/-- The witness' arguments. -/
def wargs : Array Value := #[.int .u32 0, .slice none 0 0, .int .i64 0, .int .i64 0, .int .u64 0, .int .i64 0]

theorem laid_met (os : Os) : laidMetH Tryd.prog Rows.tokenNarrowsRow.laid ((laidWorld os).forCall (fun _ _ => 0) ⟨#[], wargs, []⟩).memory :=
  laidMet_of_run' 8 (by kernel_rfl) (by kernel_rfl)

theorem reads (os : Os) {H : Type} (enc : TypeId × Value → H) : ∃ places, DataW.whole enc Tryd.prog ((laidWorld os).forCall (fun _ _ => 0) ⟨#[], wargs, []⟩).memory Tryd.f3.params.toList Rows.tokenNarrowsSpec.vars false wargs.toList 8 = some ([.lit (.int .u32 0), .nil, .lit (.int .i64 0), .lit (.int .i64 0), .lit (.int .u64 0), .lit (.int .i64 0)], [], places) :=
  ⟨[], by kernel_rfl⟩

set_option maxRecDepth 100000 in
theorem lifted (os : Os) (started : os.Started) (H : Type) (enc : TypeId × Value → H) (F : Stop.Interp) :
    ReturnsInHanded {} Tryd.checked os 3 .any ((OpenSpec.ofChange Rows.tokenNarrowsSpec).preRow enc Tryd.prog Tryd.f3 Rows.tokenNarrowsRow.domain false Rows.tokenNarrowsRow.laid) (((OpenSpec.ofChange Rows.tokenNarrowsSpec).at F).post enc Tryd.prog Tryd.f3 false true false false) := by
  obtain ⟨places, hx⟩ := reads os enc
  refine returnsInHanded_of_row (C := Tryd.checked) (s := OpenSpec.ofChange Rows.tokenNarrowsSpec) own started (by kernel_rfl) Tryd.func3
    (witness_row_at (enc := enc) (C := Tryd.checked) false (laidWorld os) wargs rfl (by kernel_rfl) (by kernel_rfl) (by kernel_rfl)
      (OpenSpec.preRow_of_cond 8 hx (by kernel_rfl) (fun k hk => by cases hk) (by kernel_rfl) (laid_met os))) ?_
  intro W base args ds gs before hval0 hW hcnd _ hsz0 hL _ _
  have hval : ∀ (j : Nat) t v, Tryd.f3.params[j]? = some t → args[j]? = some v → Value.okWide Tryd.prog W .any base t v := hval0
  have hW' := hW
  obtain ⟨p, q, hA0, hV, rfl, hfz, hnd⟩ := hW
  have hA : DataW.TrodAll enc Tryd.prog W 0 (fun _ => true) true Tryd.f3.params.toList args.toList ds p := hA0
  rw [Tryd.params3] at hA hval
  obtain ⟨v0, vs0, d0, ds0, p0, q0, hargs, rfl, rfl, h0, r0⟩ := trodAll_cons hA
  obtain ⟨v1, vs1, d1, ds1, p1, q1, rfl, rfl, rfl, h1, r1⟩ := trodAll_cons r0
  obtain ⟨v2, vs2, d2, ds2, p2, q2, rfl, rfl, rfl, h2, r2⟩ := trodAll_cons r1
  obtain ⟨v3, vs3, d3, ds3, p3, q3, rfl, rfl, rfl, h3, r3⟩ := trodAll_cons r2
  obtain ⟨v4, vs4, d4, ds4, p4, q4, rfl, rfl, rfl, h4, r4⟩ := trodAll_cons r3
  obtain ⟨v5, vs5, d5, ds5, p5, q5, rfl, rfl, rfl, h5, r5⟩ := trodAll_cons r4
  obtain ⟨rfl, rfl, rfl⟩ := trodAll_nil r5
  obtain rfl : args = #[v0, v1, v2, v3, v4, v5] := by cases args; simp_all
  obtain ⟨rfl, rfl⟩ := trodVars_none hV
  have lt0 : ∀ x ∈ p0, x.block < W.heap.size := by obtain ⟨m, hm⟩ := h0; exact DataW.trod_lt m _ _ _ hm
  have lt1 : ∀ x ∈ p1, x.block < W.heap.size := by obtain ⟨m, hm⟩ := h1; exact DataW.trod_lt m _ _ _ hm
  have lt2 : ∀ x ∈ p2, x.block < W.heap.size := by obtain ⟨m, hm⟩ := h2; exact DataW.trod_lt m _ _ _ hm
  have lt3 : ∀ x ∈ p3, x.block < W.heap.size := by obtain ⟨m, hm⟩ := h3; exact DataW.trod_lt m _ _ _ hm
  have lt4 : ∀ x ∈ p4, x.block < W.heap.size := by obtain ⟨m, hm⟩ := h4; exact DataW.trod_lt m _ _ _ hm
  have lt5 : ∀ x ∈ p5, x.block < W.heap.size := by obtain ⟨m, hm⟩ := h5; exact DataW.trod_lt m _ _ _ hm
  have hz0 : ∀ n ∈ d0.weights Tryd.prog 22, n ≤ reachBytes := fun n hn => by
    have := List.all_eq_true.1 hsz0 n (DataW.weights_mem_each (j := 0) (t := 22) (d := d0) rfl rfl n hn)
    simpa using this
  have hz1 : ∀ n ∈ d1.weights Tryd.prog 23, n ≤ reachBytes := fun n hn => by
    have := List.all_eq_true.1 hsz0 n (DataW.weights_mem_each (j := 1) (t := 23) (d := d1) rfl rfl n hn)
    simpa using this
  have hz2 : ∀ n ∈ d2.weights Tryd.prog 3, n ≤ reachBytes := fun n hn => by
    have := List.all_eq_true.1 hsz0 n (DataW.weights_mem_each (j := 2) (t := 3) (d := d2) rfl rfl n hn)
    simpa using this
  have hz3 : ∀ n ∈ d3.weights Tryd.prog 3, n ≤ reachBytes := fun n hn => by
    have := List.all_eq_true.1 hsz0 n (DataW.weights_mem_each (j := 3) (t := 3) (d := d3) rfl rfl n hn)
    simpa using this
  have hz4 : ∀ n ∈ d4.weights Tryd.prog 24, n ≤ reachBytes := fun n hn => by
    have := List.all_eq_true.1 hsz0 n (DataW.weights_mem_each (j := 4) (t := 24) (d := d4) rfl rfl n hn)
    simpa using this
  have hz5 : ∀ n ∈ d5.weights Tryd.prog 3, n ≤ reachBytes := fun n hn => by
    have := List.all_eq_true.1 hsz0 n (DataW.weights_mem_each (j := 5) (t := 3) (d := d5) rfl rfl n hn)
    simpa using this
  clear hA0 hval0
  refine (law_calls (enc := enc) (base := base) W (tabs_of_laid hL) v0 d0 p0 v1 d1 p1 v2 d2 p2 v3 d3 p3 v4 d4 p4 v5 d5 p5 (hval 0 22 v0 rfl rfl) h0 hz0 (hval 1 23 v1 rfl rfl) h1 hz1 (hval 2 3 v2 rfl rfl) h2 hz2 (hval 3 3 v3 rfl rfl) h3 hz3 (hval 4 24 v4 rfl rfl) h4 hz4 (hval 5 3 v5 rfl rfl) h5 hz5).mono fun e W' ⟨he, bel⟩ => ?_
  subst he
  have hp : Rows.tokenNarrowsSpec.post enc Tryd.prog Tryd.f3 false true false false W _ (.bool true) W' :=
    ⟨_, _, _, [], _, [], hW', trodAll_mk1 (shut_bool Tryd.underlying4 _), (trodAll_cons_mk (Below.trod laidOut (by kernel_rfl) (of_decide_eq_true (by kernel_rfl)) h0 bel lt0) (trodAll_cons_mk (Below.trod laidOut (by kernel_rfl) (of_decide_eq_true (by kernel_rfl)) h1 bel lt1) (trodAll_cons_mk (Below.trod laidOut (by kernel_rfl) (of_decide_eq_true (by kernel_rfl)) h2 bel lt2) (trodAll_cons_mk (Below.trod laidOut (by kernel_rfl) (of_decide_eq_true (by kernel_rfl)) h3 bel lt3) (trodAll_cons_mk (Below.trod laidOut (by kernel_rfl) (of_decide_eq_true (by kernel_rfl)) h4 bel lt4) (trodAll_cons_mk (Below.trod laidOut (by kernel_rfl) (of_decide_eq_true (by kernel_rfl)) h5 bel lt5) trodAll_mk0)))))), rfl, bel.frame _, fun h => by cases h⟩
  exact ⟨_, rfl, hp⟩

theorem said : Rows.TokenNarrowsSaid :=
  OpenClaim.holds_of_cond 3 Tryd.f3 rfl rfl rfl rfl rfl rfl rfl ⟨rfl, rfl, rfl, rfl, rfl⟩ rfl rfl rfl rfl rfl (by kernel_rfl) Tryd.func3 (by kernel_rfl)
    (of_decide_eq_true (by kernel_rfl)) (by unfold Func.isWrapper; first | (rw [if_pos (by decide +kernel)]; kernel_rfl) | (rw [if_neg (by decide +kernel)]; exact ⟨rfl, rfl⟩))
    (fun os started H enc _ F => by rw [OpenClaim.pre_eq_preRow]; exact lifted os started H enc F)

/-- No parameter wants a stand-in; the program's own looks are off. -/
theorem plain (f : FuncId) (fn : Func) (hf : Tryd.pinned.checked.prog.funcNamed "deponent/deponentlaw12.TokenNarrows" = some f) (hfn : Tryd.pinned.checked.prog.funcs[f]? = some fn) :
    true = Tryd.pinned.checked.prog.looks [] ∧ ∀ (j : Nat) t, fn.params[j]? = some t → Tryd.pinned.checked.prog.wantsStandIn t = false := by
  obtain rfl : f = 3 := Option.some.inj ((show Tryd.prog.funcNamed "deponent/deponentlaw12.TokenNarrows" = some 3 by kernel_rfl).symm.trans hf) |>.symm
  obtain rfl : fn = Tryd.f3 := (Option.some.inj (Tryd.func3.symm.trans hfn)).symm
  refine ⟨by kernel_rfl, fun j t ht => ?_⟩
  rw [Tryd.params3] at ht
  have hm := Array.mem_of_getElem? ht
  have hall : (#[22, 23, 3, 3, 24, 3] : Array TypeId).all (fun t => !Tryd.prog.wantsStandIn t) = true := by kernel_rfl
  have := Array.all_eq_true_iff_forall_mem.1 hall t hm
  exact (by simpa using this : Tryd.prog.wantsStandIn t = false)

/-- The statement. -/
theorem proved : Rows.TokenNarrowsCardSaid :=
  Claim7.holds_tied_plain_at .later [] _ _ _ _ said (fun _ h => by cases h) (by kernel_rfl) (fun _ h => by cases h) tokenNarrows_row_tie rfl ⟨rfl, rfl⟩ (by kernel_rfl) rfl plain (by kernel_rfl)

#print axioms proved

end Go.Proofs.YtamhggndcegndaaDoor.tokenNarrows
