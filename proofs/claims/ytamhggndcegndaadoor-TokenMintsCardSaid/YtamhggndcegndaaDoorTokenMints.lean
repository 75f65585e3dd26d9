/-
  The law TokenMints: it returns true for every input, and leaves what was there as it was. (The frame is written by program, wip/frame.py, after the kit's skeleton.)
-/
import Derived.Test.YtamhggndcegndaaDoorRows
import Derived.Test.YtamhggndcegndaaDoorCards
import Derived.Test.YtamhggndcegndaaDoorTie
import Derived.Deep.DeepHandedRow
import Derived.Lib.LaidTab
import Derived.Test.YtamhggndcegndaaDoorLaid
import Derived.WalkKit
import Derived.ProofKit
import Derived.OpenShut
import Derived.ShutString
import Derived.ChangeOld
import Derived.Below
import Derived.Lib.SmallJoins
import Derived.SizedLaws
import Derived.Test.YtamhggndcegndaaDoorMintsL
import Derived.Test.YtamhggndcegndaaDoorOpenT
import Derived.Test.YtamhggndcegndaaDoorOpenU

namespace Go.Proofs.YtamhggndcegndaaDoor.tokenMints
open Go.ChangeShapes Go.WideShapes Go.ChangeAt Go.RowKit
open Go.ChangeMaps (open_string shut_string)
set_option linter.unusedVariables false

theorem own : ownKnob Tryd.prog.godebug = none := by kernel_rfl

theorem laidOut : laidOutB Tryd.prog = true := by kernel_rfl

-- BY HAND
set_option maxRecDepth 100000 in
set_option maxHeartbeats 4000000 in
theorem law_calls {H : Type} {enc : TypeId × Value → H} {base : Nat} (W : World) (hT : Tabs W) (v0 : Value) (d0 : DataW H) (p0 : List MemPlace) (v1 : Value) (d1 : DataW H) (p1 : List MemPlace) (v2 : Value) (d2 : DataW H) (p2 : List MemPlace) (v3 : Value) (d3 : DataW H) (p3 : List MemPlace) (v4 : Value) (d4 : DataW H) (p4 : List MemPlace) (v5 : Value) (d5 : DataW H) (p5 : List MemPlace) (v6 : Value) (d6 : DataW H) (p6 : List MemPlace) (v7 : Value) (d7 : DataW H) (p7 : List MemPlace)
    (o0 : Value.okWide Tryd.prog W .any base 28 v0) (h0 : DataW.Trod enc Tryd.prog W 0 (fun _ => true) true 28 v0 d0 p0) (z0 : ∀ n ∈ d0.weights Tryd.prog 28, n ≤ reachBytes) (o1 : Value.okWide Tryd.prog W .any base 22 v1) (h1 : DataW.Trod enc Tryd.prog W 0 (fun _ => true) true 22 v1 d1 p1) (z1 : ∀ n ∈ d1.weights Tryd.prog 22, n ≤ reachBytes) (o2 : Value.okWide Tryd.prog W .any base 23 v2) (h2 : DataW.Trod enc Tryd.prog W 0 (fun _ => true) true 23 v2 d2 p2) (z2 : ∀ n ∈ d2.weights Tryd.prog 23, n ≤ reachBytes) (o3 : Value.okWide Tryd.prog W .any base 30 v3) (h3 : DataW.Trod enc Tryd.prog W 0 (fun _ => true) true 30 v3 d3 p3) (z3 : ∀ n ∈ d3.weights Tryd.prog 30, n ≤ reachBytes) (o4 : Value.okWide Tryd.prog W .any base 3 v4) (h4 : DataW.Trod enc Tryd.prog W 0 (fun _ => true) true 3 v4 d4 p4) (z4 : ∀ n ∈ d4.weights Tryd.prog 3, n ≤ reachBytes) (o5 : Value.okWide Tryd.prog W .any base 3 v5) (h5 : DataW.Trod enc Tryd.prog W 0 (fun _ => true) true 3 v5 d5 p5) (z5 : ∀ n ∈ d5.weights Tryd.prog 3, n ≤ reachBytes) (o6 : Value.okWide Tryd.prog W .any base 24 v6) (h6 : DataW.Trod enc Tryd.prog W 0 (fun _ => true) true 24 v6 d6 p6) (z6 : ∀ n ∈ d6.weights Tryd.prog 24, n ≤ reachBytes) (o7 : Value.okWide Tryd.prog W .any base 46 v7) (h7 : DataW.Trod enc Tryd.prog W 0 (fun _ => true) true 46 v7 d7 p7) (z7 : ∀ n ∈ d7.weights Tryd.prog 46, n ≤ reachBytes) :
    Calls Tryd.prog 5 #[v0, v1, v2, v3, v4, v5, v6, v7] W fun e w' => e = .returned (.bool true) ∧ Below W.heap.size W w' := by
  obtain ⟨a1, rfl, -, -, w1⟩ := open_int Tryd.underlying22 o1 h1
  obtain ⟨a4, rfl, -, -, w4⟩ := open_int Tryd.underlying3 o4 h4
  obtain ⟨a5, rfl, -, -, w5⟩ := open_int Tryd.underlying3 o5 h5
  obtain ⟨a6, rfl, -, -, w6⟩ := open_int Tryd.underlying24 o6 h6
  obtain ⟨cs0, rfl, -⟩ := okWide_array Tryd.underlying28 o0
  obtain ⟨A2, n2, c2, rfl⟩ := okWide_slice Tryd.underlying23 o2
  obtain ⟨cs3, rfl, -⟩ := okWide_struct Tryd.underlying30 o3
  obtain ⟨A7, n7, c7, rfl⟩ := okWide_slice Tryd.underlying46 o7
  obtain ⟨f0, hf0⟩ := h0
  obtain ⟨f2, hf2⟩ := h2
  obtain ⟨f3, hf3⟩ := h3
  obtain ⟨f7, hf7⟩ := h7
  obtain ⟨key, e0, k1, k2⟩ := trod_digest hf0
  obtain ⟨A2', c2', l, e2, l1, l2, l3, l4, l5, l6⟩ := trod_cavs hf2
  obtain ⟨id, A, c, y, tag, e3, hid, hlc, hc, hln, hwf, hr, ht, htb, t6⟩ := trod_token hf3
  obtain ⟨A7', c7', ms, e7, m1, m2, m3, m4, m5⟩ := trod_u32s hf7
  have q0 : cs0 = (byv key).toArray := by rw [show (Value.agg cs0).cells = cs0 from rfl] at e0; exact Array.ext' e0
  have q3 : cs3 = (tokv id (.slice A y.length c) tag).toArray := by rw [show (Value.agg cs3).cells = cs3 from rfl] at e3; exact Array.ext' e3
  simp [Value.cells] at e2 e7
  obtain ⟨rfl, rfl, rfl⟩ := e2
  obtain ⟨rfl, rfl, rfl⟩ := e7
  have r2 := l6 reachBytes z2
  have r3 := t6 reachBytes z3
  have r7 := m5 reachBytes z7
  simp only [reachBytes] at r2 r3 r7
  obtain ⟨i0, i1⟩ := u32_toNat w1
  obtain ⟨j0, j1⟩ := u64_toNat w6
  have b4 := i64_bd w4
  have b5 := i64_bd w5
  rw [q0, q3, ← i0, ← j0]
  exact mints_walk key _ l _ _ _ (id, y, tag) A _ c a4 a5 _ ms _ _ _ W hT k1 k2 i1 l5 l1 (by omega) l3 ⟨hid, hln, ht, htb⟩ hr hlc (by omega) (by omega) (by omega) m4 (by omega)
-- END BY HAND

/-- A world for the witness: the settled one, the row's variables holding what is laid. -/
noncomputable def laidWorld (os : Os) : World :=
  { World.holding Tryd.prog os ⟨#[], #[], []⟩ with heap := (((World.holding Tryd.prog os ⟨#[], #[], []⟩).heap.modify 1 (layCells start0.vals)).modify 2 (layCells (wordv Kt).toArray)) }

/-- The witness' arguments. -/
def wargs : Array Value := #[.agg #[.int .u8 0, .int .u8 0, .int .u8 0, .int .u8 0, .int .u8 0, .int .u8 0, .int .u8 0, .int .u8 0, .int .u8 0, .int .u8 0, .int .u8 0, .int .u8 0, .int .u8 0, .int .u8 0, .int .u8 0, .int .u8 0, .int .u8 0, .int .u8 0, .int .u8 0, .int .u8 0, .int .u8 0, .int .u8 0, .int .u8 0, .int .u8 0, .int .u8 0, .int .u8 0, .int .u8 0, .int .u8 0, .int .u8 0, .int .u8 0, .int .u8 0, .int .u8 0], .int .u32 0, .slice none 0 0, .agg #[.int .u32 0, .slice none 0 0, .int .u8 0, .int .u8 0, .int .u8 0, .int .u8 0, .int .u8 0, .int .u8 0, .int .u8 0, .int .u8 0, .int .u8 0, .int .u8 0, .int .u8 0, .int .u8 0, .int .u8 0, .int .u8 0, .int .u8 0, .int .u8 0, .int .u8 0, .int .u8 0, .int .u8 0, .int .u8 0, .int .u8 0, .int .u8 0, .int .u8 0, .int .u8 0, .int .u8 0, .int .u8 0, .int .u8 0, .int .u8 0, .int .u8 0, .int .u8 0, .int .u8 0, .int .u8 0], .int .i64 0, .int .i64 0, .int .u64 0, .slice none 0 0]

theorem laid_met (os : Os) : laidMetH Tryd.prog Rows.tokenMintsRow.laid ((laidWorld os).forCall (fun _ _ => 0) ⟨#[], wargs, []⟩).memory :=
  laidMet_of_run' 8 (by kernel_rfl) (by kernel_rfl)

theorem reads (os : Os) {H : Type} (enc : TypeId × Value → H) : ∃ places, DataW.whole enc Tryd.prog ((laidWorld os).forCall (fun _ _ => 0) ⟨#[], wargs, []⟩).memory Tryd.f5.params.toList Rows.tokenMintsSpec.vars false wargs.toList 8 = some ([.agg [.lit (.int .u8 0), .lit (.int .u8 0), .lit (.int .u8 0), .lit (.int .u8 0), .lit (.int .u8 0), .lit (.int .u8 0), .lit (.int .u8 0), .lit (.int .u8 0), .lit (.int .u8 0), .lit (.int .u8 0), .lit (.int .u8 0), .lit (.int .u8 0), .lit (.int .u8 0), .lit (.int .u8 0), .lit (.int .u8 0), .lit (.int .u8 0), .lit (.int .u8 0), .lit (.int .u8 0), .lit (.int .u8 0), .lit (.int .u8 0), .lit (.int .u8 0), .lit (.int .u8 0), .lit (.int .u8 0), .lit (.int .u8 0), .lit (.int .u8 0), .lit (.int .u8 0), .lit (.int .u8 0), .lit (.int .u8 0), .lit (.int .u8 0), .lit (.int .u8 0), .lit (.int .u8 0), .lit (.int .u8 0)], .lit (.int .u32 0), .nil, .agg [.lit (.int .u32 0), .nil, .agg [.lit (.int .u8 0), .lit (.int .u8 0), .lit (.int .u8 0), .lit (.int .u8 0), .lit (.int .u8 0), .lit (.int .u8 0), .lit (.int .u8 0), .lit (.int .u8 0), .lit (.int .u8 0), .lit (.int .u8 0), .lit (.int .u8 0), .lit (.int .u8 0), .lit (.int .u8 0), .lit (.int .u8 0), .lit (.int .u8 0), .lit (.int .u8 0), .lit (.int .u8 0), .lit (.int .u8 0), .lit (.int .u8 0), .lit (.int .u8 0), .lit (.int .u8 0), .lit (.int .u8 0), .lit (.int .u8 0), .lit (.int .u8 0), .lit (.int .u8 0), .lit (.int .u8 0), .lit (.int .u8 0), .lit (.int .u8 0), .lit (.int .u8 0), .lit (.int .u8 0), .lit (.int .u8 0), .lit (.int .u8 0)]], .lit (.int .i64 0), .lit (.int .i64 0), .lit (.int .u64 0), .nil], [], places) :=
  ⟨[], by kernel_rfl⟩

set_option maxRecDepth 100000 in
theorem lifted (os : Os) (started : os.Started) (H : Type) (enc : TypeId × Value → H) (F : Stop.Interp) :
    ReturnsInHanded {} Tryd.checked os 5 .any ((OpenSpec.ofChange Rows.tokenMintsSpec).preRow enc Tryd.prog Tryd.f5 Rows.tokenMintsRow.domain false Rows.tokenMintsRow.laid) (((OpenSpec.ofChange Rows.tokenMintsSpec).at F).post enc Tryd.prog Tryd.f5 false true false false) := by
  obtain ⟨places, hx⟩ := reads os enc
  refine returnsInHanded_of_row (C := Tryd.checked) (s := OpenSpec.ofChange Rows.tokenMintsSpec) own started (by kernel_rfl) Tryd.func5
    (witness_row_at (enc := enc) (C := Tryd.checked) false (laidWorld os) wargs rfl (by kernel_rfl) (by kernel_rfl) (by kernel_rfl)
      (OpenSpec.preRow_of_cond 8 hx (by kernel_rfl) (fun k hk => by cases hk) (by kernel_rfl) (laid_met os))) ?_
  intro W base args ds gs before hval0 hW hcnd _ hsz0 hL _ _
  have hval : ∀ (j : Nat) t v, Tryd.f5.params[j]? = some t → args[j]? = some v → Value.okWide Tryd.prog W .any base t v := hval0
  have hW' := hW
  obtain ⟨p, q, hA0, hV, rfl, hfz, hnd⟩ := hW
  have hA : DataW.TrodAll enc Tryd.prog W 0 (fun _ => true) true Tryd.f5.params.toList args.toList ds p := hA0
  rw [Tryd.params5] at hA hval
  obtain ⟨v0, vs0, d0, ds0, p0, q0, hargs, rfl, rfl, h0, r0⟩ := trodAll_cons hA
  obtain ⟨v1, vs1, d1, ds1, p1, q1, rfl, rfl, rfl, h1, r1⟩ := trodAll_cons r0
  obtain ⟨v2, vs2, d2, ds2, p2, q2, rfl, rfl, rfl, h2, r2⟩ := trodAll_cons r1
  obtain ⟨v3, vs3, d3, ds3, p3, q3, rfl, rfl, rfl, h3, r3⟩ := trodAll_cons r2
  obtain ⟨v4, vs4, d4, ds4, p4, q4, rfl, rfl, rfl, h4, r4⟩ := trodAll_cons r3
  obtain ⟨v5, vs5, d5, ds5, p5, q5, rfl, rfl, rfl, h5, r5⟩ := trodAll_cons r4
  obtain ⟨v6, vs6, d6, ds6, p6, q6, rfl, rfl, rfl, h6, r6⟩ := trodAll_cons r5
  obtain ⟨v7, vs7, d7, ds7, p7, q7, rfl, rfl, rfl, h7, r7⟩ := trodAll_cons r6
  obtain ⟨rfl, rfl, rfl⟩ := trodAll_nil r7
  obtain rfl : args = #[v0, v1, v2, v3, v4, v5, v6, v7] := by cases args; simp_all
  obtain ⟨rfl, rfl⟩ := trodVars_none hV
  have lt0 : ∀ x ∈ p0, x.block < W.heap.size := by obtain ⟨m, hm⟩ := h0; exact DataW.trod_lt m _ _ _ hm
  have lt1 : ∀ x ∈ p1, x.block < W.heap.size := by obtain ⟨m, hm⟩ := h1; exact DataW.trod_lt m _ _ _ hm
  have lt2 : ∀ x ∈ p2, x.block < W.heap.size := by obtain ⟨m, hm⟩ := h2; exact DataW.trod_lt m _ _ _ hm
  have lt3 : ∀ x ∈ p3, x.block < W.heap.size := by obtain ⟨m, hm⟩ := h3; exact DataW.trod_lt m _ _ _ hm
  have lt4 : ∀ x ∈ p4, x.block < W.heap.size := by obtain ⟨m, hm⟩ := h4; exact DataW.trod_lt m _ _ _ hm
  have lt5 : ∀ x ∈ p5, x.block < W.heap.size := by obtain ⟨m, hm⟩ := h5; exact DataW.trod_lt m _ _ _ hm
  have lt6 : ∀ x ∈ p6, x.block < W.heap.size := by obtain ⟨m, hm⟩ := h6; exact DataW.trod_lt m _ _ _ hm
  have lt7 : ∀ x ∈ p7, x.block < W.heap.size := by obtain ⟨m, hm⟩ := h7; exact DataW.trod_lt m _ _ _ hm
  have hz0 : ∀ n ∈ d0.weights Tryd.prog 28, n ≤ reachBytes := fun n hn => by
    have := List.all_eq_true.1 hsz0 n (DataW.weights_mem_each (j := 0) (t := 28) (d := d0) rfl rfl n hn)
    simpa using this
  have hz1 : ∀ n ∈ d1.weights Tryd.prog 22, n ≤ reachBytes := fun n hn => by
    have := List.all_eq_true.1 hsz0 n (DataW.weights_mem_each (j := 1) (t := 22) (d := d1) rfl rfl n hn)
    simpa using this
  have hz2 : ∀ n ∈ d2.weights Tryd.prog 23, n ≤ reachBytes := fun n hn => by
    have := List.all_eq_true.1 hsz0 n (DataW.weights_mem_each (j := 2) (t := 23) (d := d2) rfl rfl n hn)
    simpa using this
  have hz3 : ∀ n ∈ d3.weights Tryd.prog 30, n ≤ reachBytes := fun n hn => by
    have := List.all_eq_true.1 hsz0 n (DataW.weights_mem_each (j := 3) (t := 30) (d := d3) rfl rfl n hn)
    simpa using this
  have hz4 : ∀ n ∈ d4.weights Tryd.prog 3, n ≤ reachBytes := fun n hn => by
    have := List.all_eq_true.1 hsz0 n (DataW.weights_mem_each (j := 4) (t := 3) (d := d4) rfl rfl n hn)
    simpa using this
  have hz5 : ∀ n ∈ d5.weights Tryd.prog 3, n ≤ reachBytes := fun n hn => by
    have := List.all_eq_true.1 hsz0 n (DataW.weights_mem_each (j := 5) (t := 3) (d := d5) rfl rfl n hn)
    simpa using this
  have hz6 : ∀ n ∈ d6.weights Tryd.prog 24, n ≤ reachBytes := fun n hn => by
    have := List.all_eq_true.1 hsz0 n (DataW.weights_mem_each (j := 6) (t := 24) (d := d6) rfl rfl n hn)
    simpa using this
  have hz7 : ∀ n ∈ d7.weights Tryd.prog 46, n ≤ reachBytes := fun n hn => by
    have := List.all_eq_true.1 hsz0 n (DataW.weights_mem_each (j := 7) (t := 46) (d := d7) rfl rfl n hn)
    simpa using this
  clear hA0 hval0
  refine (law_calls (enc := enc) (base := base) W (tabs_of_laid hL) v0 d0 p0 v1 d1 p1 v2 d2 p2 v3 d3 p3 v4 d4 p4 v5 d5 p5 v6 d6 p6 v7 d7 p7 (hval 0 28 v0 rfl rfl) h0 hz0 (hval 1 22 v1 rfl rfl) h1 hz1 (hval 2 23 v2 rfl rfl) h2 hz2 (hval 3 30 v3 rfl rfl) h3 hz3 (hval 4 3 v4 rfl rfl) h4 hz4 (hval 5 3 v5 rfl rfl) h5 hz5 (hval 6 24 v6 rfl rfl) h6 hz6 (hval 7 46 v7 rfl rfl) h7 hz7).mono fun e W' ⟨he, bel⟩ => ?_
  subst he
  have hp : Rows.tokenMintsSpec.post enc Tryd.prog Tryd.f5 false true false false W _ (.bool true) W' :=
    ⟨_, _, _, [], _, [], hW', trodAll_mk1 (shut_bool Tryd.underlying4 _), (trodAll_cons_mk (Below.trod laidOut (by kernel_rfl) (of_decide_eq_true (by kernel_rfl)) h0 bel lt0) (trodAll_cons_mk (Below.trod laidOut (by kernel_rfl) (of_decide_eq_true (by kernel_rfl)) h1 bel lt1) (trodAll_cons_mk (Below.trod laidOut (by kernel_rfl) (of_decide_eq_true (by kernel_rfl)) h2 bel lt2) (trodAll_cons_mk (Below.trod laidOut (by kernel_rfl) (of_decide_eq_true (by kernel_rfl)) h3 bel lt3) (trodAll_cons_mk (Below.trod laidOut (by kernel_rfl) (of_decide_eq_true (by kernel_rfl)) h4 bel lt4) (trodAll_cons_mk (Below.trod laidOut (by kernel_rfl) (of_decide_eq_true (by kernel_rfl)) h5 bel lt5) (trodAll_cons_mk (Below.trod laidOut (by kernel_rfl) (of_decide_eq_true (by kernel_rfl)) h6 bel lt6) (trodAll_cons_mk (Below.trod laidOut (by kernel_rfl) (of_decide_eq_true (by kernel_rfl)) h7 bel lt7) trodAll_mk0)))))))), rfl, bel.frame _, fun h => by cases h⟩
  exact ⟨_, rfl, hp⟩

theorem said : Rows.TokenMintsSaid :=
  OpenClaim.holds_of_cond 5 Tryd.f5 rfl rfl rfl rfl rfl rfl rfl ⟨rfl, rfl, rfl, rfl, rfl⟩ rfl rfl rfl rfl rfl (by kernel_rfl) Tryd.func5 (by kernel_rfl)
    (of_decide_eq_true (by kernel_rfl)) (by unfold Func.isWrapper; first | (rw [if_pos (by decide +kernel)]; kernel_rfl) | (rw [if_neg (by decide +kernel)]; exact ⟨rfl, rfl⟩))
    (fun os started H enc _ F => by rw [OpenClaim.pre_eq_preRow]; exact lifted os started H enc F)

/-- No parameter wants a stand-in; the program's own looks are off. -/
theorem plain (f : FuncId) (fn : Func) (hf : Tryd.pinned.checked.prog.funcNamed "deponent/deponentlaw12.TokenMints" = some f) (hfn : Tryd.pinned.checked.prog.funcs[f]? = some fn) :
    true = Tryd.pinned.checked.prog.looks [] ∧ ∀ (j : Nat) t, fn.params[j]? = some t → Tryd.pinned.checked.prog.wantsStandIn t = false := by
  obtain rfl : f = 5 := Option.some.inj ((show Tryd.prog.funcNamed "deponent/deponentlaw12.TokenMints" = some 5 by kernel_rfl).symm.trans hf) |>.symm
  obtain rfl : fn = Tryd.f5 := (Option.some.inj (Tryd.func5.symm.trans hfn)).symm
  refine ⟨by kernel_rfl, fun j t ht => ?_⟩
  rw [Tryd.params5] at ht
  have hm := Array.mem_of_getElem? ht
  have hall : (#[28, 22, 23, 30, 3, 3, 24, 46] : Array TypeId).all (fun t => !Tryd.prog.wantsStandIn t) = true := by kernel_rfl
  have := Array.all_eq_true_iff_forall_mem.1 hall t hm
  exact (by simpa using this : Tryd.prog.wantsStandIn t = false)

/-- The statement. -/
theorem proved : Rows.TokenMintsCardSaid :=
  Claim7.holds_tied_plain_at .later [] _ _ _ _ said (fun _ h => by cases h) (by kernel_rfl) (fun _ h => by cases h) tokenMints_row_tie rfl ⟨rfl, rfl⟩ (by kernel_rfl) rfl plain (by kernel_rfl)

#print axioms proved

end Go.Proofs.YtamhggndcegndaaDoor.tokenMints
