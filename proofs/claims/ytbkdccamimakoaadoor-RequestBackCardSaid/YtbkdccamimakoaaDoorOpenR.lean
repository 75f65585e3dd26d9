/-
  Requests that came in, opened.
-/
import Derived.Test.YtbkdccamimakoaaDoorReq
import Derived.Test.YtbkdccamimakoaaDoorOpenT
namespace Go.Proofs.YtbkdccamimakoaaDoor
open Go.RowKit Go.ChangeShapes Go.WideShapes Go.ChangeAt Go.Deep
set_option linter.unusedVariables false

section
variable {H : Type} {enc : TypeId × Value → H} {W : World} {base : Nat} {held : Bool}

/-- A request. -/
theorem trod_request {fuel : Nat} {cs : List Value} {x : DataW H × List MemPlace} (h : DataW.trod enc Tryd.prog W base (fun _ => true) held fuel 32 cs = some x) :
    ∃ (R : Req) (Ac : Option Addr) (cc : Nat) (Al : Option Addr) (cl : Nat), cs = reqv R (.slice Ac R.cavs.length cc) (.slice Al R.leaf.length cl) ∧ R.Good ∧ R.cavs.length ≤ cc ∧ cc ≤ maxLen ∧ R.leaf.length ≤ cl ∧ cl ≤ maxLen ∧
      Reads W W.heap.size 2 Ac R.cavs.length (cavv R.cavs) ∧ Reads W W.heap.size 1 Al R.leaf.length (byv R.leaf) ∧ (∀ M, (∀ n ∈ x.1.weights Tryd.prog 32, n ≤ M) → cc * 16 ≤ M) := by
  obtain ⟨xs, n, -, hx0, hlen, hxl, hf⟩ := DataW.trod_struct Tryd.underlying32 h
  have c1 : (Tryd.prog).cellsOf 3 = 1 := by kernel_rfl
  have c2 : (Tryd.prog).cellsOf 29 = 34 := by kernel_rfl
  have c3 : (Tryd.prog).cellsOf 24 = 1 := by kernel_rfl
  have c4 : (Tryd.prog).cellsOf 30 = 1 := by kernel_rfl
  have c5 : (Tryd.prog).cellsOf 22 = 1 := by kernel_rfl
  have c6 : (Tryd.prog).cellsOf 32 = 48 := by kernel_rfl
  rw [c6] at hlen
  have hx : ∀ i, i < 15 → ∃ y, xs[i]? = some y := fun i hi => some_of_lt (by rw [hxl]; exact hi)
  obtain ⟨y0, h0⟩ := hx 0 (by omega)
  obtain ⟨y1, h1⟩ := hx 1 (by omega)
  obtain ⟨y2, h2⟩ := hx 2 (by omega)
  obtain ⟨y3, h3⟩ := hx 3 (by omega)
  obtain ⟨y4, h4⟩ := hx 4 (by omega)
  obtain ⟨y5, h5⟩ := hx 5 (by omega)
  obtain ⟨y6, h6⟩ := hx 6 (by omega)
  obtain ⟨y7, h7⟩ := hx 7 (by omega)
  obtain ⟨y8, h8⟩ := hx 8 (by omega)
  obtain ⟨y9, h9⟩ := hx 9 (by omega)
  obtain ⟨y10, h10⟩ := hx 10 (by omega)
  obtain ⟨y11, h11⟩ := hx 11 (by omega)
  obtain ⟨y12, h12⟩ := hx 12 (by omega)
  obtain ⟨y13, h13⟩ := hx 13 (by omega)
  obtain ⟨y14, h14⟩ := hx 14 (by omega)
  have g0 := (hf 0 _ rfl).trans h0
  have g1 := (hf 1 _ rfl).trans h1
  have g2 := (hf 2 _ rfl).trans h2
  have g3 := (hf 3 _ rfl).trans h3
  have g4 := (hf 4 _ rfl).trans h4
  have g5 := (hf 5 _ rfl).trans h5
  have g6 := (hf 6 _ rfl).trans h6
  have g7 := (hf 7 _ rfl).trans h7
  have g8 := (hf 8 _ rfl).trans h8
  have g9 := (hf 9 _ rfl).trans h9
  have g10 := (hf 10 _ rfl).trans h10
  have g11 := (hf 11 _ rfl).trans h11
  have g12 := (hf 12 _ rfl).trans h12
  have g13 := (hf 13 _ rfl).trans h13
  have g14 := (hf 14 _ rfl).trans h14
  simp only [List.getElem_toArray, List.getElem_cons_zero, List.getElem_cons_succ] at g0 g1 g2 g3 g4 g5 g6 g7 g8 g9 g10 g11 g12 g13 g14
  rw [c1] at g0 g2 g3 g4 g5 g6
  rw [c2] at g1
  rw [c3] at g7 g10 g11 g12
  rw [c4] at g8 g9 g13
  rw [c5] at g14
  obtain ⟨op, e0, -, w0⟩ := DataW.trod_int Tryd.underlying3 g0
  obtain ⟨tid, Ac, cc, cavs, tag, e1, t0, t1, t2, t3, t4, t5, t6, t7, t8⟩ := trod_token g1
  obtain ⟨tree, e2, -, w2⟩ := DataW.trod_int Tryd.underlying3 g2
  obtain ⟨tenant, e3, -, w3⟩ := DataW.trod_int Tryd.underlying3 g3
  obtain ⟨role, e4, -, w4⟩ := DataW.trod_int Tryd.underlying3 g4
  obtain ⟨state, e5, -, w5⟩ := DataW.trod_int Tryd.underlying3 g5
  obtain ⟨weight, e6, -, w6⟩ := DataW.trod_int Tryd.underlying3 g6
  obtain ⟨id, e7, -, w7⟩ := DataW.trod_int Tryd.underlying24 g7
  obtain ⟨lo, e8, -, w8⟩ := DataW.trod_int Tryd.underlying30 g8
  obtain ⟨hi, e9, -, w9⟩ := DataW.trod_int Tryd.underlying30 g9
  obtain ⟨rate, e10, -, w10⟩ := DataW.trod_int Tryd.underlying24 g10
  obtain ⟨burst, e11, -, w11⟩ := DataW.trod_int Tryd.underlying24 g11
  obtain ⟨store, e12, -, w12⟩ := DataW.trod_int Tryd.underlying24 g12
  obtain ⟨expires, e13, -, w13⟩ := DataW.trod_int Tryd.underlying30 g13
  obtain ⟨Al, cl, leaf, e14, l1, l2, l3, l4⟩ := trod_bytes g14
  refine ⟨⟨op, tid, cavs, tag, tree, tenant, role, state, weight, id.toNat, lo.toNat, hi.toNat, rate.toNat, burst.toNat, store.toNat, expires.toNat, leaf⟩, Ac, cc, Al, cl, ?_, ?_, t1, t2, l1, l2, t5, l4, fun M hM => t8 M fun n hn => hM n ?_⟩
  · have : cs = (cs.drop 0).take 1 ++ ((cs.drop 1).take 34 ++ ((cs.drop 35).take 1 ++ ((cs.drop 36).take 1 ++ ((cs.drop 37).take 1 ++ ((cs.drop 38).take 1 ++ ((cs.drop 39).take 1 ++ ((cs.drop 40).take 1 ++ ((cs.drop 41).take 1 ++ ((cs.drop 42).take 1 ++ ((cs.drop 43).take 1 ++ ((cs.drop 44).take 1 ++ ((cs.drop 45).take 1 ++ ((cs.drop 46).take 1 ++ ((cs.drop 47).take 1 ++ cs.drop 48)))))))))))))) := by
      rw [← drop_split cs 47 1, ← drop_split cs 46 1, ← drop_split cs 45 1, ← drop_split cs 44 1, ← drop_split cs 43 1, ← drop_split cs 42 1, ← drop_split cs 41 1, ← drop_split cs 40 1, ← drop_split cs 39 1, ← drop_split cs 38 1, ← drop_split cs 37 1, ← drop_split cs 36 1, ← drop_split cs 35 1, ← drop_split cs 1 34, ← drop_split cs 0 1]
      rfl
    rw [this, e0, e1, e2, e3, e4, e5, e6, e7, e8, e9, e10, e11, e12, e13, e14, List.drop_eq_nil_of_le (by omega)]
    simp [reqv, tokv, Req.rest, (u32_toNat w7).1, (u64_toNat w8).1, (u64_toNat w9).1, (u32_toNat w10).1, (u32_toNat w11).1, (u32_toNat w12).1, (u64_toNat w13).1]
  · exact ⟨t6, t7, t0, t3, t4, w0, w2, w3, w4, w5, w6, (u32_toNat w7).2, (u64_toNat w8).2, (u64_toNat w9).2, (u32_toNat w10).2, (u32_toNat w11).2, (u32_toNat w12).2, (u64_toNat w13).2, l3⟩
  · rw [hx0]
    unfold DataW.weights
    rw [Tryd.underlying32]
    exact DataW.weights_mem_each (j := 1) rfl (by rw [List.getElem?_map, h1]; rfl) n hn
end

end Go.Proofs.YtbkdccamimakoaaDoor
