/-
  A slice literal of one element of several cells, which nobody looks at.
-/
import Derived.Test.YtbkdccamimakoaaDoorRspAt
import Derived.Great.BuildSlice
namespace Go.Proofs.YtbkdccamimakoaaDoor
open Go.RowKit
set_option linter.unusedVariables false

theorem fill_one (V : List Value) (n : Nat) (hn : V.length = n) (hp : 0 < n) (cells : Array Value) (hc : cells.size = n) : Instr.fill (fun i => some (i * n, n)) cells [(0, .agg V.toArray)] = some V.toArray := by
  obtain ⟨r, h1, h2, h3⟩ := Great.fill_dense hp [.agg V.toArray] 0 cells (fun v hv => by obtain rfl := List.mem_singleton.1 hv; simp [Value.cells, hn]) (by simp [hc])
  have e : r = V.toArray := by
    refine Array.ext_getElem? fun k => ?_
    rw [h3 k]
    by_cases hk : k < n
    · rw [if_pos ⟨by omega, by simpa using hk⟩]
      have hd : k / n = 0 := Nat.div_eq_of_lt hk
      have hm : k % n = k := Nat.mod_eq_of_lt hk
      rw [hd, hm]
      simp [Value.cells]
    · rw [if_neg (by simp; omega)]
      rw [Array.getElem?_eq_none (by omega)]
      simp
      omega
  rw [e] at h1
  exact h1

theorem wp_buildSlice_one {P : Program} {o : Oper} {a : Act} {w : World} {K : Act → World → Prop} {Q : Exit → Act → World → Prop} (t e : TypeId) (x : Operand) (ho : o.op = .buildSlice t 1 #[(0, x)])
    (V : List Value) (hx : a.eval x = .agg V.toArray) (i : TypeInfo) (z : Value) (n : Nat) (hu : P.underlying t = some (.slice e)) (hie : P.info? e = some i) (hz : i.zero = some z) (hs : i.size = n) (hzs : z.cells.size = n) (hV : V.length = n) (hp : 0 < n) (hsm : n ≤ 1000)
    (h : K (a.put o.dst (.slice (some ⟨w.heap.size, 0, none⟩) 1 1)) (w.alloc (.cells V.toArray e))) : o.wp P a w K Q := by
  refine wp_buildSlice t e 1 #[(0, x)] ho V.toArray i z hu hie hz (by rw [hs]; omega) (by rw [hs]; omega) ?_ h
  rw [hs]
  simp only [List.map_toArray, List.map_cons, List.map_nil, hx]
  exact fill_one V n hV hp _ (by simp)

theorem wp_build_dig {o : Oper} {a : Act} {w : World} {K : Act → World → Prop} {Q : Exit → Act → World → Prop} (x : Operand) (ho : o.op = .buildSlice 51 1 #[(0, x)])
    (d : List Nat) (hd : d.length = 32) (hx : a.eval x = .agg (byv d).toArray)
    (h : K (a.put o.dst (.slice (some ⟨w.heap.size, 0, none⟩) 1 1)) (w.alloc (.cells (byv d).toArray 27))) : o.wp Tryd.prog a w K Q := by
  obtain ⟨i0, hi0, hz0, hz1, hz2⟩ := info_parts Tryd.digs_info
  exact wp_buildSlice_one _ 27 x ho (byv d) hx i0 _ 32 Tryd.underlying51 hi0 hz0 hz1 rfl (by rw [byv_length, hd]) (by decide) (by decide) h

theorem Rd.grownD {w w' : World} {B g base : Nat} {bs : List Nat} {s : RSt} {v : Value} {l : List (List Nat)} (h : Rd w B g bs s) (ho : OwnD w base v l) (hg : w.grownBy w' v.ownBlock) : Rd w' B g bs s := by
  rcases ho.2.2 with ⟨rfl, _⟩ | ⟨q, cap, cur, rfl, _, hh, _⟩
  · exact h.below ⟨hg.os, hg.tape, hg.output, hg.size, fun k hk => hg.block k hk (by simp [Value.ownBlock])⟩
  · obtain ⟨A, n, c, p, hgb, -⟩ := id h
    exact h.kept (k := q) (by simpa [Value.ownBlock] using hg) (show Blk w q 27 cur from hh) (by decide) (by decide) (hgb.ne_ (show Blk w q 27 cur from hh) (by decide))

theorem digv_one1 (d : List Nat) : digv [d] = byv d := by simp [digv]

/-- One hash, just laid. -/
theorem reads_dig (w : World) (d : List Nat) (hd : d.length = 32) : Reads (w.alloc (.cells (byv d).toArray 27)) (w.alloc (.cells (byv d).toArray 27)).heap.size 32 (some ⟨w.heap.size, 0, none⟩) 1 (digv [d]) := by
  have := Reads.new w 27 (byv d) 32 1 (by rw [byv_length, hd])
  rw [alloc_size, digv_one1]
  exact this

theorem own_own_ne {w : World} {b b' : Nat} {e e' : TypeId} {s s' n n' : Nat} {v v' : Value} {xs ys : List Value} (h : w.ownsRow b e s v n xs) (h' : w.ownsRow b' e' s' v' n' ys) (hne : e ≠ e') : v.ownBlock = none ∨ v.ownBlock ≠ v'.ownBlock := by
  rcases h.2 with ⟨rfl, _⟩ | ⟨g, cap, cur, rfl, _, hg, _⟩
  · exact .inl rfl
  · rcases h'.2 with ⟨rfl, _⟩ | ⟨g', cap', cur', rfl, _, hg', _⟩
    · exact .inr (by simp [Value.ownBlock])
    · refine .inr fun q => hne ?_
      simp only [Value.ownBlock, Option.some.injEq] at q
      subst q
      rw [hg] at hg'
      simp only [Option.some.injEq, Obj.cells.injEq] at hg'
      exact hg'.2.1

end Go.Proofs.YtbkdccamimakoaaDoor
