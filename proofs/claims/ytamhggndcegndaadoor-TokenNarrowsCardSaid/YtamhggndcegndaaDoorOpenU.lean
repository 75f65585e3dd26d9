/-
  Arguments opened: a slice of numbers of 32 bits; an array.
-/
import Derived.Test.YtamhggndcegndaaDoorOpenT
import Derived.Test.YtamhggndcegndaaDoorForged
namespace Go.Proofs.YtamhggndcegndaaDoor
open Go.RowKit Go.ChangeShapes Go.WideShapes Go.ChangeAt
set_option linter.unusedVariables false

section
variable {H : Type} {enc : TypeId × Value → H} {W : World} {base : Nat} {held : Bool}

theorem okWide_array {P : Program} {r : Reach} {w : World} {t e : TypeId} {n : Nat} {v : Value} (ht : P.underlying t = some (.array n e)) (h : Value.okWide P w r base t v) : ∃ cs, v = .agg cs ∧ cs.size = P.cellsOf t := by
  simp only [Value.okWide, ht] at h
  obtain ⟨cs, h1, h2, _⟩ := h
  exact ⟨cs, h1, h2⟩

/-- A slice of numbers. -/
theorem trod_u32s {fuel : Nat} {cs : List Value} {x : DataW H × List MemPlace} (h : DataW.trod enc Tryd.prog W base (fun _ => true) held fuel 46 cs = some x) :
    ∃ (A : Option Addr) (c : Nat) (ms : List Nat), cs = [.slice A ms.length c] ∧ ms.length ≤ c ∧ c ≤ maxLen ∧ (∀ b ∈ ms, b < 4294967296) ∧ Reads W W.heap.size 1 A ms.length (u32v ms) ∧ (∀ M, (∀ n ∈ x.1.weights Tryd.prog 46, n ≤ M) → c * 4 ≤ M) := by
  have hby : (Tryd.prog).bytesOf 22 = 4 := by kernel_rfl
  rcases open_ints Tryd.underlying46 Tryd.underlying22 (by kernel_rfl) h with ⟨hcs, _⟩ | ⟨a, l, c, zs, hcs, _, hl, hm, hz, hx0, hcell, hwz⟩
  · exact ⟨none, 0, [], hcs, Nat.le_refl _, by simp [maxLen], by simp, Reads.none_, fun M _ => by omega⟩
  · have hz' : zs.length = c := by simpa using hz
    have hlen : ((zs.take l).map Int.toNat).length = l := by simp; omega
    have h1 : u32v ((zs.take l).map Int.toNat) = (zs.take l).map (Value.int .u32) := by
      unfold u32v
      rw [List.map_map]
      refine List.map_congr_left fun z hz => ?_
      simp only [Function.comp]
      rw [(u32_toNat (hwz z (List.mem_of_mem_take hz))).1]
    refine ⟨some a, c, (zs.take l).map Int.toNat, by rw [hlen]; exact hcs, by omega, hm, ?_, ?_, ?_⟩
    · intro b hb
      obtain ⟨z, hz, rfl⟩ := List.mem_map.1 hb
      exact (u32_toNat (hwz z (List.mem_of_mem_take hz))).2
    · rw [h1, hlen]
      refine ⟨by simp; omega, fun hn => ⟨a, rfl, ?_, fun j u hu => ?_⟩⟩
      · have := hcell 0 (by omega)
        have hb := World.block_lt_of_cell? _ _ this
        rwa [block_of_add] at hb
      · simp only [List.getElem?_map, Option.map_eq_some_iff] at hu
        obtain ⟨y, hy, rfl⟩ := hu
        rw [List.getElem?_take] at hy
        split at hy
        · rename_i hj
          have := hcell j (by omega)
          rw [this, List.getD_eq_getElem?_getD, hy]
          rfl
        · cases hy
    · intro M hM
      refine hM _ ?_
      rw [hx0]
      unfold DataW.weights
      rw [Tryd.underlying46]
      simp only [lits, List.length_map, hby]
      rw [show (zs.take l).length + (zs.drop l).length = c from by simp; omega]
      exact List.mem_cons_self ..
end

end Go.Proofs.YtamhggndcegndaaDoor
