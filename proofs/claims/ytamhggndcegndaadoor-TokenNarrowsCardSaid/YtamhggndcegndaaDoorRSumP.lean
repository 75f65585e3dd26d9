/-
  deponentref1's Sum, plain: the padded text's blocks give sha's state.
-/
import Derived.Test.YtamhggndcegndaaDoorBlk
namespace Go.Proofs.YtamhggndcegndaaDoor
open Go.RowKit
set_option linter.unusedVariables false
set_option maxRecDepth 100000

theorem be32_congr {a b : List Nat} (h : ∀ j, j < 64 → a.getD j 0 = b.getD j 0) {i : Nat} (hi : i < 16) : be32 a (4 * i) = be32 b (4 * i) := by
  unfold be32
  rw [h (4 * i) (by omega), h (4 * i + 1) (by omega), h (4 * i + 2) (by omega), h (4 * i + 3) (by omega)]

theorem sched_congr {a b : List Nat} (h : ∀ j, j < 64 → a.getD j 0 = b.getD j 0) : ∀ i, sched a i = sched b i
  | 0 => rfl
  | i + 1 => by
    have e : wnext a (sched b i) i = wnext b (sched b i) i := by
      unfold wnext
      by_cases hi : i < 16
      · rw [if_pos hi, if_pos hi]; exact be32_congr h hi
      · rw [if_neg hi, if_neg hi]
    rw [sched, sched_congr h i, e]
    rfl

theorem mixed_congr {a b : List Nat} (h : ∀ j, j < 64 → a.getD j 0 = b.getD j 0) (s : St) : mixed a s = mixed b s := by
  unfold mixed
  rw [sched_congr h]

/-- Lists that begin alike have the same blocks. -/
theorem blocks_congr {a b : List Nat} (s : St) : ∀ k, (∀ j, j < 64 * k → a.getD j 0 = b.getD j 0) → blocks a s k = blocks b s k
  | 0, _ => rfl
  | k + 1, h => by
    rw [blocks, blocks, blocks_congr s k (fun j hj => h j (by omega))]
    apply mixed_congr
    intro j hj
    have := h (64 * k + j) (by omega)
    simpa [List.getD_eq_getElem?_getD, List.getElem?_drop] using this

theorem blocks_drop (l : List Nat) (s : St) (m : Nat) : ∀ j, blocks l s (m + j) = blocks (l.drop (64 * m)) (blocks l s m) j
  | 0 => rfl
  | j + 1 => by
    rw [show m + (j + 1) = (m + j) + 1 by omega, blocks, blocks, blocks_drop l s m j, List.drop_drop, Nat.mul_add]

/-- How many noughts. -/
def padZ (n : Nat) : Nat := tailEnd (n % 64) - n % 64 - 9

/-- The padded text. -/
def padTxt (bs : List Nat) : List Nat := (bs ++ 128 :: List.replicate (padZ bs.length) 0) ++ be (8 * bs.length) 8

theorem padZ_mod (n : Nat) : (n + 1 + padZ n) % 64 = 56 := by
  have h := tailEnd_bd (n % 64) (Nat.mod_lt _ (by decide))
  unfold padZ
  omega

theorem padZ_first (n z : Nat) (h : z < padZ n) : (n + 1 + z) % 64 ≠ 56 := by
  unfold padZ tailEnd at h
  split at h <;> omega

theorem padTxt_length (bs : List Nat) : (padTxt bs).length = 64 * (bs.length / 64 + tailEnd (bs.length % 64) / 64) := by
  have h := tailEnd_bd (bs.length % 64) (Nat.mod_lt _ (by decide))
  simp only [padTxt, padZ, List.length_append, List.length_cons, List.length_replicate, be_length]
  omega

theorem padTxt_drop (bs : List Nat) : (padTxt bs).drop (64 * (bs.length / 64)) ++ List.replicate (128 - tailEnd (bs.length % 64)) 0 = tailK bs 8 := by
  have h := tailEnd_bd (bs.length % 64) (Nat.mod_lt _ (by decide))
  have e : 64 * (bs.length / 64) = bs.length - bs.length % 64 := by omega
  unfold padTxt tailK padZ
  dsimp only
  rw [e, List.append_assoc, List.drop_append_of_le_length (by omega), show tailEnd (bs.length % 64) - bs.length % 64 - 1 - 8 = tailEnd (bs.length % 64) - bs.length % 64 - 9 by omega]
  simp only [List.append_assoc]

theorem padTxt_sha (bs : List Nat) : blocks (padTxt bs) start0 (bs.length / 64 + tailEnd (bs.length % 64) / 64) = shaSt bs := by
  have h := tailEnd_bd (bs.length % 64) (Nat.mod_lt _ (by decide))
  have hl := padTxt_length bs
  rw [blocks_drop]
  unfold shaSt
  have e1 : blocks (padTxt bs) start0 (bs.length / 64) = blocks bs start0 (bs.length / 64) := by
    apply blocks_congr
    intro j hj
    unfold padTxt
    rw [List.getD_eq_getElem?_getD, List.append_assoc, List.getElem?_append_left (by omega), ← List.getD_eq_getElem?_getD]
  rw [e1]
  apply blocks_congr
  intro j hj
  rw [← padTxt_drop, List.getD_eq_getElem?_getD, List.getD_eq_getElem?_getD, List.getElem?_append_left (by rw [List.length_drop]; omega)]

theorem padTxt_lt (bs : List Nat) (h : ∀ b ∈ bs, b < 256) : ∀ b ∈ padTxt bs, b < 256 := by
  intro b hb
  simp only [padTxt, List.mem_append, List.mem_cons, List.mem_replicate] at hb
  rcases hb with (hb | rfl | ⟨_, rfl⟩) | hb
  · exact h b hb
  · decide
  · decide
  · exact be_lt _ _ b hb

end Go.Proofs.YtamhggndcegndaaDoor
