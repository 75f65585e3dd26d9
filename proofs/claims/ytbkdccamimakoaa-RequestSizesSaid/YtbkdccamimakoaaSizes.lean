/-
  How many bytes a body and a request have.
-/
import Derived.Test.YtbkdccamimakoaaKnown18
import Derived.Test.YtbkdccamimakoaaBodyP
namespace Go.Proofs.Ytbkdccamimakoaa
open Go.RowKit
set_option linter.unusedVariables false

/-- The bytes of a body, by its operation (counted from 0). -/
def szL (n : Nat) : List Nat := [4 + n, 2, 10, 18, 18, 4, 3, 3, 2, 11, 5, 14]

def szI (i n : Nat) : Nat := (szL n).getD i 0

theorem szI_at (i n : Nat) (h : i < 12) : ([4 + (n : Int), 2, 10, 18, 18, 4, 3, 3, 2, 11, 5, 14].map (Value.int .i64))[i]? = some (.int .i64 (szI i n : Int)) := by
  have : i = 0 ∨ i = 1 ∨ i = 2 ∨ i = 3 ∨ i = 4 ∨ i = 5 ∨ i = 6 ∨ i = 7 ∨ i = 8 ∨ i = 9 ∨ i = 10 ∨ i = 11 := by omega
  rcases this with rfl | rfl | rfl | rfl | rfl | rfl | rfl | rfl | rfl | rfl | rfl | rfl <;> simp [szI, szL]

theorem szI_bd (i n : Nat) (h : i < 12) (hn : n ≤ 256) : 2 ≤ szI i n ∧ szI i n ≤ 260 := by
  have : i = 0 ∨ i = 1 ∨ i = 2 ∨ i = 3 ∨ i = 4 ∨ i = 5 ∨ i = 6 ∨ i = 7 ∨ i = 8 ∨ i = 9 ∨ i = 10 ∨ i = 11 := by omega
  rcases this with rfl | rfl | rfl | rfl | rfl | rfl | rfl | rfl | rfl | rfl | rfl | rfl <;> simp [szI, szL] <;> omega

/-- The request of RequestSizes. -/
def szReq (i : Nat) (leaf : List Nat) (l : List (Int × Nat)) : Req := { noReq with op := 1 + (i : Int), leaf := leaf, cavs := l }

theorem szReq_fit (i : Nat) (leaf : List Nat) (l : List (Int × Nat)) : (szReq i leaf l).Fit :=
  ⟨rfl, fun o => Int.lt_of_le_of_lt (num_le _ 255 (by decide) (by simp [szReq, noReq]) (by simp [szReq, noReq]) (by simp [szReq, noReq]) (by simp [szReq, noReq]) (by simp [szReq, noReq]) (by simp [szReq, noReq]) (by simp [szReq, noReq]) (by simp [szReq, noReq]) (by simp [szReq, noReq]) (by simp [szReq, noReq]) (by simp [szReq, noReq]) (by simp [szReq, noReq]) o) (by decide)⟩

theorem szReq_body (i : Nat) (leaf : List Nat) (l : List (Int × Nat)) (h : i < 12) (hl : leaf.length ≤ 256) : ∃ B, bodyRes (szReq i leaf l) = (0, B) ∧ B.length = szI i leaf.length := by
  have ht := txt_length leaf (by omega)
  have hs : (szReq i leaf l).Small 255 256 := by
    constructor <;> simp [szReq, noReq] <;> omega
  obtain ⟨fl, hf, hb⟩ := hs.body (by omega) (by omega)
  refine ⟨_, hb, ?_⟩
  have hop : (szReq i leaf l).op = 1 + (i : Int) := rfl
  rw [hop] at hf
  have : i = 0 ∨ i = 1 ∨ i = 2 ∨ i = 3 ∨ i = 4 ∨ i = 5 ∨ i = 6 ∨ i = 7 ∨ i = 8 ∨ i = 9 ∨ i = 10 ∨ i = 11 := by omega
  rcases this with rfl | rfl | rfl | rfl | rfl | rfl | rfl | rfl | rfl | rfl | rfl | rfl
  all_goals
    (injection hf with hf
     subst hf
     simp [be_length, fldB, szI, szL, szReq, ht] <;> omega)

theorem szReq_tok (i : Nat) (leaf : List Nat) (l : List (Int × Nat)) (h4 : l.length ≤ 4) (hk : ∀ x ∈ l, x.1 = 1) : ∃ T, tokRes 0 l (List.replicate 32 0) = (0, T) ∧ T.length = 37 + 5 * l.length := by
  have ha : l.all (fun c => kindB c.1) = true := by
    rw [List.all_eq_true]
    intro x hx
    rw [hk x hx]
    rfl
  have hc := cavb_len l
  refine ⟨be 0 4 ++ be l.length 1 ++ cavb l ++ List.replicate 32 0, ?_, ?_⟩
  · unfold tokRes
    rw [if_neg (by omega), if_pos ha]
  · simp only [List.length_append, be_length, hc, List.length_replicate]
    omega

theorem szReq_enc (i : Nat) (leaf : List Nat) (l : List (Int × Nat)) (h : i < 12) (hl : leaf.length ≤ 256) (h4 : l.length ≤ 4) (hk : ∀ x ∈ l, x.1 = 1) :
    ∃ B E, bodyRes (szReq i leaf l) = (0, B) ∧ B.length = szI i leaf.length ∧ encRes (szReq i leaf l) = (0, E) ∧ E.length = szI i leaf.length + 2 + 37 + 5 * l.length ∧ E.drop (39 + 5 * l.length) = B := by
  obtain ⟨B, hB, hBl⟩ := szReq_body i leaf l h hl
  obtain ⟨T, hT, hTl⟩ := szReq_tok i leaf l h4 hk
  have htx := txt_length T (by omega)
  have e1 : (szReq i leaf l).tid = 0 := rfl
  have e2 : (szReq i leaf l).cavs = l := rfl
  have e3 : (szReq i leaf l).tag = List.replicate 32 0 := rfl
  refine ⟨B, txt T ++ B, hB, hBl, ?_, ?_, ?_⟩
  · unfold encRes
    rw [hB, e1, e2, e3, hT]
    rfl
  · rw [List.length_append, htx, hTl, hBl]
    omega
  · rw [List.drop_left' (by rw [htx, hTl]; omega)]

end Go.Proofs.Ytbkdccamimakoaa
