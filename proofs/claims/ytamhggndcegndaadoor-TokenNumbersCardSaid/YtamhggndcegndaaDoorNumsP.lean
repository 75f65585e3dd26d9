/-
  What TokenNumbers wants of tokens: plain.
-/
import Derived.Test.YtamhggndcegndaaDoorOrders
import Derived.Test.YtamhggndcegndaaDoorTokLaw
import Derived.Test.YtamhggndcegndaaDoorForged
namespace Go.Proofs.YtamhggndcegndaaDoor
open Go.RowKit
set_option linter.unusedVariables false
set_option maxRecDepth 100000

/-- Narrowed k times by the same caveat. -/
def chain (t : Tok) (c : Int × Nat) : Nat → Tok
  | 0 => t
  | k + 1 => (narRes (chain t c k) c).1

theorem chain_facts (root : List Nat) (t : Tok) (c : Int × Nat) (h : Gen root t) (hok : t.Ok) (h0 : t.2.1 = []) (hk : 1 ≤ c.1 ∧ c.1 ≤ 3) (hN : c.2 < 4294967296) :
    ∀ k, k ≤ 4 → Gen root (chain t c k) ∧ (chain t c k).Ok ∧ (chain t c k).2.1 = List.replicate k c ∧ (chain t c k).1 = t.1 ∧ (k < 4 → narRes (chain t c k) c = (chain t c (k + 1), 0)) := by
  intro k
  induction k with
  | zero =>
    intro _
    obtain ⟨r, e, e0, -, -, -⟩ := nar_step root t c h hok hk (by rw [h0]; simp) hN
    exact ⟨h, hok, by simpa [chain] using h0, rfl, fun _ => by
      show narRes t c = ((narRes t c).1, 0)
      rw [e, ← e0]⟩
  | succ k ih =>
    intro hk4
    obtain ⟨g, o, l, i, -⟩ := ih (by omega)
    obtain ⟨r, e, e0, eo, el, eg⟩ := nar_step root (chain t c k) c g o hk (by rw [l]; simp; omega) hN
    have er : chain t c (k + 1) = r.1 := by show (narRes (chain t c k) c).1 = _; rw [e]
    have hl : (chain t c (k + 1)).2.1 = List.replicate (k + 1) c := by rw [er, el, l, List.replicate_succ']
    have hi : (chain t c (k + 1)).1 = t.1 := by
      have h3 := narRes_ok0 (t := chain t c k) (c := c) (by rw [e]; exact e0)
      show (narRes (chain t c k) c).1.1 = _
      rw [h3]
      exact i
    refine ⟨by rw [er]; exact eg, by rw [er]; exact eo, hl, hi, fun hk5 => ?_⟩
    obtain ⟨r2, e2, e20, -, -, -⟩ := nar_step root (chain t c (k + 1)) c (by rw [er]; exact eg) (by rw [er]; exact eo) hk (by rw [hl]; simp; omega) hN
    show narRes (chain t c (k + 1)) c = ((narRes (chain t c (k + 1)) c).1, 0)
    rw [e2, ← e20]

theorem nar_many (t : Tok) (c : Int × Nat) (hk : 1 ≤ c.1 ∧ c.1 ≤ 3) (h : t.2.1.length = 4) : narRes t c = (zeroTok, 4) := by
  unfold narRes
  rw [if_pos (by simp [kindB]; omega), if_neg (by omega)]

/-- A token's bytes but the last one. -/
theorem tokDec_short (tag : List Nat) (h : tag.length = 32) : tokDec ((be 0 4 ++ be 0 1 ++ cavb [] ++ tag).take 36) = (some (36, 10), zeroTok) := by
  have e : (be 0 4 ++ be 0 1 ++ cavb [] ++ tag).take 36 = be 0 4 ++ (be 0 1 ++ (tag.take 31)) := by
    rw [show cavb [] = [] from rfl, List.append_nil, List.append_assoc, List.take_append, be_length, List.take_of_length_le (by rw [be_length]; decide), List.take_append, be_length, List.take_of_length_le (by rw [be_length]; decide)]
  rw [e]
  have l31 : (tag.take 31).length = 31 := by rw [List.length_take]; omega
  have e1 := rNum_at [] (be 0 1 ++ tag.take 31) 0 4 (by decide)
  have e2 := rNum_at (be 0 4) (tag.take 31) 0 1 (by decide)
  rw [be_length] at e2
  simp only [List.nil_append, List.length_nil, Nat.zero_add] at e1
  have hlen : (be 0 4 ++ (be 0 1 ++ tag.take 31)).length = 36 := by simp only [List.length_append, be_length, l31]
  have e3 : rTake (be 0 4 ++ (be 0 1 ++ tag.take 31)) (5, none) 32 = ((5, some (36, 10)), []) := by
    unfold rTake
    simp only [hlen]
    rw [if_neg (by decide)]
  have e4 : (decT (be 0 4 ++ (be 0 1 ++ tag.take 31)) (0, none)).1 = (5, some (36, 10)) := by
    unfold decT
    simp only [e1, e2, decHead]
    rw [if_neg (by decide)]
    simp only [decCavs, rDig]
    rw [show (4 + 1 : Nat) = 5 from rfl, e3]
  unfold tokDec
  rw [e4]
  rfl

theorem nums_tag : (chain (minted (rootb 2) 0) (3, 9) 3).2.2 = [66, 218, 143, 159, 246, 162, 39, 142, 147, 8, 92, 6, 46, 172, 193, 237, 161, 229, 253, 219, 224, 18, 130, 53, 15, 207, 87, 32, 250, 90, 239, 60] := by kernel_rfl

theorem nums_ne : (([66, 218, 143, 159, 246, 162, 39, 142, 147, 8, 92, 6, 46, 172, 193, 237, 161, 229, 253, 219, 224, 18, 130, 53, 15, 207, 87, 32, 250, 90, 239, 60] : List Nat) == mac [66, 218, 143, 159, 246, 162, 39, 142, 147, 8, 92, 6, 46, 172, 193, 237, 161, 229, 253, 219, 224, 18, 130, 53, 15, 207, 87, 32, 250, 90, 239, 60] (cavText (3, 9))) = false := by kernel_rfl

/-- A caveat left out. -/
theorem nums_false : genuineB (rootb 2) ((chain (minted (rootb 2) 0) (3, 9) 4).1, List.replicate 3 (3, 9), (chain (minted (rootb 2) 0) (3, 9) 4).2.2) = false := by
  have CH := chain_facts (rootb 2) (minted (rootb 2) 0) (3, 9) (gen_minted _ _) (minted_ok _ _ (by decide)) rfl ⟨by decide, by decide⟩ (by decide)
  obtain ⟨g3, -, l3, i3, n3⟩ := CH 3 (by decide)
  obtain ⟨-, -, -, i4, -⟩ := CH 4 (by decide)
  have e4 : (chain (minted (rootb 2) 0) (3, 9) 4).2.2 = mac (chain (minted (rootb 2) 0) (3, 9) 3).2.2 (cavText (3, 9)) := by
    have h := narRes_ok0 (t := chain (minted (rootb 2) 0) (3, 9) 3) (c := (3, 9)) (by rw [n3 (by decide)])
    show (narRes (chain (minted (rootb 2) 0) (3, 9) 3) (3, 9)).1.2.2 = _
    rw [h]
  unfold genuineB
  unfold Gen at g3
  rw [l3, i3] at g3
  simp only [i4]
  rw [g3]
  simp only [e4, nums_tag]
  exact nums_ne

end Go.Proofs.YtamhggndcegndaaDoor
