/-
  Requests: what is encoded is decoded; plain.
-/
import Derived.Test.YtbkdccamimakoaaDoorBackP
import Derived.Test.YtbkdccamimakoaaDoorBodyP
namespace Go.Proofs.YtbkdccamimakoaaDoor
open Go.RowKit
set_option linter.unusedVariables false
set_option maxRecDepth 100000

theorem txt_eq (t : List Nat) (h : t.length ≤ 65535) : txt t = be t.length 2 ++ t := by
  unfold txt
  rw [Nat.mod_eq_of_lt (by omega), List.take_of_length_le (Nat.le_refl _)]

theorem rBytes_at (pre t rest : List Nat) (m : Nat) (hm : t.length ≤ m) (h : t.length ≤ 65535) : rBytes (pre ++ (txt t ++ rest)) (pre.length, none) m = ((pre.length + 2 + t.length, none), t) := by
  have e : (256 : Nat) ^ 2 = 65536 := by decide
  have h1 := rNum_at pre (t ++ rest) t.length 2 (by rw [e]; omega)
  have h2 := rTake_at (pre ++ be t.length 2) t rest t.length rfl
  rw [List.length_append, be_length] at h2
  rw [txt_eq t h]
  unfold rBytes
  rw [show pre ++ (be t.length 2 ++ t ++ rest) = pre ++ (be t.length 2 ++ (t ++ rest)) by simp [List.append_assoc], h1]
  simp only
  rw [if_neg (fun e => by omega)]
  rw [show pre ++ (be t.length 2 ++ (t ++ rest)) = pre ++ be t.length 2 ++ (t ++ rest) by simp [List.append_assoc]]
  exact h2

/-- A field taken over from another request. -/
def setF (R Q : Req) (f : Fld) : Req := if f.2.1 = 0 then { Q with leaf := R.leaf } else Q.put f.2.2 (R.num f.2.2).toNat

/-- The numbers of a request fit their fields. -/
structure Req.Fits (R : Req) : Prop where
  id : R.id < 4294967296
  lo : R.lo < 18446744073709551616
  hi : R.hi < 18446744073709551616
  rate : R.rate < 4294967296
  burst : R.burst < 4294967296
  store : R.store < 4294967296
  expires : R.expires < 18446744073709551616

theorem fld_fits (R : Req) (hR : R.Fits) (f : Fld) (hf : IsFld f) (hw : fldWhy R f = 0) (h0 : f.2.1 ≠ 0) : (R.num f.2.2).toNat < 256 ^ f.1 ∧ fldB R f = be (R.num f.2.2).toNat f.1 := by
  have e1 : (256 : Nat) ^ 1 = 256 := by decide
  have e4 : (256 : Nat) ^ 4 = 4294967296 := by decide
  have e8 : (256 : Nat) ^ 8 = 18446744073709551616 := by decide
  obtain ⟨h1, h2, h3, h4, h5, h6, h7⟩ := hR
  unfold IsFld at hf
  rcases hf with rfl | rfl | rfl | rfl | rfl | rfl | rfl | rfl | rfl | rfl | rfl | rfl | rfl
  all_goals first
    | exact absurd rfl h0
    | (refine ⟨?_, by simp [fldB]⟩
       simp only [fldWhy, if_true, Req.num] at hw
       simp only [Req.num]
       split at hw
       · omega
       · cases hw)
    | (refine ⟨?_, by simp [fldB]⟩
       simp only [Req.num, Int.toNat_natCast]
       first | (rw [e4]; assumption) | (rw [e8]; assumption))

theorem leaf_fits (R : Req) (f : Fld) (hf : IsFld f) (hw : fldWhy R f = 0) (h0 : f.2.1 = 0) : R.leaf.length ≤ 256 ∧ fldB R f = txt R.leaf := by
  unfold IsFld at hf
  rcases hf with rfl | rfl | rfl | rfl | rfl | rfl | rfl | rfl | rfl | rfl | rfl | rfl | rfl
  all_goals first
    | (simp at h0; done)
    | (refine ⟨?_, by simp [fldB]⟩
       simp [fldWhy] at hw
       omega)

theorem reqGo_at (R : Req) (hR : R.Fits) : ∀ (l : List Fld) (pre rest : List Nat) (Q : Req), (∀ f ∈ l, IsFld f ∧ fldWhy R f = 0) →
    reqGo (pre ++ (l.flatMap (fldB R) ++ rest)) l (pre.length, none) Q = ((pre.length + (l.flatMap (fldB R)).length, none), l.foldl (setF R) Q)
  | [], pre, rest, Q, _ => by simp [reqGo]
  | f :: l, pre, rest, Q, h => by
    obtain ⟨hf, hw⟩ := h f (by simp)
    have ih := fun Q => reqGo_at R hR l (pre ++ fldB R f) rest Q (fun g hg => h g (List.mem_cons_of_mem _ hg))
    simp only [List.length_append] at ih
    have ea : pre ++ fldB R f ++ (l.flatMap (fldB R) ++ rest) = pre ++ ((f :: l).flatMap (fldB R) ++ rest) := by simp [List.append_assoc]
    rw [ea] at ih
    have eb : pre ++ ((f :: l).flatMap (fldB R) ++ rest) = pre ++ (fldB R f ++ (l.flatMap (fldB R) ++ rest)) := by simp [List.append_assoc]
    unfold reqGo
    by_cases h0 : f.2.1 = 0
    · obtain ⟨h1, h2⟩ := leaf_fits R f hf hw h0
      have e := rBytes_at pre R.leaf (l.flatMap (fldB R) ++ rest) 256 h1 (by omega)
      rw [← h2, ← eb] at e
      have el : pre.length + 2 + R.leaf.length = pre.length + (fldB R f).length := by rw [h2, txt_length _ (by omega)]; omega
      rw [if_pos h0, e]
      simp only
      rw [el, ih]
      simp [setF, h0, Nat.add_assoc]
    · obtain ⟨h1, h2⟩ := fld_fits R hR f hf hw h0
      have e := rNum_at pre (l.flatMap (fldB R) ++ rest) (R.num f.2.2).toNat f.1 h1
      rw [← h2, ← eb] at e
      have el : pre.length + f.1 = pre.length + (fldB R f).length := by rw [h2, be_length]
      rw [if_neg h0, e]
      simp only
      rw [el, ih]
      simp [setF, h0, Nat.add_assoc]

end Go.Proofs.YtbkdccamimakoaaDoor
