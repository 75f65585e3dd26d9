/-
  deponentref12.Narrow: its region in which three things are made in any order: what holds between them.
-/
import Derived.Test.YtamhggndcegndaaDoorAny
import Derived.Test.YtamhggndcegndaaDoorNar
namespace Go.Proofs.YtamhggndcegndaaDoor
open Go.RowKit
set_option linter.unusedVariables false
set_option maxRecDepth 100000

theorem tok_tag' (id : Nat) (v : Value) (t tag : List Nat) (h : t.length = 32) (h' : tag.length = 32) : (tokv id v t).take 2 ++ (byv tag ++ (tokv id v t).drop (2 + (byv tag).length)) = tokv id v tag := by
  rw [byv_length, h', List.drop_eq_nil_of_le (by rw [tokv_len _ _ _ h]; omega)]
  simp [tokv]

structure NInv (B id : Nat) (l : List (Int × Nat)) (c : Int × Nat) (D : Nat → Bool) (x21 x24 x26 x27 x28 x8 : Value) (w : World) : Prop where
  fB : B ≤ w.heap.size
  f2 : D 2 = true → D 5 = false → OwnC w B x21 []
  f5 : D 5 = true → D 8 = false → OwnC w B x24 l
  f7 : D 7 = true → D 8 = false → ∃ h, x26 = .slice (some ⟨h, 0, none⟩) 1 1 ∧ Blk w h 37 #[.int .i64 c.1, .int .u32 (c.2 : Int)] ∧ (D 2 = true → D 5 = false → x21.ownBlock ≠ some h)
  f8 : D 8 = true → OwnC w B x27 (l ++ [c])
  f58 : D 8 = true → D 5 = true
  f9 : D 9 = true → D 8 = true ∧ ∃ A n c', x27 = .slice A n c' ∧ x28 = .agg (tokv id x27 (List.replicate 32 0)).toArray
  f10 : D 10 = true → ∃ g, x8 = .pointer (some ⟨g, 0, none⟩) ∧ Blk w g 30 zeroTokv.toArray ∧ B ≤ g

section
variable {B id : Nat} {l : List (Int × Nat)} {c : Int × Nat} {D : Nat → Bool} {x21 x24 x26 x27 x28 x8 : Value} {w w' : World}

theorem NInv.below (h : NInv B id l c D x21 x24 x26 x27 x28 x8 w) (hb : Below w.heap.size w w') : NInv B id l c D x21 x24 x26 x27 x28 x8 w' :=
  ⟨Nat.le_trans h.fB hb.size, fun a b => (h.f2 a b).kept hb, fun a b => (h.f5 a b).kept hb, fun a b => by obtain ⟨g, h1, h2, h3⟩ := h.f7 a b; exact ⟨g, h1, h2.below hb h2.lt, h3⟩, fun a => (h.f8 a).kept hb, h.f58, h.f9,
    fun a => by obtain ⟨g, h1, h2, h3⟩ := h.f10 a; exact ⟨g, h1, h2.below hb h2.lt, h3⟩⟩

theorem NInv.op2 (h : NInv B id l c D x21 x24 x26 x27 x28 x8 w) (h2 : D 2 = false) :
    NInv B id l c (fun j => D j || j == 2) (.slice (some ⟨w.heap.size, 0, none⟩) 0 0) x24 x26 x27 x28 x8 (w.alloc (.cells #[] 37)) := by
  have k := h.below (w' := w.alloc (.cells #[] 37)) ((Below.refl _ _).alloc (Nat.le_refl _) _)
  refine ⟨k.fB, ?_, by simpa using k.f5, ?_, by simpa using k.f8, by simpa using k.f58, by simpa using k.f9, by simpa using k.f10⟩
  · intro _ _
    exact OwnC.mono (OwnC.made w [] (by simp [maxLen])) h.fB
  · intro a b
    obtain ⟨g, g1, g2, g3⟩ := h.f7 (by simpa using a) (by simpa using b)
    refine ⟨g, g1, g2.alloc _, fun _ _ e => ?_⟩
    have := g2.lt
    simp only [Value.ownBlock, Option.some.injEq] at e
    omega

theorem NInv.op7 (h : NInv B id l c D x21 x24 x26 x27 x28 x8 w) (h7 : D 7 = false) :
    NInv B id l c (fun j => D j || j == 7) x21 x24 (.slice (some ⟨w.heap.size, 0, none⟩) 1 1) x27 x28 x8 (w.alloc (.cells #[.int .i64 c.1, .int .u32 (c.2 : Int)] 37)) := by
  have k := h.below (w' := w.alloc (.cells #[.int .i64 c.1, .int .u32 (c.2 : Int)] 37)) ((Below.refl _ _).alloc (Nat.le_refl _) _)
  refine ⟨k.fB, by simpa using k.f2, by simpa using k.f5, ?_, by simpa using k.f8, by simpa using k.f58, by simpa using k.f9, by simpa using k.f10⟩
  intro _ _
  refine ⟨w.heap.size, rfl, Blk.new _ _ _, fun a b e => ?_⟩
  have := (World.ownsRow.lt (h.f2 (by simpa using a) (by simpa using b)) _ e).2
  omega

theorem NInv.op5 (h : NInv B id l c D x21 x24 x26 x27 x28 x8 w) (h5 : D 5 = false) (h2 : D 2 = true) {v : Value} (ho : OwnC w' B v l) (hb : Below B w w') (hg : w.grownBy w' x21.ownBlock) :
    NInv B id l c (fun j => D j || j == 5) x21 v x26 x27 x28 x8 w' := by
  have h8 : D 8 = false := by
    rcases Bool.eq_false_or_eq_true (D 8) with e | e
    · rw [h.f58 e] at h5; cases h5
    · exact e
  refine ⟨Nat.le_trans h.fB hg.size, by simp, fun _ _ => ho, ?_, by simp [h8], by simp, ?_, ?_⟩
  · intro a b
    obtain ⟨g, g1, g2, g3⟩ := h.f7 (by simpa using a) h8
    exact ⟨g, g1, g2.grown hg (fun e => g3 h2 h5 e.symm), by simp⟩
  · intro a
    have := (h.f9 (by simpa using a)).1
    rw [h8] at this
    cases this
  · intro a
    obtain ⟨g, g1, g2, g3⟩ := h.f10 (by simpa using a)
    exact ⟨g, g1, g2.grown hg (fun e => own_blk_ne (h.f2 h2 h5) g2 (by decide) e.symm), g3⟩

theorem NInv.op8 (h : NInv B id l c D x21 x24 x26 x27 x28 x8 w) (h8 : D 8 = false) (h5 : D 5 = true) {v : Value} (ho : OwnC w' B v (l ++ [c])) (hb : Below B w w') (hg : w.grownBy w' x24.ownBlock) :
    NInv B id l c (fun j => D j || j == 8) x21 x24 x26 v x28 x8 w' := by
  refine ⟨Nat.le_trans h.fB hg.size, by simp [h5], by simp, by simp, fun _ => ho, by simp [h5], ?_, ?_⟩
  · intro a
    have := (h.f9 (by simpa using a)).1
    rw [h8] at this
    cases this
  · intro a
    obtain ⟨g, g1, g2, g3⟩ := h.f10 (by simpa using a)
    exact ⟨g, g1, g2.grown hg (fun e => own_blk_ne (h.f5 h5 h8) g2 (by decide) e.symm), g3⟩

theorem NInv.op9 (h : NInv B id l c D x21 x24 x26 x27 x28 x8 w) (h8 : D 8 = true) {A : Option Addr} {n c' : Nat} (e : x27 = .slice A n c') :
    NInv B id l c (fun j => D j || j == 9) x21 x24 x26 x27 (.agg (tokv id x27 (List.replicate 32 0)).toArray) x8 w := by
  exact ⟨h.fB, by simpa using h.f2, by simpa using h.f5, by simpa using h.f7, by simpa using h.f8, by simpa using h.f58, fun _ => ⟨by simpa using h8, A, n, c', e, rfl⟩, by simpa using h.f10⟩

theorem NInv.op10 (h : NInv B id l c D x21 x24 x26 x27 x28 x8 w) :
    NInv B id l c (fun j => D j || j == 10) x21 x24 x26 x27 x28 (.pointer (some ⟨w.heap.size, 0, none⟩)) (w.alloc (.cells zeroTokv.toArray 30)) := by
  have k := h.below (w' := w.alloc (.cells zeroTokv.toArray 30)) ((Below.refl _ _).alloc (Nat.le_refl _) _)
  exact ⟨k.fB, by simpa using k.f2, by simpa using k.f5, by simpa using k.f7, by simpa using k.f8, by simpa using k.f58, by simpa using k.f9, fun _ => ⟨_, rfl, Blk.new _ _ _, h.fB⟩⟩
end

end Go.Proofs.YtamhggndcegndaaDoor
