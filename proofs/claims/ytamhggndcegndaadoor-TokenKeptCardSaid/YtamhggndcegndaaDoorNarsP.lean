/-
  Caveats of the call's own, written into.
-/
import Derived.Test.YtamhggndcegndaaDoorOrders
namespace Go.Proofs.YtamhggndcegndaaDoor
open Go.RowKit
set_option linter.unusedVariables false
set_option maxRecDepth 100000

theorem OwnC.blk {w : World} {base : Nat} {v : Value} {l : List (Int × Nat)} (h : OwnC w base v l) (hne : 0 < l.length) :
    ∃ g cap C, v = .slice (some ⟨g, 0, none⟩) l.length cap ∧ base ≤ g ∧ Blk w g 37 (List.toArray C) ∧ l.length ≤ cap ∧ cap ≤ maxLen ∧ C.length = cap * 2 ∧ C.take (l.length * 2) = cavv l := by
  obtain ⟨h1, h2⟩ := h
  rcases h2 with ⟨_, h0⟩ | ⟨g, cap, cur, hv, hb, hg, hn, hc, hs, ht⟩
  · omega
  · exact ⟨g, cap, cur.toList, hv, hb, by simpa [Blk] using hg, hn, hc, by simpa using hs, ht⟩

theorem reads_row {w : World} {g : Nat} {t : TypeId} {C xs : List Value} {size n : Nat} (h : Blk w g t C.toArray) (hx : C.take (n * size) = xs) (hl : xs.length = n * size) : Reads w w.heap.size size (some ⟨g, 0, none⟩) n xs := by
  refine ⟨hl, fun _ => ⟨_, rfl, h.lt, fun j u hu => ?_⟩⟩
  rw [Addr.add_mid, h.cell, List.getElem?_toArray, Nat.zero_add]
  rw [← hx, List.getElem?_take] at hu
  split at hu
  · exact hu
  · cases hu

theorem cavv_set1 (l : List (Int × Nat)) (i : Nat) (c : Int × Nat) (N : Nat) (h : l[i]? = some c) : (cavv l).set (i * 2 + 1) (.int .u32 (N : Int)) = cavv (l.set i (c.1, N)) := by
  induction l generalizing i with
  | nil => simp at h
  | cons y l ih =>
    cases i with
    | zero => simp at h; subst h; simp [cavv]
    | succ i =>
      have := ih i (by simpa using h)
      have e : cavv (y :: l) = Value.int .i64 y.1 :: Value.int .u32 (y.2 : Int) :: cavv l := by simp [cavv]
      have e2 : cavv ((y :: l).set (i + 1) (c.1, N)) = Value.int .i64 y.1 :: Value.int .u32 (y.2 : Int) :: cavv (l.set i (c.1, N)) := by simp [cavv]
      rw [e, e2, ← this, show (i + 1) * 2 + 1 = (i * 2 + 1) + 1 + 1 by omega]
      rfl

theorem cavv_set2 (l : List (Int × Nat)) (i : Nat) (c : Int × Nat) (h : i < l.length) : ((cavv l).set (i * 2) (.int .i64 c.1)).set (i * 2 + 1) (.int .u32 (c.2 : Int)) = cavv (l.set i c) := by
  induction l generalizing i with
  | nil => simp at h
  | cons y l ih =>
    cases i with
    | zero => simp [cavv]
    | succ i =>
      have := ih i (by simpa using h)
      have e : cavv (y :: l) = Value.int .i64 y.1 :: Value.int .u32 (y.2 : Int) :: cavv l := by simp [cavv]
      have e2 : cavv ((y :: l).set (i + 1) c) = Value.int .i64 y.1 :: Value.int .u32 (y.2 : Int) :: cavv (l.set i c) := by simp [cavv]
      rw [e, e2, ← this, show (i + 1) * 2 + 1 = (i * 2 + 1) + 1 + 1 by omega, show (i + 1) * 2 = (i * 2) + 1 + 1 by omega]
      rfl

theorem blk_set2 {w : World} {g o : Nat} {t : TypeId} {C : List Value} {a b : Value} (h : Blk w g t C.toArray) : Blk (w.setCells g o [a, b]) g t ((C.set o a).set (o + 1) b).toArray := by
  have h1 := h.set_ o a
  have h2 := h1.set_ (o + 1) b
  rw [List.setIfInBounds_toArray, List.setIfInBounds_toArray] at h2
  exact h2

/-- A caveat written into a row. -/
theorem take_set2 {C : List Value} {l : List (Int × Nat)} {i : Nat} {c : Int × Nat} (h : C.take (l.length * 2) = cavv l) (hi : i < l.length) :
    ((C.set (i * 2) (.int .i64 c.1)).set (i * 2 + 1) (.int .u32 (c.2 : Int))).take ((l.set i c).length * 2) = cavv (l.set i c) := by
  rw [List.length_set, List.take_set, List.take_set, h, cavv_set2 l i c hi]

theorem take_set1 {C : List Value} {l : List (Int × Nat)} {i N : Nat} {c : Int × Nat} (h : C.take (l.length * 2) = cavv l) (hi : l[i]? = some c) :
    (C.set (i * 2 + 1) (.int .u32 (N : Int))).take ((l.set i (c.1, N)).length * 2) = cavv (l.set i (c.1, N)) := by
  rw [List.length_set, List.take_set, h, cavv_set1 l i c N hi]

theorem wpSeq_skipw {P : Program} {Q : Exit → Act → World → Prop} {S : World → Prop} {n : Nat} {l : List Oper} {i : Nat} {r : List (Nat × Bool)} {a : Act} {w : World} {o : Oper} (hi : nth l i = some o) (hw : Region.wanted o (yielded l.toArray a.tmps) = false)
    (h : S w ∧ wpSeq P l.toArray Q S n r (a.put o.dst undef) w) : wpSeq P l.toArray Q S n ((i, true) :: r) a w := by
  show wpOp P l.toArray Q i _ a w
  unfold wpOp
  simp only [(nth_eq l i).symm.trans hi, hw, Bool.false_eq_true, if_false]
  exact ⟨fun _ => h.1, h.2⟩

theorem take_get {C xs : List Value} {n j : Nat} {u : Value} (h : C.take n = xs) (hu : xs[j]? = some u) : C[j]? = some u := by
  rw [← h, List.getElem?_take] at hu
  split at hu
  · exact hu
  · cases hu

theorem cav_one (c : Int × Nat) : (#[Value.int .i64 c.1, .int .u32 (c.2 : Int)] : Array Value).all (·.oneCell') = true :=
  all_oneCell_toArray (cs := [Value.int .i64 c.1, .int .u32 (c.2 : Int)]) (by intro v hv; simp at hv; rcases hv with rfl | rfl <;> rfl)

/-- The cells of a caveat in a row. -/
theorem row_cav {w : World} {g i : Nat} {C : List Value} {l : List (Int × Nat)} {c : Int × Nat} (h : Blk w g 37 C.toArray) (ht : C.take (l.length * 2) = cavv l) (hc : l[i]? = some c) :
    w.cell? ⟨g, i * 2, none⟩ = some (.int .i64 c.1) ∧ w.cell? ⟨g, i * 2 + 1, none⟩ = some (.int .u32 (c.2 : Int)) := by
  obtain ⟨e0, e1⟩ := cavv_at l i c hc
  rw [h.cell, h.cell, List.getElem?_toArray, List.getElem?_toArray]
  exact ⟨take_get ht e0, take_get ht e1⟩

/-- Caveats of a token, one left out behind; two changed for one another. -/
def swapped (l : List (Int × Nat)) (m : Nat) (c0 c1 : Int × Nat) : List (Int × Nat) := (l.set 0 c1).set m c0

/-- What holds between the operations of the region that exchanges two caveats. -/
structure SwInv (W : World) (g m : Nat) (C : List Value) (c0 c1 : Int × Nat) (D : Nat → Bool) (x131 x135 x136 x137 : Value) (w : World) : Prop where
  gr : W.grownBy w (some g)
  f11 : D 11 = true → x131 = .agg #[.int .i64 c1.1, .int .u32 (c1.2 : Int)]
  f15 : D 15 = true → x135 = .agg #[.int .i64 c0.1, .int .u32 (c0.2 : Int)]
  f17 : D 17 = true → D 11 = true ∧ D 15 = true ∧ D 16 = true
  f16 : D 16 = true → x136 = .pointer (some ⟨g, 0, none⟩)
  f18 : D 18 = true → x137 = .pointer (some ⟨g, m * 2, none⟩)
  s0 : D 17 = false → Blk w g 37 C.toArray
  s1 : D 17 = true → D 19 = false → Blk w g 37 (((C.set 0 (.int .i64 c1.1)).set 1 (.int .u32 (c1.2 : Int)))).toArray
  s2 : D 19 = true → D 17 = true ∧ Blk w g 37 (((((C.set 0 (.int .i64 c1.1)).set 1 (.int .u32 (c1.2 : Int)))).set (m * 2) (.int .i64 c0.1)).set (m * 2 + 1) (.int .u32 (c0.2 : Int))).toArray

section
variable {W : World} {g m : Nat} {C : List Value} {c0 c1 : Int × Nat} {D : Nat → Bool} {x131 x135 x136 x137 : Value} {w : World}
theorem SwInv.op11 (h : SwInv W g m C c0 c1 D x131 x135 x136 x137 w) : SwInv W g m C c0 c1 (fun j => D j || j == 11) (.agg #[.int .i64 c1.1, .int .u32 (c1.2 : Int)]) x135 x136 x137 w :=
  ⟨h.gr, fun _ => rfl, by simpa using h.f15, fun a => by have := h.f17 (by simpa using a); simp [this], by simpa using h.f16, by simpa using h.f18, by simpa using h.s0, by simpa using h.s1, by simpa using h.s2⟩
theorem SwInv.op15 (h : SwInv W g m C c0 c1 D x131 x135 x136 x137 w) : SwInv W g m C c0 c1 (fun j => D j || j == 15) x131 (.agg #[.int .i64 c0.1, .int .u32 (c0.2 : Int)]) x136 x137 w :=
  ⟨h.gr, by simpa using h.f11, fun _ => rfl, fun a => by have := h.f17 (by simpa using a); simp [this], by simpa using h.f16, by simpa using h.f18, by simpa using h.s0, by simpa using h.s1, by simpa using h.s2⟩
theorem SwInv.op16 (h : SwInv W g m C c0 c1 D x131 x135 x136 x137 w) : SwInv W g m C c0 c1 (fun j => D j || j == 16) x131 x135 (.pointer (some ⟨g, 0, none⟩)) x137 w :=
  ⟨h.gr, by simpa using h.f11, by simpa using h.f15, fun a => by have := h.f17 (by simpa using a); simp [this], fun _ => rfl, by simpa using h.f18, by simpa using h.s0, by simpa using h.s1, by simpa using h.s2⟩
theorem SwInv.op18 (h : SwInv W g m C c0 c1 D x131 x135 x136 x137 w) : SwInv W g m C c0 c1 (fun j => D j || j == 18) x131 x135 x136 (.pointer (some ⟨g, m * 2, none⟩)) w :=
  ⟨h.gr, by simpa using h.f11, by simpa using h.f15, fun a => by have := h.f17 (by simpa using a); simp [this], by simpa using h.f16, fun _ => rfl, by simpa using h.s0, by simpa using h.s1, by simpa using h.s2⟩
theorem SwInv.op17 (h : SwInv W g m C c0 c1 D x131 x135 x136 x137 w) (h17 : D 17 = false) (h11 : D 11 = true) (h15 : D 15 = true) (h16 : D 16 = true) : SwInv W g m C c0 c1 (fun j => D j || j == 17) x131 x135 x136 x137 (w.setCells g 0 [.int .i64 c1.1, .int .u32 (c1.2 : Int)]) := by
  refine ⟨only_trans h.gr (grown_setCells g _ 0 w) (fun d hd => .inl (by injection hd with hd; exact hd.symm)), by simpa using h.f11, by simpa using h.f15, fun _ => by simp [h11, h15, h16], by simpa using h.f16, by simpa using h.f18, by simp, fun _ _ => ?_, fun a => ?_⟩
  · exact blk_set2 (h.s0 h17)
  · have := (h.s2 (by simpa using a)).1
    rw [h17] at this; cases this
theorem SwInv.op19 (h : SwInv W g m C c0 c1 D x131 x135 x136 x137 w) (h19 : D 19 = false) (h17 : D 17 = true) : SwInv W g m C c0 c1 (fun j => D j || j == 19) x131 x135 x136 x137 (w.setCells g (m * 2) [.int .i64 c0.1, .int .u32 (c0.2 : Int)]) := by
  refine ⟨only_trans h.gr (grown_setCells g _ (m * 2) w) (fun d hd => .inl (by injection hd with hd; exact hd.symm)), by simpa using h.f11, by simpa using h.f15, fun a => by have := h.f17 h17; simp [this], by simpa using h.f16, by simpa using h.f18, by simp [h17], by simp, fun _ => ⟨by simp [h17], ?_⟩⟩
  exact blk_set2 (h.s1 h17 h19)
end

theorem take_cavv {C : List Value} {l : List (Int × Nat)} {m : Nat} (h : C.take (l.length * 2) = cavv l) (hm : m ≤ l.length) : C.take (m * 2) = cavv (l.take m) := by
  have e : (cavv l).take (m * 2) = cavv (l.take m) := by
    clear h
    induction l generalizing m with
    | nil => simp at hm; subst hm; rfl
    | cons y l ih =>
      cases m with
      | zero => simp [cavv]
      | succ m =>
        have := ih (m := m) (by simpa using hm)
        have e : cavv (y :: l) = Value.int .i64 y.1 :: Value.int .u32 (y.2 : Int) :: cavv l := by simp [cavv]
        have e2 : cavv ((y :: l).take (m + 1)) = Value.int .i64 y.1 :: Value.int .u32 (y.2 : Int) :: cavv (l.take m) := by simp [cavv]
        rw [e, e2, ← this, show (m + 1) * 2 = m * 2 + 1 + 1 by omega]
        rfl
  rw [← e, ← h, List.take_take, Nat.min_eq_left (by omega)]

theorem take_swapped {C : List Value} {l : List (Int × Nat)} {m : Nat} {c0 c1 : Int × Nat} (h : C.take (l.length * 2) = cavv l) (hm : m < l.length) :
    (((((C.set 0 (.int .i64 c1.1)).set 1 (.int .u32 (c1.2 : Int)))).set (m * 2) (.int .i64 c0.1)).set (m * 2 + 1) (.int .u32 (c0.2 : Int))).take ((swapped l m c0 c1).length * 2) = cavv (swapped l m c0 c1) := by
  have h1 := take_set2 (i := 0) (c := c1) h (by omega)
  have h2 := take_set2 (i := m) (c := c0) h1 (by rw [List.length_set]; exact hm)
  exact h2

theorem holds_more {op tree : Int} {clock : Nat} {l : List (Int × Nat)} {c : Int × Nat} (h : holdsB op tree clock (l ++ [c]) = true) : holdsB op tree clock l = true := by
  unfold holdsB at h ⊢
  rw [List.all_append, Bool.and_eq_true] at h
  exact h.1

theorem narRes_no {t : Tok} {c : Int × Nat} (h : (narRes t c).2 ≠ 0) : (narRes t c).1.2.1 = [] := by
  unfold narRes at h ⊢
  split
  · split
    · rename_i h1 h2; rw [if_pos h1, if_pos h2] at h; simp at h
    · rfl
  · rfl

theorem set_lt {l : List (Int × Nat)} (h : ∀ c ∈ l, c.2 < 4294967296) (i : Nat) (c : Int × Nat) (hc : c.2 < 4294967296) : ∀ d ∈ l.set i c, d.2 < 4294967296 := by
  intro d hd
  rcases List.mem_or_eq_of_mem_set hd with hd | rfl
  · exact h d hd
  · exact hc

end Go.Proofs.YtamhggndcegndaaDoor
