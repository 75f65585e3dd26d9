/-
  Ints of the call's own (OwnI); append onto them.
-/
import Derived.Test.YtbkdccamimakoaaOwn
namespace Go.Proofs.Ytbkdccamimakoaa
open Go.RowKit
set_option linter.unusedVariables false

theorem Try.i64_info : (Try.prog.info? 3).map (fun i => (i.zero, i.size, i.bytes)) = some (some (.int .i64 0), 1, 8) := by kernel_rfl

def inv (xs : List Int) : List Value := xs.map (Value.int .i64)

theorem inv_length (a : List Int) : (inv a).length = a.length := by simp [inv]

theorem inv_one (l : List Int) : ∀ u ∈ inv l, u.oneCell' = true := by
  intro u hu
  obtain ⟨x, _, rfl⟩ := List.mem_map.1 hu
  rfl

/-- These ints are the call's own; they lie from 'base' on. -/
def OwnI (w : World) (base : Nat) (v : Value) (xs : List Int) : Prop := w.ownsRow base 3 1 v xs.length (inv xs)

section
variable {w w' : World} {base : Nat} {v : Value} {xs : List Int}
theorem OwnI.nil (w : World) (base : Nat) : OwnI w base (.slice none 0 0) [] := World.ownsRow_nil ..
theorem OwnI.sl (h : OwnI w base v xs) : ∃ A n c, v = .slice A n c ∧ n = xs.length ∧ n ≤ c ∧ c ≤ maxLen ∧ Reads w w.heap.size 1 A n (inv xs) := by
  obtain ⟨A, c, h1, h2, h3, h4⟩ := own_slice h
  exact ⟨A, _, c, h1, rfl, h2, h3, h4⟩
theorem OwnI.kept (h : OwnI w base v xs) (hb : Below w.heap.size w w') : OwnI w' base v xs :=
  World.ownsRow.kept h ⟨hb.os, hb.tape, hb.output, hb.size, fun k hk _ => hb.block k hk⟩ (row := none) (by cases v.ownBlock <;> simp)
theorem OwnI.cast {ys : List Int} (h : OwnI w base v xs) (e : ys = xs) : OwnI w base v ys := e ▸ h
theorem OwnI.alloc (h : OwnI w base v xs) (o : Obj) : OwnI (w.alloc o) base v xs := h.kept ((Below.refl _ _).alloc (Nat.le_refl _) o)
theorem OwnI.drew (h : OwnI w base v xs) : OwnI w.drew base v xs := h.kept ((Below.refl _ _).drew)
theorem OwnI.made (w : World) (l : List Int) (hc : l.length ≤ maxLen) : OwnI (w.alloc (.cells (inv l).toArray 3)) w.heap.size (.slice (some ⟨w.heap.size, 0, none⟩) l.length l.length) l := by
  exact World.ownsRow_lit (size := 1) (e := 3) w (inv l).toArray l.length (Nat.le_refl _) hc (by simp [inv_length])
end

theorem append_ints {w : World} {ops : Array Oper} {rest : List Oper} {o : Oper} {a : Act} {Q : Exit → Act → World → Prop} (hgd : o.guard = none) (s x : Operand)
    (ho : o.op = .call { callee := .builtin .append, args := #[s, x], argTypes := #[42, 42] })
    (base : Nat) (v : Value) (bs : List Int) (hs : a.eval s = v) (hown : OwnI w base v bs) (A : Option Addr) (m c : Nat) (news : List Int) (hx : a.eval x = .slice A m c) (hr : Reads w w.heap.size 1 A m (inv news))
    (hlen : bs.length + m ≤ 65536) (hbase : base ≤ w.heap.size)
    (h : ∀ v' w', OwnI w' base v' (bs ++ news) → Below base w w' → w.grownBy w' v.ownBlock → wpList Try.prog ops Q rest (a.put o.dst v') w') : wpList Try.prog ops Q (o :: rest) a w := by
  obtain ⟨i0, hi0, hz0, hz1, hz2⟩ := info_parts Try.i64_info
  have hm : news.length = m := by have := hr.1; simpa [inv] using this
  refine wpList_append_any (P := Try.prog) w hgd s x _ ho base 3 i0 _ 1 8 Try.underlying42 hi0 hz0 hz1 hz2 rfl (by omega) v bs.length (inv bs) hs hown w.heap.size A m c (inv news) hx hr (inv_one _) (by simp only [maxLen]; omega) (by omega) hbase ?_
  intro v' w' h1 h2 h3
  refine h v' w' ?_ ?_ h2
  · unfold OwnI
    rw [List.length_append, hm]
    simpa [inv] using h1
  · exact below_appended (Below.refl _ _) hown h2 (Nat.le_refl _) hbase

/-- The ints that were just laid, as a slice. -/
theorem reads_ints (w : World) (l : List Int) : Reads (w.alloc (.cells (inv l).toArray 3)) (w.alloc (.cells (inv l).toArray 3)).heap.size 1 (some ⟨w.heap.size, 0, none⟩) l.length (inv l) := by
  have := Reads.new w 3 (inv l) 1 l.length (by rw [inv_length, Nat.mul_one])
  rwa [alloc_size]

theorem reads_ints_at (w : World) (l : List Int) (g : Nat) (hg : g = w.heap.size) (m : Nat) (hm : m = l.length) : Reads (w.alloc (.cells (inv l).toArray 3)) (w.alloc (.cells (inv l).toArray 3)).heap.size 1 (some ⟨g, 0, none⟩) m (inv l) := by
  subst hg hm
  exact reads_ints w l

end Go.Proofs.Ytbkdccamimakoaa
