/-
  Bytes of the call's own (OwnB); append onto them; a text of bytes.
-/
import Derived.Test.YtamhggndcegndaaDoorChecked
import Derived.Test.YtamhggndcegndaaDoorWords
import Derived.Test.YtamhggndcegndaaDoorBytes
import Derived.Test.YtamhggndcegndaaDoorSeq
import Derived.Laws.BytesArg
namespace Go.Proofs.YtamhggndcegndaaDoor
open Go.RowKit
set_option linter.unusedVariables false
set_option maxRecDepth 100000

theorem Tryd.u8_info : (Tryd.prog.info? 5).map (fun i => (i.zero, i.size, i.bytes)) = some (some (.int .u8 0), 1, 1) := by kernel_rfl

theorem Tryd.dig_info : (Tryd.prog.info? 28).map (·.size) = some 32 := by kernel_rfl

/-- These bytes are the call's own; they lie from 'base' on. -/
def OwnB (w : World) (base : Nat) (v : Value) (bs : List Nat) : Prop := w.ownsRow base 5 1 v bs.length (byv bs)

section
variable {w w' : World} {base : Nat} {v : Value} {bs : List Nat}
theorem OwnB.of (h : w.ownsRow base 5 1 v bs.length (byv bs)) : OwnB w base v bs := h
theorem OwnB.nil (w : World) (base : Nat) : OwnB w base (.slice none 0 0) [] := World.ownsRow_nil ..
theorem OwnB.slice (h : OwnB w base v bs) : ∃ A c, v = .slice A bs.length c ∧ bs.length ≤ c ∧ c ≤ maxLen ∧ Reads w w.heap.size 1 A bs.length (byv bs) := own_slice h
theorem OwnB.sl (h : OwnB w base v bs) : ∃ A n c, v = .slice A n c ∧ n ≤ c ∧ c ≤ maxLen ∧ Reads w w.heap.size 1 A n (byv bs) := by
  obtain ⟨A, c, h1, h2, h3, h4⟩ := h.slice
  exact ⟨A, _, c, h1, h2, h3, h4⟩
theorem OwnB.kept (h : OwnB w base v bs) (hb : Below w.heap.size w w') : OwnB w' base v bs :=
  World.ownsRow.kept h ⟨hb.os, hb.tape, hb.output, hb.size, fun k hk _ => hb.block k hk⟩ (row := none) (by cases v.ownBlock <;> simp)
theorem OwnB.cast {ys : List Nat} (h : OwnB w base v bs) (e : ys = bs) : OwnB w base v ys := e ▸ h
theorem OwnB.alloc (h : OwnB w base v bs) (o : Obj) : OwnB (w.alloc o) base v bs := h.kept ((Below.refl _ _).alloc (Nat.le_refl _) o)
theorem OwnB.drew (h : OwnB w base v bs) : OwnB w.drew base v bs := h.kept ((Below.refl _ _).drew)
theorem OwnB.mono {base' : Nat} (h : OwnB w base v bs) (hb : base' ≤ base) : OwnB w base' v bs := by
  refine ⟨h.1, ?_⟩
  rcases h.2 with h | ⟨g, cap, cur, hv, hg, rest⟩
  · exact .inl h
  · exact .inr ⟨g, cap, cur, hv, Nat.le_trans hb hg, rest⟩
theorem OwnB.made (w : World) (l : List Nat) (hc : l.length ≤ maxLen) : OwnB (w.alloc (.cells (byv l).toArray 5)) w.heap.size (.slice (some ⟨w.heap.size, 0, none⟩) l.length l.length) l := by
  exact World.ownsRow_lit (size := 1) (e := 5) w (byv l).toArray l.length (Nat.le_refl _) hc (by simp [byv_length])
theorem OwnB.one (w : World) (b : Nat) : OwnB (w.alloc (.cells #[.int .u8 (b : Int)] 5)) w.heap.size (.slice (some ⟨w.heap.size, 0, none⟩) 1 1) [b] := OwnB.made w [b] (by simp [maxLen])
theorem OwnB.far (h : OwnB w base v bs) {p : Addr} (hp : v.ownBlock ≠ some p.block) (u : Value) : OwnB (w.setCell p u) base v bs := own_setCell_far h hp u
theorem OwnB.blk_ne {g : Nat} {t : TypeId} {cs : Array Value} (h : OwnB w base v bs) (hg : Blk w g t cs) (hne : 5 ≠ t) : v.ownBlock ≠ some g := own_blk_ne h hg hne
end

/-- append onto bytes of the call's own, in a plain region. -/
theorem append_bytes {w : World} {ops : Array Oper} {rest : List Oper} {o : Oper} {a : Act} {Q : Exit → Act → World → Prop} (hgd : o.guard = none) (s x : Operand)
    (ho : o.op = .call { callee := .builtin .append, args := #[s, x], argTypes := #[57, 57] })
    (base : Nat) (v : Value) (bs : List Nat) (hs : a.eval s = v) (hown : OwnB w base v bs) (A : Option Addr) (m c : Nat) (news : List Nat) (hx : a.eval x = .slice A m c) (hr : Reads w w.heap.size 1 A m (byv news))
    (hlen : bs.length + m ≤ 8589934592) (hbase : base ≤ w.heap.size)
    (h : ∀ v' w', OwnB w' base v' (bs ++ news) → Below base w w' → w.grownBy w' v.ownBlock → wpList Tryd.prog ops Q rest (a.put o.dst v') w') : wpList Tryd.prog ops Q (o :: rest) a w := by
  obtain ⟨i0, hi0, hz0, hz1, hz2⟩ := info_parts Tryd.u8_info
  have hm := reads_bytes_le hr
  refine wpList_append_any (P := Tryd.prog) w hgd s x _ ho base 5 i0 _ 1 1 Tryd.underlying57 hi0 hz0 hz1 hz2 rfl (by omega) v bs.length (byv bs) hs hown w.heap.size A m c (byv news) hx hr (byv_one _) (by simp only [maxLen]; omega) (by omega) hbase ?_
  intro v' w' h1 h2 h3
  refine h v' w' ?_ ?_ h2
  · unfold OwnB
    rw [byv_append, List.length_append, hm]
    exact h1
  · exact below_appended (Below.refl _ _) hown h2 (Nat.le_refl _) hbase

/-- append onto bytes of the call's own, anywhere. -/
theorem wp_append_bytes {w : World} {o : Oper} {a : Act} {K : Act → World → Prop} {Q : Exit → Act → World → Prop} (s x : Operand)
    (ho : o.op = .call { callee := .builtin .append, args := #[s, x], argTypes := #[57, 57] })
    (base : Nat) (v : Value) (bs : List Nat) (hs : a.eval s = v) (hown : OwnB w base v bs) (A : Option Addr) (m c : Nat) (news : List Nat) (hx : a.eval x = .slice A m c) (hr : Reads w w.heap.size 1 A m (byv news))
    (hlen : bs.length + m ≤ 8589934592) (hbase : base ≤ w.heap.size)
    (h : ∀ v' w', OwnB w' base v' (bs ++ news) → Below base w w' → w.grownBy w' v.ownBlock → K (a.put o.dst v') w') : o.wp Tryd.prog a w K Q := by
  obtain ⟨i0, hi0, hz0, hz1, hz2⟩ := info_parts Tryd.u8_info
  have hm := reads_bytes_le hr
  refine wp_append_any (P := Tryd.prog) w s x _ ho base 5 i0 _ 1 1 Tryd.underlying57 hi0 hz0 hz1 hz2 rfl (by omega) v bs.length (byv bs) hs hown w.heap.size A m c (byv news) hx hr (byv_one _) (by simp only [maxLen]; omega) (by omega) hbase ?_
  intro v' w' h1 h2 h3
  refine h v' w' ?_ ?_ h2
  · unfold OwnB
    rw [byv_append, List.length_append, hm]
    exact h1
  · exact below_appended (Below.refl _ _) hown h2 (Nat.le_refl _) hbase

theorem drew_size (w : World) : w.drew.heap.size = w.heap.size := rfl

theorem Reads.drewS {w : World} {n size : Nat} {A : Option Addr} {xs : List Value} (h : Reads w w.heap.size size A n xs) : Reads w.drew w.drew.heap.size size A n xs := h

theorem below_undrew {w w' : World} (h : Below w.drew.heap.size w.drew w') : Below w.heap.size w w' := ⟨h.os, h.tape, h.output, h.size, h.block⟩

/-- The byte that was just laid, as a slice. -/
theorem reads_one (w : World) (b : Nat) : Reads (w.alloc (.cells #[.int .u8 (b : Int)] 5)) (w.alloc (.cells #[.int .u8 (b : Int)] 5)).heap.size 1 (some ⟨w.heap.size, 0, none⟩) 1 (byv [b]) := by
  have := Reads.new1 w 5 (.int .u8 (b : Int))
  simpa [byv] using this

theorem reads_bytes_at (w : World) (l : List Nat) (g : Nat) (hg : g = w.heap.size) (m : Nat) (hm : m = l.length) : Reads (w.alloc (.cells (byv l).toArray 5)) (w.alloc (.cells (byv l).toArray 5)).heap.size 1 (some ⟨g, 0, none⟩) m (byv l) := by
  subst hg hm
  have := Reads.new w 5 (byv l) 1 l.length (by rw [byv_length, Nat.mul_one])
  rwa [show (w.alloc (.cells (byv l).toArray 5)).heap.size = w.heap.size + 1 from by simp]

theorem Reads.call {w w' : World} {n size : Nat} {A : Option Addr} {xs : List Value} (h : Reads w w.heap.size size A n xs) (hb : Below w.heap.size w w') : Reads w' w'.heap.size size A n xs := (h.below hb).more hb.size

theorem Reads.laid {w : World} {n size : Nat} {A : Option Addr} {xs : List Value} (h : Reads w w.heap.size size A n xs) (o : Obj) : Reads (w.alloc o) (w.alloc o).heap.size size A n xs := h.call ((Below.refl _ _).alloc (Nat.le_refl _) o)

/-- Bytes as a text. -/
def bstr (bs : List Nat) : ByteArray := strOfNums (bs.map fun b : Nat => (b : Int))

theorem bstr_inj {a b : List Nat} (ha : ∀ x ∈ a, x < 256) (hb : ∀ x ∈ b, x < 256) : bstr a = bstr b ↔ a = b := by
  constructor
  · intro h
    unfold bstr strOfNums at h
    injection h with h
    injection h with h
    rw [List.map_map, List.map_map] at h
    have key : ∀ (a b : List Nat), (∀ x ∈ a, x < 256) → (∀ x ∈ b, x < 256) → a.map ((fun n : Int => UInt8.ofNat n.toNat) ∘ fun b : Nat => (b : Int)) = b.map ((fun n : Int => UInt8.ofNat n.toNat) ∘ fun b : Nat => (b : Int)) → a = b := by
      intro a
      induction a with
      | nil => intro b _ _ h; simpa using h.symm
      | cons x a ih =>
        intro b ha hb h
        cases b with
        | nil => simp at h
        | cons y b =>
          simp only [List.map_cons, List.cons.injEq, Function.comp, Int.toNat_natCast] at h
          have h1 := congrArg UInt8.toNat h.1
          have hx := ha x (by simp)
          have hy := hb y (by simp)
          simp [UInt8.toNat_ofNat, Nat.mod_eq_of_lt hx, Nat.mod_eq_of_lt hy] at h1
          rw [h1, ih b (fun z hz => ha z (by simp [hz])) (fun z hz => hb z (by simp [hz])) h.2]
    exact key a b ha hb h
  · rintro rfl
    rfl

/-- string(b). -/
theorem run_str {w : World} {B n c : Nat} {A : Option Addr} {bs : List Nat} (hr : Reads w B 1 A n (byv bs)) :
    (convert 57 9 (.slice A n c)).run Tryd.prog w = .ok (.string (bstr bs)) w := by
  have hln := reads_bytes_le hr
  subst hln
  cases A with
  | none =>
    have : bs = [] := by
      cases bs with
      | nil => rfl
      | cons x l =>
        obtain ⟨ad, e, -⟩ := hr.2 (by simp)
        cases e
    subst this
    exact run_convert_bytes_nil w _ _ Tryd.underlying57 Tryd.underlying5 _ _ _ Tryd.underlying9
  | some ad =>
    cases bs with
    | nil =>
      obtain ⟨b, o, s⟩ := ad
      rw [run_convert_bytes_string w _ _ _ _ _ c Tryd.underlying57 Tryd.underlying5 Tryd.underlying9, run_bytesToString w _ _ _ [] (by simp [loadCells]; rfl)]
      rfl
    | cons x l =>
      obtain ⟨b, o, e, hb, hc⟩ := hr.mid (by simp) (by omega)
      injection e with e
      subst e
      refine run_convert_bytes_arg w _ _ Tryd.underlying57 Tryd.underlying5 b o _ _ ((x :: l).map fun b : Nat => (b : Int)) (by simp) (fun i hi => ?_) _ Tryd.underlying9
      refine hc i _ ?_
      unfold byv
      rw [List.getElem?_map, List.getD_eq_getElem?_getD, List.getElem?_map, List.getElem?_eq_getElem hi]
      rfl

end Go.Proofs.YtamhggndcegndaaDoor
