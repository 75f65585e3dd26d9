/-
  Short forms for the texts of the claim ModelRefused.
-/
import Derived.Test.YthomgopipiomhaaGreatDoorChecked
import Derived.Lib.Hide
import Derived.WalkKit
namespace Go.Proofs.YthomgopipiomhaaGreatDoor
open Go.RowKit
abbrev Zc := Calls Tryz.prog
theorem zo {p : Prop} (h : p := by omega) : p := h
theorem zdc {p : Prop} (h : p := by decide) : p := h
theorem zk {p : Prop} (h : p := by kernel_rfl) : p := h
theorem zm {p : Prop} (h : p := by simp) : p := h
theorem zjq {p : Prop} (h : p := by (intro j u h; simpa using h)) : p := h
abbrev Zb (w w' : World) := Below w.heap.size w w'
theorem _root_.Go.RowKit.Hid.o {p : Prop} (h : Go.RowKit.Hid p) : p := h
theorem tA3 {α : Type _} {l : List α} {i : Nat} : l.toArray[i]? = l[i]? := List.getElem?_toArray
theorem tA4 (n : Nat) : n ≤ n := Nat.le_refl n
theorem tA5 (B : Nat) (w : World) : Below B w w := Below.refl B w
theorem tA6 {α : Type _} {l r : List α} : (l ++ r).length = l.length + r.length := List.length_append
theorem tA7 {α : Type _} {l : List α} {i : Nat} (h : i < l.length) : l[i]? = some l[i] := List.getElem?_eq_getElem h
abbrev zLQ : Array Value := #[.int .i64 0, .int .u32 0, .slice none 0 0, .int .u8 0, .int .u8 0, .int .u8 0, .int .u8 0, .int .u8 0, .int .u8 0, .int .u8 0, .int .u8 0, .int .u8 0, .int .u8 0, .int .u8 0, .int .u8 0, .int .u8 0, .int .u8 0, .int .u8 0, .int .u8 0, .int .u8 0, .int .u8 0, .int .u8 0, .int .u8 0, .int .u8 0, .int .u8 0, .int .u8 0, .int .u8 0, .int .u8 0, .int .u8 0, .int .u8 0, .int .u8 0, .int .u8 0, .int .u8 0, .int .u8 0, .int .u8 0, .int .i64 0, .int .i64 0, .int .i64 0, .int .i64 0, .int .i64 0, .int .u32 0, .int .u64 0, .int .u64 0, .int .u32 0, .int .u32 0, .int .u32 0, .int .u64 0, .slice none 0 0]
abbrev zLT : Array Value := #[.int .u32 0, .slice none 0 0, .int .u8 0, .int .u8 0, .int .u8 0, .int .u8 0, .int .u8 0, .int .u8 0, .int .u8 0, .int .u8 0, .int .u8 0, .int .u8 0, .int .u8 0, .int .u8 0, .int .u8 0, .int .u8 0, .int .u8 0, .int .u8 0, .int .u8 0, .int .u8 0, .int .u8 0, .int .u8 0, .int .u8 0, .int .u8 0, .int .u8 0, .int .u8 0, .int .u8 0, .int .u8 0, .int .u8 0, .int .u8 0, .int .u8 0, .int .u8 0, .int .u8 0, .int .u8 0]
abbrev zLD : Array Value := #[.int .u8 0, .int .u8 0, .int .u8 0, .int .u8 0, .int .u8 0, .int .u8 0, .int .u8 0, .int .u8 0, .int .u8 0, .int .u8 0, .int .u8 0, .int .u8 0, .int .u8 0, .int .u8 0, .int .u8 0, .int .u8 0, .int .u8 0, .int .u8 0, .int .u8 0, .int .u8 0, .int .u8 0, .int .u8 0, .int .u8 0, .int .u8 0, .int .u8 0, .int .u8 0, .int .u8 0, .int .u8 0, .int .u8 0, .int .u8 0, .int .u8 0, .int .u8 0]
abbrev zLH : Array Value := #[.int .u8 0, .int .u8 0, .int .u8 0, .int .u8 0, .int .u8 0, .int .u8 0, .int .u8 0, .int .u8 0, .int .u8 0, .int .u8 0, .int .u8 0, .int .u8 0, .int .u8 0, .int .u8 0, .int .u8 0, .int .u8 0, .int .u8 0, .int .u8 0, .int .u8 0, .int .u8 0, .int .u8 0, .int .u8 0, .int .u8 0, .int .u8 0, .int .u8 0, .int .u8 0, .int .u8 0, .int .u8 0, .int .u8 0, .int .u8 0, .int .u8 0, .int .u8 0, .int .u8 0, .int .u8 0, .int .u8 0, .int .u8 0, .int .u8 0, .int .u8 0, .int .u8 0, .int .u8 0, .int .u8 0, .int .u8 0, .int .u8 0, .int .u8 0, .int .u8 0, .int .u8 0, .int .u8 0, .int .u8 0, .int .u8 0, .int .u8 0, .int .u8 0, .int .u8 0, .int .u8 0, .int .u8 0, .int .u8 0, .int .u8 0, .int .u8 0, .int .u8 0, .int .u8 0, .int .u8 0, .int .u8 0, .int .u8 0, .int .u8 0, .int .u8 0]
abbrev zLS : Array Value := #[.int .i64 0, .int .i64 0, .int .u64 0, .int .u64 0, .int .u8 0, .int .u8 0, .int .u8 0, .int .u8 0, .int .u8 0, .int .u8 0, .int .u8 0, .int .u8 0, .int .u8 0, .int .u8 0, .int .u8 0, .int .u8 0, .int .u8 0, .int .u8 0, .int .u8 0, .int .u8 0, .int .u8 0, .int .u8 0, .int .u8 0, .int .u8 0, .int .u8 0, .int .u8 0, .int .u8 0, .int .u8 0, .int .u8 0, .int .u8 0, .int .u8 0, .int .u8 0, .int .u8 0, .int .u8 0, .int .u8 0, .int .u8 0]
theorem tA0 {α : Type _} (l : List α) (i : Nat) (a : α) : l.toArray.setIfInBounds i a = (l.set i a).toArray := List.setIfInBounds_toArray ..
theorem tA1 {α : Type _} (x : α) (l : List α) (a : α) : (x :: l).set 0 a = a :: l := rfl
theorem tA2 {α : Type _} (x : α) (l : List α) (n : Nat) (a : α) : (x :: l).set (n + 1) a = x :: l.set n a := rfl
theorem zP {p q : Prop} (h : p) (e : q = p := by ((try simp only [Act.put, tA0, tA1, tA2]); exact rfl)) : q := e.mpr h
theorem eqx {α : Sort _} (a : α) : ∃ x, x = a := ⟨a, rfl⟩
theorem xeq {α : Sort _} (a : α) : ∃ x, a = x := ⟨a, rfl⟩
theorem zh1 {p : Prop} (a : p) : Hid p := Lib.hid a
theorem zh2 {p0 p1 : Prop} (a0 : p0) (a1 : p1) : Hid p0 ∧ Hid p1 := ⟨Lib.hid a0, Lib.hid a1⟩
theorem zh3 {p0 p1 p2 : Prop} (a0 : p0) (a1 : p1) (a2 : p2) : Hid p0 ∧ Hid p1 ∧ Hid p2 := ⟨Lib.hid a0, Lib.hid a1, Lib.hid a2⟩
theorem zh4 {p0 p1 p2 p3 : Prop} (a0 : p0) (a1 : p1) (a2 : p2) (a3 : p3) : Hid p0 ∧ Hid p1 ∧ Hid p2 ∧ Hid p3 := ⟨Lib.hid a0, Lib.hid a1, Lib.hid a2, Lib.hid a3⟩
theorem zh5 {p0 p1 p2 p3 p4 : Prop} (a0 : p0) (a1 : p1) (a2 : p2) (a3 : p3) (a4 : p4) : Hid p0 ∧ Hid p1 ∧ Hid p2 ∧ Hid p3 ∧ Hid p4 := ⟨Lib.hid a0, Lib.hid a1, Lib.hid a2, Lib.hid a3, Lib.hid a4⟩
theorem zh6 {p0 p1 p2 p3 p4 p5 : Prop} (a0 : p0) (a1 : p1) (a2 : p2) (a3 : p3) (a4 : p4) (a5 : p5) : Hid p0 ∧ Hid p1 ∧ Hid p2 ∧ Hid p3 ∧ Hid p4 ∧ Hid p5 := ⟨Lib.hid a0, Lib.hid a1, Lib.hid a2, Lib.hid a3, Lib.hid a4, Lib.hid a5⟩
theorem zh7 {p0 p1 p2 p3 p4 p5 p6 : Prop} (a0 : p0) (a1 : p1) (a2 : p2) (a3 : p3) (a4 : p4) (a5 : p5) (a6 : p6) : Hid p0 ∧ Hid p1 ∧ Hid p2 ∧ Hid p3 ∧ Hid p4 ∧ Hid p5 ∧ Hid p6 := ⟨Lib.hid a0, Lib.hid a1, Lib.hid a2, Lib.hid a3, Lib.hid a4, Lib.hid a5, Lib.hid a6⟩
theorem zh8 {p0 p1 p2 p3 p4 p5 p6 p7 : Prop} (a0 : p0) (a1 : p1) (a2 : p2) (a3 : p3) (a4 : p4) (a5 : p5) (a6 : p6) (a7 : p7) : Hid p0 ∧ Hid p1 ∧ Hid p2 ∧ Hid p3 ∧ Hid p4 ∧ Hid p5 ∧ Hid p6 ∧ Hid p7 := ⟨Lib.hid a0, Lib.hid a1, Lib.hid a2, Lib.hid a3, Lib.hid a4, Lib.hid a5, Lib.hid a6, Lib.hid a7⟩
theorem tA8 {α : Type _} {l : List α} {i : Nat} {a : α} (h : l[i]? = some a) : ∃ h : i < l.length, l[i] = a := List.getElem?_eq_some_iff.1 h
abbrev tB0 := @Nat.lt_of_lt_of_le
abbrev tB1 := @Nat.le_trans
abbrev tB2 := @List.mem_of_getElem?
abbrev tB3 := @World.ownsRow.kept
abbrev tB4 := @List.getD_eq_getElem?_getD
abbrev tB5 := @List.take_of_length_le
abbrev tB6 := @List.size_toArray
abbrev tB7 := @List.mem_of_mem_take
abbrev tB8 := @List.eq_nil_of_length_eq_zero
abbrev tB9 := @World.grownBy.refl
abbrev tBa := @IntWalk.u64_in
abbrev tBb := @IntWalk.i64_in
abbrev tBc := @List.getElem?_cons_succ
abbrev tBd := @List.length_take
abbrev tBe := @Int.toNat_natCast
abbrev tBf := @IntWalk.u32_in
abbrev tBg := @List.mem_append
abbrev tBh := @List.mem_singleton
abbrev tBi := @List.length_cons
abbrev tBj := @List.getElem?_map
abbrev tBk := @List.length_drop
abbrev tBl := @List.length_map
abbrev tBm := @List.getElem?_append_left
abbrev tBn := @List.getElem?_append_right
abbrev zu29 := Tryz.underlying29
abbrev zu31 := Tryz.underlying31
abbrev zu34 := Tryz.underlying34
abbrev zu44 := Tryz.underlying44
abbrev zu49 := Tryz.underlying49
abbrev zu53 := Tryz.underlying53
abbrev zu55 := Tryz.underlying55
abbrev zu57 := Tryz.underlying57
abbrev zu66 := Tryz.underlying66
abbrev zu74 := Tryz.underlying74
abbrev zu92 := Tryz.underlying92
end Go.Proofs.YthomgopipiomhaaGreatDoor
