/-
  Short forms for the texts of the claim ModelNumbers.
-/
import Derived.Test.YthomgopipiomhaaGreatDoorChecked
import Derived.Lib.Hide
import Derived.WalkKit
namespace Go.Proofs.YthomgopipiomhaaGreatDoor
open Go.RowKit
theorem tA3 {α : Type _} {l : List α} {i : Nat} : l.toArray[i]? = l[i]? := List.getElem?_toArray
theorem tA4 (n : Nat) : n ≤ n := Nat.le_refl n
theorem tA5 (B : Nat) (w : World) : Below B w w := Below.refl B w
theorem tA6 {α : Type _} {l r : List α} : (l ++ r).length = l.length + r.length := List.length_append
theorem tA7 {α : Type _} {l : List α} {i : Nat} (h : i < l.length) : l[i]? = some l[i] := List.getElem?_eq_getElem h
abbrev zLQ : Array Value := #[.int .i64 0, .int .u32 0, .slice none 0 0, .int .u8 0, .int .u8 0, .int .u8 0, .int .u8 0, .int .u8 0, .int .u8 0, .int .u8 0, .int .u8 0, .int .u8 0, .int .u8 0, .int .u8 0, .int .u8 0, .int .u8 0, .int .u8 0, .int .u8 0, .int .u8 0, .int .u8 0, .int .u8 0, .int .u8 0, .int .u8 0, .int .u8 0, .int .u8 0, .int .u8 0, .int .u8 0, .int .u8 0, .int .u8 0, .int .u8 0, .int .u8 0, .int .u8 0, .int .u8 0, .int .u8 0, .int .u8 0, .int .i64 0, .int .i64 0, .int .i64 0, .int .i64 0, .int .i64 0, .int .u32 0, .int .u64 0, .int .u64 0, .int .u32 0, .int .u32 0, .int .u32 0, .int .u64 0, .slice none 0 0]
abbrev zLT : Array Value := #[.int .u32 0, .slice none 0 0, .int .u8 0, .int .u8 0, .int .u8 0, .int .u8 0, .int .u8 0, .int .u8 0, .int .u8 0, .int .u8 0, .int .u8 0, .int .u8 0, .int .u8 0, .int .u8 0, .int .u8 0, .int .u8 0, .int .u8 0, .int .u8 0, .int .u8 0, .int .u8 0, .int .u8 0, .int .u8 0, .int .u8 0, .int .u8 0, .int .u8 0, .int .u8 0, .int .u8 0, .int .u8 0, .int .u8 0, .int .u8 0, .int .u8 0, .int .u8 0, .int .u8 0, .int .u8 0]
abbrev zLD : Array Value := #[.int .u8 0, .int .u8 0, .int .u8 0, .int .u8 0, .int .u8 0, .int .u8 0, .int .u8 0, .int .u8 0, .int .u8 0, .int .u8 0, .int .u8 0, .int .u8 0, .int .u8 0, .int .u8 0, .int .u8 0, .int .u8 0, .int .u8 0, .int .u8 0, .int .u8 0, .int .u8 0, .int .u8 0, .int .u8 0, .int .u8 0, .int .u8 0, .int .u8 0, .int .u8 0, .int .u8 0, .int .u8 0, .int .u8 0, .int .u8 0, .int .u8 0, .int .u8 0]
theorem tA0 {α : Type _} (l : List α) (i : Nat) (a : α) : l.toArray.setIfInBounds i a = (l.set i a).toArray := List.setIfInBounds_toArray ..
theorem tA1 {α : Type _} (x : α) (l : List α) (a : α) : (x :: l).set 0 a = a :: l := rfl
theorem tA2 {α : Type _} (x : α) (l : List α) (n : Nat) (a : α) : (x :: l).set (n + 1) a = x :: l.set n a := rfl
theorem eqx {α : Sort _} (a : α) : ∃ x, x = a := ⟨a, rfl⟩
theorem xeq {α : Sort _} (a : α) : ∃ x, a = x := ⟨a, rfl⟩
theorem zh1 {p : Prop} (a : p) : Hid p := Lib.hid a
theorem zh2 {p0 p1 : Prop} (a0 : p0) (a1 : p1) : Hid p0 ∧ Hid p1 := ⟨Lib.hid a0, Lib.hid a1⟩
theorem zh3 {p0 p1 p2 : Prop} (a0 : p0) (a1 : p1) (a2 : p2) : Hid p0 ∧ Hid p1 ∧ Hid p2 := ⟨Lib.hid a0, Lib.hid a1, Lib.hid a2⟩
theorem zh4 {p0 p1 p2 p3 : Prop} (a0 : p0) (a1 : p1) (a2 : p2) (a3 : p3) : Hid p0 ∧ Hid p1 ∧ Hid p2 ∧ Hid p3 := ⟨Lib.hid a0, Lib.hid a1, Lib.hid a2, Lib.hid a3⟩
theorem zh5 {p0 p1 p2 p3 p4 : Prop} (a0 : p0) (a1 : p1) (a2 : p2) (a3 : p3) (a4 : p4) : Hid p0 ∧ Hid p1 ∧ Hid p2 ∧ Hid p3 ∧ Hid p4 := ⟨Lib.hid a0, Lib.hid a1, Lib.hid a2, Lib.hid a3, Lib.hid a4⟩
theorem zh6 {p0 p1 p2 p3 p4 p5 : Prop} (a0 : p0) (a1 : p1) (a2 : p2) (a3 : p3) (a4 : p4) (a5 : p5) : Hid p0 ∧ Hid p1 ∧ Hid p2 ∧ Hid p3 ∧ Hid p4 ∧ Hid p5 := ⟨Lib.hid a0, Lib.hid a1, Lib.hid a2, Lib.hid a3, Lib.hid a4, Lib.hid a5⟩
theorem zh7 {p0 p1 p2 p3 p4 p5 p6 : Prop} (a0 : p0) (a1 : p1) (a2 : p2) (a3 : p3) (a4 : p4) (a5 : p5) (a6 : p6) : Hid p0 ∧ Hid p1 ∧ Hid p2 ∧ Hid p3 ∧ Hid p4 ∧ Hid p5 ∧ Hid p6 := ⟨Lib.hid a0, Lib.hid a1, Lib.hid a2, Lib.hid a3, Lib.hid a4, Lib.hid a5, Lib.hid a6⟩
theorem zh8 {p0 p1 p2 p3 p4 p5 p6 p7 : Prop} (a0 : p0) (a1 : p1) (a2 : p2) (a3 : p3) (a4 : p4) (a5 : p5) (a6 : p6) (a7 : p7) : Hid p0 ∧ Hid p1 ∧ Hid p2 ∧ Hid p3 ∧ Hid p4 ∧ Hid p5 ∧ Hid p6 ∧ Hid p7 := ⟨Lib.hid a0, Lib.hid a1, Lib.hid a2, Lib.hid a3, Lib.hid a4, Lib.hid a5, Lib.hid a6, Lib.hid a7⟩
end Go.Proofs.YthomgopipiomhaaGreatDoor
