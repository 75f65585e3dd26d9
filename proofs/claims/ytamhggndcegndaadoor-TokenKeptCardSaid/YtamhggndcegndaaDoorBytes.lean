/-
  Bytes as lists of numbers below 256; numbers in bytes, the highest first (chapter 2). Plain lemmas, no program.
-/
import Derived.Test.YtamhggndcegndaaDoorWords
namespace Go.Proofs.YtamhggndcegndaaDoor
open Go.RowKit
set_option linter.unusedVariables false

/-- Bytes as cells. -/
def byv (l : List Nat) : List Value := l.map fun b : Nat => Value.int .u8 (b : Int)

theorem byv_append (a b : List Nat) : byv (a ++ b) = byv a ++ byv b := by simp [byv]

theorem byv_length (a : List Nat) : (byv a).length = a.length := by simp [byv]

theorem byv_one (l : List Nat) : ∀ u ∈ byv l, u.oneCell' = true := by
  intro u hu
  obtain ⟨x, _, rfl⟩ := List.mem_map.1 hu
  rfl

/-- The byte number k of a number, the lowest being number 0. -/
def byteAt (n k : Nat) : Nat := n / 256 ^ k % 256

/-- A number in s bytes. -/
def be (n s : Nat) : List Nat := (List.range s).map fun j => byteAt n (s - 1 - j)

theorem be_length (n s : Nat) : (be n s).length = s := by simp [be]

theorem be_take (n s j : Nat) (h : j < s) : (be n s).take (j + 1) = (be n s).take j ++ [byteAt n (s - 1 - j)] := by
  rw [List.take_add_one]
  congr 1
  simp [be, h]

theorem byteAt_lt (n k : Nat) : byteAt n k < 256 := Nat.mod_lt _ (by omega)

theorem be_lt (n s : Nat) : ∀ b ∈ be n s, b < 256 := by
  intro b hb
  simp only [be, List.mem_map] at hb
  obtain ⟨j, _, rfl⟩ := hb
  exact byteAt_lt _ _

/-- How many bytes a number has that is asked for k. -/
def sizeN (k : Int) : Nat := (min (max k 1) 8).toNat

theorem sizeN_bd (k : Int) : 1 ≤ sizeN k ∧ sizeN k ≤ 8 := by unfold sizeN; omega

/-- A text: its length in two bytes, its bytes. -/
def txt (b : List Nat) : List Nat := be (b.length % 65536) 2 ++ b.take (b.length % 65536)

theorem ofInt_i64 (a : Nat) (ha : a < 9223372036854775808) : (BitVec.ofInt 64 (a : Int)).toNat = a := by
  rw [BitVec.ofInt_natCast, BitVec.toNat_ofNat]; exact Nat.mod_eq_of_lt (by omega)

/-- n & 0xffff on int. -/
theorem and_ffff (n : Nat) (hn : n ≤ 9223372036854775807) : bits .and .i64 (n : Int) 65535 = ((n % 65536 : Nat) : Int) := by
  have h : bits .and .i64 (n : Int) ((65535 : Nat) : Int) = ((n &&& 65535 : Nat) : Int) := by
    have hx : n &&& 65535 < 2 ^ 63 := Nat.and_lt_two_pow _ (by omega)
    show IntKind.i64.wrap ((BitVec.ofInt 64 (n : Int) &&& BitVec.ofInt 64 ((65535 : Nat) : Int)).toNat : Int) = _
    rw [BitVec.toNat_and, ofInt_i64 n (by omega), ofInt_i64 65535 (by omega), IntKind.wrap_i64]
    omega
  rw [show (65535 : Int) = ((65535 : Nat) : Int) from rfl, h]
  rw [show n &&& 65535 = n % 65536 from Nat.and_two_pow_sub_one_eq_mod n 16]

/-- A slice's first k cells. -/
theorem Reads.pre {w : World} {B n k : Nat} {A : Option Addr} {xs : List Value} (h : Reads w B 1 A n xs) (hk : k ≤ n) : Reads w B 1 A k (xs.take k) := by
  refine ⟨by rw [List.length_take, h.1]; omega, fun hk0 => ?_⟩
  obtain ⟨ad, e, hb, hc⟩ := h.2 (by omega)
  exact ⟨ad, e, hb, fun j u hu => hc j u (by rw [List.getElem?_take] at hu; split at hu <;> simp_all)⟩

/-- What reads lies in the memory that there is. -/
theorem Reads.here {w : World} {B n : Nat} {A : Option Addr} {xs : List Value} (h : Reads w B 1 A n xs) : Reads w w.heap.size 1 A n xs := by
  refine ⟨h.1, fun hn => ?_⟩
  obtain ⟨ad, u, e, hb, hu, hc⟩ := h.at_ hn
  obtain ⟨ad', e', hb', hc'⟩ := h.2 hn
  rw [e] at e'
  injection e' with e'
  subst e'
  refine ⟨ad, e, ?_, hc'⟩
  have := World.block_lt_of_cell? _ _ hc
  rwa [block_of_add] at this

theorem reads_bytes_le {w : World} {B n : Nat} {A : Option Addr} {bs : List Nat} (h : Reads w B 1 A n (byv bs)) : bs.length = n := by
  have := h.1
  simpa [byv] using this

/-- What reads, with the address taken apart. -/
theorem Reads.mid {w : World} {B size n : Nat} {A : Option Addr} {xs : List Value} (h : Reads w B size A n xs) (hn : 0 < n) (hs : 0 < size) :
    ∃ b o, A = some ⟨b, o, none⟩ ∧ b < B ∧ ∀ j u, xs[j]? = some u → w.cell? ⟨b, o + j, none⟩ = some u := by
  obtain ⟨⟨b, o, sp⟩, rfl, hb, hc⟩ := h.2 hn
  have hl : 0 < xs.length := by rw [h.1]; exact Nat.mul_pos hn hs
  have h0 := hc 0 _ (List.getElem?_eq_getElem hl)
  have hsp : sp = none := by
    have := World.cell?_spot h0
    simpa [Addr.add] using this
  subst hsp
  refine ⟨b, o, rfl, hb, fun j u hu => ?_⟩
  have := hc j u hu
  have e : (⟨b, o, none⟩ : Addr).add j = ⟨b, o + j, none⟩ := by unfold Addr.add; split <;> simp_all
  rwa [e] at this

end Go.Proofs.YtamhggndcegndaaDoor
