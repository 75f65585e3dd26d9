/-
  sha.mix: one block of 64 bytes is mixed into the state.
-/
import Derived.Test.YtamhggndcegndaaDoorChecked
import Derived.Test.YtamhggndcegndaaDoorWords
import Derived.Test.YtamhggndcegndaaDoorBytes
import Derived.Test.YtamhggndcegndaaDoorSeq
import Derived.Test.YtamhggndcegndaaDoorSha
import Derived.Deep.RegionHeld3
import Derived.Lib.LaidTab
import Derived.StillTailTactics
import Derived.Deep.Cut
import Derived.Deep.MidRow
namespace Go.Proofs.YtamhggndcegndaaDoor
open Go.RowKit
set_option linter.unusedVariables false
set_option maxRecDepth 100000

def wordv (ws : List Nat) : List Value := ws.map fun n : Nat => Value.int .u32 (n : Int)
def be32 (bs : List Nat) (i : Nat) : Nat := (((bs.getD i 0 * 16777216) ||| (bs.getD (i + 1) 0 * 65536)) ||| (bs.getD (i + 2) 0 * 256)) ||| bs.getD (i + 3) 0
def sig0 (x : Nat) : Nat := rotr x 7 ^^^ rotr x 18 ^^^ x / 2 ^ 3
def sig1 (x : Nat) : Nat := rotr x 17 ^^^ rotr x 19 ^^^ x / 2 ^ 10
def wnext (bs W : List Nat) (i : Nat) : Nat :=
  if i < 16 then be32 bs (4 * i) else (sig1 (W.getD (i - 2) 0) + W.getD (i - 7) 0 + sig0 (W.getD (i - 15) 0) + W.getD (i - 16) 0) % 4294967296
def sched (bs : List Nat) : Nat → List Nat
  | 0 => []
  | i + 1 => sched bs i ++ [wnext bs (sched bs i) i]

theorem sched_length (bs : List Nat) : ∀ i, (sched bs i).length = i
  | 0 => rfl
  | i + 1 => by simp [sched, sched_length bs i]

def u32s (ws : List Nat) : Prop := ∀ x ∈ ws, x < 4294967296
theorem u32s.getD {ws : List Nat} (h : u32s ws) (i : Nat) : ws.getD i 0 < 4294967296 := by
  rw [List.getD_eq_getElem?_getD]
  rcases hx : ws[i]? with _ | x
  · simp
  · exact h x (List.mem_of_getElem? hx)

theorem be32_lt (bs : List Nat) (h : ∀ b ∈ bs, b < 256) (i : Nat) : be32 bs i < 4294967296 := by
  have hb : ∀ k, bs.getD k 0 < 256 := fun k => by
    rw [List.getD_eq_getElem?_getD]
    rcases hx : bs[k]? with _ | x
    · simp
    · exact h x (List.mem_of_getElem? hx)
  have h0 := hb i; have h1 := hb (i + 1); have h2 := hb (i + 2); have h3 := hb (i + 3)
  unfold be32
  exact Nat.or_lt_two_pow (n := 32) (Nat.or_lt_two_pow (Nat.or_lt_two_pow (by omega) (by omega)) (by omega)) (by omega)

theorem sched_u32 (bs : List Nat) (h : ∀ b ∈ bs, b < 256) : ∀ i, u32s (sched bs i)
  | 0 => by intro x hx; cases hx
  | i + 1 => by
    intro x hx
    simp only [sched, List.mem_append, List.mem_singleton] at hx
    rcases hx with hx | rfl
    · exact sched_u32 bs h i x hx
    · unfold wnext
      split
      · exact be32_lt bs h _
      · exact Nat.mod_lt _ (by decide)

def padded (ws : List Nat) : List Nat := ws ++ List.replicate (64 - ws.length) 0

theorem padded_at {ws : List Nat} {k : Nat} (h : ws.length = k) (hk : k < 64) : (wordv (padded ws)).toArray[k]? = some (.int .u32 0) := by
  subst h
  simp only [wordv, padded, List.getElem?_toArray, List.getElem?_map, List.getElem?_append_right (Nat.le_refl _), List.getElem?_replicate]
  rw [if_pos (by omega)]; rfl

theorem padded_set {ws : List Nat} {k v : Nat} (h : ws.length = k) (hk : k < 64) : (wordv (padded ws)).toArray.setIfInBounds k (.int .u32 v) = (wordv (padded (ws ++ [v]))).toArray := by
  subst h
  have e : 64 - ws.length = (64 - (ws.length + 1)) + 1 := by omega
  unfold wordv padded
  rw [e, List.replicate_succ]
  simp

theorem padded_in {ws : List Nat} {k i : Nat} (h : ws.length = k) (hi : i < k) : (wordv (padded ws)).toArray[i]? = some (.int .u32 (ws.getD i 0 : Nat)) := by
  subst h
  simp only [wordv, padded, List.getElem?_toArray, List.getElem?_map, List.getElem?_append_left hi]
  rw [List.getD_eq_getElem?_getD, List.getElem?_eq_getElem hi]; rfl

theorem cell_off {w : World} {g i k : Nat} {u v : Value} (hne : i ≠ k) (h : w.cell? ⟨g, i, none⟩ = some u) : (w.setCell ⟨g, k, none⟩ v).cell? ⟨g, i, none⟩ = some u := by
  rw [World.cell?_setCell_other _ _ _ _ (fun e => hne (by injection e with _ e; exact e.symm))]; exact h

theorem add4 (a b c d : Nat) : IntKind.u32.wrap (IntKind.u32.wrap (IntKind.u32.wrap ((a : Int) + b) + c) + d) = (((a + b + c + d) % 4294967296 : Nat) : Int) := by
  unfold IntKind.wrap
  simp [IntKind.bits, IntKind.signed]

theorem padded_full {ws : List Nat} (h : ws.length = 64) : padded ws = ws := by
  unfold padded; rw [h]; simp

/-- The state. -/
structure St where
  a : Nat
  b : Nat
  c : Nat
  d : Nat
  e : Nat
  f : Nat
  g : Nat
  h : Nat

def St.ok (s : St) : Prop := s.a < 4294967296 ∧ s.b < 4294967296 ∧ s.c < 4294967296 ∧ s.d < 4294967296 ∧ s.e < 4294967296 ∧ s.f < 4294967296 ∧ s.g < 4294967296 ∧ s.h < 4294967296

/-- The round's constants. -/
def Kt : List Nat := [0x428a2f98, 0x71374491, 0xb5c0fbcf, 0xe9b5dba5, 0x3956c25b, 0x59f111f1, 0x923f82a4, 0xab1c5ed5, 0xd807aa98, 0x12835b01, 0x243185be, 0x550c7dc3, 0x72be5d74, 0x80deb1fe, 0x9bdc06a7, 0xc19bf174, 0xe49b69c1, 0xefbe4786, 0x0fc19dc6, 0x240ca1cc, 0x2de92c6f, 0x4a7484aa, 0x5cb0a9dc, 0x76f988da, 0x983e5152, 0xa831c66d, 0xb00327c8, 0xbf597fc7, 0xc6e00bf3, 0xd5a79147, 0x06ca6351, 0x14292967, 0x27b70a85, 0x2e1b2138, 0x4d2c6dfc, 0x53380d13, 0x650a7354, 0x766a0abb, 0x81c2c92e, 0x92722c85, 0xa2bfe8a1, 0xa81a664b, 0xc24b8b70, 0xc76c51a3, 0xd192e819, 0xd6990624, 0xf40e3585, 0x106aa070, 0x19a4c116, 0x1e376c08, 0x2748774c, 0x34b0bcb5, 0x391c0cb3, 0x4ed8aa4a, 0x5b9cca4f, 0x682e6ff3, 0x748f82ee, 0x78a5636f, 0x84c87814, 0x8cc70208, 0x90befffa, 0xa4506ceb, 0xbef9a3f7, 0xc67178f2]

def Sig0 (x : Nat) : Nat := rotr x 2 ^^^ rotr x 13 ^^^ rotr x 22
def Sig1 (x : Nat) : Nat := rotr x 6 ^^^ rotr x 11 ^^^ rotr x 25
def chf (s : St) : Nat := (s.e &&& s.f) ^^^ ((4294967295 ^^^ s.e) &&& s.g)
def maj (s : St) : Nat := ((s.a &&& s.b) ^^^ (s.a &&& s.c)) ^^^ (s.b &&& s.c)
def hh (s : St) (k wd : Nat) : Nat := (s.h + Sig1 s.e + chf s + k + wd) % 4294967296
def round (s : St) (k wd : Nat) : St :=
  ⟨(hh s k wd + (Sig0 s.a + maj s) % 4294967296) % 4294967296, s.a, s.b, s.c, (s.d + hh s k wd) % 4294967296, s.e, s.f, s.g⟩
def rounds (W : List Nat) (s : St) : Nat → St
  | 0 => s
  | i + 1 => round (rounds W s i) (Kt.getD i 0) (W.getD i 0)

/-- The state at first. -/
def start0 : St := ⟨0x6a09e667, 0xbb67ae85, 0x3c6ef372, 0xa54ff53a, 0x510e527f, 0x9b05688c, 0x1f83d9ab, 0x5be0cd19⟩
def St.vals (s : St) : Array Value := #[.int .u32 s.a, .int .u32 s.b, .int .u32 s.c, .int .u32 s.d, .int .u32 s.e, .int .u32 s.f, .int .u32 s.g, .int .u32 s.h]

/-- sha's two tables stand in memory. -/
structure Tabs (w : World) : Prop where
  size : 3 ≤ w.heap.size
  start : ∀ i, i < 8 → w.cell? ⟨1, i, none⟩ = start0.vals[i]?
  words : ∀ i, i < 64 → w.cell? ⟨2, i, none⟩ = some (.int .u32 (Kt.getD i 0 : Nat))

theorem Tabs.below {w w' : World} {B : Nat} (h : Tabs w) (hb : Below B w w') (hB : 3 ≤ B) : Tabs w' :=
  ⟨Nat.le_trans h.size hb.size, fun i hi => (hb.cell (p := ⟨1, i, none⟩) (show (1 : Nat) < B by omega)).trans (h.start i hi), fun i hi => (hb.cell (p := ⟨2, i, none⟩) (show (2 : Nat) < B by omega)).trans (h.words i hi)⟩

theorem Kt_lt (i : Nat) : Kt.getD i 0 < 4294967296 := by
  have : u32s Kt := by
    intro x hx
    have h : (Kt.all fun x => decide (x < 4294967296)) = true := by decide
    simpa using List.all_eq_true.1 h x hx
  exact this.getD i

def St.list (s : St) : List Nat := [s.a, s.b, s.c, s.d, s.e, s.f, s.g, s.h]

theorem St.ok_list {s : St} (h : s.ok) : u32s s.list := by
  obtain ⟨h1, h2, h3, h4, h5, h6, h7, h8⟩ := h
  intro x hx
  simp only [St.list, List.mem_cons, List.not_mem_nil, or_false] at hx
  rcases hx with rfl | rfl | rfl | rfl | rfl | rfl | rfl | rfl <;> assumption

/-- The first k of a list's words are those of both added. -/
def addl (A B : List Nat) (k : Nat) : List Nat := (List.range A.length).map fun i => if i < k then (A.getD i 0 + B.getD i 0) % 4294967296 else A.getD i 0

theorem list_cell {A : List Nat} {i : Nat} (h : i < A.length) : (wordv A).toArray[i]? = some (.int .u32 (A.getD i 0 : Nat)) := by
  simp only [wordv, List.getElem?_toArray, List.getElem?_map]
  rw [List.getD_eq_getElem?_getD, List.getElem?_eq_getElem h]; rfl

theorem addl_length (A B : List Nat) (k : Nat) : (addl A B k).length = A.length := by simp [addl]

theorem addl_zero (A B : List Nat) : addl A B 0 = A := by
  apply List.ext_getElem?
  intro i
  by_cases h : i < A.length
  · simp only [addl, Nat.not_lt_zero, if_false, List.getElem?_map, List.getElem?_range h, Option.map_some]
    rw [List.getD_eq_getElem?_getD, List.getElem?_eq_getElem h]; rfl
  · rw [List.getElem?_eq_none (by rw [addl_length]; omega), List.getElem?_eq_none (by omega)]

theorem addl_cell {A B : List Nat} {k i : Nat} (h : i < A.length) : (wordv (addl A B k)).toArray[i]? = some (.int .u32 ((if i < k then (A.getD i 0 + B.getD i 0) % 4294967296 else A.getD i 0 : Nat) : Int)) := by
  simp only [wordv, addl, List.getElem?_toArray, List.getElem?_map, List.getElem?_range h, Option.map_some]

theorem addl_set {A B : List Nat} {k : Nat} (h : k < A.length) : (wordv (addl A B k)).toArray.setIfInBounds k (.int .u32 (((A.getD k 0 + B.getD k 0) % 4294967296 : Nat) : Int)) = (wordv (addl A B (k + 1))).toArray := by
  apply Array.ext_getElem?
  intro i
  rw [Array.getElem?_setIfInBounds]
  by_cases hi : i < A.length
  · rw [addl_cell hi, addl_cell hi]
    by_cases hik : k = i
    · subst hik
      rw [if_pos rfl, if_pos (by simp [wordv, addl_length]; omega), if_pos (by omega)]
    · rw [if_neg hik]
      by_cases h2 : i < k
      · rw [if_pos h2, if_pos (by omega)]
      · rw [if_neg h2, if_neg (by omega)]
  · rw [if_neg (by omega), Array.getElem?_eq_none (by simp [wordv, addl_length]; omega), Array.getElem?_eq_none (by simp [wordv, addl_length]; omega)]

theorem grownBy_trans {a b c : World} {row : Option Nat} (h : a.grownBy b row) (k : b.grownBy c row) : a.grownBy c row :=
  ⟨k.os.trans h.os, k.tape.trans h.tape, k.output.trans h.output, Nat.le_trans h.size k.size, fun i hi hne => (k.block i (Nat.lt_of_lt_of_le hi h.size) hne).trans (h.block i hi hne)⟩

/-- The state behind a block. -/
def addSt (s z : St) : St := ⟨(s.a + z.a) % 4294967296, (s.b + z.b) % 4294967296, (s.c + z.c) % 4294967296, (s.d + z.d) % 4294967296, (s.e + z.e) % 4294967296, (s.f + z.f) % 4294967296, (s.g + z.g) % 4294967296, (s.h + z.h) % 4294967296⟩
def mixed (bs : List Nat) (s : St) : St := addSt s (rounds (sched bs 64) s 64)

theorem addl_all (s z : St) : addl s.list z.list 8 = (addSt s z).list := rfl
theorem St.vals_list (s : St) : s.vals = (wordv s.list).toArray := rfl

theorem mixed_ok (bs : List Nat) (s : St) : (mixed bs s).ok :=
  ⟨Nat.mod_lt _ (by decide), Nat.mod_lt _ (by decide), Nat.mod_lt _ (by decide), Nat.mod_lt _ (by decide), Nat.mod_lt _ (by decide), Nat.mod_lt _ (by decide), Nat.mod_lt _ (by decide), Nat.mod_lt _ (by decide)⟩

theorem round_ok (s : St) (k wd : Nat) (h : s.ok) : (round s k wd).ok := by
  obtain ⟨h1, h2, h3, h4, h5, h6, h7, h8⟩ := h
  exact ⟨Nat.mod_lt _ (by decide), h1, h2, h3, Nat.mod_lt _ (by decide), h5, h6, h7⟩

theorem rounds_ok (W : List Nat) (s : St) (h : s.ok) : ∀ i, (rounds W s i).ok
  | 0 => h
  | i + 1 => round_ok _ _ _ (rounds_ok W s h i)

theorem round_vals (a b c d e f g h k wd t1 t2 p3 q5 : Nat) (h1 : Sig1 e = t1) (h2 : Sig0 a = t2) (h3 : chf ⟨a, b, c, d, e, f, g, h⟩ = p3) (h4 : maj ⟨a, b, c, d, e, f, g, h⟩ = q5) :
    (round ⟨a, b, c, d, e, f, g, h⟩ k wd).vals = #[.int .u32 (((h + t1 + p3 + k + wd : Int) + (t2 + q5)) % 4294967296), .int .u32 a, .int .u32 b, .int .u32 c, .int .u32 ((d + (h + t1 + p3 + k + wd : Int)) % 4294967296), .int .u32 e, .int .u32 f, .int .u32 g] := by
  have e1 : hh ⟨a, b, c, d, e, f, g, h⟩ k wd = (h + t1 + p3 + k + wd) % 4294967296 := by unfold hh; rw [h3]; simp only [h1]
  unfold round St.vals
  dsimp only
  rw [e1, h2, h4]
  have v1 : (((((h + t1 + p3 + k + wd) % 4294967296 + (t2 + q5) % 4294967296) % 4294967296 : Nat)) : Int) = ((h + t1 + p3 + k + wd : Int) + (t2 + q5)) % 4294967296 := by clear h1 h2 h3 h4 e1; omega
  have v2 : ((((d + (h + t1 + p3 + k + wd) % 4294967296) % 4294967296 : Nat)) : Int) = (d + (h + t1 + p3 + k + wd : Int)) % 4294967296 := by clear h1 h2 h3 h4 e1 v1; omega
  rw [v1, v2]

theorem getD_at {bs : List Nat} {i b : Nat} (h : bs[i]? = some b) : bs.getD i 0 = b := by rw [List.getD_eq_getElem?_getD, h]; rfl

theorem byte_here {w wr : World} {B n g o : Nat} {bs : List Nat} (hr : ∀ j u, (byv bs)[j]? = some u → w.cell? ⟨g, o + j, none⟩ = some u) (hl : bs.length = n) (hbl : Below w.heap.size w wr) (hB : B ≤ w.heap.size) (hg : g < B) {j : Nat} (hj : j < n) :
    ∃ b : Nat, bs[j]? = some b ∧ wr.cell? ⟨g, o + j, none⟩ = some (.int .u8 b) := by
  refine ⟨bs[j]'(by omega), by simp, ?_⟩
  rw [hbl.cell (by show g < _; omega)]
  exact hr j _ (by simp [byv, show j < bs.length by omega])

-- END BY HAND
set_option maxHeartbeats 8000000 in
theorem sha_mix (g B n cc : Nat) (A : Option Addr) (bs : List Nat) (s0 : St) (w : World) (hS2 : s0.ok) (hb : bs.length = n) (hn : 64 ≤ n) (hb2 : ∀ b ∈ bs, b < 256)
    (hg : Blk w g 76 #[.int .u32 s0.a, .int .u32 s0.b, .int .u32 s0.c, .int .u32 s0.d, .int .u32 s0.e, .int .u32 s0.f, .int .u32 s0.g, .int .u32 s0.h]) (hr : Reads w B 1 A n (byv bs)) (hBw : B ≤ w.heap.size) (ht : Tabs w) :
    Calls Tryd.prog 82 #[.pointer (some ⟨g, 0, none⟩), .slice A n cc] w fun e w' => e = .returned (.tuple #[]) ∧ Blk w' g 76 (mixed bs s0).vals ∧ w.grownBy w' (some g) := by
  have hb2' : ∀ b, b ∈ bs → b < 256 := hb2
  obtain ⟨gb, ob, rfl, hadB, hr⟩ := hr.mid (by omega) (by omega)
  go_enter Tryd.func82, Tryd.ntmps82
  go_wp2_with fail
  go_loopw [13] (fun i wr => ∃ k q : Nat, k ≤ 64 ∧ i = .int .i64 k ∧ Blk wr w.heap.size 75 (wordv (padded (sched bs k))).toArray ∧ Below w.heap.size w wr) (fun i _ => 64 - (intOf i).toNat)
  case atStart => exact ⟨0, 0, by omega, rfl, Blk.new .., (Below.refl _ w).alloc (Nat.le_refl _) _⟩
  case round =>
    obtain ⟨k, q, hk, rfl, hw, hbl⟩ := hrel
    by_cases h16 : k < 16
    · have hwc := hw.cell k
      rw [padded_at (sched_length bs k) (by omega)] at hwc
      have hwf := hw.frozen k
      have hk64 : k < 64 := by omega
      have h16' : k < 16 := h16
      obtain ⟨j, hj⟩ : ∃ j, 4 * k = j := ⟨_, rfl⟩
      obtain ⟨b0, q0, e0⟩ := byte_here hr hb hbl hBw hadB (j := j) (by omega)
      obtain ⟨b1, q1, e1⟩ := byte_here hr hb hbl hBw hadB (j := j + 1) (by omega)
      obtain ⟨b2, q2, e2⟩ := byte_here hr hb hbl hBw hadB (j := j + 2) (by omega)
      obtain ⟨b3, q3, e3⟩ := byte_here hr hb hbl hBw hadB (j := j + 3) (by omega)
      have Q0 := Lib.hid q0; have Q1 := Lib.hid q1; have Q2 := Lib.hid q2; have Q3 := Lib.hid q3
      clear q0 q1 q2 q3
      have j60 : j ≤ 60 := by omega
      have hm : IntKind.i64.wrap (4 * (k : Int)) = (j : Int) := by rw [show (4 * (k : Int)) = (j : Int) by omega]; exact IntWalk.i64_in _ (by omega)
      have w1 : IntKind.i64.wrap ((j : Int) + 1) = (j : Int) + 1 := IntWalk.i64_in _ (by omega)
      have w2 : IntKind.i64.wrap ((j : Int) + 2) = (j : Int) + 2 := IntWalk.i64_in _ (by omega)
      have w3 : IntKind.i64.wrap ((j : Int) + 3) = (j : Int) + 3 := IntWalk.i64_in _ (by omega)
      have p0 : (j : Int) < n := by omega
      have p1 : (j : Int) + 1 < n := by omega
      have p2 : (j : Int) + 2 < n := by omega
      have p3 : (j : Int) + 3 < n := by omega
      have t1 : (0 : Int) ≤ (j : Int) + 1 := by omega
      have t2 : (0 : Int) ≤ (j : Int) + 2 := by omega
      have t3 : (0 : Int) ≤ (j : Int) + 3 := by omega
      have v0 := hb2' b0 (List.mem_of_getElem? Q0.out)
      have v1 := hb2' b1 (List.mem_of_getElem? Q1.out)
      have v2 := hb2' b2 (List.mem_of_getElem? Q2.out)
      have v3 := hb2' b3 (List.mem_of_getElem? Q3.out)
      have x0 : IntKind.u32.wrap (b0 : Int) = b0 := IntWalk.u32_in _ (by omega)
      have x1 : IntKind.u32.wrap (b1 : Int) = b1 := IntWalk.u32_in _ (by omega)
      have x2 : IntKind.u32.wrap (b2 : Int) = b2 := IntWalk.u32_in _ (by omega)
      have x3 : IntKind.u32.wrap (b3 : Int) = b3 := IntWalk.u32_in _ (by omega)
      have y0 : IntKind.u32.wrap ((b0 : Int) * 16777216) = b0 * 16777216 := IntWalk.u32_in _ (by omega)
      have y1 : IntKind.u32.wrap ((b1 : Int) * 65536) = b1 * 65536 := IntWalk.u32_in _ (by omega)
      have y2 : IntKind.u32.wrap ((b2 : Int) * 256) = b2 * 256 := IntWalk.u32_in _ (by omega)
      have n2 : ((j : Int) + 2).toNat = j + 2 := by omega
      have n3 : ((j : Int) + 3).toNat = j + 3 := by omega
      obtain ⟨a1, ha1, o1⟩ : ∃ a1 : Nat, a1 = (b0 * 16777216 ||| b1 * 65536) ∧ bits .or .u32 ((b0 : Int) * 16777216) ((b1 : Int) * 65536) = a1 := ⟨_, rfl, u32_or_nat (b0 * 16777216) (b1 * 65536) (by omega) (by omega)⟩
      have l1 : a1 < 4294967296 := by rw [ha1]; exact Nat.or_lt_two_pow (n := 32) (by omega) (by omega)
      obtain ⟨a2, ha2, o2⟩ : ∃ a2 : Nat, a2 = (a1 ||| b2 * 256) ∧ bits .or .u32 (a1 : Int) ((b2 : Int) * 256) = a2 := ⟨_, rfl, u32_or_nat a1 (b2 * 256) (by omega) (by omega)⟩
      have l2 : a2 < 4294967296 := by rw [ha2]; exact Nat.or_lt_two_pow (n := 32) (by omega) (by omega)
      obtain ⟨a3, ha3, o3⟩ : ∃ a3 : Nat, a3 = (a2 ||| b3) ∧ bits .or .u32 (a2 : Int) (b3 : Int) = a3 := ⟨_, rfl, u32_or_nat a2 b3 (by omega) (by omega)⟩
      have l3 : a3 = be32 bs (4 * k) := by
        have HJ' : 4 * k = j := hj
        unfold be32
        rw [HJ', ha3, ha2, ha1, getD_at Q0.out, getD_at Q1.out, getD_at Q2.out, getD_at Q3.out]
      clear ha1 ha2 ha3
      have L3 := Lib.hid l3
      clear l3
      have k64 : (k : Int) < 64 := by omega
      have HJ := Lib.hid hj
      clear hj hr
      go_wp2_with fail
      go_still_tail 35, (by kernel_rfl)
      change wpList _ _ _ _ _ wr.drew
      go_wp2
      go_roundw
      case rel =>
        refine ⟨k + 1, q, by omega, by go_num, ?_, ?_⟩
        · rw [sched, ← padded_set (sched_length bs k) hk64, wnext, if_pos h16', ← L3.out]
          exact hw.drew.set_ k _
        · exact hbl.drew.setCell (Nat.le_refl _) _
      case measure => simp [intOf]; omega
    · by_cases hk64 : k < 64
      · have hl := sched_length bs k
        have hu := sched_u32 bs hb2 k
        obtain ⟨m2, h2⟩ : ∃ m, k - 2 = m := ⟨_, rfl⟩
        obtain ⟨m7, h7⟩ : ∃ m, k - 7 = m := ⟨_, rfl⟩
        obtain ⟨m15, h15⟩ : ∃ m, k - 15 = m := ⟨_, rfl⟩
        obtain ⟨m16, h16'⟩ : ∃ m, k - 16 = m := ⟨_, rfl⟩
        have c2 := hw.cell m2
        have c7 := hw.cell m7
        have c15 := hw.cell m15
        have c16 := hw.cell m16
        rw [padded_in hl (by omega)] at c2 c7 c15 c16
        have u2 := hu.getD m2
        have u7 := hu.getD m7
        have u15 := hu.getD m15
        have u16 := hu.getD m16
        obtain ⟨x2, X2⟩ : ∃ x, (sched bs k).getD m2 0 = x := ⟨_, rfl⟩
        obtain ⟨x7, X7⟩ : ∃ x, (sched bs k).getD m7 0 = x := ⟨_, rfl⟩
        obtain ⟨x15, X15⟩ : ∃ x, (sched bs k).getD m15 0 = x := ⟨_, rfl⟩
        obtain ⟨x16, X16⟩ : ∃ x, (sched bs k).getD m16 0 = x := ⟨_, rfl⟩
        have hwc := hw.cell k
        rw [padded_at hl (by omega)] at hwc
        have hwf := hw.frozen k
        have i2 : IntKind.i64.wrap ((k : Int) - 2) = (m2 : Int) := by rw [show ((k : Int) - 2) = (m2 : Int) by omega]; exact IntWalk.i64_in _ (by omega)
        have i7 : IntKind.i64.wrap ((k : Int) - 7) = (m7 : Int) := by rw [show ((k : Int) - 7) = (m7 : Int) by omega]; exact IntWalk.i64_in _ (by omega)
        have i15 : IntKind.i64.wrap ((k : Int) - 15) = (m15 : Int) := by rw [show ((k : Int) - 15) = (m15 : Int) by omega]; exact IntWalk.i64_in _ (by omega)
        have i16 : IntKind.i64.wrap ((k : Int) - 16) = (m16 : Int) := by rw [show ((k : Int) - 16) = (m16 : Int) by omega]; exact IntWalk.i64_in _ (by omega)
        have q2 : (m2 : Int) < 64 := by omega
        have q7 : (m7 : Int) < 64 := by omega
        have q15 : (m15 : Int) < 64 := by omega
        have q16 : (m16 : Int) < 64 := by omega
        have qk : (k : Int) < 64 := by omega
        have z2 : m2 ≠ k := by omega
        have z7 : m7 ≠ k := by omega
        have z15 : m15 ≠ k := by omega
        have z16 : m16 ≠ k := by omega
        have hwx : wnext bs (sched bs k) k = (sig1 x2 + x7 + sig0 x15 + x16) % 4294967296 := by
          unfold wnext; rw [if_neg h16, h2, h7, h15, h16', X2, X7, X15, X16]
        have HWX := Lib.hid hwx
        rw [X2] at c2 u2
        rw [X7] at c7 u7
        rw [X15] at c15 u15
        rw [X16] at c16 u16
        clear hwx X2 X7 X15 X16 h2 h7 h15 h16' hl hu hr
        obtain ⟨y2, Y2⟩ : ∃ y, sig1 x2 = y := ⟨_, rfl⟩
        obtain ⟨y15, Y15⟩ : ∃ y, sig0 x15 = y := ⟨_, rfl⟩
        have K1 : ∀ w, Calls Tryd.prog 86 #[.int .u32 x2, .int .i64 17, .int .i64 19, .int .i64 10] w fun e w' => e = .returned (.int .u32 (y2 : Nat)) ∧ ∃ m, w' = w.drewN m := fun w => Y2 ▸ sha_shifted x2 17 19 10 w u2 (by omega) (by omega) (by omega) (by omega) (by omega) (by omega)
        have K2 : ∀ w, Calls Tryd.prog 86 #[.int .u32 x15, .int .i64 7, .int .i64 18, .int .i64 3] w fun e w' => e = .returned (.int .u32 (y15 : Nat)) ∧ ∃ m, w' = w.drewN m := fun w => Y15 ▸ sha_shifted x15 7 18 3 w u15 (by omega) (by omega) (by omega) (by omega) (by omega) (by omega)
        have HY2 := Lib.hid Y2
        have HY15 := Lib.hid Y15
        clear Y2 Y15
        go_wp2_with fail
        go_region_held3 (fun w' => w'.cell? ⟨w.heap.size, m2, none⟩ = some (.int .u32 x2) ∧ w'.cell? ⟨w.heap.size, m7, none⟩ = some (.int .u32 x7) ∧ w'.cell? ⟨w.heap.size, m15, none⟩ = some (.int .u32 x15) ∧ w'.cell? ⟨w.heap.size, m16, none⟩ = some (.int .u32 x16))
          (first | exact ⟨c2, c7, c15, c16⟩ | exact ⟨cell_off z2 c2, cell_off z7 c7, cell_off z15 c15, cell_off z16 c16⟩)
          (first | (go_at_call 86; (with_reducible refine (K1 _).mono ?_); rintro e w2 ⟨rfl, m, rfl⟩; go_split_ands) | (go_at_call 86; (with_reducible refine (K2 _).mono ?_); rintro e w2 ⟨rfl, m, rfl⟩; go_split_ands))
        all_goals
          go_wp2
          go_roundw
          case rel =>
            refine ⟨k + 1, q, by omega, by go_num, ?_, ?_⟩
            · rw [sched, ← padded_set (sched_length bs k) hk64, HWX.out, HY2.out, HY15.out, ← add4]
              exact (hw.drewN _).set_ k _
            · exact (below_drewN hbl _).setCell (Nat.le_refl _) _
          case measure => simp [intOf]; omega
      · have hk' : k = 64 := by omega
        have hk2 : ¬ (k : Int) < 64 := by omega
        obtain ⟨wo, rfl⟩ : ∃ x, x = wr := ⟨_, rfl⟩
        rw [hk', padded_full (sched_length bs 64)] at hw
        obtain ⟨W, hW⟩ : ∃ W, sched bs 64 = W := ⟨_, rfl⟩
        have hWl := sched_length bs 64
        have hWu := sched_u32 bs hb2 64
        rw [hW] at hw hWl hWu
        have HW := Lib.hid hW
        have HWl := Lib.hid hWl
        have HWu := Lib.hid hWu
        have HS2 := Lib.hid hS2
        have hg2 : Blk wo g 76 #[.int .u32 s0.a, .int .u32 s0.b, .int .u32 s0.c, .int .u32 s0.d, .int .u32 s0.e, .int .u32 s0.f, .int .u32 s0.g, .int .u32 s0.h] := hg.below hbl hg.lt
        have c0 := hg2.cell 0; have c1 := hg2.cell 1; have c2 := hg2.cell 2; have c3 := hg2.cell 3; have c4 := hg2.cell 4; have c5 := hg2.cell 5; have c6 := hg2.cell 6; have c7 := hg2.cell 7
        simp at c0 c1 c2 c3 c4 c5 c6 c7
        clear hr hW hWl hWu hS2 hk h16 hk64 hk' hb hb2 hb2' hg
        go_wp2_with fail
        go_loopw [80] (fun i wr => ∃ (k : Nat) (s : St), k ≤ 64 ∧ i = .int .i64 k ∧ s = rounds W s0 k ∧ s.ok ∧ Blk wr wo.heap.size 76 #[.int .u32 s.a, .int .u32 s.b, .int .u32 s.c, .int .u32 s.d, .int .u32 s.e, .int .u32 s.f, .int .u32 s.g, .int .u32 s.h] ∧ Below wo.heap.size wo wr) (fun i _ => 64 - (intOf i).toNat)
        case atStart => exact ⟨0, s0, by omega, rfl, rfl, HS2.out, Blk.new .., (Below.refl _ wo).alloc (Nat.le_refl _) _⟩
        case round =>
          clear c0 c1 c2 c3 c4 c5 c6 c7
          obtain ⟨k, s, hk, rfl, hs, hok, hst, hb3⟩ := hrel
          have Hs := Lib.hid hs
          have Hok := Lib.hid hok
          clear hs
          obtain ⟨a, b, c, d, e, f, g', h⟩ := s
          obtain ⟨oa, ob', oc, od, oe, of, og, oh⟩ := hok
          dsimp only at oa ob' oc od oe of og oh hst
          by_cases hk64 : k < 64
          · have c0 := hst.cell 0; have c1 := hst.cell 1; have c2 := hst.cell 2; have c3 := hst.cell 3; have c4 := hst.cell 4; have c5 := hst.cell 5; have c6 := hst.cell 6; have c7 := hst.cell 7
            simp at c0 c1 c2 c3 c4 c5 c6 c7
            have qk : (k : Int) < 64 := by omega
            have ckk : wr.cell? ⟨2, k, none⟩ = some (.int .u32 (Kt.getD k 0 : Nat)) := (ht.below (hbl.trans (hb3.mono hbl.size)) ht.size).words k hk64
            have cww : wr.cell? ⟨w.heap.size, k, none⟩ = some (.int .u32 (W.getD k 0 : Nat)) := by
              have hx := padded_in HWl.out hk64
              rw [padded_full HWl.out] at hx
              rw [(hw.below hb3 hw.lt).cell]
              exact hx
            obtain ⟨kk, hkk⟩ : ∃ kk, Kt.getD k 0 = kk := ⟨_, rfl⟩
            obtain ⟨ww, hww⟩ : ∃ ww, W.getD k 0 = ww := ⟨_, rfl⟩
            rw [hkk] at ckk
            rw [hww] at cww
            have okk : kk < 4294967296 := hkk ▸ Kt_lt k
            have oww : ww < 4294967296 := hww ▸ HWu.out.getD k
            have HKK := Lib.hid hkk
            have HWW := Lib.hid hww
            clear hkk hww
            have hwl := hw.lt
            have HW3 := Lib.hid hw
            have Hst := Lib.hid hst
            have Hb3 := Lib.hid hb3
            have Hbl := Lib.hid hbl
            clear hw hst hb3 hbl hg2
            obtain ⟨n1, hn1, on1⟩ : ∃ p : Nat, (4294967295 ^^^ e) = p ∧ bits .xor .u32 (if IntKind.u32.signed = true then -1 else IntKind.u32.max) (e : Int) = p := ⟨_, rfl, u32_xor_nat 4294967295 e (by omega) oe⟩
            have ln1 : n1 < 4294967296 := by rw [← hn1]; exact Nat.xor_lt_two_pow (n := 32) (by omega) (by omega)
            obtain ⟨p1, hp1, op1⟩ : ∃ p : Nat, p = (e &&& f) ∧ bits .and .u32 (e : Int) (f : Int) = p := ⟨_, rfl, u32_and_nat e f oe of⟩
            have lp1 : p1 < 4294967296 := by rw [hp1]; exact Nat.and_lt_two_pow (n := 32) _ (by omega)
            obtain ⟨p2, hp2, op2⟩ : ∃ p : Nat, p = (n1 &&& g') ∧ bits .and .u32 (n1 : Int) (g' : Int) = p := ⟨_, rfl, u32_and_nat n1 g' ln1 og⟩
            have lp2 : p2 < 4294967296 := by rw [hp2]; exact Nat.and_lt_two_pow (n := 32) _ (by omega)
            obtain ⟨p3, hp3, op3⟩ : ∃ p : Nat, p = (p1 ^^^ p2) ∧ bits .xor .u32 (p1 : Int) (p2 : Int) = p := ⟨_, rfl, u32_xor_nat p1 p2 lp1 lp2⟩
            obtain ⟨q1, hq1, oq1⟩ : ∃ p : Nat, p = (a &&& b) ∧ bits .and .u32 (a : Int) (b : Int) = p := ⟨_, rfl, u32_and_nat a b oa ob'⟩
            have lq1 : q1 < 4294967296 := by rw [hq1]; exact Nat.and_lt_two_pow (n := 32) _ (by omega)
            obtain ⟨q2, hq2, oq2⟩ : ∃ p : Nat, p = (a &&& c) ∧ bits .and .u32 (a : Int) (c : Int) = p := ⟨_, rfl, u32_and_nat a c oa oc⟩
            have lq2 : q2 < 4294967296 := by rw [hq2]; exact Nat.and_lt_two_pow (n := 32) _ (by omega)
            obtain ⟨q3, hq3, oq3⟩ : ∃ p : Nat, p = (q1 ^^^ q2) ∧ bits .xor .u32 (q1 : Int) (q2 : Int) = p := ⟨_, rfl, u32_xor_nat q1 q2 lq1 lq2⟩
            have lq3 : q3 < 4294967296 := by rw [hq3]; exact Nat.xor_lt_two_pow (n := 32) (by omega) (by omega)
            obtain ⟨q4, hq4, oq4⟩ : ∃ p : Nat, p = (b &&& c) ∧ bits .and .u32 (b : Int) (c : Int) = p := ⟨_, rfl, u32_and_nat b c ob' oc⟩
            have lq4 : q4 < 4294967296 := by rw [hq4]; exact Nat.and_lt_two_pow (n := 32) _ (by omega)
            obtain ⟨q5, hq5, oq5⟩ : ∃ p : Nat, p = (q3 ^^^ q4) ∧ bits .xor .u32 (q3 : Int) (q4 : Int) = p := ⟨_, rfl, u32_xor_nat q3 q4 lq3 lq4⟩
            have hch : chf ⟨a, b, c, d, e, f, g', h⟩ = p3 := by unfold chf; dsimp only; rw [hp3, hp1, hp2, hn1]
            have hmj : maj ⟨a, b, c, d, e, f, g', h⟩ = q5 := by unfold maj; dsimp only; rw [hq5, hq4, hq3, hq2, hq1]
            have HCH := Lib.hid hch
            have HMJ := Lib.hid hmj
            clear hch hmj hp1 hp2 hp3 hq1 hq2 hq3 hq4 hq5 hn1 lp1 lp2 lq1 lq2 lq3 lq4
            obtain ⟨t1, ht1⟩ : ∃ t, Sig1 e = t := ⟨_, rfl⟩
            obtain ⟨t2, ht2⟩ : ∃ t, Sig0 a = t := ⟨_, rfl⟩
            have K1 : ∀ w, Calls Tryd.prog 87 #[.int .u32 e, .int .i64 6, .int .i64 11, .int .i64 25] w fun e w' => e = .returned (.int .u32 (t1 : Nat)) ∧ w = w' := fun w => ht1 ▸ sha_turned e 6 11 25 w oe (by omega) (by omega) (by omega) (by omega) (by omega) (by omega)
            have K2 : ∀ w, Calls Tryd.prog 87 #[.int .u32 a, .int .i64 2, .int .i64 13, .int .i64 22] w fun e w' => e = .returned (.int .u32 (t2 : Nat)) ∧ w = w' := fun w => ht2 ▸ sha_turned a 2 13 22 w oa (by omega) (by omega) (by omega) (by omega) (by omega) (by omega)
            have HT1 := Lib.hid ht1
            have HT2 := Lib.hid ht2
            clear ht1 ht2
            go_upto_region 14 with (fail)
            go_quiet ((go_at_call 87; exact Calls.quiet_of_same ((K1 _).mono (by rintro _ _ ⟨rfl, rfl⟩; exact ⟨rfl, rfl⟩))))
            go_upto_region 16 with ((with_reducible refine (K2 _).mono ?_); (rintro _ _ ⟨rfl, rfl⟩))
            refine wp_region_lit ?_
            iterate 20 (refine wpList_read rfl ⟨?_, ?_, ?_⟩; rotate_left; (focus (go_simp; (try go_bits); try rfl)); simp only [Act.put, List.setIfInBounds_toArray, List.set_cons_zero, List.set_cons_succ])
            refine wpList_store_row rfl 76 _ _ rfl wo.heap.size _ rfl rfl 76 _ (Hst.out.drewN nq) (by kernel_rfl) rfl (by simp [Value.oneCell']) ?_
            go_wp2_with fail
            go_roundw
            case rel =>
              refine ⟨k + 1, round ⟨a, b, c, d, e, f, g', h⟩ kk ww, by omega, by go_num, ?_, ?_, ?_, ?_⟩
              · rw [rounds, ← Hs.out, HKK.out, HWW.out]
              · exact round_ok _ _ _ Hok.out
              · show Blk _ _ _ (round ⟨a, b, c, d, e, f, g', h⟩ kk ww).vals
                rw [round_vals a b c d e f g' h kk ww t1 t2 p3 q5 HT1.out HT2.out HCH.out HMJ.out]
                exact (Hst.out.drewN nq).setRow _
              · exact (below_drewN Hb3.out nq).grown (grown_setRow _ _ _) (Nat.le_of_lt Hst.out.lt) (fun k hk => by injection hk with hk; omega)
            case measure => simp [intOf]; omega
          · have qk : ¬ (k : Int) < 64 := by omega
            have hk' : k = 64 := by omega
            have hz : (⟨a, b, c, d, e, f, g', h⟩ : St) = rounds W s0 64 := by rw [← hk']; exact Hs.out
            obtain ⟨z, hzz⟩ : ∃ z : St, z = ⟨a, b, c, d, e, f, g', h⟩ := ⟨_, rfl⟩
            have hzb : Blk wr wo.heap.size 76 (wordv z.list).toArray := by rw [hzz]; exact hst
            rw [← hzz] at hz
            have Hz := Lib.hid hz
            have Hzb := Lib.hid hzb
            have hzu : u32s z.list := by
              rw [hz]; exact St.ok_list (rounds_ok W s0 HS2.out 64)
            have Hzu := Lib.hid hzu
            obtain ⟨wq, rfl⟩ : ∃ x, x = wr := ⟨_, rfl⟩
            have hgq : Blk wq g 76 (wordv s0.list).toArray := (hg2.below hb3 hg2.lt)
            have Hgq := Lib.hid hgq
            have Hb3 := Lib.hid hb3
            have Hbl := Lib.hid hbl
            have hgo : g ≠ wo.heap.size := Nat.ne_of_lt hg2.lt
            have Hs0 := Lib.hid (St.ok_list HS2.out)
            clear hzz hz hzb hzu hst hb3 hbl hw hg2 hgq hk' hk64 oa ob' oc od oe of og oh
            go_wp2_with fail
            go_loopw [154] (fun i wr => ∃ (k : Nat), k ≤ 8 ∧ i = .int .i64 k ∧ Blk wr g 76 (wordv (addl s0.list z.list k)).toArray ∧ wq.grownBy wr (some g)) (fun i _ => 8 - (intOf i).toNat)
            case atStart => exact ⟨0, by omega, rfl, by rw [addl_zero]; exact Hgq.out, World.grownBy.refl _ _⟩
            case round =>
              obtain ⟨k, hk, rfl, hgk, hgr⟩ := hrel
              by_cases hk8 : k < 8
              · have qk8 : (k : Int) < 8 := by omega
                have cg := hgk.cell k
                rw [addl_cell (by simp [St.list]; omega), if_neg (Nat.lt_irrefl k)] at cg
                have cz := (Hzb.out.grown hgr (by intro e; injection e with e; exact hgo e.symm)).cell k
                rw [list_cell (by simp [St.list]; omega)] at cz
                have fg := hgk.frozen k
                have Hgk := Lib.hid hgk
                have Hgr := Lib.hid hgr
                obtain ⟨x, hx⟩ : ∃ x, s0.list.getD k 0 = x := ⟨_, rfl⟩
                obtain ⟨y, hy⟩ : ∃ x, z.list.getD k 0 = x := ⟨_, rfl⟩
                rw [hx] at cg
                rw [hy] at cz
                have lx : x < 4294967296 := hx ▸ Hs0.out.getD k
                have ly : y < 4294967296 := hy ▸ Hzu.out.getD k
                have Hx := Lib.hid hx
                have Hy := Lib.hid hy
                clear hx hy hgk hgr
                go_wp2_with fail
                go_still_tail 11, (by kernel_rfl)
                change wpList _ _ _ _ _ wr.drew
                go_wp2
                go_roundw
                case rel =>
                  refine ⟨k + 1, by omega, by go_num, ?_, ?_⟩
                  · rw [← addl_set (by simp [St.list]; omega), Hx.out, Hy.out]
                    have e : (((x + y) % 4294967296 : Nat) : Int) = ((x : Int) + y) % 4294967296 := by omega
                    rw [e]
                    exact Hgk.out.drew.set_ k _
                  · exact only_setCell (only_drew Hgr.out) (.inl rfl) _
                case measure => simp [intOf]; omega
              · have qk8 : ¬ (k : Int) < 8 := by omega
                have hk8' : k = 8 := by omega
                rw [hk8', addl_all] at hgk
                have Hgk := Lib.hid hgk
                have Hgr := Lib.hid hgr
                clear hgk hgr hk8' hk8
                go_wp2_with fail
                go_end0
                refine ⟨rfl, ?_, ?_⟩
                · have e := Hgk.out
                  rw [Hz.out, ← HW.out, ← St.vals_list] at e
                  exact e
                · exact grownBy_trans (only_of_below (Hbl.out.trans (Hb3.out.mono Hbl.out.size)) _) Hgr.out

end Go.Proofs.YtamhggndcegndaaDoor
