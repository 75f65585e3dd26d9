/-
  Numbers of 16-bit parts, roots and primes: plain.
-/
import Derived.Test.YtamhggndcegndaaDoorMix
namespace Go.Proofs.YtamhggndcegndaaDoor
open Go.RowKit
set_option linter.unusedVariables false

/-- What parts of 16 bits, the lowest first, are together. -/
def pval : List Nat → Nat
  | [] => 0
  | a :: l => a + 65536 * pval l

/-- All are parts. -/
def Parts (l : List Nat) : Prop := ∀ x ∈ l, x < 65536

theorem Parts.get {l : List Nat} (h : Parts l) {i x : Nat} (hx : l[i]? = some x) : x < 65536 := h x (List.mem_of_getElem? hx)

theorem Parts.set {l : List Nat} (h : Parts l) (i x : Nat) (hx : x < 65536) : Parts (l.set i x) := by
  intro y hy
  rcases List.mem_or_eq_of_mem_set hy with hy | rfl
  · exact h y hy
  · exact hx

theorem pval_set : ∀ (l : List Nat) (i x o : Nat), l[i]? = some o → pval (l.set i x) + o * 65536 ^ i = pval l + x * 65536 ^ i
  | [], i, x, o, h => by simp at h
  | a :: l, 0, x, o, h => by
    simp at h
    subst h
    simp [pval]
    omega
  | a :: l, i + 1, x, o, h => by
    have ih := pval_set l i x o (by simpa using h)
    simp only [List.set_cons_succ, pval]
    rw [Nat.pow_succ]
    have e1 : o * (65536 ^ i * 65536) = 65536 * (o * 65536 ^ i) := by rw [← Nat.mul_assoc, Nat.mul_comm]
    have e2 : x * (65536 ^ i * 65536) = 65536 * (x * 65536 ^ i) := by rw [← Nat.mul_assoc, Nat.mul_comm]
    rw [e1, e2]
    omega

theorem pval_lt : ∀ (l : List Nat), Parts l → pval l < 65536 ^ l.length
  | [], _ => by simp [pval]
  | a :: l, h => by
    have ih := pval_lt l (fun x hx => h x (List.mem_cons_of_mem _ hx))
    have ha := h a (by simp)
    simp only [pval, List.length_cons]
    rw [Nat.pow_succ]
    have : 65536 * pval l + 65536 ≤ 65536 * 65536 ^ l.length := by
      have := Nat.mul_le_mul_left 65536 (Nat.succ_le_of_lt ih)
      omega
    rw [Nat.mul_comm (65536 ^ l.length)]
    omega

theorem pval_take_snoc (l : List Nat) : ∀ (k x : Nat), l[k]? = some x → pval (l.take (k + 1)) = pval (l.take k) + x * 65536 ^ k := by
  induction l with
  | nil => intro k x h; simp at h
  | cons a l ih =>
    intro k x h
    cases k with
    | zero =>
      simp at h
      subst h
      simp [pval]
    | succ k =>
      have := ih k x (by simpa using h)
      simp only [List.take_succ_cons, pval]
      rw [this, Nat.pow_succ]
      have e1 : x * (65536 ^ k * 65536) = 65536 * (x * 65536 ^ k) := by rw [← Nat.mul_assoc, Nat.mul_comm]
      rw [e1]
      omega

theorem pval_split : ∀ (l : List Nat) (k : Nat), k ≤ l.length → pval l = pval (l.take k) + 65536 ^ k * pval (l.drop k)
  | l, 0, _ => by simp [pval]
  | [], k + 1, h => by simp at h
  | a :: l, k + 1, h => by
    have ih := pval_split l k (by simpa using h)
    simp only [List.take_succ_cons, List.drop_succ_cons, pval]
    rw [ih, Nat.pow_succ, Nat.mul_add]
    have e : 65536 ^ k * 65536 * pval (l.drop k) = 65536 * (65536 ^ k * pval (l.drop k)) := by
      rw [Nat.mul_comm (65536 ^ k) 65536, Nat.mul_assoc]
    rw [e]
    omega

/-- The first part from above in which two differ tells. -/
theorem pval_top {a b : List Nat} (ha : Parts a) (hb : Parts b) (hl : a.length = b.length) (i x y : Nat) (hx : a[i]? = some x) (hy : b[i]? = some y) (hd : a.drop (i + 1) = b.drop (i + 1)) (h : x < y) : pval a < pval b := by
  have hi : i + 1 ≤ a.length := (List.getElem?_eq_some_iff.1 hx).1
  rw [pval_split a (i + 1) hi, pval_split b (i + 1) (by omega), hd, pval_take_snoc a i x hx, pval_take_snoc b i y hy]
  have h1 := pval_lt (a.take i) (fun z hz => ha z (List.mem_of_mem_take hz))
  rw [List.length_take, Nat.min_eq_left (by omega)] at h1
  have h2 : (x + 1) * 65536 ^ i ≤ y * 65536 ^ i := Nat.mul_le_mul_right _ h
  rw [Nat.add_mul] at h2
  omega

/-- The four parts of a number. -/
def limbsL (x : Nat) : List Nat := [x % 65536, x / 65536 % 65536, x / 4294967296 % 65536, x / 281474976710656]

theorem limbsL_val (x : Nat) (h : x < 18446744073709551616) : pval (limbsL x) = x := by
  simp only [limbsL, pval]
  omega

theorem limbsL_parts (x : Nat) (h : x < 18446744073709551616) : Parts (limbsL x) := by
  intro y hy
  simp only [limbsL, List.mem_cons, List.not_mem_nil, or_false] at hy
  rcases hy with rfl | rfl | rfl | rfl
  · exact Nat.mod_lt _ (by decide)
  · exact Nat.mod_lt _ (by decide)
  · exact Nat.mod_lt _ (by decide)
  · omega

/-! ## The product, part by part -/

/-- Behind k parts of row i: o is what stands there, c is carried. o0: what stood there ahead of the row. -/
structure RowAt (A B : List Nat) (i k : Nat) (ai : Nat) (o : List Nat) (c : Nat) (v0 : Nat) : Prop where
  parts : Parts o
  len : o.length = A.length + B.length
  top : ∀ j, i + B.length ≤ j → j < o.length → o[j]? = some 0
  carry : c < 65536
  val : pval o + c * 65536 ^ (i + k) = v0 + ai * pval (B.take k) * 65536 ^ i

theorem row_step {A B : List Nat} {i k ai bk oj c v0 : Nat} {o : List Nat} (hB : Parts B) (hai : ai < 65536) (h : RowAt A B i k ai o c v0) (hk : B[k]? = some bk) (hj : o[i + k]? = some oj) :
    RowAt A B i (k + 1) ai (o.set (i + k) ((oj + ai * bk + c) % 65536)) ((oj + ai * bk + c) / 65536) v0 := by
  have hbk := hB.get hk
  have hoj := h.parts.get hj
  have hkl : k < B.length := (List.getElem?_eq_some_iff.1 hk).1
  have hm : ai * bk ≤ 65535 * 65535 := Nat.mul_le_mul (by omega) (by omega)
  have hc := h.carry
  obtain ⟨n, hn⟩ : ∃ n, oj + ai * bk + c = n := ⟨_, rfl⟩
  refine ⟨h.parts.set _ _ (Nat.mod_lt _ (by decide)), by rw [List.length_set]; exact h.len, ?_, by omega, ?_⟩
  · intro j h1 h2
    rw [List.length_set] at h2
    rw [List.getElem?_set_ne (by omega)]
    exact h.top j h1 h2
  · have hs := pval_set o (i + k) ((oj + ai * bk + c) % 65536) oj hj
    have hv := h.val
    have ht := pval_take_snoc B k bk hk
    rw [hn] at hs ⊢
    obtain ⟨E, hE⟩ : ∃ E, 65536 ^ (i + k) = E := ⟨_, rfl⟩
    have hE1 : 65536 ^ (i + (k + 1)) = 65536 * E := by rw [← hE, ← Nat.add_assoc, Nat.pow_succ, Nat.mul_comm]
    have hEi : 65536 ^ k * 65536 ^ i = E := by rw [← hE, ← Nat.pow_add, Nat.add_comm]
    rw [hE] at hs hv
    rw [hE1, ht]
    have e1 : n = 65536 * (n / 65536) + n % 65536 := (Nat.div_add_mod n 65536).symm
    obtain ⟨q, hq⟩ : ∃ q, n / 65536 = q := ⟨_, rfl⟩
    obtain ⟨r, hr⟩ : ∃ r, n % 65536 = r := ⟨_, rfl⟩
    rw [hq, hr] at e1
    rw [hr] at hs
    rw [hr, hq]
    have e2 : q * (65536 * E) = 65536 * q * E := by rw [← Nat.mul_assoc, Nat.mul_comm q]
    have e3 : n * E = 65536 * q * E + r * E := by rw [e1, Nat.add_mul]
    have e4 : n * E = oj * E + ai * bk * E + c * E := by rw [← hn, Nat.add_mul, Nat.add_mul]
    have e5 : ai * (pval (B.take k) + bk * 65536 ^ k) * 65536 ^ i = ai * pval (B.take k) * 65536 ^ i + ai * bk * E := by
      rw [Nat.mul_add, Nat.add_mul, ← Nat.mul_assoc, Nat.mul_assoc (ai * bk), hEi]
    rw [e2, e5]
    omega

/-- Behind i rows. -/
structure RowsAt (A B : List Nat) (i : Nat) (o : List Nat) : Prop where
  parts : Parts o
  len : o.length = A.length + B.length
  top : ∀ j, i + B.length ≤ j → j < o.length → o[j]? = some 0
  val : pval o = pval (A.take i) * pval B

theorem pval_zeros : ∀ n, pval (List.replicate n 0) = 0
  | 0 => rfl
  | n + 1 => by simp [List.replicate_succ, pval, pval_zeros n]

theorem rows_start (A B : List Nat) : RowsAt A B 0 (List.replicate (A.length + B.length) 0) :=
  ⟨fun x hx => by obtain rfl := List.eq_of_mem_replicate hx; decide, by simp, fun j _ h => by simp at h; simp [h], by simp [pval_zeros, pval]⟩

theorem row_start {A B : List Nat} {i ai : Nat} {o : List Nat} (h : RowsAt A B i o) : RowAt A B i 0 ai o 0 (pval o) :=
  ⟨h.parts, h.len, h.top, by decide, by simp [pval]⟩

theorem row_end {A B : List Nat} {i ai c : Nat} {o o0 : List Nat} (h0 : RowsAt A B i o0) (hi : A[i]? = some ai) (h : RowAt A B i B.length ai o c (pval o0)) :
    o[i + B.length]? = some 0 ∧ RowsAt A B (i + 1) (o.set (i + B.length) c) := by
  have hil : i < A.length := (List.getElem?_eq_some_iff.1 hi).1
  have h1 : o[i + B.length]? = some 0 := h.top _ (Nat.le_refl _) (by rw [h.len]; omega)
  refine ⟨h1, h.parts.set _ _ h.carry, by rw [List.length_set]; exact h.len, ?_, ?_⟩
  · intro j g1 g2
    rw [List.length_set] at g2
    rw [List.getElem?_set_ne (by omega)]
    exact h.top j (by omega) g2
  · have hs := pval_set o (i + B.length) c 0 h1
    have hv := h.val
    rw [List.take_length, h0.val] at hv
    rw [pval_take_snoc A i ai hi, Nat.add_mul, Nat.mul_right_comm ai]
    omega

theorem rows_end {A B : List Nat} {o : List Nat} (h : RowsAt A B A.length o) : pval o = pval A * pval B := by
  have := h.val
  rwa [List.take_length] at this

/-! ## Roots -/

/-- What is asked: is x / 2^32, squared (cubed), at most p? -/
def belowB (x p : Nat) (cube : Bool) : Bool := if cube then decide (x ^ 3 ≤ p * 2 ^ 96) else decide (x ^ 2 ≤ p * 2 ^ 64)

def powr (cube : Bool) : Nat := if cube then 3 else 2

theorem belowB_mono {x y p : Nat} {cube : Bool} (h : x ≤ y) (hb : belowB y p cube = true) : belowB x p cube = true := by
  unfold belowB at hb ⊢
  cases cube with
  | true =>
    simp only [if_true, decide_eq_true_eq] at hb ⊢
    exact Nat.le_trans (Nat.pow_le_pow_left h 3) hb
  | false =>
    simp only [Bool.false_eq_true, if_false, decide_eq_true_eq] at hb ⊢
    exact Nat.le_trans (Nat.pow_le_pow_left h 2) hb

/-- A root, whole. -/
def IsRoot (r p : Nat) (cube : Bool) : Prop := belowB r p cube = true ∧ belowB (r + 1) p cube = false

theorem IsRoot.eq {r s p : Nat} {cube : Bool} (h : IsRoot r p cube) (k : IsRoot s p cube) : r = s := by
  rcases Nat.lt_trichotomy r s with hlt | rfl | hlt
  · have := belowB_mono (show r + 1 ≤ s from hlt) k.1
    rw [h.2] at this
    cases this
  · rfl
  · have := belowB_mono (show s + 1 ≤ r from hlt) h.1
    rw [k.2] at this
    cases this

/-! ## Primes -/

def noneDivides (out : List Nat) (p : Nat) : Bool := out.all fun q => decide (p % q ≠ 0)

def primGo (n : Nat) : Nat → Nat → List Nat → List Nat
  | 0, _, out => out
  | f + 1, p, out => if out.length < n then (if noneDivides out p then primGo n f (p + 1) (out ++ [p]) else primGo n f (p + 1) out) else out

def primes64 : List Nat := [2, 3, 5, 7, 11, 13, 17, 19, 23, 29, 31, 37, 41, 43, 47, 53, 59, 61, 67, 71, 73, 79, 83, 89, 97, 101, 103, 107, 109, 113, 127, 131, 137, 139, 149, 151, 157, 163, 167, 173, 179, 181, 191, 193, 197, 199, 211, 223, 227, 229, 233, 239, 241, 251, 257, 263, 269, 271, 277, 281, 283, 293, 307, 311]

theorem primGo_64 : primGo 64 400 2 [] = primes64 := by decide +kernel

theorem primGo_end (n : Nat) : ∀ (f p : Nat) (out : List Nat), n ≤ out.length → primGo n f p out = out
  | 0, _, _, _ => rfl
  | f + 1, p, out, h => by
    unfold primGo
    rw [if_neg (by omega)]

theorem noneDivides_take (out : List Nat) (p k q : Nat) (h : out[k]? = some q) : noneDivides (out.take (k + 1)) p = (noneDivides (out.take k) p && decide (p % q ≠ 0)) := by
  unfold noneDivides
  rw [List.take_add_one, h, List.all_append]
  simp

/-! ## The table's numbers -/

/-- The whole root of a number below some: by trying. -/
def iroot (p k : Nat) : Nat → Nat
  | 0 => 0
  | n + 1 => if (n + 1) ^ k ≤ p then n + 1 else iroot p k n

def rootOk (p r : Nat) (cube : Bool) : Bool := belowB r p cube && !belowB (r + 1) p cube

theorem rootOk_is {p r : Nat} {cube : Bool} (h : rootOk p r cube = true) : IsRoot r p cube := by
  unfold rootOk at h
  simp only [Bool.and_eq_true, Bool.not_eq_true'] at h
  exact h

end Go.Proofs.YtamhggndcegndaaDoor
